/- The texts that the law CrcTables needs, part 0. No conditions. -/
import Derived.Test.YtcegcmjkkflhhaaMc2
namespace Go.Proofs.Ytcegcmjkkflhhaa.AE
set_option linter.unusedVariables false
set_option linter.unusedSimpArgs false
set_option linter.constructorNameAsVariable false
open Go
theorem ix_lst {H : Heap} {l : List AV} {es : Nat} {q : Int} {x : AV} {K : AV → Heap → Ans} (h0 : 0 ≤ q) (hx : l[q.toNat]? = some x) (he : x.cells.length = es) :
    C0.hop H (.ixAS .any es (.v (.lst l)) (.v (.int .i64 q))) K = K (.fptr x 0) H := hop_eq (by simp [aop, evO, aInt, aIx, h0, hx, he])
theorem ld_fptr {H : Heap} {x v : AV} {j n : Nat} {ag : Bool} {K : AV → Heap → Ans} (hs : sub ag n j x = some v) :
    C0.hop H (.load ag n (.v (.fptr x j))) K = K v H := hop_eq (by simp [aop, evO, aLoad, hs])
theorem len_lst {H : Heap} {l : List AV} {K : AV → Heap → Ans} : C0.hop H (.bk .lenV [.v (.lst l)]) K = K (.int .i64 l.length) H := hop_eq rfl
end Go.Proofs.Ytcegcmjkkflhhaa.AE

namespace Go.Proofs.Ytcegcmjkkflhhaa.Geo
set_option linter.unusedVariables false
theorem xlc (x y z : BitVec 32) : x ^^^ (y ^^^ z) = y ^^^ (x ^^^ z) := by rw [← BitVec.xor_assoc, BitVec.xor_comm x y, BitVec.xor_assoc]
theorem st_xor (x y : BitVec 32) : st (x ^^^ y) = st x ^^^ st y := by
  unfold st
  rw [BitVec.ushiftRight_xor_distrib, BitVec.getLsbD_xor]
  cases x.getLsbD 0 <;> cases y.getLsbD 0 <;> simp [BitVec.xor_assoc, BitVec.xor_comm, xlc]
theorem stN_xor : ∀ (n : Nat) (x y : BitVec 32), stN n (x ^^^ y) = stN n x ^^^ stN n y
  | 0, x, y => rfl
  | n + 1, x, y => by simp only [stN, st_xor, stN_xor n]
end Go.Proofs.Ytcegcmjkkflhhaa.Geo

namespace Go.Proofs.Ytcegcmjkkflhhaa.AE
set_option linter.unusedVariables false
set_option linter.unusedSimpArgs false
set_option linter.constructorNameAsVariable false
open Go
set_option maxRecDepth 100000
def r22R0 (C : Cb) (d : Nat) (a0 : AV) (a1 : List UInt8) (K0 : AV → Heap → Ans) (v3 v5 v10 : AV) (x14 : Int) : St → (Ex → St → Ans) → Ans := fun s15 k16 =>
 cnd ((List.length s15.env) == 39)
 (C.same s15.env[0]? a0 <|
 C.same s15.env[1]? (.str a1) <|
 C.same s15.env[2]? tz <|
 C.same s15.env[3]? tz <|
 C.same s15.env[4]? (.int .u32 0) <|
 C.int .u32 s15.env[5]? fun x18 =>
 C.same s15.env[6]? tz <|
 C.any s15.env[7]? fun v19 =>
 C.same s15.env[8]? a0 <|
 C.same s15.env[9]? bf <|
 C.same s15.env[10]? a0 <|
 C.same s15.env[11]? v3 <|
 C.same s15.env[12]? v5 <|
 C.same s15.env[13]? a0 <|
 C.same s15.env[14]? (.fn 26 [a0] []) <|
 C.same s15.env[15]? tz <|
 C.same s15.env[16]? (.str a1) <|
 C.same s15.env[17]? v10 <|
 C.same s15.env[18]? (iz x14) <|
 C.int .i64 s15.env[19]? fun x20 =>
 C.any s15.env[20]? fun v21 =>
 C.any s15.env[21]? fun v22 =>
 C.any s15.env[22]? fun v23 =>
 C.any s15.env[23]? fun v24 =>
 C.any s15.env[24]? fun v25 =>
 C.any s15.env[25]? fun v26 =>
 C.any s15.env[26]? fun v27 =>
 C.any s15.env[27]? fun v28 =>
 C.any s15.env[28]? fun v29 =>
 C.any s15.env[29]? fun v30 =>
 C.any s15.env[30]? fun v31 =>
 C.any s15.env[31]? fun v32 =>
 C.any s15.env[32]? fun v33 =>
 C.any s15.env[33]? fun v34 =>
 C.any s15.env[34]? fun v35 =>
 C.any s15.env[35]? fun v36 =>
 C.any s15.env[36]? fun v37 =>
 C.same s15.env[37]? tz <|
 C.same s15.env[38]? tz <|
 cnd (decide (x20 < x14))
 (C.hop (St.H s15) (.ixAS .any 1 (.v v10) (.v (iz x20))) fun v38 h39 =>
 C.hop h39 (.load false 1 (.v v38)) fun v40 h41 =>
 C.int .u8 (some v40) fun x42 =>
 C.hop h41 (.nilck (.v a0)) fun v43 h44 =>
 C.hop h44 (.fldA 260 (.v v43)) fun v45 h46 =>
 C.hop h46 (.ixAA 256 1 (.v v45) (.v (.int .u8 (bits .xor .u8 (IntKind.wrap .u8 (bits .and .u32 x18 255)) x42)))) fun v47 h48 =>
 C.hop h48 (.load false 1 (.v v47)) fun v49 h50 =>
 C.int .u32 (some v49) fun x51 =>
 k16 .normal ⟨[a0, (.str a1), tz, tz, (.int .u32 0), (.int .u32 (bits .xor .u32 (Int.fdiv x18 (2 ^ (min (Int.toNat 8) 32))) x51)), tz, (.int .u8 x42), a0, bf, a0, v3, v5, a0, (.fn 26 [a0] []), tz, (.str a1), v10, (iz x14), (iz (IntKind.wrap .i64 (x20 + 1))), bt, v38, (.int .u8 x42), (.int .u32 x18), (.int .u32 (Int.fdiv x18 (2 ^ (min (Int.toNat 8) 32)))), a0, (.int .u32 x18), (.int .u32 (bits .and .u32 x18 255)), (.int .u8 (IntKind.wrap .u8 (bits .and .u32 x18 255))), (.int .u8 x42), (.int .u8 (bits .xor .u8 (IntKind.wrap .u8 (bits .and .u32 x18 255)) x42)), v43, v45, v47, (.int .u32 x51), (.int .u32 (bits .xor .u32 (Int.fdiv x18 (2 ^ (min (Int.toNat 8) 32))) x51)), (iz (IntKind.wrap .i64 (x20 + 1))), tz, tz], h50⟩)
 (k16 (.exit 0) ⟨[a0, (.str a1), tz, tz, (.int .u32 0), (.int .u32 x18), tz, v19, a0, bf, a0, v3, v5, a0, (.fn 26 [a0] []), tz, (.str a1), v10, (iz x14), (iz x20), bf, v22, v23, v24, v25, v26, v27, v28, v29, v30, v31, v32, v33, v34, v35, v36, v37, tz, tz], (St.H s15)⟩))
 (none)
def r22X0_0 (C : Cb) (d : Nat) (a0 : AV) (a1 : List UInt8) (K0 : AV → Heap → Ans) (v3 v5 v10 : AV) (x14 : Int) : St → Ans := fun s52 =>
 cnd ((List.length s52.env) == 39)
 (C.same s52.env[0]? a0 <|
 C.same s52.env[1]? (.str a1) <|
 C.same s52.env[2]? tz <|
 C.same s52.env[3]? tz <|
 C.same s52.env[4]? (.int .u32 0) <|
 C.int .u32 s52.env[5]? fun x53 =>
 C.same s52.env[6]? tz <|
 C.any s52.env[7]? fun v54 =>
 C.same s52.env[8]? a0 <|
 C.same s52.env[9]? bf <|
 C.same s52.env[10]? a0 <|
 C.same s52.env[11]? v3 <|
 C.same s52.env[12]? v5 <|
 C.same s52.env[13]? a0 <|
 C.same s52.env[14]? (.fn 26 [a0] []) <|
 C.same s52.env[15]? tz <|
 C.same s52.env[16]? (.str a1) <|
 C.same s52.env[17]? v10 <|
 C.same s52.env[18]? (iz x14) <|
 C.int .i64 s52.env[19]? fun x55 =>
 C.any s52.env[20]? fun v56 =>
 C.any s52.env[21]? fun v57 =>
 C.any s52.env[22]? fun v58 =>
 C.any s52.env[23]? fun v59 =>
 C.any s52.env[24]? fun v60 =>
 C.any s52.env[25]? fun v61 =>
 C.any s52.env[26]? fun v62 =>
 C.any s52.env[27]? fun v63 =>
 C.any s52.env[28]? fun v64 =>
 C.any s52.env[29]? fun v65 =>
 C.any s52.env[30]? fun v66 =>
 C.any s52.env[31]? fun v67 =>
 C.any s52.env[32]? fun v68 =>
 C.any s52.env[33]? fun v69 =>
 C.any s52.env[34]? fun v70 =>
 C.any s52.env[35]? fun v71 =>
 C.any s52.env[36]? fun v72 =>
 C.same s52.env[37]? tz <|
 C.same s52.env[38]? tz <|
 K0 (.int .u32 (bits .xor .u32 x53 4294967295)) (St.H s52))
 (none)
def r22E0 (C : Cb) (d : Nat) (a0 : AV) (a1 : List UInt8) (K0 : AV → Heap → Ans) (v3 v5 v10 : AV) (x14 : Int) : St → Ans := fun s17 =>
 cnd ((List.length s17.env) == 39)
 (C.same s17.env[0]? a0 <|
 C.same s17.env[1]? (.str a1) <|
 C.same s17.env[2]? tz <|
 C.same s17.env[3]? tz <|
 C.same s17.env[4]? (.int .u32 0) <|
 C.int .u32 s17.env[5]? fun x73 =>
 C.same s17.env[6]? tz <|
 C.any s17.env[7]? fun v74 =>
 C.same s17.env[8]? a0 <|
 C.same s17.env[9]? bf <|
 C.same s17.env[10]? a0 <|
 C.same s17.env[11]? v3 <|
 C.same s17.env[12]? v5 <|
 C.same s17.env[13]? a0 <|
 C.same s17.env[14]? (.fn 26 [a0] []) <|
 C.same s17.env[15]? tz <|
 C.same s17.env[16]? (.str a1) <|
 C.same s17.env[17]? v10 <|
 C.same s17.env[18]? (iz x14) <|
 C.int .i64 s17.env[19]? fun x75 =>
 C.any s17.env[20]? fun v76 =>
 C.any s17.env[21]? fun v77 =>
 C.any s17.env[22]? fun v78 =>
 C.any s17.env[23]? fun v79 =>
 C.any s17.env[24]? fun v80 =>
 C.any s17.env[25]? fun v81 =>
 C.any s17.env[26]? fun v82 =>
 C.any s17.env[27]? fun v83 =>
 C.any s17.env[28]? fun v84 =>
 C.any s17.env[29]? fun v85 =>
 C.any s17.env[30]? fun v86 =>
 C.any s17.env[31]? fun v87 =>
 C.any s17.env[32]? fun v88 =>
 C.any s17.env[33]? fun v89 =>
 C.any s17.env[34]? fun v90 =>
 C.any s17.env[35]? fun v91 =>
 C.any s17.env[36]? fun v92 =>
 C.same s17.env[37]? tz <|
 C.same s17.env[38]? tz <|
 K0 (.int .u32 0) (St.H s17))
 (none)
/-- (*apogee/crc.Table).Sum32 -/
theorem r22 (C : Cb) (d : Nat) (a0 : AV) (a1 : List UInt8) (n0 : Nat) (H0 : Heap) (K0 : AV → Heap → Ans) : xmeth C M unr d (n0 + 8) 22 [a0, (.str a1)] H0 K0 =
 C.hop H0 (.eqv false 1 [] (.v a0) (.v .nilp)) fun v0 h1 =>
 C.bool (some v0) fun b2 =>
 cnd b2
 (K0 (.int .u32 0) h1)
 (C.hop h1 (.nilck (.v a0)) fun v3 h4 =>
 C.hop h4 (.fldA 0 (.v v3)) fun v5 h6 =>
 C.cal M (pcall M d) (n0 + 8) true 25 [v5, (.fn 26 [a0] [])] h6 fun v7 h8 =>
 C.tup 0 (some v7) fun l9 =>
 C.hop h8 (.s2b E5 (.v (.str a1))) fun v10 h11 =>
 C.hop h11 (.bk .lenV [(.v v10)]) fun v12 h13 =>
 C.int .i64 (some v12) fun x14 =>
 C.iter (r22R0 C d a0 a1 K0 v3 v5 v10 x14) 1000000000000000000 ⟨[a0, (.str a1), tz, tz, (.int .u32 0), (.int .u32 4294967295), tz, tz, a0, bf, a0, v3, v5, a0, (.fn 26 [a0] []), tz, (.str a1), v10, (iz x14), (iz 0), tz, tz, tz, tz, tz, tz, tz, tz, tz, tz, tz, tz, tz, tz, tz, tz, tz, tz, tz], h13⟩ [0] [r22X0_0 C d a0 a1 K0 v3 v5 v10 x14] (r22E0 C d a0 a1 K0 v3 v5 v10 x14)) := by kernel_rfl
end Go.Proofs.Ytcegcmjkkflhhaa.AE

namespace Go.Proofs.Ytcegcmjkkflhhaa.AE
set_option linter.unusedVariables false
set_option linter.unusedSimpArgs false
set_option linter.constructorNameAsVariable false
open Go
set_option maxRecDepth 100000
set_option maxHeartbeats 0
noncomputable def X22_0_0 (d : Nat) (a0 : AV) (K0 : AV → Heap → Ans) (v10 : AV) (x14 x53 : Int) (H : Heap) : Ans :=
  K0 (.int .u32 (bits .xor .u32 x53 4294967295)) H
theorem X22_0_0_ok (d : Nat) (a0 : AV) (a1 : List UInt8) (K0 : AV → Heap → Ans) (v3 v5 v10 : AV) (x14 x53 : Int) (v54 : AV) (x55 : Int) (v56 v57 v58 v59 v60 v61 v62 v63 v64 v65 v66 v67 v68 v69 v70 v71 v72 : AV) (H : Heap) : r22X0_0 C0 d a0 a1 K0 v3 v5 v10 x14 ⟨[a0, (.str a1), tz, tz, (.int .u32 0), (.int .u32 x53), tz, v54, a0, bf, a0, v3, v5, a0, (.fn 26 [a0] []), tz, (.str a1), v10, (iz x14), (iz x55), v56, v57, v58, v59, v60, v61, v62, v63, v64, v65, v66, v67, v68, v69, v70, v71, v72, tz, tz], H⟩ = X22_0_0 d a0 K0 v10 x14 x53 H := by
  unfold r22X0_0; refine Eq.trans (pl_len (by rfl)) ?_; (iterate 5 (refine yt yS ?_)); refine yt yI ?_; refine yt yS ?_; refine yt yA ?_; (iterate 11 (refine yt yS ?_)); refine yt yI ?_; (iterate 17 (refine yt yA ?_)); (iterate 2 (refine yt yS ?_))
  rfl
noncomputable def E22_0 (d : Nat) (a0 : AV) (K0 : AV → Heap → Ans) (v10 : AV) (x14 : Int) (H : Heap) : Ans :=
  K0 (.int .u32 0) H
theorem E22_0_ok (d : Nat) (a0 : AV) (a1 : List UInt8) (K0 : AV → Heap → Ans) (v3 v5 v10 : AV) (x14 x73 : Int) (v74 : AV) (x75 : Int) (v76 v77 v78 v79 v80 v81 v82 v83 v84 v85 v86 v87 v88 v89 v90 v91 v92 : AV) (H : Heap) : r22E0 C0 d a0 a1 K0 v3 v5 v10 x14 ⟨[a0, (.str a1), tz, tz, (.int .u32 0), (.int .u32 x73), tz, v74, a0, bf, a0, v3, v5, a0, (.fn 26 [a0] []), tz, (.str a1), v10, (iz x14), (iz x75), v76, v77, v78, v79, v80, v81, v82, v83, v84, v85, v86, v87, v88, v89, v90, v91, v92, tz, tz], H⟩ = E22_0 d a0 K0 v10 x14 H := by
  unfold r22E0; refine Eq.trans (pl_len (by rfl)) ?_; (iterate 5 (refine yt yS ?_)); refine yt yI ?_; refine yt yS ?_; refine yt yA ?_; (iterate 11 (refine yt yS ?_)); refine yt yI ?_; (iterate 17 (refine yt yA ?_)); (iterate 2 (refine yt yS ?_))
  rfl
noncomputable def L22_0 (d : Nat) (a0 : AV) (K0 : AV → Heap → Ans) (v10 : AV) (x14 : Int) : Nat → Int → Int → Heap → Ans
  | 0, _, _, _ => none
  | n + 1, x18, x20, H =>
  cnd (decide (x20 < x14))
   (C0.hop H (.ixAS .any 1 (.v v10) (.v (iz x20))) fun v38 h39 =>
   C0.hop h39 (.load false 1 (.v v38)) fun v40 h41 =>
   C0.int .u8 (some v40) fun x42 =>
   C0.hop h41 (.nilck (.v a0)) fun v43 h44 =>
   C0.hop h44 (.fldA 260 (.v v43)) fun v45 h46 =>
   C0.hop h46 (.ixAA 256 1 (.v v45) (.v (.int .u8 (bits .xor .u8 (IntKind.wrap .u8 (bits .and .u32 x18 255)) x42)))) fun v47 h48 =>
   C0.hop h48 (.load false 1 (.v v47)) fun v49 h50 =>
   C0.int .u32 (some v49) fun x51 =>
   L22_0 d a0 K0 v10 x14 n (bits .xor .u32 (Int.fdiv x18 (2 ^ (min (Int.toNat 8) 32))) x51) (IntKind.wrap .i64 (x20 + 1)) h50)
   (X22_0_0 d a0 K0 v10 x14 x18 H)
theorem L22_0_s (d : Nat) (a0 : AV) (K0 : AV → Heap → Ans) (v10 : AV) (x14 : Int) (n : Nat) (x18 x20 : Int) (H : Heap) : L22_0 d a0 K0 v10 x14 (n + 1) x18 x20 H = (cnd (decide (x20 < x14))
   (C0.hop H (.ixAS .any 1 (.v v10) (.v (iz x20))) fun v38 h39 =>
   C0.hop h39 (.load false 1 (.v v38)) fun v40 h41 =>
   C0.int .u8 (some v40) fun x42 =>
   C0.hop h41 (.nilck (.v a0)) fun v43 h44 =>
   C0.hop h44 (.fldA 260 (.v v43)) fun v45 h46 =>
   C0.hop h46 (.ixAA 256 1 (.v v45) (.v (.int .u8 (bits .xor .u8 (IntKind.wrap .u8 (bits .and .u32 x18 255)) x42)))) fun v47 h48 =>
   C0.hop h48 (.load false 1 (.v v47)) fun v49 h50 =>
   C0.int .u32 (some v49) fun x51 =>
   L22_0 d a0 K0 v10 x14 n (bits .xor .u32 (Int.fdiv x18 (2 ^ (min (Int.toNat 8) 32))) x51) (IntKind.wrap .i64 (x20 + 1)) h50)
   (X22_0_0 d a0 K0 v10 x14 x18 H)) := by kernel_rfl
theorem it22_0 (d : Nat) (a0 : AV) (a1 : List UInt8) (K0 : AV → Heap → Ans) (v3 v5 v10 : AV) (x14 : Int)   : ∀ (n : Nat) (x18 : Int) (v19 : AV) (x20 : Int) (v21 v22 v23 v24 v25 v26 v27 v28 v29 v30 v31 v32 v33 v34 v35 v36 v37 : AV) (H : Heap), C0.iter (r22R0 C0 d a0 a1 K0 v3 v5 v10 x14) n ⟨[a0, (.str a1), tz, tz, (.int .u32 0), (.int .u32 x18), tz, v19, a0, bf, a0, v3, v5, a0, (.fn 26 [a0] []), tz, (.str a1), v10, (iz x14), (iz x20), v21, v22, v23, v24, v25, v26, v27, v28, v29, v30, v31, v32, v33, v34, v35, v36, v37, tz, tz], H⟩ [0] [r22X0_0 C0 d a0 a1 K0 v3 v5 v10 x14] (r22E0 C0 d a0 a1 K0 v3 v5 v10 x14) = L22_0 d a0 K0 v10 x14 n x18 x20 H := by
  generalize hR : r22R0 C0 d a0 a1 K0 v3 v5 v10 x14 = R
  intro n
  induction n with
  | zero => intros; rfl
  | succ n ih =>
    intro x18 v19 x20 v21 v22 v23 v24 v25 v26 v27 v28 v29 v30 v31 v32 v33 v34 v35 v36 v37 H
    simp only [it_ret] at ih
    rw [it_ret, xiter_s]
    refine Eq.trans (congrFun (congrFun hR.symm _) _) ?_
    unfold r22R0
    refine Eq.trans (pl_len (by rfl)) ?_; (iterate 5 (refine yt yS ?_)); refine yt yI ?_; refine yt yS ?_; refine yt yA ?_; (iterate 11 (refine yt yS ?_)); refine yt yI ?_; (iterate 17 (refine yt yA ?_)); (iterate 2 (refine yt yS ?_))
    simp only [kIter_n, kIter_x, kIter_r, kOut_x, kOut_r, xgo_hit, xgo_miss, ih, X22_0_0_ok d a0 a1 K0 v3 v5 v10 x14  , E22_0_ok d a0 a1 K0 v3 v5 v10 x14  ]
    exact (L22_0_s d a0 K0 v10 x14 n x18 x20 H).symm
/-- (*apogee/crc.Table).Sum32 -/
theorem q22 (d : Nat) (a0 : AV) (a1 : List UInt8) (n0 : Nat) (H0 : Heap) (K0 : AV → Heap → Ans) : xmeth C0 M unr d (n0 + 8) 22 [a0, (.str a1)] H0 K0 =
  C0.hop H0 (.eqv false 1 [] (.v a0) (.v .nilp)) fun v0 h1 =>
  C0.bool (some v0) fun b2 =>
  cnd b2
   (K0 (.int .u32 0) h1)
   (C0.hop h1 (.nilck (.v a0)) fun v3 h4 =>
   C0.hop h4 (.fldA 0 (.v v3)) fun v5 h6 =>
   C0.cal M (pcall M d) (n0 + 8) true 25 [v5, (.fn 26 [a0] [])] h6 fun v7 h8 =>
   C0.tup 0 (some v7) fun l9 =>
   C0.hop h8 (.s2b E5 (.v (.str a1))) fun v10 h11 =>
   C0.hop h11 (.bk .lenV [(.v v10)]) fun v12 h13 =>
   C0.int .i64 (some v12) fun x14 =>
   L22_0 d a0 K0 v10 x14 1000000000000000000 4294967295 0 h13) := (r22 C0 d a0 a1 n0 H0 K0).trans (by simp only [it22_0])
end Go.Proofs.Ytcegcmjkkflhhaa.AE

namespace Go.Proofs.Ytcegcmjkkflhhaa.AE
set_option linter.unusedVariables false
set_option linter.unusedSimpArgs false
set_option linter.constructorNameAsVariable false
open Go Go.Proofs.Ytcegcmjkkflhhaa.Geo
attribute [local irreducible] pcall C0 callB
set_option maxRecDepth 100000
theorem t_nil0 {H : Heap} {K : AV → Heap → Ans} : C0.hop H (.eqv false 1 [] (.v .nilp) (.v .nilp)) K = K (.bool true) H := hop_eq rfl
end Go.Proofs.Ytcegcmjkkflhhaa.AE

namespace Go.Proofs.Ytcegcmjkkflhhaa.Geo
set_option linter.unusedVariables false
theorem half32 (x : BitVec 32) : x = (x >>> 8) <<< 8 ^^^ BitVec.ofNat 32 (x.toNat % 256) := by
  have hx := x.isLt
  apply BitVec.eq_of_toNat_eq
  rw [BitVec.toNat_xor, BitVec.toNat_shiftLeft, BitVec.toNat_ushiftRight, BitVec.toNat_ofNat, Nat.shiftLeft_eq, Nat.shiftRight_eq_div_pow, Nat.mod_eq_of_lt (a := x.toNat % 256) (by omega), Nat.mod_eq_of_lt (by omega)]
  have h1 := Nat.two_pow_add_eq_or_of_lt (i := 8) (b := x.toNat % 256) (by omega) (x.toNat / 2 ^ 8)
  have h2 : x.toNat / 2 ^ 8 * 2 ^ 8 ^^^ x.toNat % 256 = x.toNat / 2 ^ 8 * 2 ^ 8 ||| x.toNat % 256 := by
    apply Nat.eq_of_testBit_eq
    intro i
    rw [Nat.testBit_xor, Nat.testBit_or]
    rcases Nat.lt_or_ge i 8 with hi | hi
    · have : (x.toNat / 2 ^ 8 * 2 ^ 8).testBit i = false := by
        rw [Nat.mul_comm, Nat.testBit_two_pow_mul]; simp; omega
      rw [this]; simp
    · have : (x.toNat % 256).testBit i = false := Nat.testBit_lt_two_pow (Nat.lt_of_lt_of_le (Nat.mod_lt _ (by decide)) (show 2 ^ 8 ≤ 2 ^ i from Nat.pow_le_pow_right (by decide) hi))
      rw [this]; simp
  rw [h2, Nat.mul_comm, ← h1]; omega
theorem st_even {x : BitVec 32} (h : x.getLsbD 0 = false) : st x = x >>> 1 := by unfold st; rw [h]; simp
theorem st_low : ∀ (k : Nat) (y : BitVec 32), (∀ i, i < k → y.getLsbD i = false) → stN k y = y >>> k
  | 0, y, _ => by simp [stN]
  | k + 1, y, h => by
    rw [stN, st_even (h 0 (by omega)), st_low k _ fun i hi => by rw [BitVec.getLsbD_ushiftRight]; exact h (1 + i) (by omega)]
    apply BitVec.eq_of_getLsbD_eq
    intro i hi
    simp only [BitVec.getLsbD_ushiftRight]
    congr 1; omega
theorem byte_row32 (x : BitVec 32) (b : UInt8) : byteF x b = (x >>> 8) ^^^ stN 8 (BitVec.ofNat 32 (x.toNat % 256 ^^^ b.toNat)) := by
  have hb : b32 b = BitVec.ofNat 32 b.toNat := by
    apply BitVec.eq_of_toNat_eq
    simp [b32]
  have hl : stN 8 ((x >>> 8) <<< 8) = x >>> 8 := by
    rw [st_low 8 _ fun i hi => by simp [BitVec.getLsbD_shiftLeft, hi]]
    apply BitVec.eq_of_getLsbD_eq
    intro i hi
    simp only [BitVec.getLsbD_ushiftRight, BitVec.getLsbD_shiftLeft]
    rcases Nat.lt_or_ge (8 + i) 32 with h | h
    · have e1 : decide (8 + i < 32) = true := by rw [decide_eq_true_iff]; exact h
      have e2 : decide (8 + i < 8) = false := by rw [decide_eq_false_iff_not]; omega
      rw [e1, e2, show 8 + (8 + i - 8) = 8 + i by omega]; simp
    · rw [BitVec.getLsbD_of_ge x (8 + i) (by omega)]
      have e1 : decide (8 + i < 32) = false := by rw [decide_eq_false_iff_not]; omega
      rw [e1]; simp
  unfold byteF
  conv => lhs; arg 2; lhs; rw [half32 x]
  rw [hb, BitVec.xor_assoc, ofNat_xor, stN_xor, hl]
end Go.Proofs.Ytcegcmjkkflhhaa.Geo

namespace Go.Proofs.Ytcegcmjkkflhhaa.AE
set_option linter.unusedVariables false
set_option linter.unusedSimpArgs false
set_option linter.constructorNameAsVariable false
open Go Go.Proofs.Ytcegcmjkkflhhaa.Geo
attribute [local irreducible] pcall C0 callB
set_option maxRecDepth 100000
theorem lo32 (x : BitVec 32) : IntKind.wrap .u8 (Go.bits .and .u32 (w32 x) 255) = ((x.toNat % 256 : Nat) : Int) := by
  rw [show (255 : Int) = w32 255#32 from rfl, u32_and]
  have : (x &&& 255#32).toNat = x.toNat % 256 := by rw [BitVec.toNat_and]; exact Nat.and_two_pow_sub_one_eq_mod x.toNat 8
  rw [this, u8wr]; omega
theorem sh8_32 (x : BitVec 32) : Int.fdiv (w32 x) (2 ^ (min (Int.toNat 8) 32)) = w32 (x >>> 8) := by
  show Int.fdiv (x.toNat : Int) _ = ((x >>> 8).toNat : Int)
  rw [show (2 ^ (min (Int.toNat 8) 32) : Int) = 256 from rfl, Int.fdiv_eq_ediv_of_nonneg _ (by decide), BitVec.toNat_ushiftRight, Nat.shiftRight_eq_div_pow]; omega
theorem tsum32_go (d : Nat) (K : AV → Heap → Ans) (s : List UInt8) (hl : s.length < 9223372036854775807) {H : Heap} {id bid : Nat} {cs : List AV} (hg : hget H id = some ⟨TE, [.agg cs]⟩) (hb : hget H bid = some ⟨E5, bytesAV s⟩)
    (hr : ∀ i, i < 256 → cs[260 + i]? = some (.int .u32 (w32 (R32 i)))) : ∀ (k i : Nat), i + k = s.length → ∀ (x : BitVec 32) f, k < f →
    L22_0 d (.ptr id 0 0) K (.slc bid 0 s.length) (s.length : Nat) f (w32 x) (i : Nat) H = K (.int .u32 (w32 ((s.drop i).foldl byteF x ^^^ 0xffffffff#32))) H
  | 0, i, h, x, f + 1, _ => by
    rw [L22_0_s, decide_eq_false (by omega), cnd_f, List.drop_of_length_le (by omega)]
    unfold X22_0_0
    rw [w32_all]; rfl
  | k + 1, i, h, x, f + 1, hf => by
    have hi : i < s.length := by omega
    rw [L22_0_s, decide_eq_true (by omega), cnd_t]
    refine Eq.trans (ix_slc hb (by omega) (by omega) rfl) ?_
    refine Eq.trans (ld_ptr (v := .int .u8 (s[i].toNat : Int)) hb (show (bytesAV s)[0 + ((i : Nat) : Int).toNat]? = _ by rw [show 0 + ((i : Nat) : Int).toNat = i by omega]; exact bytes_at hi) rfl) ?_
    refine Eq.trans (pl_int rfl) ?_
    refine Eq.trans nil_ptr ?_
    refine Eq.trans sh_ptr ?_
    have hby := s[i].toNat_lt
    have hxo := Nat.xor_lt_two_pow (n := 8) (x := x.toNat % 256) (y := s[i].toNat) (by omega) hby
    rw [lo32, u8_xor (by omega) hby]
    refine Eq.trans (t_ix (by omega) (by omega)) ?_
    rw [show 0 + 260 + ((x.toNat % 256 ^^^ s[i].toNat : Nat) : Int).toNat * 1 = 260 + (x.toNat % 256 ^^^ s[i].toNat) by omega]
    refine Eq.trans (t_ld hg (hr _ hxo)) ?_
    refine Eq.trans (pl_int rfl) ?_
    rw [sh8_32, u32_xor, i64_up (by omega), List.drop_eq_getElem_cons hi]
    have e : (x >>> 8) ^^^ R32 (x.toNat % 256 ^^^ s[i].toNat) = byteF x s[i] := (byte_row32 x s[i]).symm
    rw [e, List.foldl_cons]
    exact tsum32_go d K s hl hg hb hr k (i + 1) (by omega) _ f (by omega)
theorem tsum32_ok (d : Nat) {H : Heap} {id : Nat} {m : Bool} (h : TabS H id m) (s : List UInt8) (hl : s.length < 1000000000000000000) : ∃ H', callB M (pcall M (d + 1)) 12 true 22 [.ptr id 0 0, .str s] H = some (.int .u32 (w32 (crcF s)), H') ∧ TabS H' id true := by
  obtain ⟨H1, e1, e2, e3⟩ := do_ok d 0 h
  obtain ⟨cs, hg, hlc, q0, q1, q3, hr⟩ := e2
  have hgA : hget (H1 ++ [some ⟨E5, bytesAV s⟩]) id = some ⟨TE, [.agg cs]⟩ := hget_app hg
  refine ⟨H1 ++ [some ⟨E5, bytesAV s⟩], ?_, cs, hgA, hlc, q0, q1, q3, hr⟩
  refine xmeth_ok (U := unr) (n := 11) rfl rfl rfl fun K => ?_
  refine (q22 (d + 1) _ _ 3 _ K).trans ?_
  refine Eq.trans t_nil ?_
  refine Eq.trans (pl_bool rfl) ?_
  refine Eq.trans (pl_f rfl) ?_
  refine Eq.trans nil_ptr ?_
  refine Eq.trans sh_ptr ?_
  refine Eq.trans (cal_eq e1) ?_
  refine Eq.trans (pl_tup rfl rfl) ?_
  refine Eq.trans s2b_h ?_
  refine Eq.trans (len_slc hget_new) ?_
  refine Eq.trans (pl_int rfl) ?_
  exact tsum32_go (d + 1) K s (by omega) hgA hget_new (fun i hi => (hr rfl i hi).2) s.length 0 (by omega) 0xffffffff#32 1000000000000000000 (by omega)
end Go.Proofs.Ytcegcmjkkflhhaa.AE

namespace Go.Proofs.Ytcegcmjkkflhhaa.AE
set_option linter.unusedVariables false
set_option linter.unusedSimpArgs false
set_option linter.constructorNameAsVariable false
open Go
set_option maxRecDepth 100000
def r8R0 (C : Cb) (d : Nat) (a0 : List AV) (b0 : Bool) (x4 : Int) (v8 : AV) (x11 : Int) : St → (Ex → St → Ans) → Ans := fun s12 k13 =>
 cnd ((List.length s12.env) == 84)
 (C.same s12.env[0]? (.lst a0) <|
 C.same s12.env[1]? tz <|
 C.bool s12.env[2]? fun b15 =>
 C.same s12.env[3]? v8 <|
 C.any s12.env[4]? fun v16 =>
 C.any s12.env[5]? fun v17 =>
 C.same s12.env[6]? tz <|
 C.same s12.env[7]? (.bool b0) <|
 C.same s12.env[8]? (.bool (!b0)) <|
 C.same s12.env[9]? bf <|
 C.same s12.env[10]? (.lst a0) <|
 C.same s12.env[11]? (iz x4) <|
 C.same s12.env[12]? (.bool (decide (x4 > 50))) <|
 C.same s12.env[13]? bf <|
 C.same s12.env[14]? tz <|
 C.same s12.env[15]? v8 <|
 C.same s12.env[16]? (.lst a0) <|
 C.same s12.env[17]? (iz x11) <|
 C.int .i64 s12.env[18]? fun x18 =>
 C.any s12.env[19]? fun v19 =>
 C.any s12.env[20]? fun v20 =>
 C.any s12.env[21]? fun v21 =>
 C.any s12.env[22]? fun v22 =>
 C.any s12.env[23]? fun v23 =>
 C.any s12.env[24]? fun v24 =>
 C.any s12.env[25]? fun v25 =>
 C.any s12.env[26]? fun v26 =>
 C.any s12.env[27]? fun v27 =>
 C.any s12.env[28]? fun v28 =>
 C.any s12.env[29]? fun v29 =>
 C.any s12.env[30]? fun v30 =>
 C.any s12.env[31]? fun v31 =>
 C.any s12.env[32]? fun v32 =>
 C.any s12.env[33]? fun v33 =>
 C.any s12.env[34]? fun v34 =>
 C.any s12.env[35]? fun v35 =>
 C.any s12.env[36]? fun v36 =>
 C.any s12.env[37]? fun v37 =>
 C.any s12.env[38]? fun v38 =>
 C.any s12.env[39]? fun v39 =>
 C.any s12.env[40]? fun v40 =>
 C.any s12.env[41]? fun v41 =>
 C.any s12.env[42]? fun v42 =>
 C.any s12.env[43]? fun v43 =>
 C.any s12.env[44]? fun v44 =>
 C.any s12.env[45]? fun v45 =>
 C.any s12.env[46]? fun v46 =>
 C.any s12.env[47]? fun v47 =>
 C.any s12.env[48]? fun v48 =>
 C.any s12.env[49]? fun v49 =>
 C.any s12.env[50]? fun v50 =>
 C.any s12.env[51]? fun v51 =>
 C.any s12.env[52]? fun v52 =>
 C.same s12.env[53]? tz <|
 C.same s12.env[54]? tz <|
 C.same s12.env[55]? tz <|
 C.same s12.env[56]? tz <|
 C.same s12.env[57]? tz <|
 C.same s12.env[58]? tz <|
 C.same s12.env[59]? tz <|
 C.same s12.env[60]? tz <|
 C.same s12.env[61]? tz <|
 C.same s12.env[62]? tz <|
 C.same s12.env[63]? tz <|
 C.same s12.env[64]? tz <|
 C.same s12.env[65]? tz <|
 C.same s12.env[66]? tz <|
 C.same s12.env[67]? tz <|
 C.same s12.env[68]? tz <|
 C.same s12.env[69]? tz <|
 C.same s12.env[70]? tz <|
 C.same s12.env[71]? tz <|
 C.same s12.env[72]? tz <|
 C.same s12.env[73]? tz <|
 C.same s12.env[74]? tz <|
 C.same s12.env[75]? tz <|
 C.same s12.env[76]? tz <|
 C.same s12.env[77]? tz <|
 C.same s12.env[78]? tz <|
 C.same s12.env[79]? tz <|
 C.same s12.env[80]? tz <|
 C.same s12.env[81]? tz <|
 C.same s12.env[82]? tz <|
 C.same s12.env[83]? tz <|
 cnd (decide (x18 < x11))
 (C.hop (St.H s12) (.ixAS .any 1 (.v (.lst a0)) (.v (iz x18))) fun v53 h54 =>
 C.hop h54 (.load false 1 (.v v53)) fun v55 h56 =>
 C.str (some v55) fun s57 =>
 cnd (decide ((((List.length s57) : Nat) : Int) > 500))
 (k13 .ret ⟨[(.lst a0), tz, bt, v8, (iz x18), (.str s57), tz, (.bool b0), (.bool (!b0)), bf, (.lst a0), (iz x4), (.bool (decide (x4 > 50))), bf, tz, v8, (.lst a0), (iz x11), (iz x18), bt, (iz x18), v53, (.str s57), (.str s57), (iz (((List.length s57) : Nat) : Int)), bt, v26, v27, v28, v29, v30, v31, v32, v33, v34, v35, v36, v37, v38, v39, v40, v41, v42, v43, v44, v45, v46, v47, v48, v49, v50, v51, v52, tz, tz, tz, tz, tz, tz, tz, tz, tz, tz, tz, tz, tz, tz, tz, tz, tz, tz, tz, tz, tz, tz, tz, tz, tz, tz, tz, tz, tz, tz, tz], h56⟩)
 (C.cal M (pcall M d) 12 true 20 [v8] h56 fun v58 h59 =>
 C.int .i64 (some v58) fun x60 =>
 cnd (x60 != (if ((1 : Int) < x18) then 1 else x18))
 (k13 .ret ⟨[(.lst a0), tz, bf, v8, (iz x18), (.str s57), tz, (.bool b0), (.bool (!b0)), bf, (.lst a0), (iz x4), (.bool (decide (x4 > 50))), bf, tz, v8, (.lst a0), (iz x11), (iz x18), bt, (iz x18), v53, (.str s57), (.str s57), (iz (((List.length s57) : Nat) : Int)), bf, v8, (iz x60), (iz x18), (iz (if ((1 : Int) < x18) then 1 else x18)), (.bool (x60 != (if ((1 : Int) < x18) then 1 else x18))), bt, tz, tz, tz, tz, tz, tz, bt, bt, tz, tz, tz, tz, tz, tz, bt, bt, tz, tz, tz, bt, v52, tz, tz, tz, tz, tz, tz, tz, tz, tz, tz, tz, tz, tz, tz, tz, tz, tz, tz, tz, tz, tz, tz, tz, tz, tz, tz, tz, tz, tz, tz, tz], h59⟩)
 (C.cal M (pcall M d) 12 true 21 [v8, (.str s57)] h59 fun v61 h62 =>
 C.int .u16 (some v61) fun x63 =>
 C.int .u16 (pcall M d 10 [(.str s57)]) fun x64 =>
 cnd (x63 != x64)
 (k13 .ret ⟨[(.lst a0), tz, bf, v8, (iz x18), (.str s57), tz, (.bool b0), (.bool (!b0)), bf, (.lst a0), (iz x4), (.bool (decide (x4 > 50))), bf, tz, v8, (.lst a0), (iz x11), (iz x18), bt, (iz x18), v53, (.str s57), (.str s57), (iz (((List.length s57) : Nat) : Int)), bf, v8, (iz x60), (iz x18), (iz (if ((1 : Int) < x18) then 1 else x18)), (.bool (x60 != (if ((1 : Int) < x18) then 1 else x18))), bf, v8, (.str s57), (.int .u16 x63), (.str s57), (.int .u16 x64), (.bool (x63 != x64)), (.bool (x63 != x64)), bt, tz, tz, tz, tz, tz, tz, bt, bt, tz, tz, tz, bt, v52, tz, tz, tz, tz, tz, tz, tz, tz, tz, tz, tz, tz, tz, tz, tz, tz, tz, tz, tz, tz, tz, tz, tz, tz, tz, tz, tz, tz, tz, tz, tz], h62⟩)
 (C.cal M (pcall M d) 12 true 22 [v8, (.str s57)] h62 fun v65 h66 =>
 C.int .u32 (some v65) fun x67 =>
 C.int .u32 (pcall M d 12 [(.str s57)]) fun x68 =>
 cnd (x67 != x68)
 (k13 .ret ⟨[(.lst a0), tz, bf, v8, (iz x18), (.str s57), tz, (.bool b0), (.bool (!b0)), bf, (.lst a0), (iz x4), (.bool (decide (x4 > 50))), bf, tz, v8, (.lst a0), (iz x11), (iz x18), bt, (iz x18), v53, (.str s57), (.str s57), (iz (((List.length s57) : Nat) : Int)), bf, v8, (iz x60), (iz x18), (iz (if ((1 : Int) < x18) then 1 else x18)), (.bool (x60 != (if ((1 : Int) < x18) then 1 else x18))), bf, v8, (.str s57), (.int .u16 x63), (.str s57), (.int .u16 x64), (.bool (x63 != x64)), (.bool (x63 != x64)), bf, v8, (.str s57), (.int .u32 x67), (.str s57), (.int .u32 x68), (.bool (x67 != x68)), (.bool (x67 != x68)), bt, tz, tz, tz, bt, v52, tz, tz, tz, tz, tz, tz, tz, tz, tz, tz, tz, tz, tz, tz, tz, tz, tz, tz, tz, tz, tz, tz, tz, tz, tz, tz, tz, tz, tz, tz, tz], h66⟩)
 (C.cal M (pcall M d) 12 true 20 [v8] h66 fun v69 h70 =>
 C.int .i64 (some v69) fun x71 =>
 cnd (x71 != 1)
 (k13 .ret ⟨[(.lst a0), tz, bf, v8, (iz x18), (.str s57), tz, (.bool b0), (.bool (!b0)), bf, (.lst a0), (iz x4), (.bool (decide (x4 > 50))), bf, tz, v8, (.lst a0), (iz x11), (iz x18), bt, (iz x18), v53, (.str s57), (.str s57), (iz (((List.length s57) : Nat) : Int)), bf, v8, (iz x60), (iz x18), (iz (if ((1 : Int) < x18) then 1 else x18)), (.bool (x60 != (if ((1 : Int) < x18) then 1 else x18))), bf, v8, (.str s57), (.int .u16 x63), (.str s57), (.int .u16 x64), (.bool (x63 != x64)), (.bool (x63 != x64)), bf, v8, (.str s57), (.int .u32 x67), (.str s57), (.int .u32 x68), (.bool (x67 != x68)), (.bool (x67 != x68)), bf, v8, (iz x71), (.bool (x71 != 1)), bt, v52, tz, tz, tz, tz, tz, tz, tz, tz, tz, tz, tz, tz, tz, tz, tz, tz, tz, tz, tz, tz, tz, tz, tz, tz, tz, tz, tz, tz, tz, tz, tz], h70⟩)
 (k13 .normal ⟨[(.lst a0), tz, (.bool b15), v8, (iz x18), (.str s57), tz, (.bool b0), (.bool (!b0)), bf, (.lst a0), (iz x4), (.bool (decide (x4 > 50))), bf, tz, v8, (.lst a0), (iz x11), (iz (IntKind.wrap .i64 (x18 + 1))), bt, (iz x18), v53, (.str s57), (.str s57), (iz (((List.length s57) : Nat) : Int)), bf, v8, (iz x60), (iz x18), (iz (if ((1 : Int) < x18) then 1 else x18)), (.bool (x60 != (if ((1 : Int) < x18) then 1 else x18))), bf, v8, (.str s57), (.int .u16 x63), (.str s57), (.int .u16 x64), (.bool (x63 != x64)), (.bool (x63 != x64)), bf, v8, (.str s57), (.int .u32 x67), (.str s57), (.int .u32 x68), (.bool (x67 != x68)), (.bool (x67 != x68)), bf, v8, (iz x71), (.bool (x71 != 1)), bf, (iz (IntKind.wrap .i64 (x18 + 1))), tz, tz, tz, tz, tz, tz, tz, tz, tz, tz, tz, tz, tz, tz, tz, tz, tz, tz, tz, tz, tz, tz, tz, tz, tz, tz, tz, tz, tz, tz, tz], h70⟩))))))
 (k13 (.exit 0) ⟨[(.lst a0), tz, (.bool b15), v8, v16, v17, tz, (.bool b0), (.bool (!b0)), bf, (.lst a0), (iz x4), (.bool (decide (x4 > 50))), bf, tz, v8, (.lst a0), (iz x11), (iz x18), bf, v20, v21, v22, v23, v24, v25, v26, v27, v28, v29, v30, v31, v32, v33, v34, v35, v36, v37, v38, v39, v40, v41, v42, v43, v44, v45, v46, v47, v48, v49, v50, v51, v52, tz, tz, tz, tz, tz, tz, tz, tz, tz, tz, tz, tz, tz, tz, tz, tz, tz, tz, tz, tz, tz, tz, tz, tz, tz, tz, tz, tz, tz, tz, tz], (St.H s12)⟩))
 (none)
def r8X0_0 (C : Cb) (d : Nat) (a0 : List AV) (b0 : Bool) (x4 : Int) (v8 : AV) (x11 : Int) : St → Ans := fun s72 =>
 cnd ((List.length s72.env) == 84)
 (C.same s72.env[0]? (.lst a0) <|
 C.same s72.env[1]? tz <|
 C.bool s72.env[2]? fun b73 =>
 C.same s72.env[3]? v8 <|
 C.any s72.env[4]? fun v74 =>
 C.any s72.env[5]? fun v75 =>
 C.same s72.env[6]? tz <|
 C.same s72.env[7]? (.bool b0) <|
 C.same s72.env[8]? (.bool (!b0)) <|
 C.same s72.env[9]? bf <|
 C.same s72.env[10]? (.lst a0) <|
 C.same s72.env[11]? (iz x4) <|
 C.same s72.env[12]? (.bool (decide (x4 > 50))) <|
 C.same s72.env[13]? bf <|
 C.same s72.env[14]? tz <|
 C.same s72.env[15]? v8 <|
 C.same s72.env[16]? (.lst a0) <|
 C.same s72.env[17]? (iz x11) <|
 C.int .i64 s72.env[18]? fun x76 =>
 C.any s72.env[19]? fun v77 =>
 C.any s72.env[20]? fun v78 =>
 C.any s72.env[21]? fun v79 =>
 C.any s72.env[22]? fun v80 =>
 C.any s72.env[23]? fun v81 =>
 C.any s72.env[24]? fun v82 =>
 C.any s72.env[25]? fun v83 =>
 C.any s72.env[26]? fun v84 =>
 C.any s72.env[27]? fun v85 =>
 C.any s72.env[28]? fun v86 =>
 C.any s72.env[29]? fun v87 =>
 C.any s72.env[30]? fun v88 =>
 C.any s72.env[31]? fun v89 =>
 C.any s72.env[32]? fun v90 =>
 C.any s72.env[33]? fun v91 =>
 C.any s72.env[34]? fun v92 =>
 C.any s72.env[35]? fun v93 =>
 C.any s72.env[36]? fun v94 =>
 C.any s72.env[37]? fun v95 =>
 C.any s72.env[38]? fun v96 =>
 C.any s72.env[39]? fun v97 =>
 C.any s72.env[40]? fun v98 =>
 C.any s72.env[41]? fun v99 =>
 C.any s72.env[42]? fun v100 =>
 C.any s72.env[43]? fun v101 =>
 C.any s72.env[44]? fun v102 =>
 C.any s72.env[45]? fun v103 =>
 C.any s72.env[46]? fun v104 =>
 C.any s72.env[47]? fun v105 =>
 C.any s72.env[48]? fun v106 =>
 C.any s72.env[49]? fun v107 =>
 C.any s72.env[50]? fun v108 =>
 C.any s72.env[51]? fun v109 =>
 C.any s72.env[52]? fun v110 =>
 C.same s72.env[53]? tz <|
 C.same s72.env[54]? tz <|
 C.same s72.env[55]? tz <|
 C.same s72.env[56]? tz <|
 C.same s72.env[57]? tz <|
 C.same s72.env[58]? tz <|
 C.same s72.env[59]? tz <|
 C.same s72.env[60]? tz <|
 C.same s72.env[61]? tz <|
 C.same s72.env[62]? tz <|
 C.same s72.env[63]? tz <|
 C.same s72.env[64]? tz <|
 C.same s72.env[65]? tz <|
 C.same s72.env[66]? tz <|
 C.same s72.env[67]? tz <|
 C.same s72.env[68]? tz <|
 C.same s72.env[69]? tz <|
 C.same s72.env[70]? tz <|
 C.same s72.env[71]? tz <|
 C.same s72.env[72]? tz <|
 C.same s72.env[73]? tz <|
 C.same s72.env[74]? tz <|
 C.same s72.env[75]? tz <|
 C.same s72.env[76]? tz <|
 C.same s72.env[77]? tz <|
 C.same s72.env[78]? tz <|
 C.same s72.env[79]? tz <|
 C.same s72.env[80]? tz <|
 C.same s72.env[81]? tz <|
 C.same s72.env[82]? tz <|
 C.same s72.env[83]? tz <|
 C.cal M (pcall M d) 12 true 20 [v8] (St.H s72) fun v111 h112 =>
 C.int .i64 (some v111) fun x113 =>
 C.hop h112 (.bk .lenV [(.v (.lst a0))]) fun v114 h115 =>
 C.int .i64 (some v114) fun x116 =>
 cnd (x113 == (if ((1 : Int) < x116) then 1 else x116))
 (C.cal M (pcall M d) 12 true 20 [.nilp] h115 fun v117 h118 =>
 C.int .i64 (some v117) fun x119 =>
 cnd (x119 == 0)
 (C.cal M (pcall M d) 12 true 16 [.nilp, (iz 1)] h118 fun v120 h121 =>
 C.int .u16 (some v120) fun x122 =>
 cnd (x122 == 0)
 (C.cal M (pcall M d) 12 true 17 [.nilp, (iz 1)] h121 fun v123 h124 =>
 C.int .u32 (some v123) fun x125 =>
 cnd (x125 == 0)
 (C.cal M (pcall M d) 12 true 21 [.nilp, (.str [97])] h124 fun v126 h127 =>
 C.int .u16 (some v126) fun x128 =>
 cnd (x128 == 0)
 (C.cal M (pcall M d) 12 true 22 [.nilp, (.str [97])] h127 fun v129 h130 =>
 C.int .u32 (some v129) fun x131 =>
 C.fin h130 (.bool (x131 == 0)))
 (C.fin h127 bf))
 (C.fin h124 bf))
 (C.fin h121 bf))
 (C.fin h118 bf))
 (C.fin h115 bf))
 (none)
def r8E0 (C : Cb) (d : Nat) (a0 : List AV) (b0 : Bool) (x4 : Int) (v8 : AV) (x11 : Int) : St → Ans := fun s14 =>
 cnd ((List.length s14.env) == 84)
 (C.same s14.env[0]? (.lst a0) <|
 C.same s14.env[1]? tz <|
 C.bool s14.env[2]? fun b132 =>
 C.same s14.env[3]? v8 <|
 C.int .i64 s14.env[4]? fun x133 =>
 C.str s14.env[5]? fun s134 =>
 C.same s14.env[6]? tz <|
 C.same s14.env[7]? (.bool b0) <|
 C.same s14.env[8]? (.bool (!b0)) <|
 C.same s14.env[9]? bf <|
 C.same s14.env[10]? (.lst a0) <|
 C.same s14.env[11]? (iz x4) <|
 C.same s14.env[12]? (.bool (decide (x4 > 50))) <|
 C.same s14.env[13]? bf <|
 C.same s14.env[14]? tz <|
 C.same s14.env[15]? v8 <|
 C.same s14.env[16]? (.lst a0) <|
 C.same s14.env[17]? (iz x11) <|
 C.int .i64 s14.env[18]? fun x135 =>
 C.any s14.env[19]? fun v136 =>
 C.int .i64 s14.env[20]? fun x137 =>
 C.any s14.env[21]? fun v138 =>
 C.str s14.env[22]? fun s139 =>
 C.str s14.env[23]? fun s140 =>
 C.int .i64 s14.env[24]? fun x141 =>
 C.bool s14.env[25]? fun b142 =>
 C.any s14.env[26]? fun v143 =>
 C.any s14.env[27]? fun v144 =>
 C.any s14.env[28]? fun v145 =>
 C.any s14.env[29]? fun v146 =>
 C.any s14.env[30]? fun v147 =>
 C.any s14.env[31]? fun v148 =>
 C.any s14.env[32]? fun v149 =>
 C.any s14.env[33]? fun v150 =>
 C.any s14.env[34]? fun v151 =>
 C.any s14.env[35]? fun v152 =>
 C.any s14.env[36]? fun v153 =>
 C.any s14.env[37]? fun v154 =>
 C.any s14.env[38]? fun v155 =>
 C.any s14.env[39]? fun v156 =>
 C.any s14.env[40]? fun v157 =>
 C.any s14.env[41]? fun v158 =>
 C.any s14.env[42]? fun v159 =>
 C.any s14.env[43]? fun v160 =>
 C.any s14.env[44]? fun v161 =>
 C.any s14.env[45]? fun v162 =>
 C.any s14.env[46]? fun v163 =>
 C.any s14.env[47]? fun v164 =>
 C.any s14.env[48]? fun v165 =>
 C.any s14.env[49]? fun v166 =>
 C.any s14.env[50]? fun v167 =>
 C.any s14.env[51]? fun v168 =>
 C.any s14.env[52]? fun v169 =>
 C.same s14.env[53]? tz <|
 C.same s14.env[54]? tz <|
 C.same s14.env[55]? tz <|
 C.same s14.env[56]? tz <|
 C.same s14.env[57]? tz <|
 C.same s14.env[58]? tz <|
 C.same s14.env[59]? tz <|
 C.same s14.env[60]? tz <|
 C.same s14.env[61]? tz <|
 C.same s14.env[62]? tz <|
 C.same s14.env[63]? tz <|
 C.same s14.env[64]? tz <|
 C.same s14.env[65]? tz <|
 C.same s14.env[66]? tz <|
 C.same s14.env[67]? tz <|
 C.same s14.env[68]? tz <|
 C.same s14.env[69]? tz <|
 C.same s14.env[70]? tz <|
 C.same s14.env[71]? tz <|
 C.same s14.env[72]? tz <|
 C.same s14.env[73]? tz <|
 C.same s14.env[74]? tz <|
 C.same s14.env[75]? tz <|
 C.same s14.env[76]? tz <|
 C.same s14.env[77]? tz <|
 C.same s14.env[78]? tz <|
 C.same s14.env[79]? tz <|
 C.same s14.env[80]? tz <|
 C.same s14.env[81]? tz <|
 C.same s14.env[82]? tz <|
 C.same s14.env[83]? tz <|
 C.fin (St.H s14) (.bool b132))
 (none)
/-- apogee/apogeelaw04.CrcTables -/
theorem r8 (C : Cb) (d : Nat) (a0 : List AV) : xcall C M unr d 8 [(.lst a0)] =
 C.bool (pcall M d 9 []) fun b0 =>
 cnd (!b0)
 (C.bool (pcall M d 9 []) fun b1 =>
 C.fin [] (.bool b1))
 (C.hop [] (.bk .lenV [(.v (.lst a0))]) fun v2 h3 =>
 C.int .i64 (some v2) fun x4 =>
 cnd (decide (x4 > 50))
 (C.bool (pcall M d 9 []) fun b5 =>
 C.fin h3 (.bool b5))
 (C.cal M (pcall M d) 12 true 15 [] h3 fun v6 h7 =>
 C.any (some v6) fun v8 =>
 C.hop h7 (.bk .lenV [(.v (.lst a0))]) fun v9 h10 =>
 C.int .i64 (some v9) fun x11 =>
 C.iter (r8R0 C d a0 b0 x4 v8 x11) 1000000000000000000 ⟨[(.lst a0), tz, bf, v8, tz, tz, tz, (.bool b0), (.bool (!b0)), bf, (.lst a0), (iz x4), (.bool (decide (x4 > 50))), bf, tz, v8, (.lst a0), (iz x11), (iz 0), tz, tz, tz, tz, tz, tz, tz, tz, tz, tz, tz, tz, tz, tz, tz, tz, tz, tz, tz, tz, tz, tz, tz, tz, tz, tz, tz, tz, tz, tz, tz, tz, tz, tz, tz, tz, tz, tz, tz, tz, tz, tz, tz, tz, tz, tz, tz, tz, tz, tz, tz, tz, tz, tz, tz, tz, tz, tz, tz, tz, tz, tz, tz, tz, tz], h10⟩ [0] [r8X0_0 C d a0 b0 x4 v8 x11] (r8E0 C d a0 b0 x4 v8 x11))) := by kernel_rfl
end Go.Proofs.Ytcegcmjkkflhhaa.AE

namespace Go.Proofs.Ytcegcmjkkflhhaa.AE
set_option linter.unusedVariables false
set_option linter.unusedSimpArgs false
set_option linter.constructorNameAsVariable false
open Go
set_option maxRecDepth 100000
set_option maxHeartbeats 0
noncomputable def X8_0_0 (d : Nat) (a0 : List AV) (v8 : AV) (x11 : Int) (H : Heap) : Ans :=
  C0.cal M (pcall M d) 12 true 20 [v8] H fun v111 h112 =>
   C0.int .i64 (some v111) fun x113 =>
   C0.hop h112 (.bk .lenV [(.v (.lst a0))]) fun v114 h115 =>
   C0.int .i64 (some v114) fun x116 =>
   cnd (x113 == (if ((1 : Int) < x116) then 1 else x116))
   (C0.cal M (pcall M d) 12 true 20 [.nilp] h115 fun v117 h118 =>
   C0.int .i64 (some v117) fun x119 =>
   cnd (x119 == 0)
   (C0.cal M (pcall M d) 12 true 16 [.nilp, (iz 1)] h118 fun v120 h121 =>
   C0.int .u16 (some v120) fun x122 =>
   cnd (x122 == 0)
   (C0.cal M (pcall M d) 12 true 17 [.nilp, (iz 1)] h121 fun v123 h124 =>
   C0.int .u32 (some v123) fun x125 =>
   cnd (x125 == 0)
   (C0.cal M (pcall M d) 12 true 21 [.nilp, (.str [97])] h124 fun v126 h127 =>
   C0.int .u16 (some v126) fun x128 =>
   cnd (x128 == 0)
   (C0.cal M (pcall M d) 12 true 22 [.nilp, (.str [97])] h127 fun v129 h130 =>
   C0.int .u32 (some v129) fun x131 =>
   C0.fin h130 (.bool (x131 == 0)))
   (C0.fin h127 bf))
   (C0.fin h124 bf))
   (C0.fin h121 bf))
   (C0.fin h118 bf))
   (C0.fin h115 bf)
theorem X8_0_0_ok (d : Nat) (a0 : List AV) (b0 : Bool) (x4 : Int) (v8 : AV) (x11 : Int) (b73 : Bool) (v74 v75 : AV) (x76 : Int) (v77 v78 v79 v80 v81 v82 v83 v84 v85 v86 v87 v88 v89 v90 v91 v92 v93 v94 v95 v96 v97 v98 v99 v100 v101 v102 v103 v104 v105 v106 v107 v108 v109 v110 : AV) (H : Heap) : r8X0_0 C0 d a0 b0 x4 v8 x11 ⟨[(.lst a0), tz, (.bool b73), v8, v74, v75, tz, (.bool b0), (.bool (!b0)), bf, (.lst a0), (iz x4), (.bool (decide (x4 > 50))), bf, tz, v8, (.lst a0), (iz x11), (iz x76), v77, v78, v79, v80, v81, v82, v83, v84, v85, v86, v87, v88, v89, v90, v91, v92, v93, v94, v95, v96, v97, v98, v99, v100, v101, v102, v103, v104, v105, v106, v107, v108, v109, v110, tz, tz, tz, tz, tz, tz, tz, tz, tz, tz, tz, tz, tz, tz, tz, tz, tz, tz, tz, tz, tz, tz, tz, tz, tz, tz, tz, tz, tz, tz, tz], H⟩ = X8_0_0 d a0 v8 x11 H := by
  unfold r8X0_0; refine Eq.trans (pl_len (by rfl)) ?_; (iterate 2 (refine yt yS ?_)); refine yt yB ?_; refine yt yS ?_; (iterate 2 (refine yt yA ?_)); (iterate 12 (refine yt yS ?_)); refine yt yI ?_; (iterate 34 (refine yt yA ?_)); (iterate 31 (refine yt yS ?_))
  rfl
noncomputable def E8_0 (d : Nat) (a0 : List AV) (v8 : AV) (x11 : Int) (b132 : Bool) (H : Heap) : Ans :=
  C0.fin H (.bool b132)
theorem E8_0_ok (d : Nat) (a0 : List AV) (b0 : Bool) (x4 : Int) (v8 : AV) (x11 : Int) (b132 : Bool) (x133 : Int) (s134 : List UInt8) (x135 : Int) (v136 : AV) (x137 : Int) (v138 : AV) (s139 : List UInt8) (s140 : List UInt8) (x141 : Int) (b142 : Bool) (v143 v144 v145 v146 v147 v148 v149 v150 v151 v152 v153 v154 v155 v156 v157 v158 v159 v160 v161 v162 v163 v164 v165 v166 v167 v168 v169 : AV) (H : Heap) : r8E0 C0 d a0 b0 x4 v8 x11 ⟨[(.lst a0), tz, (.bool b132), v8, (iz x133), (.str s134), tz, (.bool b0), (.bool (!b0)), bf, (.lst a0), (iz x4), (.bool (decide (x4 > 50))), bf, tz, v8, (.lst a0), (iz x11), (iz x135), v136, (iz x137), v138, (.str s139), (.str s140), (iz x141), (.bool b142), v143, v144, v145, v146, v147, v148, v149, v150, v151, v152, v153, v154, v155, v156, v157, v158, v159, v160, v161, v162, v163, v164, v165, v166, v167, v168, v169, tz, tz, tz, tz, tz, tz, tz, tz, tz, tz, tz, tz, tz, tz, tz, tz, tz, tz, tz, tz, tz, tz, tz, tz, tz, tz, tz, tz, tz, tz, tz], H⟩ = E8_0 d a0 v8 x11 b132 H := by
  unfold r8E0; refine Eq.trans (pl_len (by rfl)) ?_; (iterate 2 (refine yt yS ?_)); refine yt yB ?_; refine yt yS ?_; refine yt yI ?_; refine Eq.trans (pl_str (by rfl)) ?_; (iterate 12 (refine yt yS ?_)); refine yt yI ?_; refine yt yA ?_; refine yt yI ?_; refine yt yA ?_; (iterate 2 (refine Eq.trans (pl_str (by rfl)) ?_)); refine yt yI ?_; refine yt yB ?_; (iterate 27 (refine yt yA ?_)); (iterate 31 (refine yt yS ?_))
  rfl
noncomputable def L8_0 (d : Nat) (a0 : List AV) (v8 : AV) (x11 : Int) : Nat → Int → Heap → Ans
  | 0, _, _ => none
  | n + 1, x18, H =>
  cnd (decide (x18 < x11))
   (C0.hop H (.ixAS .any 1 (.v (.lst a0)) (.v (iz x18))) fun v53 h54 =>
   C0.hop h54 (.load false 1 (.v v53)) fun v55 h56 =>
   C0.str (some v55) fun s57 =>
   cnd (decide ((((List.length s57) : Nat) : Int) > 500))
   (E8_0 d a0 v8 x11 true h56)
   (C0.cal M (pcall M d) 12 true 20 [v8] h56 fun v58 h59 =>
   C0.int .i64 (some v58) fun x60 =>
   cnd (x60 != (if ((1 : Int) < x18) then 1 else x18))
   (E8_0 d a0 v8 x11 false h59)
   (C0.cal M (pcall M d) 12 true 21 [v8, (.str s57)] h59 fun v61 h62 =>
   C0.int .u16 (some v61) fun x63 =>
   C0.int .u16 (pcall M d 10 [(.str s57)]) fun x64 =>
   cnd (x63 != x64)
   (E8_0 d a0 v8 x11 false h62)
   (C0.cal M (pcall M d) 12 true 22 [v8, (.str s57)] h62 fun v65 h66 =>
   C0.int .u32 (some v65) fun x67 =>
   C0.int .u32 (pcall M d 12 [(.str s57)]) fun x68 =>
   cnd (x67 != x68)
   (E8_0 d a0 v8 x11 false h66)
   (C0.cal M (pcall M d) 12 true 20 [v8] h66 fun v69 h70 =>
   C0.int .i64 (some v69) fun x71 =>
   cnd (x71 != 1)
   (E8_0 d a0 v8 x11 false h70)
   (L8_0 d a0 v8 x11 n (IntKind.wrap .i64 (x18 + 1)) h70))))))
   (X8_0_0 d a0 v8 x11 H)
theorem L8_0_s (d : Nat) (a0 : List AV) (v8 : AV) (x11 : Int) (n : Nat) (x18 : Int) (H : Heap) : L8_0 d a0 v8 x11 (n + 1) x18 H = (cnd (decide (x18 < x11))
   (C0.hop H (.ixAS .any 1 (.v (.lst a0)) (.v (iz x18))) fun v53 h54 =>
   C0.hop h54 (.load false 1 (.v v53)) fun v55 h56 =>
   C0.str (some v55) fun s57 =>
   cnd (decide ((((List.length s57) : Nat) : Int) > 500))
   (E8_0 d a0 v8 x11 true h56)
   (C0.cal M (pcall M d) 12 true 20 [v8] h56 fun v58 h59 =>
   C0.int .i64 (some v58) fun x60 =>
   cnd (x60 != (if ((1 : Int) < x18) then 1 else x18))
   (E8_0 d a0 v8 x11 false h59)
   (C0.cal M (pcall M d) 12 true 21 [v8, (.str s57)] h59 fun v61 h62 =>
   C0.int .u16 (some v61) fun x63 =>
   C0.int .u16 (pcall M d 10 [(.str s57)]) fun x64 =>
   cnd (x63 != x64)
   (E8_0 d a0 v8 x11 false h62)
   (C0.cal M (pcall M d) 12 true 22 [v8, (.str s57)] h62 fun v65 h66 =>
   C0.int .u32 (some v65) fun x67 =>
   C0.int .u32 (pcall M d 12 [(.str s57)]) fun x68 =>
   cnd (x67 != x68)
   (E8_0 d a0 v8 x11 false h66)
   (C0.cal M (pcall M d) 12 true 20 [v8] h66 fun v69 h70 =>
   C0.int .i64 (some v69) fun x71 =>
   cnd (x71 != 1)
   (E8_0 d a0 v8 x11 false h70)
   (L8_0 d a0 v8 x11 n (IntKind.wrap .i64 (x18 + 1)) h70))))))
   (X8_0_0 d a0 v8 x11 H)) := by kernel_rfl
theorem it8_0 (d : Nat) (a0 : List AV) (b0 : Bool) (x4 : Int) (v8 : AV) (x11 : Int)   : ∀ (n : Nat) (b15 : Bool) (v16 v17 : AV) (x18 : Int) (v19 v20 v21 v22 v23 v24 v25 v26 v27 v28 v29 v30 v31 v32 v33 v34 v35 v36 v37 v38 v39 v40 v41 v42 v43 v44 v45 v46 v47 v48 v49 v50 v51 v52 : AV) (H : Heap), C0.iter (r8R0 C0 d a0 b0 x4 v8 x11) n ⟨[(.lst a0), tz, (.bool b15), v8, v16, v17, tz, (.bool b0), (.bool (!b0)), bf, (.lst a0), (iz x4), (.bool (decide (x4 > 50))), bf, tz, v8, (.lst a0), (iz x11), (iz x18), v19, v20, v21, v22, v23, v24, v25, v26, v27, v28, v29, v30, v31, v32, v33, v34, v35, v36, v37, v38, v39, v40, v41, v42, v43, v44, v45, v46, v47, v48, v49, v50, v51, v52, tz, tz, tz, tz, tz, tz, tz, tz, tz, tz, tz, tz, tz, tz, tz, tz, tz, tz, tz, tz, tz, tz, tz, tz, tz, tz, tz, tz, tz, tz, tz], H⟩ [0] [r8X0_0 C0 d a0 b0 x4 v8 x11] (r8E0 C0 d a0 b0 x4 v8 x11) = L8_0 d a0 v8 x11 n x18 H := by
  generalize hR : r8R0 C0 d a0 b0 x4 v8 x11 = R
  intro n
  induction n with
  | zero => intros; rfl
  | succ n ih =>
    intro b15 v16 v17 x18 v19 v20 v21 v22 v23 v24 v25 v26 v27 v28 v29 v30 v31 v32 v33 v34 v35 v36 v37 v38 v39 v40 v41 v42 v43 v44 v45 v46 v47 v48 v49 v50 v51 v52 H
    simp only [it_ret] at ih
    rw [it_ret, xiter_s]
    refine Eq.trans (congrFun (congrFun hR.symm _) _) ?_
    unfold r8R0
    refine Eq.trans (pl_len (by rfl)) ?_; (iterate 2 (refine yt yS ?_)); refine yt yB ?_; refine yt yS ?_; (iterate 2 (refine yt yA ?_)); (iterate 12 (refine yt yS ?_)); refine yt yI ?_; (iterate 34 (refine yt yA ?_)); (iterate 31 (refine yt yS ?_))
    simp only [kIter_n, kIter_x, kIter_r, kOut_x, kOut_r, xgo_hit, xgo_miss, ih, X8_0_0_ok d a0 b0 x4 v8 x11  , E8_0_ok d a0 b0 x4 v8 x11  ]
    exact (L8_0_s d a0 v8 x11 n x18 H).symm
/-- apogee/apogeelaw04.CrcTables -/
theorem q8 (d : Nat) (a0 : List AV) : xcall C0 M unr d 8 [(.lst a0)] =
  C0.bool (pcall M d 9 []) fun b0 =>
  cnd (!b0)
   (C0.bool (pcall M d 9 []) fun b1 =>
   C0.fin [] (.bool b1))
   (C0.hop [] (.bk .lenV [(.v (.lst a0))]) fun v2 h3 =>
   C0.int .i64 (some v2) fun x4 =>
   cnd (decide (x4 > 50))
   (C0.bool (pcall M d 9 []) fun b5 =>
   C0.fin h3 (.bool b5))
   (C0.cal M (pcall M d) 12 true 15 [] h3 fun v6 h7 =>
   C0.any (some v6) fun v8 =>
   C0.hop h7 (.bk .lenV [(.v (.lst a0))]) fun v9 h10 =>
   C0.int .i64 (some v9) fun x11 =>
   L8_0 d a0 v8 x11 1000000000000000000 0 h10)) := (r8 C0 d a0).trans (by simp only [it8_0])
end Go.Proofs.Ytcegcmjkkflhhaa.AE

namespace Go.Proofs.Ytcegcmjkkflhhaa.AE
set_option linter.unusedVariables false
set_option linter.unusedSimpArgs false
set_option linter.constructorNameAsVariable false
open Go Go.Proofs.Ytcegcmjkkflhhaa.Geo
attribute [local irreducible] pcall C0 callB
set_option maxRecDepth 100000
theorem made_nil (d : Nat) (H : Heap) : callB M (pcall M d) 12 true 20 [.nilp] H = some (.int .i64 0, H) := by
  refine xmeth_ok (U := unr) (n := 11) rfl rfl rfl fun K => ?_
  refine (r20 C0 d _ 3 _ K).trans ?_
  refine Eq.trans t_nil0 ?_
  refine Eq.trans (pl_bool rfl) ?_
  exact pl_len rfl
theorem row16_nil (d : Nat) (H : Heap) (a : Int) : callB M (pcall M d) 12 true 16 [.nilp, .int .i64 a] H = some (.int .u16 0, H) := by
  refine xmeth_ok (U := unr) (n := 11) rfl rfl rfl fun K => ?_
  refine (r16 C0 d _ _ 3 _ K).trans ?_
  refine Eq.trans t_nil0 ?_
  refine Eq.trans (pl_bool rfl) ?_
  exact pl_len rfl
theorem row32_nil (d : Nat) (H : Heap) (a : Int) : callB M (pcall M d) 12 true 17 [.nilp, .int .i64 a] H = some (.int .u32 0, H) := by
  refine xmeth_ok (U := unr) (n := 11) rfl rfl rfl fun K => ?_
  refine (r17 C0 d _ _ 3 _ K).trans ?_
  refine Eq.trans t_nil0 ?_
  refine Eq.trans (pl_bool rfl) ?_
  exact pl_len rfl
theorem sum16_nil (d : Nat) (H : Heap) (s : List UInt8) : callB M (pcall M d) 12 true 21 [.nilp, .str s] H = some (.int .u16 0, H) := by
  refine xmeth_ok (U := unr) (n := 11) rfl rfl rfl fun K => ?_
  refine (q21 d _ _ 3 _ K).trans ?_
  refine Eq.trans t_nil0 ?_
  refine Eq.trans (pl_bool rfl) ?_
  exact pl_len rfl
theorem sum32_nil (d : Nat) (H : Heap) (s : List UInt8) : callB M (pcall M d) 12 true 22 [.nilp, .str s] H = some (.int .u32 0, H) := by
  refine xmeth_ok (U := unr) (n := 11) rfl rfl rfl fun K => ?_
  refine (q22 d _ _ 3 _ K).trans ?_
  refine Eq.trans t_nil0 ?_
  refine Eq.trans (pl_bool rfl) ?_
  exact pl_len rfl
theorem cnt_eq (n : Nat) : (bif decide (0 < n) then (1 : Int) else 0) = (if ((1 : Int) < ((n : Nat) : Int)) then 1 else ((n : Nat) : Int)) := by
  by_cases h : 0 < n
  · rw [decide_eq_true h, cond_true]
    by_cases h1 : (1 : Int) < ((n : Nat) : Int)
    · rw [if_pos h1]
    · rw [if_neg h1]; omega
  · have : n = 0 := by omega
    subst this; rfl
theorem tabs_go (l : List (List UInt8)) (hl : l.length ≤ 50) : ∀ (k i : Nat), i + k = l.length → ∀ (H : Heap) f, TabS H 0 (decide (0 < i)) → k < f →
    L8_0 40 (l.map AV.str) (.ptr 0 0 0) (l.length : Nat) f (i : Nat) H = some (.bool true)
  | 0, i, h, H, f + 1, hT, _ => by
    rw [L8_0_s, decide_eq_false (by omega), cnd_f]
    unfold X8_0_0
    refine Eq.trans (cal_eq (made_ok 40 hT)) ?_
    refine Eq.trans (pl_int rfl) ?_
    refine Eq.trans len_lst ?_
    refine Eq.trans (pl_int rfl) ?_
    rw [List.length_map, show i = l.length by omega, cnt_eq, beq_self_eq_true, cnd_t]
    refine Eq.trans (cal_eq (made_nil 40 _)) ?_
    refine Eq.trans (pl_int rfl) ?_
    refine Eq.trans (pl_len rfl) ?_
    refine Eq.trans (cal_eq (row16_nil 40 _ _)) ?_
    refine Eq.trans (pl_int rfl) ?_
    refine Eq.trans (pl_len rfl) ?_
    refine Eq.trans (cal_eq (row32_nil 40 _ _)) ?_
    refine Eq.trans (pl_int rfl) ?_
    refine Eq.trans (pl_len rfl) ?_
    refine Eq.trans (cal_eq (sum16_nil 40 _ _)) ?_
    refine Eq.trans (pl_int rfl) ?_
    refine Eq.trans (pl_len rfl) ?_
    refine Eq.trans (cal_eq (sum32_nil 40 _ _)) ?_
    refine Eq.trans (pl_int rfl) ?_
    exact fin_b
  | k + 1, i, h, H, f + 1, hT, hf => by
    have hi : i < l.length := by omega
    rw [L8_0_s, decide_eq_true (by omega), cnd_t]
    refine Eq.trans (ix_lst (x := .str l[i]) (by omega) (by rw [show (((i : Nat) : Int)).toNat = i by omega, List.getElem?_map, List.getElem?_eq_getElem hi]; rfl) rfl) ?_
    refine Eq.trans (ld_fptr (v := .str l[i]) rfl) ?_
    refine Eq.trans (pl_str rfl) ?_
    by_cases h5 : l[i].length > 500
    · rw [decide_eq_true (by omega), cnd_t]; exact fin_b
    rw [decide_eq_false (by omega), cnd_f]
    refine Eq.trans (cal_eq (made_ok 40 hT)) ?_
    refine Eq.trans (pl_int rfl) ?_
    rw [cnt_eq, bne_self_eq_false, cnd_f]
    obtain ⟨H2, e2, t2⟩ := tsum16_ok 39 hT l[i] (by omega)
    refine Eq.trans (cal_eq e2) ?_
    refine Eq.trans (pl_int rfl) ?_
    refine Eq.trans (pl_int (s10 37 _ (by omega))) ?_
    rw [bne_self_eq_false, cnd_f]
    obtain ⟨H3, e3, t3⟩ := tsum32_ok 39 t2 l[i] (by omega)
    refine Eq.trans (cal_eq e3) ?_
    refine Eq.trans (pl_int rfl) ?_
    refine Eq.trans (pl_int (s12 38 _ (by omega))) ?_
    rw [bne_self_eq_false, cnd_f]
    refine Eq.trans (cal_eq (made_ok 40 t3)) ?_
    refine Eq.trans (pl_int rfl) ?_
    refine Eq.trans (pl_f rfl) ?_
    rw [i64_up (by omega)]
    exact tabs_go l hl k (i + 1) (by omega) H3 f (by rw [decide_eq_true (by omega)]; exact t3) (by omega)
theorem tables_law (l : List (List UInt8)) : pcall M 41 8 [.lst (l.map AV.str)] = some (.bool true) := told (q8 40 _) (by
  refine Eq.trans (pl_bool awake) ?_
  refine Eq.trans (pl_f (by rfl)) ?_
  refine Eq.trans len_lst ?_
  refine Eq.trans (pl_int rfl) ?_
  rw [List.length_map]
  by_cases h : l.length > 50
  · rw [decide_eq_true (by omega), cnd_t]
    refine Eq.trans (pl_bool awake) ?_
    exact fin_b
  rw [decide_eq_false (by omega), cnd_f]
  obtain ⟨H1, n1, t1, _⟩ := new_ok 40 []
  refine Eq.trans (cal_eq n1) ?_
  refine Eq.trans (pl_any rfl) ?_
  refine Eq.trans len_lst ?_
  refine Eq.trans (pl_int rfl) ?_
  rw [List.length_map]
  exact tabs_go l (by omega) l.length 0 (by omega) H1 1000000000000000000 t1 (by omega))
theorem strs_of : ∀ l : List AV, (∀ x ∈ l, ∃ cs, cs = [x] ∧ CTall [.s] cs) → ∃ m : List (List UInt8), l = m.map AV.str
  | [], _ => ⟨[], rfl⟩
  | x :: l, h => by
    obtain ⟨m, rfl⟩ := strs_of l fun y hy => h y (List.mem_cons_of_mem _ hy)
    obtain ⟨_, rfl, _, _, e, ⟨s, rfl, _⟩, rfl⟩ := h x (List.mem_cons_self ..)
    injection e with e _
    subst e
    exact ⟨s :: m, rfl⟩
theorem law_CrcTables (a0 : AV) (w0 : TyOK false [(.sl false [.s])] a0) :
    pcall M 41 8 [a0] = some (.bool true) := by
  obtain ⟨_, rfl, _, _, e, ⟨l, rfl, _, hx⟩, rfl⟩ := w0
  injection e with e _
  subst e
  obtain ⟨m, rfl⟩ := strs_of l hx
  exact tables_law m
end Go.Proofs.Ytcegcmjkkflhhaa.AE
