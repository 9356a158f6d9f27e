/- The texts that the law CrcRows needs, part 0. No conditions. -/
import Derived.Test.YtcegcmjkkflhhaaMc2
namespace Go.Proofs.Ytcegcmjkkflhhaa.Geo
set_option linter.unusedVariables false
theorem xlc (x y z : BitVec 32) : x ^^^ (y ^^^ z) = y ^^^ (x ^^^ z) := by rw [← BitVec.xor_assoc, BitVec.xor_comm x y, BitVec.xor_assoc]
theorem st_xor (x y : BitVec 32) : st (x ^^^ y) = st x ^^^ st y := by
  unfold st
  rw [BitVec.ushiftRight_xor_distrib, BitVec.getLsbD_xor]
  cases x.getLsbD 0 <;> cases y.getLsbD 0 <;> simp [BitVec.xor_assoc, BitVec.xor_comm, xlc]
theorem stN_xor : ∀ (n : Nat) (x y : BitVec 32), stN n (x ^^^ y) = stN n x ^^^ stN n y
  | 0, x, y => rfl
  | n + 1, x, y => by simp only [stN, st_xor, stN_xor n]
end Go.Proofs.Ytcegcmjkkflhhaa.Geo

namespace Go.Proofs.Ytcegcmjkkflhhaa.AE
set_option linter.unusedVariables false
set_option linter.unusedSimpArgs false
set_option linter.constructorNameAsVariable false
open Go
set_option maxRecDepth 100000
def r18R0 (C : Cb) (d : Nat) : St → (Ex → St → Ans) → Ans := fun s0 k1 =>
 cnd ((List.length s0.env) == 16)
 (C.int .u16 s0.env[0]? fun x3 =>
 C.same s0.env[1]? tz <|
 C.same s0.env[2]? (.int .u16 0) <|
 C.int .i64 s0.env[3]? fun x4 =>
 C.any s0.env[4]? fun v5 =>
 C.any s0.env[5]? fun v6 =>
 C.any s0.env[6]? fun v7 =>
 C.any s0.env[7]? fun v8 =>
 C.any s0.env[8]? fun v9 =>
 C.any s0.env[9]? fun v10 =>
 C.any s0.env[10]? fun v11 =>
 C.any s0.env[11]? fun v12 =>
 C.any s0.env[12]? fun v13 =>
 C.any s0.env[13]? fun v14 =>
 C.any s0.env[14]? fun v15 =>
 C.same s0.env[15]? tz <|
 C.sameH (St.H s0) [] <|
 cnd (decide (x4 < 8))
 (cnd (decide (x3 ≥ 32768))
 (k1 .normal ⟨[(.int .u16 (bits .xor .u16 (IntKind.wrap .u16 (x3 * (2 ^ (min (Int.toNat 1) 16)))) 4129)), tz, (.int .u16 0), (iz (IntKind.wrap .i64 (x4 + 1))), (iz x4), bt, (iz x4), (iz (IntKind.wrap .i64 (x4 + 1))), (.int .u16 x3), bt, (.int .u16 x3), (.int .u16 (IntKind.wrap .u16 (x3 * (2 ^ (min (Int.toNat 1) 16))))), (.int .u16 (bits .xor .u16 (IntKind.wrap .u16 (x3 * (2 ^ (min (Int.toNat 1) 16)))) 4129)), v14, v15, tz], []⟩)
 (k1 .normal ⟨[(.int .u16 (IntKind.wrap .u16 (x3 * (2 ^ (min (Int.toNat 1) 16))))), tz, (.int .u16 0), (iz (IntKind.wrap .i64 (x4 + 1))), (iz x4), bt, (iz x4), (iz (IntKind.wrap .i64 (x4 + 1))), (.int .u16 x3), bf, v11, v12, v13, (.int .u16 x3), (.int .u16 (IntKind.wrap .u16 (x3 * (2 ^ (min (Int.toNat 1) 16))))), tz], []⟩))
 (k1 (.exit 0) ⟨[(.int .u16 x3), tz, (.int .u16 0), (iz x4), (iz x4), bf, v7, v8, v9, v10, v11, v12, v13, v14, v15, tz], []⟩))
 (none)
def r18X0_0 (C : Cb) (d : Nat) : St → Ans := fun s16 =>
 cnd ((List.length s16.env) == 16)
 (C.int .u16 s16.env[0]? fun x17 =>
 C.same s16.env[1]? tz <|
 C.same s16.env[2]? (.int .u16 0) <|
 C.int .i64 s16.env[3]? fun x18 =>
 C.int .i64 s16.env[4]? fun x19 =>
 C.bool s16.env[5]? fun b20 =>
 C.any s16.env[6]? fun v21 =>
 C.any s16.env[7]? fun v22 =>
 C.any s16.env[8]? fun v23 =>
 C.any s16.env[9]? fun v24 =>
 C.any s16.env[10]? fun v25 =>
 C.any s16.env[11]? fun v26 =>
 C.any s16.env[12]? fun v27 =>
 C.any s16.env[13]? fun v28 =>
 C.any s16.env[14]? fun v29 =>
 C.same s16.env[15]? tz <|
 C.sameH (St.H s16) [] <|
 some (.int .u16 x17))
 (none)
def r18E0 (C : Cb) (d : Nat) : St → Ans := fun s2 =>
 cnd ((List.length s2.env) == 16)
 (C.int .u16 s2.env[0]? fun x30 =>
 C.same s2.env[1]? tz <|
 C.same s2.env[2]? (.int .u16 0) <|
 C.int .i64 s2.env[3]? fun x31 =>
 C.any s2.env[4]? fun v32 =>
 C.any s2.env[5]? fun v33 =>
 C.any s2.env[6]? fun v34 =>
 C.any s2.env[7]? fun v35 =>
 C.any s2.env[8]? fun v36 =>
 C.any s2.env[9]? fun v37 =>
 C.any s2.env[10]? fun v38 =>
 C.any s2.env[11]? fun v39 =>
 C.any s2.env[12]? fun v40 =>
 C.any s2.env[13]? fun v41 =>
 C.any s2.env[14]? fun v42 =>
 C.same s2.env[15]? tz <|
 C.sameH (St.H s2) [] <|
 some (.int .u16 0))
 (none)
/-- apogee/apogeeref04.Step16 -/
theorem r18 (C : Cb) (d : Nat) (a0 : Int) : xcall C M unr d 18 [(.int .u16 a0)] =
 C.iter (r18R0 C d) 1000000000000000000 ⟨[(.int .u16 a0), tz, (.int .u16 0), (iz 0), tz, tz, tz, tz, tz, tz, tz, tz, tz, tz, tz, tz], []⟩ [0] [r18X0_0 C d] (r18E0 C d) := by kernel_rfl
end Go.Proofs.Ytcegcmjkkflhhaa.AE

namespace Go.Proofs.Ytcegcmjkkflhhaa.AE
set_option linter.unusedVariables false
set_option linter.unusedSimpArgs false
set_option linter.constructorNameAsVariable false
open Go
set_option maxRecDepth 100000
set_option maxHeartbeats 0
noncomputable def X18_0_0 (d : Nat)  (x17 : Int) : Ans :=
  some (.int .u16 x17)
theorem X18_0_0_ok (d : Nat)    (x17 x18 x19 : Int) (b20 : Bool) (v21 v22 v23 v24 v25 v26 v27 v28 v29 : AV) : r18X0_0 C0 d  ⟨[(.int .u16 x17), tz, (.int .u16 0), (iz x18), (iz x19), (.bool b20), v21, v22, v23, v24, v25, v26, v27, v28, v29, tz], []⟩ = X18_0_0 d  x17 := by
  unfold r18X0_0; refine Eq.trans (pl_len (by rfl)) ?_; refine yt yI ?_; (iterate 2 (refine yt yS ?_)); (iterate 2 (refine yt yI ?_)); refine yt yB ?_; (iterate 9 (refine yt yA ?_)); refine yt yS ?_; refine Eq.trans (pl_sameH) ?_
  rfl
noncomputable def E18_0 (d : Nat)   : Ans :=
  some (.int .u16 0)
theorem E18_0_ok (d : Nat)    (x30 x31 : Int) (v32 v33 v34 v35 v36 v37 v38 v39 v40 v41 v42 : AV) : r18E0 C0 d  ⟨[(.int .u16 x30), tz, (.int .u16 0), (iz x31), v32, v33, v34, v35, v36, v37, v38, v39, v40, v41, v42, tz], []⟩ = E18_0 d   := by
  unfold r18E0; refine Eq.trans (pl_len (by rfl)) ?_; refine yt yI ?_; (iterate 2 (refine yt yS ?_)); refine yt yI ?_; (iterate 11 (refine yt yA ?_)); refine yt yS ?_; refine Eq.trans (pl_sameH) ?_
  rfl
noncomputable def L18_0 (d : Nat)  : Nat → Int → Int → Ans
  | 0, _, _ => none
  | n + 1, x3, x4 =>
  cnd (decide (x4 < 8))
   (cnd (decide (x3 ≥ 32768))
   (L18_0 d n (bits .xor .u16 (IntKind.wrap .u16 (x3 * (2 ^ (min (Int.toNat 1) 16)))) 4129) (IntKind.wrap .i64 (x4 + 1)))
   (L18_0 d n (IntKind.wrap .u16 (x3 * (2 ^ (min (Int.toNat 1) 16)))) (IntKind.wrap .i64 (x4 + 1))))
   (X18_0_0 d x3)
theorem L18_0_s (d : Nat)  (n : Nat) (x3 x4 : Int) : L18_0 d  (n + 1) x3 x4 = (cnd (decide (x4 < 8))
   (cnd (decide (x3 ≥ 32768))
   (L18_0 d n (bits .xor .u16 (IntKind.wrap .u16 (x3 * (2 ^ (min (Int.toNat 1) 16)))) 4129) (IntKind.wrap .i64 (x4 + 1)))
   (L18_0 d n (IntKind.wrap .u16 (x3 * (2 ^ (min (Int.toNat 1) 16)))) (IntKind.wrap .i64 (x4 + 1))))
   (X18_0_0 d x3)) := by kernel_rfl
theorem it18_0 (d : Nat)    : ∀ (n : Nat) (x3 x4 : Int) (v5 v6 v7 v8 v9 v10 v11 v12 v13 v14 v15 : AV), C0.iter (r18R0 C0 d ) n ⟨[(.int .u16 x3), tz, (.int .u16 0), (iz x4), v5, v6, v7, v8, v9, v10, v11, v12, v13, v14, v15, tz], []⟩ [0] [r18X0_0 C0 d ] (r18E0 C0 d ) = L18_0 d  n x3 x4 := by
  generalize hR : r18R0 C0 d  = R
  intro n
  induction n with
  | zero => intros; rfl
  | succ n ih =>
    intro x3 x4 v5 v6 v7 v8 v9 v10 v11 v12 v13 v14 v15
    simp only [it_ret] at ih
    rw [it_ret, xiter_s]
    refine Eq.trans (congrFun (congrFun hR.symm _) _) ?_
    unfold r18R0
    refine Eq.trans (pl_len (by rfl)) ?_; refine yt yI ?_; (iterate 2 (refine yt yS ?_)); refine yt yI ?_; (iterate 11 (refine yt yA ?_)); refine yt yS ?_; refine Eq.trans (pl_sameH) ?_
    simp only [kIter_n, kIter_x, kIter_r, kOut_x, kOut_r, xgo_hit, xgo_miss, ih, X18_0_0_ok d   , E18_0_ok d   ]
    exact (L18_0_s d  n x3 x4).symm
/-- apogee/apogeeref04.Step16 -/
theorem q18 (d : Nat) (a0 : Int) : xcall C0 M unr d 18 [(.int .u16 a0)] =
  L18_0 d 1000000000000000000 a0 0 := (r18 C0 d a0).trans (by simp only [it18_0])
end Go.Proofs.Ytcegcmjkkflhhaa.AE

namespace Go.Proofs.Ytcegcmjkkflhhaa.AE
set_option linter.unusedVariables false
set_option linter.unusedSimpArgs false
set_option linter.constructorNameAsVariable false
open Go Go.Proofs.Ytcegcmjkkflhhaa.Geo
attribute [local irreducible] pcall C0
set_option maxRecDepth 100000
theorem w16_top (x : BitVec 16) : (decide (w16 x ≥ 32768)) = x.getLsbD 15 := by
  have h := BitVec.msb_eq_decide x
  rw [BitVec.msb_eq_getLsbD_last] at h
  rw [h, decide_eq_decide]
  show (x.toNat : Int) ≥ 32768 ↔ 2 ^ (16 - 1) ≤ x.toNat
  omega
theorem hstep_go' (d : Nat) : ∀ (k i : Nat), i + k = 8 → ∀ (x : BitVec 16) f, k < f → L18_0 d f (w16 x) (i : Nat) = some (.int .u16 (w16 (shN k x)))
  | 0, i, h, x, f + 1, _ => by
    rw [L18_0_s, decide_eq_false (by omega), cnd_f]; rfl
  | k + 1, i, h, x, f + 1, hf => by
    rw [L18_0_s, decide_eq_true (by omega), cnd_t, w16_top, w16_dbl, w16_poly, i64_up (by omega), shN, sh_eq]
    cases x.getLsbD 15
    · rw [cnd_f, cond_false]; exact hstep_go' d k (i + 1) (by omega) _ f (by omega)
    · rw [cnd_t, cond_true]; exact hstep_go' d k (i + 1) (by omega) _ f (by omega)
theorem s18 (d : Nat) (x : BitVec 16) : pcall M (d + 1) 18 [.int .u16 (w16 x)] = some (.int .u16 (w16 (shN 8 x))) := told (q18 d _) (hstep_go' d 8 0 rfl x 1000000000000000000 (by omega))
end Go.Proofs.Ytcegcmjkkflhhaa.AE

namespace Go.Proofs.Ytcegcmjkkflhhaa.AE
set_option linter.unusedVariables false
set_option linter.unusedSimpArgs false
set_option linter.constructorNameAsVariable false
open Go
set_option maxRecDepth 100000
/-- apogee/apogeelaw04.CrcRows -/
theorem r5 (C : Cb) (d : Nat) (a0 a1 : Int) : xcall C M unr d 5 [(iz a0), (iz a1)] =
 cnd (decide (a0 ≥ 0))
 (C.cal M (pcall M d) 12 true 15 [] [] fun v0 h1 =>
 C.any (some v0) fun v2 =>
 C.bool (pcall M d 9 []) fun b3 =>
 cnd (!b3)
 (C.fin h1 bf)
 (C.cal M (pcall M d) 12 true 16 [v2, (iz (bits .and .i64 a0 255))] h1 fun v4 h5 =>
 C.int .u16 (some v4) fun x6 =>
 C.cal M (pcall M d) 12 true 16 [v2, (iz (bits .and .i64 a1 255))] h5 fun v7 h8 =>
 C.int .u16 (some v7) fun x9 =>
 C.cal M (pcall M d) 12 true 16 [v2, (iz (bits .xor .i64 (bits .and .i64 a0 255) (bits .and .i64 a1 255)))] h8 fun v10 h11 =>
 C.int .u16 (some v10) fun x12 =>
 cnd ((bits .xor .u16 x6 x9) != x12)
 (C.fin h11 bf)
 (C.cal M (pcall M d) 12 true 17 [v2, (iz (bits .and .i64 a0 255))] h11 fun v13 h14 =>
 C.int .u32 (some v13) fun x15 =>
 C.cal M (pcall M d) 12 true 17 [v2, (iz (bits .and .i64 a1 255))] h14 fun v16 h17 =>
 C.int .u32 (some v16) fun x18 =>
 C.cal M (pcall M d) 12 true 17 [v2, (iz (bits .xor .i64 (bits .and .i64 a0 255) (bits .and .i64 a1 255)))] h17 fun v19 h20 =>
 C.int .u32 (some v19) fun x21 =>
 cnd ((bits .xor .u32 x15 x18) != x21)
 (C.fin h20 bf)
 (cnd (!(decide (a0 < 256)))
 (C.cal M (pcall M d) 12 true 16 [v2, (iz a0)] h20 fun v22 h23 =>
 C.int .u16 (some v22) fun x24 =>
 cnd (x24 == 0)
 (C.cal M (pcall M d) 12 true 17 [v2, (iz a0)] h23 fun v25 h26 =>
 C.int .u32 (some v25) fun x27 =>
 C.fin h26 (.bool (x27 == 0)))
 (C.fin h23 bf))
 (C.cal M (pcall M d) 12 true 16 [v2, (iz a0)] h20 fun v28 h29 =>
 C.int .u16 (some v28) fun x30 =>
 C.int .u16 (pcall M d 18 [(.int .u16 (IntKind.wrap .u16 ((IntKind.wrap .u16 a0) * (2 ^ (min (Int.toNat 8) 16)))))]) fun x31 =>
 cnd (x30 == x31)
 (C.cal M (pcall M d) 12 true 17 [v2, (iz a0)] h29 fun v32 h33 =>
 C.int .u32 (some v32) fun x34 =>
 C.int .u32 (pcall M d 19 [(.int .u32 (IntKind.wrap .u32 a0))]) fun x35 =>
 C.fin h33 (.bool (x34 == x35)))
 (C.fin h29 bf))))))
 (C.cal M (pcall M d) 12 true 15 [] [] fun v36 h37 =>
 C.any (some v36) fun v38 =>
 C.bool (pcall M d 9 []) fun b39 =>
 cnd (!b39)
 (C.fin h37 bf)
 (C.cal M (pcall M d) 12 true 16 [v38, (iz (bits .and .i64 a0 255))] h37 fun v40 h41 =>
 C.int .u16 (some v40) fun x42 =>
 C.cal M (pcall M d) 12 true 16 [v38, (iz (bits .and .i64 a1 255))] h41 fun v43 h44 =>
 C.int .u16 (some v43) fun x45 =>
 C.cal M (pcall M d) 12 true 16 [v38, (iz (bits .xor .i64 (bits .and .i64 a0 255) (bits .and .i64 a1 255)))] h44 fun v46 h47 =>
 C.int .u16 (some v46) fun x48 =>
 cnd ((bits .xor .u16 x42 x45) != x48)
 (C.fin h47 bf)
 (C.cal M (pcall M d) 12 true 17 [v38, (iz (bits .and .i64 a0 255))] h47 fun v49 h50 =>
 C.int .u32 (some v49) fun x51 =>
 C.cal M (pcall M d) 12 true 17 [v38, (iz (bits .and .i64 a1 255))] h50 fun v52 h53 =>
 C.int .u32 (some v52) fun x54 =>
 C.cal M (pcall M d) 12 true 17 [v38, (iz (bits .xor .i64 (bits .and .i64 a0 255) (bits .and .i64 a1 255)))] h53 fun v55 h56 =>
 C.int .u32 (some v55) fun x57 =>
 cnd ((bits .xor .u32 x51 x54) != x57)
 (C.fin h56 bf)
 (C.cal M (pcall M d) 12 true 16 [v38, (iz a0)] h56 fun v58 h59 =>
 C.int .u16 (some v58) fun x60 =>
 cnd (x60 == 0)
 (C.cal M (pcall M d) 12 true 17 [v38, (iz a0)] h59 fun v61 h62 =>
 C.int .u32 (some v61) fun x63 =>
 C.fin h62 (.bool (x63 == 0)))
 (C.fin h59 bf))))) := by kernel_rfl
end Go.Proofs.Ytcegcmjkkflhhaa.AE

namespace Go.Proofs.Ytcegcmjkkflhhaa.AE
set_option linter.unusedVariables false
set_option linter.unusedSimpArgs false
set_option linter.constructorNameAsVariable false
open Go Go.Proofs.Ytcegcmjkkflhhaa.Geo
attribute [local irreducible] pcall C0 callB
set_option maxRecDepth 100000
theorem R16_xor (a b : Nat) : R16 (a ^^^ b) = R16 a ^^^ R16 b := by
  unfold R16
  rw [up8_16, up8_16, up8_16, ← ofNat_xor, BitVec.shiftLeft_xor_distrib, shN_xor]
theorem R32_xor (a b : Nat) : R32 (a ^^^ b) = R32 a ^^^ R32 b := by
  unfold R32
  rw [← ofNat_xor, stN_xor]
theorem i64_and255 (a : Int) : ∃ n : Nat, n < 256 ∧ Go.bits .and .i64 a 255 = (n : Int) := by
  have e : Go.bits .and .i64 a 255 = IntKind.wrap .i64 ((BitVec.ofInt 64 a &&& BitVec.ofInt 64 255).toNat : Int) := rfl
  rw [e, BitVec.toNat_and, show (BitVec.ofInt 64 255).toNat = 2 ^ 8 - 1 from rfl, Nat.and_two_pow_sub_one_eq_mod]
  refine ⟨(BitVec.ofInt 64 a).toNat % 2 ^ 8, Nat.mod_lt _ (by decide), ?_⟩
  have := Nat.mod_lt (BitVec.ofInt 64 a).toNat (show 2 ^ 8 > 0 by decide)
  rw [i64_small (by omega) (by omega)]
theorem i64_xor8 {a b : Nat} (ha : a < 256) (hb : b < 256) : Go.bits .xor .i64 (a : Int) (b : Int) = ((a ^^^ b : Nat) : Int) := by
  show IntKind.i64.wrap ((BitVec.ofInt 64 (a : Int) ^^^ BitVec.ofInt 64 (b : Int)).toNat : Int) = _
  rw [BitVec.ofInt_natCast, BitVec.ofInt_natCast, BitVec.toNat_xor, BitVec.toNat_ofNat, BitVec.toNat_ofNat, Nat.mod_eq_of_lt (by omega), Nat.mod_eq_of_lt (by omega)]
  have := Nat.xor_lt_two_pow (n := 8) ha hb
  rw [i64_small (by omega) (by omega)]
theorem rows_tail (a b : Int) (K : AV → Heap → Ans) (hK : ∀ H, TabS H 0 true → K (.ptr 0 0 0) H = some (.bool true)) : (C0.cal M (pcall M 40) 12 true 15 [] [] fun v0 h1 =>
    C0.any (some v0) fun v2 =>
    C0.bool (pcall M 40 9 []) fun b3 =>
    cnd (!b3)
     (C0.fin h1 (.bool false))
     (C0.cal M (pcall M 40) 12 true 16 [v2, (.int .i64 (Go.bits .and .i64 a 255))] h1 fun v4 h5 =>
      C0.int .u16 (some v4) fun x6 =>
      C0.cal M (pcall M 40) 12 true 16 [v2, (.int .i64 (Go.bits .and .i64 b 255))] h5 fun v7 h8 =>
      C0.int .u16 (some v7) fun x9 =>
      C0.cal M (pcall M 40) 12 true 16 [v2, (.int .i64 (Go.bits .xor .i64 (Go.bits .and .i64 a 255) (Go.bits .and .i64 b 255)))] h8 fun v10 h11 =>
      C0.int .u16 (some v10) fun x12 =>
      cnd ((Go.bits .xor .u16 x6 x9) != x12)
       (C0.fin h11 (.bool false))
       (C0.cal M (pcall M 40) 12 true 17 [v2, (.int .i64 (Go.bits .and .i64 a 255))] h11 fun v13 h14 =>
        C0.int .u32 (some v13) fun x15 =>
        C0.cal M (pcall M 40) 12 true 17 [v2, (.int .i64 (Go.bits .and .i64 b 255))] h14 fun v16 h17 =>
        C0.int .u32 (some v16) fun x18 =>
        C0.cal M (pcall M 40) 12 true 17 [v2, (.int .i64 (Go.bits .xor .i64 (Go.bits .and .i64 a 255) (Go.bits .and .i64 b 255)))] h17 fun v19 h20 =>
        C0.int .u32 (some v19) fun x21 =>
        cnd ((Go.bits .xor .u32 x15 x18) != x21)
         (C0.fin h20 (.bool false))
         (K v2 h20)))) = some (.bool true) := by
  obtain ⟨H1, n1, t1, _⟩ := new_ok 40 []
  refine Eq.trans (cal_eq n1) ?_
  refine Eq.trans (pl_any rfl) ?_
  refine Eq.trans (pl_bool awake) ?_
  refine Eq.trans (pl_f (by rfl)) ?_
  obtain ⟨m, hm, em⟩ := i64_and255 a
  obtain ⟨n, hn, en⟩ := i64_and255 b
  rw [em, en, i64_xor8 hm hn]
  have hx := Nat.xor_lt_two_pow (n := 8) hm hn
  obtain ⟨H2, e2, t2, _⟩ := row16_in 39 t1 (a := (m : Int)) (by omega) (by omega)
  refine Eq.trans (cal_eq e2) ?_
  refine Eq.trans (pl_int rfl) ?_
  obtain ⟨H3, e3, t3, _⟩ := row16_in 39 t2 (a := (n : Int)) (by omega) (by omega)
  refine Eq.trans (cal_eq e3) ?_
  refine Eq.trans (pl_int rfl) ?_
  obtain ⟨H4, e4, t4, _⟩ := row16_in 39 t3 (a := ((m ^^^ n : Nat) : Int)) (by omega) (by omega)
  refine Eq.trans (cal_eq e4) ?_
  refine Eq.trans (pl_int rfl) ?_
  simp only [Int.toNat_natCast]
  rw [u16_xor, R16_xor, bne_self_eq_false, cnd_f]
  obtain ⟨H5, e5, t5, _⟩ := row32_in 39 t4 (a := (m : Int)) (by omega) (by omega)
  refine Eq.trans (cal_eq e5) ?_
  refine Eq.trans (pl_int rfl) ?_
  obtain ⟨H6, e6, t6, _⟩ := row32_in 39 t5 (a := (n : Int)) (by omega) (by omega)
  refine Eq.trans (cal_eq e6) ?_
  refine Eq.trans (pl_int rfl) ?_
  obtain ⟨H7, e7, t7, _⟩ := row32_in 39 t6 (a := ((m ^^^ n : Nat) : Int)) (by omega) (by omega)
  refine Eq.trans (cal_eq e7) ?_
  refine Eq.trans (pl_int rfl) ?_
  simp only [Int.toNat_natCast]
  rw [u32_xor, R32_xor, bne_self_eq_false, cnd_f]
  exact hK _ t7
theorem rows_out {a : Int} (ha : ¬ (0 ≤ a ∧ a < 256)) (H : Heap) : (C0.cal M (pcall M 40) 12 true 16 [.ptr 0 0 0, (.int .i64 a)] H fun v22 h23 =>
            C0.int .u16 (some v22) fun x24 =>
            cnd (x24 == 0)
             (C0.cal M (pcall M 40) 12 true 17 [.ptr 0 0 0, (.int .i64 a)] h23 fun v25 h26 =>
              C0.int .u32 (some v25) fun x27 =>
              C0.fin h26 (.bool (x27 == 0)))
             (C0.fin h23 (.bool false))) = some (.bool true) := by
  refine Eq.trans (cal_eq (row16_out 40 ha)) ?_
  refine Eq.trans (pl_int rfl) ?_
  refine Eq.trans (pl_len rfl) ?_
  refine Eq.trans (cal_eq (row32_out 40 ha)) ?_
  refine Eq.trans (pl_int rfl) ?_
  exact fin_b
theorem rows_law (a b : Int) : pcall M 41 5 [.int .i64 a, .int .i64 b] = some (.bool true) := told (r5 C0 40 _ _) (by
  by_cases h0 : a ≥ 0
  · rw [decide_eq_true h0, cnd_t]
    refine rows_tail a b (fun v2 h20 => cnd (!(decide (a < 256))) _ _) fun H tH => ?_
    by_cases h1 : a < 256
    · rw [decide_eq_true h1]
      refine Eq.trans (pl_f (by rfl)) ?_
      obtain ⟨n, rfl⟩ := Int.eq_ofNat_of_zero_le h0
      obtain ⟨H2, e2, t2, _⟩ := row16_in 39 tH (a := (n : Int)) h0 h1
      refine Eq.trans (cal_eq e2) ?_
      refine Eq.trans (pl_int rfl) ?_
      rw [w16_up8 n (by omega)]
      refine Eq.trans (pl_int (s18 39 _)) ?_
      simp only [Int.toNat_natCast]
      refine Eq.trans (pl_len (beq_self_eq_true _)) ?_
      obtain ⟨H3, e3, t3, _⟩ := row32_in 39 t2 (a := (n : Int)) h0 h1
      refine Eq.trans (cal_eq e3) ?_
      refine Eq.trans (pl_int rfl) ?_
      have e32 : IntKind.wrap .u32 ((n : Nat) : Int) = w32 (BitVec.ofNat 32 n) := by
        show _ = ((BitVec.ofNat 32 n).toNat : Int)
        rw [u32w, BitVec.toNat_ofNat]; omega
      rw [e32]
      refine Eq.trans (pl_int (s19 39 _)) ?_
      simp only [Int.toNat_natCast]
      refine fin_b.trans ?_
      rw [show w32 (R32 n) = w32 (stN 8 (BitVec.ofNat 32 n)) from rfl, beq_self_eq_true]
    · rw [decide_eq_false h1]
      refine Eq.trans (pl_len (by rfl)) ?_
      exact rows_out (by omega) H
  · rw [decide_eq_false h0, cnd_f]
    exact rows_tail a b (fun v2 h20 => _) fun H tH => rows_out (by omega) H)
theorem law_CrcRows (a0 : Int) (a1 : Int) (w0 : (Lit.int .i64 a0).wf = true) (w1 : (Lit.int .i64 a1).wf = true) :
    pcall M 41 5 [.int .i64 a0, .int .i64 a1] = some (.bool true) := rows_law a0 a1
end Go.Proofs.Ytcegcmjkkflhhaa.AE
