/- The texts that the law CrcTells needs, part 0. No conditions. -/
import Derived.Test.YtcegcmjkkflhhaaMc2
namespace Go.Proofs.Ytcegcmjkkflhhaa.AE
set_option linter.unusedVariables false
set_option linter.unusedSimpArgs false
set_option linter.constructorNameAsVariable false
open Go
set_option maxRecDepth 100000
def r11R0 (C : Cb) (d : Nat) (a1 : List UInt8) : St → (Ex → St → Ans) → Ans := fun s0 k1 =>
 cnd ((List.length s0.env) == 21)
 (C.int .u16 s0.env[0]? fun x3 =>
 C.same s0.env[1]? (.str a1) <|
 C.same s0.env[2]? tz <|
 C.same s0.env[3]? tz <|
 C.same s0.env[4]? (.int .u16 0) <|
 C.int .i64 s0.env[5]? fun x4 =>
 C.any s0.env[6]? fun v5 =>
 C.any s0.env[7]? fun v6 =>
 C.any s0.env[8]? fun v7 =>
 C.any s0.env[9]? fun v8 =>
 C.any s0.env[10]? fun v9 =>
 C.any s0.env[11]? fun v10 =>
 C.any s0.env[12]? fun v11 =>
 C.any s0.env[13]? fun v12 =>
 C.any s0.env[14]? fun v13 =>
 C.any s0.env[15]? fun v14 =>
 C.any s0.env[16]? fun v15 =>
 C.any s0.env[17]? fun v16 =>
 C.any s0.env[18]? fun v17 =>
 C.any s0.env[19]? fun v18 =>
 C.same s0.env[20]? tz <|
 C.sameH (St.H s0) [] <|
 cnd (decide (x4 < (((List.length a1) : Nat) : Int)))
 (cnd (decide ((0 : Int) ≤ x4))
 (C.int .u8 (Option.map (fun b : UInt8 => AV.int .u8 (b.toNat : Int)) a1[(Int.toNat x4)]?) fun x19 =>
 C.int .u16 (pcall M d 18 [(.int .u16 (bits .xor .u16 x3 (IntKind.wrap .u16 ((IntKind.wrap .u16 x19) * (2 ^ (min (Int.toNat 8) 16))))))]) fun x20 =>
 k1 .normal ⟨[(.int .u16 x20), (.str a1), tz, tz, (.int .u16 0), (iz (IntKind.wrap .i64 (x4 + 1))), (iz x4), (.str a1), (iz (((List.length a1) : Nat) : Int)), bt, (iz x4), (iz (IntKind.wrap .i64 (x4 + 1))), (.int .u16 x3), (.str a1), (iz x4), (.int .u8 x19), (.int .u16 (IntKind.wrap .u16 x19)), (.int .u16 (IntKind.wrap .u16 ((IntKind.wrap .u16 x19) * (2 ^ (min (Int.toNat 8) 16))))), (.int .u16 (bits .xor .u16 x3 (IntKind.wrap .u16 ((IntKind.wrap .u16 x19) * (2 ^ (min (Int.toNat 8) 16)))))), (.int .u16 x20), tz], []⟩)
 (none))
 (k1 (.exit 0) ⟨[(.int .u16 x3), (.str a1), tz, tz, (.int .u16 0), (iz x4), (iz x4), (.str a1), (iz (((List.length a1) : Nat) : Int)), bf, v9, v10, v11, v12, v13, v14, v15, v16, v17, v18, tz], []⟩))
 (none)
def r11X0_0 (C : Cb) (d : Nat) (a1 : List UInt8) : St → Ans := fun s21 =>
 cnd ((List.length s21.env) == 21)
 (C.int .u16 s21.env[0]? fun x22 =>
 C.same s21.env[1]? (.str a1) <|
 C.same s21.env[2]? tz <|
 C.same s21.env[3]? tz <|
 C.same s21.env[4]? (.int .u16 0) <|
 C.int .i64 s21.env[5]? fun x23 =>
 C.int .i64 s21.env[6]? fun x24 =>
 C.str s21.env[7]? fun s25 =>
 C.int .i64 s21.env[8]? fun x26 =>
 C.bool s21.env[9]? fun b27 =>
 C.any s21.env[10]? fun v28 =>
 C.any s21.env[11]? fun v29 =>
 C.any s21.env[12]? fun v30 =>
 C.any s21.env[13]? fun v31 =>
 C.any s21.env[14]? fun v32 =>
 C.any s21.env[15]? fun v33 =>
 C.any s21.env[16]? fun v34 =>
 C.any s21.env[17]? fun v35 =>
 C.any s21.env[18]? fun v36 =>
 C.any s21.env[19]? fun v37 =>
 C.same s21.env[20]? tz <|
 C.sameH (St.H s21) [] <|
 some (.int .u16 x22))
 (none)
def r11E0 (C : Cb) (d : Nat) (a1 : List UInt8) : St → Ans := fun s2 =>
 cnd ((List.length s2.env) == 21)
 (C.int .u16 s2.env[0]? fun x38 =>
 C.same s2.env[1]? (.str a1) <|
 C.same s2.env[2]? tz <|
 C.same s2.env[3]? tz <|
 C.same s2.env[4]? (.int .u16 0) <|
 C.int .i64 s2.env[5]? fun x39 =>
 C.any s2.env[6]? fun v40 =>
 C.any s2.env[7]? fun v41 =>
 C.any s2.env[8]? fun v42 =>
 C.any s2.env[9]? fun v43 =>
 C.any s2.env[10]? fun v44 =>
 C.any s2.env[11]? fun v45 =>
 C.any s2.env[12]? fun v46 =>
 C.any s2.env[13]? fun v47 =>
 C.any s2.env[14]? fun v48 =>
 C.any s2.env[15]? fun v49 =>
 C.any s2.env[16]? fun v50 =>
 C.any s2.env[17]? fun v51 =>
 C.any s2.env[18]? fun v52 =>
 C.any s2.env[19]? fun v53 =>
 C.same s2.env[20]? tz <|
 C.sameH (St.H s2) [] <|
 some (.int .u16 0))
 (none)
/-- apogee/apogeeref04.More16 -/
theorem r11 (C : Cb) (d : Nat) (a0 : Int) (a1 : List UInt8) : xcall C M unr d 11 [(.int .u16 a0), (.str a1)] =
 C.iter (r11R0 C d a1) 1000000000000000000 ⟨[(.int .u16 a0), (.str a1), tz, tz, (.int .u16 0), (iz 0), tz, tz, tz, tz, tz, tz, tz, tz, tz, tz, tz, tz, tz, tz, tz], []⟩ [0] [r11X0_0 C d a1] (r11E0 C d a1) := by kernel_rfl
def r18R0 (C : Cb) (d : Nat) : St → (Ex → St → Ans) → Ans := fun s0 k1 =>
 cnd ((List.length s0.env) == 16)
 (C.int .u16 s0.env[0]? fun x3 =>
 C.same s0.env[1]? tz <|
 C.same s0.env[2]? (.int .u16 0) <|
 C.int .i64 s0.env[3]? fun x4 =>
 C.any s0.env[4]? fun v5 =>
 C.any s0.env[5]? fun v6 =>
 C.any s0.env[6]? fun v7 =>
 C.any s0.env[7]? fun v8 =>
 C.any s0.env[8]? fun v9 =>
 C.any s0.env[9]? fun v10 =>
 C.any s0.env[10]? fun v11 =>
 C.any s0.env[11]? fun v12 =>
 C.any s0.env[12]? fun v13 =>
 C.any s0.env[13]? fun v14 =>
 C.any s0.env[14]? fun v15 =>
 C.same s0.env[15]? tz <|
 C.sameH (St.H s0) [] <|
 cnd (decide (x4 < 8))
 (cnd (decide (x3 ≥ 32768))
 (k1 .normal ⟨[(.int .u16 (bits .xor .u16 (IntKind.wrap .u16 (x3 * (2 ^ (min (Int.toNat 1) 16)))) 4129)), tz, (.int .u16 0), (iz (IntKind.wrap .i64 (x4 + 1))), (iz x4), bt, (iz x4), (iz (IntKind.wrap .i64 (x4 + 1))), (.int .u16 x3), bt, (.int .u16 x3), (.int .u16 (IntKind.wrap .u16 (x3 * (2 ^ (min (Int.toNat 1) 16))))), (.int .u16 (bits .xor .u16 (IntKind.wrap .u16 (x3 * (2 ^ (min (Int.toNat 1) 16)))) 4129)), v14, v15, tz], []⟩)
 (k1 .normal ⟨[(.int .u16 (IntKind.wrap .u16 (x3 * (2 ^ (min (Int.toNat 1) 16))))), tz, (.int .u16 0), (iz (IntKind.wrap .i64 (x4 + 1))), (iz x4), bt, (iz x4), (iz (IntKind.wrap .i64 (x4 + 1))), (.int .u16 x3), bf, v11, v12, v13, (.int .u16 x3), (.int .u16 (IntKind.wrap .u16 (x3 * (2 ^ (min (Int.toNat 1) 16))))), tz], []⟩))
 (k1 (.exit 0) ⟨[(.int .u16 x3), tz, (.int .u16 0), (iz x4), (iz x4), bf, v7, v8, v9, v10, v11, v12, v13, v14, v15, tz], []⟩))
 (none)
def r18X0_0 (C : Cb) (d : Nat) : St → Ans := fun s16 =>
 cnd ((List.length s16.env) == 16)
 (C.int .u16 s16.env[0]? fun x17 =>
 C.same s16.env[1]? tz <|
 C.same s16.env[2]? (.int .u16 0) <|
 C.int .i64 s16.env[3]? fun x18 =>
 C.int .i64 s16.env[4]? fun x19 =>
 C.bool s16.env[5]? fun b20 =>
 C.any s16.env[6]? fun v21 =>
 C.any s16.env[7]? fun v22 =>
 C.any s16.env[8]? fun v23 =>
 C.any s16.env[9]? fun v24 =>
 C.any s16.env[10]? fun v25 =>
 C.any s16.env[11]? fun v26 =>
 C.any s16.env[12]? fun v27 =>
 C.any s16.env[13]? fun v28 =>
 C.any s16.env[14]? fun v29 =>
 C.same s16.env[15]? tz <|
 C.sameH (St.H s16) [] <|
 some (.int .u16 x17))
 (none)
def r18E0 (C : Cb) (d : Nat) : St → Ans := fun s2 =>
 cnd ((List.length s2.env) == 16)
 (C.int .u16 s2.env[0]? fun x30 =>
 C.same s2.env[1]? tz <|
 C.same s2.env[2]? (.int .u16 0) <|
 C.int .i64 s2.env[3]? fun x31 =>
 C.any s2.env[4]? fun v32 =>
 C.any s2.env[5]? fun v33 =>
 C.any s2.env[6]? fun v34 =>
 C.any s2.env[7]? fun v35 =>
 C.any s2.env[8]? fun v36 =>
 C.any s2.env[9]? fun v37 =>
 C.any s2.env[10]? fun v38 =>
 C.any s2.env[11]? fun v39 =>
 C.any s2.env[12]? fun v40 =>
 C.any s2.env[13]? fun v41 =>
 C.any s2.env[14]? fun v42 =>
 C.same s2.env[15]? tz <|
 C.sameH (St.H s2) [] <|
 some (.int .u16 0))
 (none)
/-- apogee/apogeeref04.Step16 -/
theorem r18 (C : Cb) (d : Nat) (a0 : Int) : xcall C M unr d 18 [(.int .u16 a0)] =
 C.iter (r18R0 C d) 1000000000000000000 ⟨[(.int .u16 a0), tz, (.int .u16 0), (iz 0), tz, tz, tz, tz, tz, tz, tz, tz, tz, tz, tz, tz], []⟩ [0] [r18X0_0 C d] (r18E0 C d) := by kernel_rfl
end Go.Proofs.Ytcegcmjkkflhhaa.AE

namespace Go.Proofs.Ytcegcmjkkflhhaa.AE
set_option linter.unusedVariables false
set_option linter.unusedSimpArgs false
set_option linter.constructorNameAsVariable false
open Go
set_option maxRecDepth 100000
set_option maxHeartbeats 0
noncomputable def X11_0_0 (d : Nat) (a1 : List UInt8) (x22 : Int) : Ans :=
  some (.int .u16 x22)
theorem X11_0_0_ok (d : Nat) (a1 : List UInt8)   (x22 x23 x24 : Int) (s25 : List UInt8) (x26 : Int) (b27 : Bool) (v28 v29 v30 v31 v32 v33 v34 v35 v36 v37 : AV) : r11X0_0 C0 d a1 ⟨[(.int .u16 x22), (.str a1), tz, tz, (.int .u16 0), (iz x23), (iz x24), (.str s25), (iz x26), (.bool b27), v28, v29, v30, v31, v32, v33, v34, v35, v36, v37, tz], []⟩ = X11_0_0 d a1 x22 := by
  unfold r11X0_0; refine Eq.trans (pl_len (by rfl)) ?_; refine yt yI ?_; (iterate 4 (refine yt yS ?_)); (iterate 2 (refine yt yI ?_)); refine Eq.trans (pl_str (by rfl)) ?_; refine yt yI ?_; refine yt yB ?_; (iterate 10 (refine yt yA ?_)); refine yt yS ?_; refine Eq.trans (pl_sameH) ?_
  rfl
noncomputable def E11_0 (d : Nat) (a1 : List UInt8)  : Ans :=
  some (.int .u16 0)
theorem E11_0_ok (d : Nat) (a1 : List UInt8)   (x38 x39 : Int) (v40 v41 v42 v43 v44 v45 v46 v47 v48 v49 v50 v51 v52 v53 : AV) : r11E0 C0 d a1 ⟨[(.int .u16 x38), (.str a1), tz, tz, (.int .u16 0), (iz x39), v40, v41, v42, v43, v44, v45, v46, v47, v48, v49, v50, v51, v52, v53, tz], []⟩ = E11_0 d a1  := by
  unfold r11E0; refine Eq.trans (pl_len (by rfl)) ?_; refine yt yI ?_; (iterate 4 (refine yt yS ?_)); refine yt yI ?_; (iterate 14 (refine yt yA ?_)); refine yt yS ?_; refine Eq.trans (pl_sameH) ?_
  rfl
noncomputable def L11_0 (d : Nat) (a1 : List UInt8) : Nat → Int → Int → Ans
  | 0, _, _ => none
  | n + 1, x3, x4 =>
  cnd (decide (x4 < (((List.length a1) : Nat) : Int)))
   (cnd (decide ((0 : Int) ≤ x4))
   (C0.int .u8 (Option.map (fun b : UInt8 => AV.int .u8 (b.toNat : Int)) a1[(Int.toNat x4)]?) fun x19 =>
   C0.int .u16 (pcall M d 18 [(.int .u16 (bits .xor .u16 x3 (IntKind.wrap .u16 ((IntKind.wrap .u16 x19) * (2 ^ (min (Int.toNat 8) 16))))))]) fun x20 =>
   L11_0 d a1 n x20 (IntKind.wrap .i64 (x4 + 1)))
   (none))
   (X11_0_0 d a1 x3)
theorem L11_0_s (d : Nat) (a1 : List UInt8) (n : Nat) (x3 x4 : Int) : L11_0 d a1 (n + 1) x3 x4 = (cnd (decide (x4 < (((List.length a1) : Nat) : Int)))
   (cnd (decide ((0 : Int) ≤ x4))
   (C0.int .u8 (Option.map (fun b : UInt8 => AV.int .u8 (b.toNat : Int)) a1[(Int.toNat x4)]?) fun x19 =>
   C0.int .u16 (pcall M d 18 [(.int .u16 (bits .xor .u16 x3 (IntKind.wrap .u16 ((IntKind.wrap .u16 x19) * (2 ^ (min (Int.toNat 8) 16))))))]) fun x20 =>
   L11_0 d a1 n x20 (IntKind.wrap .i64 (x4 + 1)))
   (none))
   (X11_0_0 d a1 x3)) := by kernel_rfl
theorem it11_0 (d : Nat) (a1 : List UInt8)   : ∀ (n : Nat) (x3 x4 : Int) (v5 v6 v7 v8 v9 v10 v11 v12 v13 v14 v15 v16 v17 v18 : AV), C0.iter (r11R0 C0 d a1) n ⟨[(.int .u16 x3), (.str a1), tz, tz, (.int .u16 0), (iz x4), v5, v6, v7, v8, v9, v10, v11, v12, v13, v14, v15, v16, v17, v18, tz], []⟩ [0] [r11X0_0 C0 d a1] (r11E0 C0 d a1) = L11_0 d a1 n x3 x4 := by
  generalize hR : r11R0 C0 d a1 = R
  intro n
  induction n with
  | zero => intros; rfl
  | succ n ih =>
    intro x3 x4 v5 v6 v7 v8 v9 v10 v11 v12 v13 v14 v15 v16 v17 v18
    simp only [it_ret] at ih
    rw [it_ret, xiter_s]
    refine Eq.trans (congrFun (congrFun hR.symm _) _) ?_
    unfold r11R0
    refine Eq.trans (pl_len (by rfl)) ?_; refine yt yI ?_; (iterate 4 (refine yt yS ?_)); refine yt yI ?_; (iterate 14 (refine yt yA ?_)); refine yt yS ?_; refine Eq.trans (pl_sameH) ?_
    simp only [kIter_n, kIter_x, kIter_r, kOut_x, kOut_r, xgo_hit, xgo_miss, ih, X11_0_0_ok d a1  , E11_0_ok d a1  ]
    exact (L11_0_s d a1 n x3 x4).symm
/-- apogee/apogeeref04.More16 -/
theorem q11 (d : Nat) (a0 : Int) (a1 : List UInt8) : xcall C0 M unr d 11 [(.int .u16 a0), (.str a1)] =
  L11_0 d a1 1000000000000000000 a0 0 := (r11 C0 d a0 a1).trans (by simp only [it11_0])
noncomputable def X18_0_0 (d : Nat)  (x17 : Int) : Ans :=
  some (.int .u16 x17)
theorem X18_0_0_ok (d : Nat)    (x17 x18 x19 : Int) (b20 : Bool) (v21 v22 v23 v24 v25 v26 v27 v28 v29 : AV) : r18X0_0 C0 d  ⟨[(.int .u16 x17), tz, (.int .u16 0), (iz x18), (iz x19), (.bool b20), v21, v22, v23, v24, v25, v26, v27, v28, v29, tz], []⟩ = X18_0_0 d  x17 := by
  unfold r18X0_0; refine Eq.trans (pl_len (by rfl)) ?_; refine yt yI ?_; (iterate 2 (refine yt yS ?_)); (iterate 2 (refine yt yI ?_)); refine yt yB ?_; (iterate 9 (refine yt yA ?_)); refine yt yS ?_; refine Eq.trans (pl_sameH) ?_
  rfl
noncomputable def E18_0 (d : Nat)   : Ans :=
  some (.int .u16 0)
theorem E18_0_ok (d : Nat)    (x30 x31 : Int) (v32 v33 v34 v35 v36 v37 v38 v39 v40 v41 v42 : AV) : r18E0 C0 d  ⟨[(.int .u16 x30), tz, (.int .u16 0), (iz x31), v32, v33, v34, v35, v36, v37, v38, v39, v40, v41, v42, tz], []⟩ = E18_0 d   := by
  unfold r18E0; refine Eq.trans (pl_len (by rfl)) ?_; refine yt yI ?_; (iterate 2 (refine yt yS ?_)); refine yt yI ?_; (iterate 11 (refine yt yA ?_)); refine yt yS ?_; refine Eq.trans (pl_sameH) ?_
  rfl
noncomputable def L18_0 (d : Nat)  : Nat → Int → Int → Ans
  | 0, _, _ => none
  | n + 1, x3, x4 =>
  cnd (decide (x4 < 8))
   (cnd (decide (x3 ≥ 32768))
   (L18_0 d n (bits .xor .u16 (IntKind.wrap .u16 (x3 * (2 ^ (min (Int.toNat 1) 16)))) 4129) (IntKind.wrap .i64 (x4 + 1)))
   (L18_0 d n (IntKind.wrap .u16 (x3 * (2 ^ (min (Int.toNat 1) 16)))) (IntKind.wrap .i64 (x4 + 1))))
   (X18_0_0 d x3)
theorem L18_0_s (d : Nat)  (n : Nat) (x3 x4 : Int) : L18_0 d  (n + 1) x3 x4 = (cnd (decide (x4 < 8))
   (cnd (decide (x3 ≥ 32768))
   (L18_0 d n (bits .xor .u16 (IntKind.wrap .u16 (x3 * (2 ^ (min (Int.toNat 1) 16)))) 4129) (IntKind.wrap .i64 (x4 + 1)))
   (L18_0 d n (IntKind.wrap .u16 (x3 * (2 ^ (min (Int.toNat 1) 16)))) (IntKind.wrap .i64 (x4 + 1))))
   (X18_0_0 d x3)) := by kernel_rfl
theorem it18_0 (d : Nat)    : ∀ (n : Nat) (x3 x4 : Int) (v5 v6 v7 v8 v9 v10 v11 v12 v13 v14 v15 : AV), C0.iter (r18R0 C0 d ) n ⟨[(.int .u16 x3), tz, (.int .u16 0), (iz x4), v5, v6, v7, v8, v9, v10, v11, v12, v13, v14, v15, tz], []⟩ [0] [r18X0_0 C0 d ] (r18E0 C0 d ) = L18_0 d  n x3 x4 := by
  generalize hR : r18R0 C0 d  = R
  intro n
  induction n with
  | zero => intros; rfl
  | succ n ih =>
    intro x3 x4 v5 v6 v7 v8 v9 v10 v11 v12 v13 v14 v15
    simp only [it_ret] at ih
    rw [it_ret, xiter_s]
    refine Eq.trans (congrFun (congrFun hR.symm _) _) ?_
    unfold r18R0
    refine Eq.trans (pl_len (by rfl)) ?_; refine yt yI ?_; (iterate 2 (refine yt yS ?_)); refine yt yI ?_; (iterate 11 (refine yt yA ?_)); refine yt yS ?_; refine Eq.trans (pl_sameH) ?_
    simp only [kIter_n, kIter_x, kIter_r, kOut_x, kOut_r, xgo_hit, xgo_miss, ih, X18_0_0_ok d   , E18_0_ok d   ]
    exact (L18_0_s d  n x3 x4).symm
/-- apogee/apogeeref04.Step16 -/
theorem q18 (d : Nat) (a0 : Int) : xcall C0 M unr d 18 [(.int .u16 a0)] =
  L18_0 d 1000000000000000000 a0 0 := (r18 C0 d a0).trans (by simp only [it18_0])
end Go.Proofs.Ytcegcmjkkflhhaa.AE

namespace Go.Proofs.Ytcegcmjkkflhhaa.AE
set_option linter.unusedVariables false
set_option linter.unusedSimpArgs false
set_option linter.constructorNameAsVariable false
open Go Go.Proofs.Ytcegcmjkkflhhaa.Geo
attribute [local irreducible] pcall C0
set_option maxRecDepth 100000
theorem w16_top (x : BitVec 16) : (decide (w16 x ≥ 32768)) = x.getLsbD 15 := by
  have h := BitVec.msb_eq_decide x
  rw [BitVec.msb_eq_getLsbD_last] at h
  rw [h, decide_eq_decide]
  show (x.toNat : Int) ≥ 32768 ↔ 2 ^ (16 - 1) ≤ x.toNat
  omega
theorem hstep_go' (d : Nat) : ∀ (k i : Nat), i + k = 8 → ∀ (x : BitVec 16) f, k < f → L18_0 d f (w16 x) (i : Nat) = some (.int .u16 (w16 (shN k x)))
  | 0, i, h, x, f + 1, _ => by
    rw [L18_0_s, decide_eq_false (by omega), cnd_f]; rfl
  | k + 1, i, h, x, f + 1, hf => by
    rw [L18_0_s, decide_eq_true (by omega), cnd_t, w16_top, w16_dbl, w16_poly, i64_up (by omega), shN, sh_eq]
    cases x.getLsbD 15
    · rw [cnd_f, cond_false]; exact hstep_go' d k (i + 1) (by omega) _ f (by omega)
    · rw [cnd_t, cond_true]; exact hstep_go' d k (i + 1) (by omega) _ f (by omega)
theorem s18 (d : Nat) (x : BitVec 16) : pcall M (d + 1) 18 [.int .u16 (w16 x)] = some (.int .u16 (w16 (shN 8 x))) := told (q18 d _) (hstep_go' d 8 0 rfl x 1000000000000000000 (by omega))
theorem more_go' (d : Nat) (s : List UInt8) (hl : s.length < 9223372036854775807) : ∀ (k i : Nat), i + k = s.length → ∀ (x : BitVec 16) f, k < f →
    L11_0 (d + 1) s f (w16 x) (i : Nat) = some (.int .u16 (w16 (moreH x (s.drop i))))
  | 0, i, h, x, f + 1, _ => by
    rw [L11_0_s, decide_eq_false (by omega), cnd_f, List.drop_of_length_le (by omega)]; rfl
  | k + 1, i, h, x, f + 1, hf => by
    have hi : i < s.length := by omega
    rw [L11_0_s, decide_eq_true (by omega), cnd_t, decide_eq_true (by omega), cnd_t, show (((i : Nat) : Int)).toNat = i by omega]
    refine Eq.trans (pl_int (str_at hi)) ?_
    rw [w16_byte]
    refine Eq.trans (pl_int (s18 d _)) ?_
    rw [i64_up (by omega), List.drop_eq_getElem_cons hi]
    exact more_go' d s hl k (i + 1) (by omega) _ f (by omega)
theorem s11 (d : Nat) (x : BitVec 16) (s : List UInt8) (hl : s.length < 1000000000000000000) : pcall M (d + 2) 11 [.int .u16 (w16 x), .str s] = some (.int .u16 (w16 (moreH x s))) := told (q11 (d + 1) _ _) (more_go' d s (by omega) s.length 0 (by omega) x 1000000000000000000 (by omega))
end Go.Proofs.Ytcegcmjkkflhhaa.AE

namespace Go.Proofs.Ytcegcmjkkflhhaa.AE
set_option linter.unusedVariables false
set_option linter.unusedSimpArgs false
set_option linter.constructorNameAsVariable false
open Go
set_option maxRecDepth 100000
/-- apogee/apogeelaw04.CrcTells -/
theorem r3 (C : Cb) (d : Nat) (a0 : List UInt8) (a1 : Int) : xcall C M unr d 3 [(.str a0), (.int .u16 a1)] =
 C.bool (pcall M d 9 []) fun b0 =>
 cnd (!b0)
 (C.bool (pcall M d 9 []) fun b1 =>
 some (.bool b1))
 (cnd (decide ((((List.length a0) : Nat) : Int) > 2000))
 (C.bool (pcall M d 9 []) fun b2 =>
 some (.bool b2))
 (C.int .u16 (pcall M d 10 [(.str a0)]) fun x3 =>
 C.int .u16 (pcall M d 11 [(.int .u16 65535), (.str a0)]) fun x4 =>
 cnd (x3 == x4)
 (C.int .u32 (pcall M d 12 [(.str a0)]) fun x5 =>
 C.int .u32 (pcall M d 13 [(.str a0)]) fun x6 =>
 cnd (x5 == x6)
 (C.int .u16 (pcall M d 14 [(.int .u16 a1), (.str a0)]) fun x7 =>
 C.int .u16 (pcall M d 11 [(.int .u16 a1), (.str a0)]) fun x8 =>
 some (.bool (x7 == x8)))
 (some bf))
 (some bf))) := by kernel_rfl
end Go.Proofs.Ytcegcmjkkflhhaa.AE

namespace Go.Proofs.Ytcegcmjkkflhhaa.AE
set_option linter.unusedVariables false
set_option linter.unusedSimpArgs false
set_option linter.constructorNameAsVariable false
open Go Go.Proofs.Ytcegcmjkkflhhaa.Geo
attribute [local irreducible] pcall C0
set_option maxRecDepth 100000
theorem w16_of {n : Int} (h : (Lit.int .u16 n).wf = true) : ∃ x : BitVec 16, n = w16 x := by
  have h2 : 0 ≤ n ∧ n < 65536 := by
    have e1 : IntKind.u16.min = 0 := rfl
    have e2 : IntKind.u16.max = 65535 := rfl
    simp [Lit.wf, e1, e2] at h; omega
  refine ⟨BitVec.ofNat 16 n.toNat, ?_⟩
  show n = ((BitVec.ofNat 16 n.toNat).toNat : Int)
  rw [BitVec.toNat_ofNat]; omega
theorem tells_law (s : List UInt8) (x : BitVec 16) : pcall M 41 3 [.str s, .int .u16 (w16 x)] = some (.bool true) := told (r3 C0 40 _ _) (by
  refine Eq.trans (pl_bool awake) ?_
  refine Eq.trans (pl_f (by rfl)) ?_
  by_cases hl : s.length > 2000
  · rw [decide_eq_true (by omega), cnd_t]; exact Eq.trans (pl_bool awake) rfl
  rw [decide_eq_false (by omega), cnd_f]
  refine Eq.trans (pl_int (s10 37 s (by omega))) ?_
  refine Eq.trans (pl_int (s11 38 0xffff#16 s (by omega))) ?_
  refine Eq.trans (pl_len (beq_self_eq_true _)) ?_
  refine Eq.trans (pl_int (s12 38 s (by omega))) ?_
  refine Eq.trans (pl_int (s13 38 s (by omega))) ?_
  refine Eq.trans (pl_len (beq_self_eq_true _)) ?_
  refine Eq.trans (pl_int (s14 38 x s (by omega))) ?_
  refine Eq.trans (pl_int (s11 38 x s (by omega))) ?_
  rw [beq_self_eq_true])
theorem law_CrcTells (a0 : List UInt8) (a1 : Int) (w0 : a0.length ≤ maxLen) (w1 : (Lit.int .u16 a1).wf = true) :
    pcall M 41 3 [.str a0, .int .u16 a1] = some (.bool true) := by
  obtain ⟨x, rfl⟩ := w16_of w1
  exact tells_law a0 x
end Go.Proofs.Ytcegcmjkkflhhaa.AE
