/- The texts that the law BoxPoint needs, part 3: AElp, AEhp, AEnum, GGeo, AEptspec, AEptspec2, AEptspec3, AEbin, AEref01a, AEref01b, AEsgn, AEref01c, AEptref. No conditions. -/
import Derived.Test.YtjblhppbjebagaaMBoxPoint2
namespace Go.Proofs.Ytjblhppbjebagaa.AE
set_option linter.unusedVariables false
set_option linter.unusedSimpArgs false
set_option linter.constructorNameAsVariable false
open Go
set_option maxRecDepth 100000
noncomputable def X21_0_0 (d : Nat) (a0 : List AV) (a1 : List AV)  : Ans :=
  some (.bool true)
theorem X21_0_0_ok (d : Nat) (a0 : List AV) (a1 : List AV)   (b27 : Bool) (x28 : Int) (x29 : Int) (v30 : AV) (x31 : Int) (b32 : Bool) (v33 : AV) (v34 : AV) (v35 : AV) (v36 : AV) (v37 : AV) (v38 : AV) (v39 : AV) (v40 : AV) (v41 : AV) (v42 : AV) (v43 : AV) : r21X0_0 C0 d a0 a1 ⟨[(.lst a0), (.lst a1), (.tup []), (.tup []), (.bool b27), (.int .i64 x28), (.lst a0), (.int .i64 (((List.length a0) : Nat) : Int)), (.lst a1), (.int .i64 (((List.length a1) : Nat) : Int)), (.bool false), (.int .i64 x29), v30, (.int .i64 x31), (.bool b32), v33, v34, v35, v36, v37, v38, v39, v40, v41, v42, v43], []⟩ = X21_0_0 d a0 a1  := by
  unfold r21X0_0; refine Eq.trans (pl_len (by rfl)) ?_; (iterate 4 (refine Eq.trans (pl_same (by rfl)) ?_)); refine Eq.trans (pl_bool (by rfl)) ?_; refine Eq.trans (pl_int (by rfl)) ?_; (iterate 5 (refine Eq.trans (pl_same (by rfl)) ?_)); refine Eq.trans (pl_int (by rfl)) ?_; refine Eq.trans (pl_any (by rfl)) ?_; refine Eq.trans (pl_int (by rfl)) ?_; refine Eq.trans (pl_bool (by rfl)) ?_; (iterate 11 (refine Eq.trans (pl_any (by rfl)) ?_)); refine Eq.trans (pl_sameH) ?_
  rfl
noncomputable def E21_0 (d : Nat) (a0 : List AV) (a1 : List AV) (b44 : Bool) : Ans :=
  some (.bool b44)
theorem E21_0_ok (d : Nat) (a0 : List AV) (a1 : List AV)   (b44 : Bool) (x45 : Int) (x46 : Int) (v47 : AV) (x48 : Int) (b49 : Bool) (v50 : AV) (v51 : AV) (v52 : AV) (x53 : Int) (v54 : AV) (x56 : Int) (x57 : Int) (v58 : AV) (x59 : Int) (v60 : AV) (x62 : Int) (x63 : Int) (b64 : Bool) : r21E0 C0 d a0 a1 ⟨[(.lst a0), (.lst a1), (.tup []), (.tup []), (.bool b44), (.int .i64 x45), (.lst a0), (.int .i64 (((List.length a0) : Nat) : Int)), (.lst a1), (.int .i64 (((List.length a1) : Nat) : Int)), (.bool false), (.int .i64 x46), v47, (.int .i64 x48), (.bool b49), v50, v51, v52, (.int .i64 x53), v54, (.agg [(.int .i64 x56), (.int .i64 x57)]), v58, (.int .i64 x59), v60, (.agg [(.int .i64 x62), (.int .i64 x63)]), (.bool b64)], []⟩ = E21_0 d a0 a1 b44 := by
  unfold r21E0; refine Eq.trans (pl_len (by rfl)) ?_; (iterate 4 (refine Eq.trans (pl_same (by rfl)) ?_)); refine Eq.trans (pl_bool (by rfl)) ?_; refine Eq.trans (pl_int (by rfl)) ?_; (iterate 5 (refine Eq.trans (pl_same (by rfl)) ?_)); refine Eq.trans (pl_int (by rfl)) ?_; refine Eq.trans (pl_any (by rfl)) ?_; refine Eq.trans (pl_int (by rfl)) ?_; refine Eq.trans (pl_bool (by rfl)) ?_; (iterate 3 (refine Eq.trans (pl_any (by rfl)) ?_)); refine Eq.trans (pl_int (by rfl)) ?_; refine Eq.trans (pl_any (by rfl)) ?_; refine Eq.trans (pl_agg (by rfl) (by rfl)) ?_; (iterate 2 (refine Eq.trans (pl_int (by rfl)) ?_)); refine Eq.trans (pl_any (by rfl)) ?_; refine Eq.trans (pl_int (by rfl)) ?_; refine Eq.trans (pl_any (by rfl)) ?_; refine Eq.trans (pl_agg (by rfl) (by rfl)) ?_; (iterate 2 (refine Eq.trans (pl_int (by rfl)) ?_)); refine Eq.trans (pl_bool (by rfl)) ?_; refine Eq.trans (pl_sameH) ?_
  rfl
noncomputable def L21_0 (d : Nat) (a0 : List AV) (a1 : List AV) : Nat → Int → Ans
  | 0, _ => none
  | n + 1, x4 =>
  cnd (decide (x4 < (((List.length a0) : Nat) : Int)))
   (cnd (decide (0 ≤ x4))
   (C0.agg 2 a0[(Int.toNat x4)]? fun l20 =>
   C0.int .i64 l20[0]? fun x21 =>
   C0.int .i64 l20[1]? fun x22 =>
   cnd (decide (0 ≤ x4))
   (C0.agg 2 a1[(Int.toNat x4)]? fun l23 =>
   C0.int .i64 l23[0]? fun x24 =>
   C0.int .i64 l23[1]? fun x25 =>
   cnd (xor true ((x21 == x24) && ((x22 == x25) && true)))
   (E21_0 d a0 a1 false)
   (L21_0 d a0 a1 n (IntKind.wrap .i64 (x4 + 1))))
   (none))
   (none))
   (X21_0_0 d a0 a1)
theorem it21_0 (d : Nat) (a0 : List AV) (a1 : List AV)   : ∀ (n : Nat) (b3 : Bool) (x4 : Int) (v5 : AV) (v6 : AV) (v7 : AV) (v8 : AV) (v9 : AV) (v10 : AV) (v11 : AV) (v12 : AV) (v13 : AV) (v14 : AV) (v15 : AV) (v16 : AV) (v17 : AV) (v18 : AV) (v19 : AV), C0.iter (r21R0 C0 d a0 a1) n ⟨[(.lst a0), (.lst a1), (.tup []), (.tup []), (.bool b3), (.int .i64 x4), (.lst a0), (.int .i64 (((List.length a0) : Nat) : Int)), (.lst a1), (.int .i64 (((List.length a1) : Nat) : Int)), (.bool false), v5, v6, v7, v8, v9, v10, v11, v12, v13, v14, v15, v16, v17, v18, v19], []⟩ [0] [r21X0_0 C0 d a0 a1] (r21E0 C0 d a0 a1) = L21_0 d a0 a1 n x4 := by
  generalize hR : r21R0 C0 d a0 a1 = R
  intro n
  induction n with
  | zero => intros; rfl
  | succ n ih =>
    intro b3 x4 v5 v6 v7 v8 v9 v10 v11 v12 v13 v14 v15 v16 v17 v18 v19
    simp only [it_ret] at ih
    rw [it_ret, xiter_s]
    refine Eq.trans (congrFun (congrFun hR.symm _) _) ?_
    unfold r21R0
    refine Eq.trans (pl_len (by rfl)) ?_; (iterate 4 (refine Eq.trans (pl_same (by rfl)) ?_)); refine Eq.trans (pl_bool (by rfl)) ?_; refine Eq.trans (pl_int (by rfl)) ?_; (iterate 5 (refine Eq.trans (pl_same (by rfl)) ?_)); (iterate 15 (refine Eq.trans (pl_any (by rfl)) ?_)); refine Eq.trans (pl_sameH) ?_
    simp only [L21_0, kIter_n, kIter_x, kIter_r, kOut_x, kOut_r, xgo_hit, xgo_miss, ih, X21_0_0_ok d a0 a1  , E21_0_ok d a0 a1  ]
/-- apogee/apogeeref10.Same -/
theorem q21 (d : Nat) (a0 : List AV) (a1 : List AV) : xcall C0 M unr d 21 [(.lst a0), (.lst a1)] =
  cnd ((((List.length a0) : Nat) : Int) != (((List.length a1) : Nat) : Int))
   (some (.bool false))
   (L21_0 d a0 a1 1000000000000000000 0) := (r21 C0 d a0 a1).trans (by simp only [it21_0])
noncomputable def X53f63_0_0 (d : Nat) (a0 : List AV)  : Ans :=
  some (.int .i64 (-1))
theorem X53f63_0_0_ok (d : Nat) (a0 : List AV)   (x21 : Int) (v22 : AV) (x23 : Int) (v24 : AV) (v25 : AV) (v26 : AV) (v27 : AV) (v28 : AV) (v29 : AV) (v30 : AV) (v31 : AV) (v32 : AV) (v33 : AV) : r53f63X0_0 C0 d a0 ⟨[(.lst a0), (.fn 63 [] []), (.tup []), (.tup []), (.int .i64 x21), v22, (.lst a0), (.int .i64 (((List.length a0) : Nat) : Int)), (.int .i64 x23), v24, v25, v26, v27, v28, v29, v30, v31, v32, v33], []⟩ = X53f63_0_0 d a0  := by
  unfold r53f63X0_0; refine Eq.trans (pl_len (by rfl)) ?_; (iterate 4 (refine Eq.trans (pl_same (by rfl)) ?_)); refine Eq.trans (pl_int (by rfl)) ?_; refine Eq.trans (pl_any (by rfl)) ?_; (iterate 2 (refine Eq.trans (pl_same (by rfl)) ?_)); refine Eq.trans (pl_int (by rfl)) ?_; (iterate 10 (refine Eq.trans (pl_any (by rfl)) ?_)); refine Eq.trans (pl_sameH) ?_
  rfl
noncomputable def E53f63_0 (d : Nat) (a0 : List AV) (x34 : Int) : Ans :=
  some (.int .i64 x34)
theorem E53f63_0_ok (d : Nat) (a0 : List AV)   (x34 : Int) (x35 : Int) (x36 : Int) (v37 : AV) (x38 : Int) (v39 : AV) (v40 : AV) (x41 : Int) (v42 : AV) (x44 : Int) (x45 : Int) (b46 : Bool) (x47 : Int) (v48 : AV) : r53f63E0 C0 d a0 ⟨[(.lst a0), (.fn 63 [] []), (.tup []), (.tup []), (.int .i64 x34), (.int .i64 x35), (.lst a0), (.int .i64 (((List.length a0) : Nat) : Int)), (.int .i64 x36), v37, (.int .i64 x38), v39, v40, (.int .i64 x41), v42, (.agg [(.int .i64 x44), (.int .i64 x45)]), (.bool b46), (.int .i64 x47), v48], []⟩ = E53f63_0 d a0 x34 := by
  unfold r53f63E0; refine Eq.trans (pl_len (by rfl)) ?_; (iterate 4 (refine Eq.trans (pl_same (by rfl)) ?_)); (iterate 2 (refine Eq.trans (pl_int (by rfl)) ?_)); (iterate 2 (refine Eq.trans (pl_same (by rfl)) ?_)); refine Eq.trans (pl_int (by rfl)) ?_; refine Eq.trans (pl_any (by rfl)) ?_; refine Eq.trans (pl_int (by rfl)) ?_; (iterate 2 (refine Eq.trans (pl_any (by rfl)) ?_)); refine Eq.trans (pl_int (by rfl)) ?_; refine Eq.trans (pl_any (by rfl)) ?_; refine Eq.trans (pl_agg (by rfl) (by rfl)) ?_; (iterate 2 (refine Eq.trans (pl_int (by rfl)) ?_)); refine Eq.trans (pl_bool (by rfl)) ?_; refine Eq.trans (pl_int (by rfl)) ?_; refine Eq.trans (pl_any (by rfl)) ?_; refine Eq.trans (pl_sameH) ?_
  rfl
noncomputable def L53f63_0 (d : Nat) (a0 : List AV) : Nat → Int → Ans
  | 0, _ => none
  | n + 1, x5 =>
  cnd (decide (x5 < (((List.length a0) : Nat) : Int)))
   (cnd (decide (0 ≤ x5))
   (C0.agg 2 a0[(Int.toNat x5)]? fun l16 =>
   C0.int .i64 l16[0]? fun x17 =>
   C0.int .i64 l16[1]? fun x18 =>
   C0.bool (pcall M d 63 [(.agg [(.int .i64 x17), (.int .i64 x18)])]) fun b19 =>
   cnd b19
   (E53f63_0 d a0 x5)
   (L53f63_0 d a0 n (IntKind.wrap .i64 (x5 + 1))))
   (none))
   (X53f63_0_0 d a0)
theorem it53f63_0 (d : Nat) (a0 : List AV)   : ∀ (n : Nat) (x3 : Int) (v4 : AV) (x5 : Int) (v6 : AV) (v7 : AV) (v8 : AV) (v9 : AV) (v10 : AV) (v11 : AV) (v12 : AV) (v13 : AV) (v14 : AV) (v15 : AV), C0.iter (r53f63R0 C0 d a0) n ⟨[(.lst a0), (.fn 63 [] []), (.tup []), (.tup []), (.int .i64 x3), v4, (.lst a0), (.int .i64 (((List.length a0) : Nat) : Int)), (.int .i64 x5), v6, v7, v8, v9, v10, v11, v12, v13, v14, v15], []⟩ [0] [r53f63X0_0 C0 d a0] (r53f63E0 C0 d a0) = L53f63_0 d a0 n x5 := by
  generalize hR : r53f63R0 C0 d a0 = R
  intro n
  induction n with
  | zero => intros; rfl
  | succ n ih =>
    intro x3 v4 x5 v6 v7 v8 v9 v10 v11 v12 v13 v14 v15
    simp only [it_ret] at ih
    rw [it_ret, xiter_s]
    refine Eq.trans (congrFun (congrFun hR.symm _) _) ?_
    unfold r53f63R0
    refine Eq.trans (pl_len (by rfl)) ?_; (iterate 4 (refine Eq.trans (pl_same (by rfl)) ?_)); refine Eq.trans (pl_int (by rfl)) ?_; refine Eq.trans (pl_any (by rfl)) ?_; (iterate 2 (refine Eq.trans (pl_same (by rfl)) ?_)); refine Eq.trans (pl_int (by rfl)) ?_; (iterate 10 (refine Eq.trans (pl_any (by rfl)) ?_)); refine Eq.trans (pl_sameH) ?_
    simp only [L53f63_0, kIter_n, kIter_x, kIter_r, kOut_x, kOut_r, xgo_hit, xgo_miss, ih, X53f63_0_0_ok d a0  , E53f63_0_ok d a0  ]
/-- slices.IndexFunc[[]apogee/api.Point,apogee/api.Point] -/
theorem q53f63 (d : Nat) (a0 : List AV) (a1 : AV) : xcall C0 M unr d 53 [(.lst a0), (.fn 63 [] [])] =
  L53f63_0 d a0 1000000000000000000 0 := (r53f63 C0 d a0 a1).trans (by simp only [it53f63_0])
noncomputable def X65_0_0 (d : Nat) (a0 : List AV)  : Ans :=
  some (.int .i64 0)
theorem X65_0_0_ok (d : Nat) (a0 : List AV)   (x16 : Int) (v17 : AV) (x18 : Int) (v19 : AV) (v20 : AV) (v21 : AV) (v22 : AV) (v23 : AV) (v24 : AV) (v25 : AV) (v26 : AV) : r65X0_0 C0 d a0 ⟨[(.lst a0), (.tup []), (.int .i64 x16), (.int .i64 0), (.tup []), v17, (.lst a0), (.int .i64 (((List.length a0) : Nat) : Int)), (.int .i64 x18), v19, v20, v21, v22, v23, v24, v25, v26, (.tup [])], []⟩ = X65_0_0 d a0  := by
  unfold r65X0_0; refine Eq.trans (pl_len (by rfl)) ?_; (iterate 2 (refine Eq.trans (pl_same (by rfl)) ?_)); refine Eq.trans (pl_int (by rfl)) ?_; (iterate 2 (refine Eq.trans (pl_same (by rfl)) ?_)); refine Eq.trans (pl_any (by rfl)) ?_; (iterate 2 (refine Eq.trans (pl_same (by rfl)) ?_)); refine Eq.trans (pl_int (by rfl)) ?_; (iterate 8 (refine Eq.trans (pl_any (by rfl)) ?_)); refine Eq.trans (pl_same (by rfl)) ?_; refine Eq.trans (pl_sameH) ?_
  rfl
noncomputable def E65_0 (d : Nat) (a0 : List AV) (x27 : Int) : Ans :=
  some (.int .i64 x27)
theorem E65_0_ok (d : Nat) (a0 : List AV)   (x27 : Int) (x28 : Int) (x29 : Int) (v30 : AV) (v31 : AV) (x32 : Int) (x33 : Int) (x34 : Int) (b35 : Bool) (x36 : Int) (v37 : AV) : r65E0 C0 d a0 ⟨[(.lst a0), (.tup []), (.int .i64 x27), (.int .i64 0), (.tup []), (.int .i64 x28), (.lst a0), (.int .i64 (((List.length a0) : Nat) : Int)), (.int .i64 x29), v30, v31, (.int .i64 x32), (.int .i64 x33), (.int .i64 x34), (.bool b35), (.int .i64 x36), v37, (.tup [])], []⟩ = E65_0 d a0 x27 := by
  unfold r65E0; refine Eq.trans (pl_len (by rfl)) ?_; (iterate 2 (refine Eq.trans (pl_same (by rfl)) ?_)); refine Eq.trans (pl_int (by rfl)) ?_; (iterate 2 (refine Eq.trans (pl_same (by rfl)) ?_)); refine Eq.trans (pl_int (by rfl)) ?_; (iterate 2 (refine Eq.trans (pl_same (by rfl)) ?_)); refine Eq.trans (pl_int (by rfl)) ?_; (iterate 2 (refine Eq.trans (pl_any (by rfl)) ?_)); (iterate 3 (refine Eq.trans (pl_int (by rfl)) ?_)); refine Eq.trans (pl_bool (by rfl)) ?_; refine Eq.trans (pl_int (by rfl)) ?_; refine Eq.trans (pl_any (by rfl)) ?_; refine Eq.trans (pl_same (by rfl)) ?_; refine Eq.trans (pl_sameH) ?_
  rfl
noncomputable def L65_0 (d : Nat) (a0 : List AV) : Nat → Int → Ans
  | 0, _ => none
  | n + 1, x5 =>
  cnd (decide (x5 < (((List.length a0) : Nat) : Int)))
   (cnd (decide (0 ≤ x5))
   (C0.int .i64 a0[(Int.toNat x5)]? fun x14 =>
   cnd (x14 != 0)
   (E65_0 d a0 x14)
   (L65_0 d a0 n (IntKind.wrap .i64 (x5 + 1))))
   (none))
   (X65_0_0 d a0)
theorem it65_0 (d : Nat) (a0 : List AV)   : ∀ (n : Nat) (x3 : Int) (v4 : AV) (x5 : Int) (v6 : AV) (v7 : AV) (v8 : AV) (v9 : AV) (v10 : AV) (v11 : AV) (v12 : AV) (v13 : AV), C0.iter (r65R0 C0 d a0) n ⟨[(.lst a0), (.tup []), (.int .i64 x3), (.int .i64 0), (.tup []), v4, (.lst a0), (.int .i64 (((List.length a0) : Nat) : Int)), (.int .i64 x5), v6, v7, v8, v9, v10, v11, v12, v13, (.tup [])], []⟩ [0] [r65X0_0 C0 d a0] (r65E0 C0 d a0) = L65_0 d a0 n x5 := by
  generalize hR : r65R0 C0 d a0 = R
  intro n
  induction n with
  | zero => intros; rfl
  | succ n ih =>
    intro x3 v4 x5 v6 v7 v8 v9 v10 v11 v12 v13
    simp only [it_ret] at ih
    rw [it_ret, xiter_s]
    refine Eq.trans (congrFun (congrFun hR.symm _) _) ?_
    unfold r65R0
    refine Eq.trans (pl_len (by rfl)) ?_; (iterate 2 (refine Eq.trans (pl_same (by rfl)) ?_)); refine Eq.trans (pl_int (by rfl)) ?_; (iterate 2 (refine Eq.trans (pl_same (by rfl)) ?_)); refine Eq.trans (pl_any (by rfl)) ?_; (iterate 2 (refine Eq.trans (pl_same (by rfl)) ?_)); refine Eq.trans (pl_int (by rfl)) ?_; (iterate 8 (refine Eq.trans (pl_any (by rfl)) ?_)); refine Eq.trans (pl_same (by rfl)) ?_; refine Eq.trans (pl_sameH) ?_
    simp only [L65_0, kIter_n, kIter_x, kIter_r, kOut_x, kOut_r, xgo_hit, xgo_miss, ih, X65_0_0_ok d a0  , E65_0_ok d a0  ]
/-- cmp.Or[int] -/
theorem q65 (d : Nat) (a0 : List AV) : xcall C0 M unr d 65 [(.lst a0)] =
  L65_0 d a0 1000000000000000000 0 := (r65 C0 d a0).trans (by simp only [it65_0])
noncomputable def X69_0_0 (d : Nat) (a1 : Int) (v0 : AV) (v5 : AV) (v9 : AV) (H : Heap) : Ans :=
  cnd (decide (a1 < 0))
   (C0.hop H (.load true 2 (.v v9)) fun v94 h95 =>
   C0.agg 2 (some v94) fun l96 =>
   C0.int .i64 l96[0]? fun x97 =>
   C0.int .u64 l96[1]? fun x98 =>
   C0.hop h95 (.load true 2 (.v v5)) fun v99 h100 =>
   C0.agg 2 (some v99) fun l101 =>
   C0.int .i64 l101[0]? fun x102 =>
   C0.int .u64 l101[1]? fun x103 =>
   C0.agg 2 (pcall M d 78 [(.agg [(.int .i64 x102), (.int .u64 x103)])]) fun l104 =>
   C0.int .i64 l104[0]? fun x105 =>
   C0.int .u64 l104[1]? fun x106 =>
   C0.agg 2 (pcall M d 77 [(.agg [(.int .i64 x97), (.int .u64 x98)]), (.agg [(.int .i64 x105), (.int .u64 x106)])]) fun l107 =>
   C0.int .i64 l107[0]? fun x108 =>
   C0.int .u64 l107[1]? fun x109 =>
   C0.hop h100 (.store 2 (.v v9) (.v (.agg [(.int .i64 x108), (.int .u64 x109)]))) fun v110 h111 =>
   C0.hop h111 (.load true 2 (.v v9)) fun v112 h113 =>
   C0.agg 2 (some v112) fun l114 =>
   C0.int .i64 l114[0]? fun x115 =>
   C0.int .u64 l114[1]? fun x116 =>
   C0.hop h113 (.store 2 (.v v0) (.v (.agg [(.int .i64 x115), (.int .u64 x116)]))) fun v117 h118 =>
   C0.hop h118 (.load true 2 (.v v0)) fun v119 h120 =>
   C0.fin h118 v119)
   (C0.hop H (.load true 2 (.v v9)) fun v121 h122 =>
   C0.agg 2 (some v121) fun l123 =>
   C0.int .i64 l123[0]? fun x124 =>
   C0.int .u64 l123[1]? fun x125 =>
   C0.hop h122 (.store 2 (.v v0) (.v (.agg [(.int .i64 x124), (.int .u64 x125)]))) fun v126 h127 =>
   C0.hop h127 (.load true 2 (.v v0)) fun v128 h129 =>
   C0.fin h127 v128)
theorem X69_0_0_ok (d : Nat) (a0 : Int) (a1 : Int) (v0 : AV) (x3 : Int) (x4 : Int) (v5 : AV) (v9 : AV)   (x78 : Int) (x79 : Int) (b80 : Bool) (v81 : AV) (v82 : AV) (v83 : AV) (v84 : AV) (v85 : AV) (v86 : AV) (v87 : AV) (v88 : AV) (v89 : AV) (v90 : AV) (v91 : AV) (v92 : AV) (v93 : AV) (H : Heap) : r69X0_0 C0 d a0 a1 v0 x3 x4 v5 v9 ⟨[(.int .i64 a0), (.int .i64 a1), (.tup []), (.tup []), v0, v5, v9, (.int .u64 (IntKind.wrap .u64 a1)), (.int .i64 x78), (.int .i64 a0), (.agg [(.int .i64 x3), (.int .u64 x4)]), (.agg [(.int .i64 0), (.int .u64 0)]), (.int .i64 a1), (.int .u64 (IntKind.wrap .u64 a1)), (.int .i64 x79), (.bool b80), v81, v82, v83, v84, v85, v86, v87, v88, v89, v90, v91, v92, v93, (.tup []), (.tup []), (.tup []), (.tup []), (.tup []), (.tup []), (.tup [])], H⟩ = X69_0_0 d a1 v0 v5 v9 H := by
  unfold r69X0_0; refine Eq.trans (pl_len (by rfl)) ?_; (iterate 8 (refine Eq.trans (pl_same (by rfl)) ?_)); refine Eq.trans (pl_int (by rfl)) ?_; (iterate 5 (refine Eq.trans (pl_same (by rfl)) ?_)); refine Eq.trans (pl_int (by rfl)) ?_; refine Eq.trans (pl_bool (by rfl)) ?_; (iterate 13 (refine Eq.trans (pl_any (by rfl)) ?_)); (iterate 7 (refine Eq.trans (pl_same (by rfl)) ?_))
  rfl
noncomputable def E69_0 (d : Nat) (a1 : Int) (v0 : AV) (v5 : AV) (v9 : AV) (H : Heap) : Ans :=
  C0.hop H (.load true 2 (.v v0)) fun v146 h147 =>
   C0.fin H v146
theorem E69_0_ok (d : Nat) (a0 : Int) (a1 : Int) (v0 : AV) (x3 : Int) (x4 : Int) (v5 : AV) (v9 : AV)   (x130 : Int) (v131 : AV) (v132 : AV) (v133 : AV) (v134 : AV) (v135 : AV) (v136 : AV) (v137 : AV) (v138 : AV) (v139 : AV) (v140 : AV) (v141 : AV) (v142 : AV) (v143 : AV) (v144 : AV) (v145 : AV) (H : Heap) : r69E0 C0 d a0 a1 v0 x3 x4 v5 v9 ⟨[(.int .i64 a0), (.int .i64 a1), (.tup []), (.tup []), v0, v5, v9, (.int .u64 (IntKind.wrap .u64 a1)), (.int .i64 x130), (.int .i64 a0), (.agg [(.int .i64 x3), (.int .u64 x4)]), (.agg [(.int .i64 0), (.int .u64 0)]), (.int .i64 a1), (.int .u64 (IntKind.wrap .u64 a1)), v131, v132, v133, v134, v135, v136, v137, v138, v139, v140, v141, v142, v143, v144, v145, (.tup []), (.tup []), (.tup []), (.tup []), (.tup []), (.tup []), (.tup [])], H⟩ = E69_0 d a1 v0 v5 v9 H := by
  unfold r69E0; refine Eq.trans (pl_len (by rfl)) ?_; (iterate 8 (refine Eq.trans (pl_same (by rfl)) ?_)); refine Eq.trans (pl_int (by rfl)) ?_; (iterate 5 (refine Eq.trans (pl_same (by rfl)) ?_)); (iterate 15 (refine Eq.trans (pl_any (by rfl)) ?_)); (iterate 7 (refine Eq.trans (pl_same (by rfl)) ?_))
  rfl
noncomputable def L69_0 (d : Nat) (a1 : Int) (v0 : AV) (v5 : AV) (v9 : AV) : Nat → Int → Heap → Ans
  | 0, _, _ => none
  | n + 1, x16, H =>
  cnd (decide (x16 < 64))
   (cnd (decide (x16 < 0))
   (none)
   (cnd ((bits .and .u64 (Int.fdiv (IntKind.wrap .u64 a1) (2 ^ (min (Int.toNat x16) 64))) 1) == 1)
   (C0.hop H (.load true 2 (.v v9)) fun v32 h33 =>
   C0.agg 2 (some v32) fun l34 =>
   C0.int .i64 l34[0]? fun x35 =>
   C0.int .u64 l34[1]? fun x36 =>
   C0.hop h33 (.load true 2 (.v v5)) fun v37 h38 =>
   C0.agg 2 (some v37) fun l39 =>
   C0.int .i64 l39[0]? fun x40 =>
   C0.int .u64 l39[1]? fun x41 =>
   C0.agg 2 (pcall M d 77 [(.agg [(.int .i64 x35), (.int .u64 x36)]), (.agg [(.int .i64 x40), (.int .u64 x41)])]) fun l42 =>
   C0.int .i64 l42[0]? fun x43 =>
   C0.int .u64 l42[1]? fun x44 =>
   C0.hop h38 (.store 2 (.v v9) (.v (.agg [(.int .i64 x43), (.int .u64 x44)]))) fun v45 h46 =>
   C0.hop h46 (.load true 2 (.v v5)) fun v47 h48 =>
   C0.agg 2 (some v47) fun l49 =>
   C0.int .i64 l49[0]? fun x50 =>
   C0.int .u64 l49[1]? fun x51 =>
   C0.hop h48 (.load true 2 (.v v5)) fun v52 h53 =>
   C0.agg 2 (some v52) fun l54 =>
   C0.int .i64 l54[0]? fun x55 =>
   C0.int .u64 l54[1]? fun x56 =>
   C0.agg 2 (pcall M d 77 [(.agg [(.int .i64 x50), (.int .u64 x51)]), (.agg [(.int .i64 x55), (.int .u64 x56)])]) fun l57 =>
   C0.int .i64 l57[0]? fun x58 =>
   C0.int .u64 l57[1]? fun x59 =>
   C0.hop h53 (.store 2 (.v v5) (.v (.agg [(.int .i64 x58), (.int .u64 x59)]))) fun v60 h61 =>
   L69_0 d a1 v0 v5 v9 n (IntKind.wrap .i64 (x16 + 1)) h61)
   (C0.hop H (.load true 2 (.v v5)) fun v62 h63 =>
   C0.agg 2 (some v62) fun l64 =>
   C0.int .i64 l64[0]? fun x65 =>
   C0.int .u64 l64[1]? fun x66 =>
   C0.hop h63 (.load true 2 (.v v5)) fun v67 h68 =>
   C0.agg 2 (some v67) fun l69 =>
   C0.int .i64 l69[0]? fun x70 =>
   C0.int .u64 l69[1]? fun x71 =>
   C0.agg 2 (pcall M d 77 [(.agg [(.int .i64 x65), (.int .u64 x66)]), (.agg [(.int .i64 x70), (.int .u64 x71)])]) fun l72 =>
   C0.int .i64 l72[0]? fun x73 =>
   C0.int .u64 l72[1]? fun x74 =>
   C0.hop h68 (.store 2 (.v v5) (.v (.agg [(.int .i64 x73), (.int .u64 x74)]))) fun v75 h76 =>
   L69_0 d a1 v0 v5 v9 n (IntKind.wrap .i64 (x16 + 1)) h76)))
   (X69_0_0 d a1 v0 v5 v9 H)
theorem it69_0 (d : Nat) (a0 : Int) (a1 : Int) (v0 : AV) (x3 : Int) (x4 : Int) (v5 : AV) (v9 : AV)   : ∀ (n : Nat) (x16 : Int) (v17 : AV) (v18 : AV) (v19 : AV) (v20 : AV) (v21 : AV) (v22 : AV) (v23 : AV) (v24 : AV) (v25 : AV) (v26 : AV) (v27 : AV) (v28 : AV) (v29 : AV) (v30 : AV) (v31 : AV) (H : Heap), C0.iter (r69R0 C0 d a0 a1 v0 x3 x4 v5 v9) n ⟨[(.int .i64 a0), (.int .i64 a1), (.tup []), (.tup []), v0, v5, v9, (.int .u64 (IntKind.wrap .u64 a1)), (.int .i64 x16), (.int .i64 a0), (.agg [(.int .i64 x3), (.int .u64 x4)]), (.agg [(.int .i64 0), (.int .u64 0)]), (.int .i64 a1), (.int .u64 (IntKind.wrap .u64 a1)), v17, v18, v19, v20, v21, v22, v23, v24, v25, v26, v27, v28, v29, v30, v31, (.tup []), (.tup []), (.tup []), (.tup []), (.tup []), (.tup []), (.tup [])], H⟩ [0] [r69X0_0 C0 d a0 a1 v0 x3 x4 v5 v9] (r69E0 C0 d a0 a1 v0 x3 x4 v5 v9) = L69_0 d a1 v0 v5 v9 n x16 H := by
  generalize hR : r69R0 C0 d a0 a1 v0 x3 x4 v5 v9 = R
  intro n
  induction n with
  | zero => intros; rfl
  | succ n ih =>
    intro x16 v17 v18 v19 v20 v21 v22 v23 v24 v25 v26 v27 v28 v29 v30 v31 H
    simp only [it_ret] at ih
    rw [it_ret, xiter_s]
    refine Eq.trans (congrFun (congrFun hR.symm _) _) ?_
    unfold r69R0
    refine Eq.trans (pl_len (by rfl)) ?_; (iterate 8 (refine Eq.trans (pl_same (by rfl)) ?_)); refine Eq.trans (pl_int (by rfl)) ?_; (iterate 5 (refine Eq.trans (pl_same (by rfl)) ?_)); (iterate 15 (refine Eq.trans (pl_any (by rfl)) ?_)); (iterate 7 (refine Eq.trans (pl_same (by rfl)) ?_))
    simp only [L69_0, kIter_n, kIter_x, kIter_r, kOut_x, kOut_r, xgo_hit, xgo_miss, ih, X69_0_0_ok d a0 a1 v0 x3 x4 v5 v9  , E69_0_ok d a0 a1 v0 x3 x4 v5 v9  ]
/-- apogee/apogeeref01.Mul -/
theorem q69 (d : Nat) (a0 : Int) (a1 : Int) : xcall C0 M unr d 69 [(.int .i64 a0), (.int .i64 a1)] =
  C0.hop [] (.alloc E82) fun v0 h1 =>
  C0.agg 2 (pcall M d 76 [(.int .i64 a0)]) fun l2 =>
  C0.int .i64 l2[0]? fun x3 =>
  C0.int .u64 l2[1]? fun x4 =>
  C0.hop h1 (.alloc E82) fun v5 h6 =>
  C0.hop h6 (.store 2 (.v v5) (.v (.agg [(.int .i64 x3), (.int .u64 x4)]))) fun v7 h8 =>
  C0.hop h8 (.alloc E82) fun v9 h10 =>
  C0.hop h10 (.store 2 (.v v9) (.v (.agg [(.int .i64 0), (.int .u64 0)]))) fun v11 h12 =>
  L69_0 d a1 v0 v5 v9 1000000000000000000 0 h12 := (r69 C0 d a0 a1).trans (by simp only [it69_0])
noncomputable def X77_0_0 (d : Nat) (v4 : AV) (v11 : AV) (v17 : AV) (v62 : AV) (H : Heap) : Ans :=
  C0.snp H [v62] fun l88 b89 =>
   C0.agg 2 (pcall M d 81 l88) fun l90 =>
   C0.int .i64 l90[0]? fun x91 =>
   C0.int .u64 l90[1]? fun x92 =>
   cnd (b89 || true)
   (C0.hop H (.store 2 (.v v4) (.v (.agg [(.int .i64 x91), (.int .u64 x92)]))) fun v93 h94 =>
   C0.hop h94 (.load true 2 (.v v4)) fun v95 h96 =>
   C0.fin h94 v95)
   (none)
theorem X77_0_0_ok (d : Nat) (a0 : Int) (a1 : Int) (a2 : Int) (a3 : Int) (v0 : AV) (v2 : AV) (v4 : AV) (x9 : Int) (x10 : Int) (v11 : AV) (x15 : Int) (x16 : Int) (v17 : AV)   (v62 : AV) (x63 : Int) (x64 : Int) (v65 : AV) (x66 : Int) (b67 : Bool) (v68 : AV) (v69 : AV) (v70 : AV) (v71 : AV) (v72 : AV) (v73 : AV) (v74 : AV) (v75 : AV) (v76 : AV) (v77 : AV) (v78 : AV) (v79 : AV) (v80 : AV) (v81 : AV) (v82 : AV) (v83 : AV) (v84 : AV) (v85 : AV) (v86 : AV) (v87 : AV) (H : Heap) : r77X0_0 C0 d a0 a1 a2 a3 v0 v2 v4 x9 x10 v11 x15 x16 v17 ⟨[(.agg [(.int .i64 a0), (.int .u64 a1)]), (.agg [(.int .i64 a2), (.int .u64 a3)]), v0, v2, v4, v11, v17, v62, (.int .i64 x63), (.int .i64 x64), v65, (.agg [(.int .i64 x9), (.int .u64 x10)]), v11, (.agg [(.int .i64 x15), (.int .u64 x16)]), v17, (.int .i64 x66), (.bool b67), v68, v69, v70, v71, v72, v73, v74, v75, v76, v77, v78, v79, v80, v81, v82, v83, v84, v85, v86, v87, (.tup []), (.tup [])], H⟩ = X77_0_0 d v4 v11 v17 v62 H := by
  unfold r77X0_0; refine Eq.trans (pl_len (by rfl)) ?_; (iterate 7 (refine Eq.trans (pl_same (by rfl)) ?_)); refine Eq.trans (pl_any (by rfl)) ?_; (iterate 2 (refine Eq.trans (pl_int (by rfl)) ?_)); refine Eq.trans (pl_any (by rfl)) ?_; (iterate 4 (refine Eq.trans (pl_same (by rfl)) ?_)); refine Eq.trans (pl_int (by rfl)) ?_; refine Eq.trans (pl_bool (by rfl)) ?_; (iterate 20 (refine Eq.trans (pl_any (by rfl)) ?_)); (iterate 2 (refine Eq.trans (pl_same (by rfl)) ?_))
  rfl
noncomputable def E77_0 (d : Nat) (v4 : AV) (v11 : AV) (v17 : AV) (H : Heap) : Ans :=
  C0.hop H (.load true 2 (.v v4)) fun v123 h124 =>
   C0.fin H v123
theorem E77_0_ok (d : Nat) (a0 : Int) (a1 : Int) (a2 : Int) (a3 : Int) (v0 : AV) (v2 : AV) (v4 : AV) (x9 : Int) (x10 : Int) (v11 : AV) (x15 : Int) (x16 : Int) (v17 : AV)   (v97 : AV) (x98 : Int) (x99 : Int) (v100 : AV) (v101 : AV) (v102 : AV) (v103 : AV) (v104 : AV) (v105 : AV) (v106 : AV) (v107 : AV) (v108 : AV) (v109 : AV) (v110 : AV) (v111 : AV) (v112 : AV) (v113 : AV) (v114 : AV) (v115 : AV) (v116 : AV) (v117 : AV) (v118 : AV) (v119 : AV) (v120 : AV) (v121 : AV) (v122 : AV) (H : Heap) : r77E0 C0 d a0 a1 a2 a3 v0 v2 v4 x9 x10 v11 x15 x16 v17 ⟨[(.agg [(.int .i64 a0), (.int .u64 a1)]), (.agg [(.int .i64 a2), (.int .u64 a3)]), v0, v2, v4, v11, v17, v97, (.int .i64 x98), (.int .i64 x99), v100, (.agg [(.int .i64 x9), (.int .u64 x10)]), v11, (.agg [(.int .i64 x15), (.int .u64 x16)]), v17, v101, v102, v103, v104, v105, v106, v107, v108, v109, v110, v111, v112, v113, v114, v115, v116, v117, v118, v119, v120, v121, v122, (.tup []), (.tup [])], H⟩ = E77_0 d v4 v11 v17 H := by
  unfold r77E0; refine Eq.trans (pl_len (by rfl)) ?_; (iterate 7 (refine Eq.trans (pl_same (by rfl)) ?_)); refine Eq.trans (pl_any (by rfl)) ?_; (iterate 2 (refine Eq.trans (pl_int (by rfl)) ?_)); refine Eq.trans (pl_any (by rfl)) ?_; (iterate 4 (refine Eq.trans (pl_same (by rfl)) ?_)); (iterate 22 (refine Eq.trans (pl_any (by rfl)) ?_)); (iterate 2 (refine Eq.trans (pl_same (by rfl)) ?_))
  rfl
noncomputable def L77_0 (d : Nat) (v4 : AV) (v11 : AV) (v17 : AV) : Nat → AV → Int → Int → Heap → Ans
  | 0, _, _, _, _ => none
  | n + 1, v21, x22, x23, H =>
  cnd (decide (x23 < 128))
   (C0.hop H (.ixAS .any 1 (.v v11) (.v (.int .i64 x23))) fun v47 h48 =>
   C0.hop h48 (.load false 1 (.v v47)) fun v49 h50 =>
   C0.int .i64 (some v49) fun x51 =>
   C0.hop h50 (.ixAS .any 1 (.v v17) (.v (.int .i64 x23))) fun v52 h53 =>
   C0.hop h53 (.load false 1 (.v v52)) fun v54 h55 =>
   C0.int .i64 (some v54) fun x56 =>
   C0.hop h55 (.mkrow E3 1 [(0, (.v (.int .i64 (Int.tmod (IntKind.wrap .i64 ((IntKind.wrap .i64 (x51 + x56)) + x22)) 2))))]) fun v57 h58 =>
   C0.hop h58 (.app E3 (.v v21) (.v v57)) fun v59 h60 =>
   L77_0 d v4 v11 v17 n v59 (IntKind.wrap .i64 (Int.tdiv (IntKind.wrap .i64 ((IntKind.wrap .i64 (x51 + x56)) + x22)) 2)) (IntKind.wrap .i64 (x23 + 1)) h60)
   (X77_0_0 d v4 v11 v17 v21 H)
theorem it77_0 (d : Nat) (a0 : Int) (a1 : Int) (a2 : Int) (a3 : Int) (v0 : AV) (v2 : AV) (v4 : AV) (x9 : Int) (x10 : Int) (v11 : AV) (x15 : Int) (x16 : Int) (v17 : AV)   : ∀ (n : Nat) (v21 : AV) (x22 : Int) (x23 : Int) (v24 : AV) (v25 : AV) (v26 : AV) (v27 : AV) (v28 : AV) (v29 : AV) (v30 : AV) (v31 : AV) (v32 : AV) (v33 : AV) (v34 : AV) (v35 : AV) (v36 : AV) (v37 : AV) (v38 : AV) (v39 : AV) (v40 : AV) (v41 : AV) (v42 : AV) (v43 : AV) (v44 : AV) (v45 : AV) (v46 : AV) (H : Heap), C0.iter (r77R0 C0 d a0 a1 a2 a3 v0 v2 v4 x9 x10 v11 x15 x16 v17) n ⟨[(.agg [(.int .i64 a0), (.int .u64 a1)]), (.agg [(.int .i64 a2), (.int .u64 a3)]), v0, v2, v4, v11, v17, v21, (.int .i64 x22), (.int .i64 x23), v24, (.agg [(.int .i64 x9), (.int .u64 x10)]), v11, (.agg [(.int .i64 x15), (.int .u64 x16)]), v17, v25, v26, v27, v28, v29, v30, v31, v32, v33, v34, v35, v36, v37, v38, v39, v40, v41, v42, v43, v44, v45, v46, (.tup []), (.tup [])], H⟩ [0] [r77X0_0 C0 d a0 a1 a2 a3 v0 v2 v4 x9 x10 v11 x15 x16 v17] (r77E0 C0 d a0 a1 a2 a3 v0 v2 v4 x9 x10 v11 x15 x16 v17) = L77_0 d v4 v11 v17 n v21 x22 x23 H := by
  generalize hR : r77R0 C0 d a0 a1 a2 a3 v0 v2 v4 x9 x10 v11 x15 x16 v17 = R
  intro n
  induction n with
  | zero => intros; rfl
  | succ n ih =>
    intro v21 x22 x23 v24 v25 v26 v27 v28 v29 v30 v31 v32 v33 v34 v35 v36 v37 v38 v39 v40 v41 v42 v43 v44 v45 v46 H
    simp only [it_ret] at ih
    rw [it_ret, xiter_s]
    refine Eq.trans (congrFun (congrFun hR.symm _) _) ?_
    unfold r77R0
    refine Eq.trans (pl_len (by rfl)) ?_; (iterate 7 (refine Eq.trans (pl_same (by rfl)) ?_)); refine Eq.trans (pl_any (by rfl)) ?_; (iterate 2 (refine Eq.trans (pl_int (by rfl)) ?_)); refine Eq.trans (pl_any (by rfl)) ?_; (iterate 4 (refine Eq.trans (pl_same (by rfl)) ?_)); (iterate 22 (refine Eq.trans (pl_any (by rfl)) ?_)); (iterate 2 (refine Eq.trans (pl_same (by rfl)) ?_))
    simp only [L77_0, kIter_n, kIter_x, kIter_r, kOut_x, kOut_r, xgo_hit, xgo_miss, ih, X77_0_0_ok d a0 a1 a2 a3 v0 v2 v4 x9 x10 v11 x15 x16 v17  , E77_0_ok d a0 a1 a2 a3 v0 v2 v4 x9 x10 v11 x15 x16 v17  ]
/-- apogee/apogeeref01.plus -/
theorem q77 (d : Nat) (a0 : Int) (a1 : Int) (a2 : Int) (a3 : Int) : xcall C0 M unr d 77 [(.agg [(.int .i64 a0), (.int .u64 a1)]), (.agg [(.int .i64 a2), (.int .u64 a3)])] =
  C0.hop [] (.box E82 (.v (.agg [(.int .i64 a0), (.int .u64 a1)]))) fun v0 h1 =>
  C0.hop h1 (.box E82 (.v (.agg [(.int .i64 a2), (.int .u64 a3)]))) fun v2 h3 =>
  C0.hop h3 (.alloc E82) fun v4 h5 =>
  C0.hop h5 (.load true 2 (.v v0)) fun v6 h7 =>
  C0.agg 2 (some v6) fun l8 =>
  C0.int .i64 l8[0]? fun x9 =>
  C0.int .u64 l8[1]? fun x10 =>
  C0.any (pcall M d 80 [(.agg [(.int .i64 x9), (.int .u64 x10)])]) fun v11 =>
  C0.hop h7 (.load true 2 (.v v2)) fun v12 h13 =>
  C0.agg 2 (some v12) fun l14 =>
  C0.int .i64 l14[0]? fun x15 =>
  C0.int .u64 l14[1]? fun x16 =>
  C0.any (pcall M d 80 [(.agg [(.int .i64 x15), (.int .u64 x16)])]) fun v17 =>
  L77_0 d v4 v11 v17 1000000000000000000 (.zsl true) 0 0 h13 := (r77 C0 d a0 a1 a2 a3).trans (by simp only [it77_0])
noncomputable def X80_1_0 (d : Nat) (v0 : AV) (v74 : AV) (H : Heap) : Ans :=
  C0.fin H v74
theorem X80_1_0_ok (d : Nat) (a0 : Int) (a1 : Int) (v0 : AV) (x31 : Int) (x32 : Int) (b33 : Bool) (v34 : AV) (v35 : AV) (v36 : AV) (v37 : AV) (v38 : AV) (v39 : AV) (v40 : AV) (v41 : AV) (v42 : AV) (v43 : AV) (v44 : AV)   (v74 : AV) (x75 : Int) (x76 : Int) (b77 : Bool) (v78 : AV) (v79 : AV) (v80 : AV) (v81 : AV) (v82 : AV) (v83 : AV) (v84 : AV) (v85 : AV) (v86 : AV) (v87 : AV) (v88 : AV) (v89 : AV) (H : Heap) : r80X1_0 C0 d a0 a1 v0 x31 x32 b33 v34 v35 v36 v37 v38 v39 v40 v41 v42 v43 v44 ⟨[(.agg [(.int .i64 a0), (.int .u64 a1)]), v0, (.zsl true), v74, (.int .i64 x31), (.int .i64 x75), (.int .i64 x32), (.bool b33), v34, v35, v36, v37, v38, v39, v40, v41, v42, v43, v44, (.int .i64 x76), (.bool b77), v78, v79, v80, v81, v82, v83, v84, v85, v86, v87, v88, v89, (.tup [])], H⟩ = X80_1_0 d v0 v74 H := by
  unfold r80X1_0; refine Eq.trans (pl_len (by rfl)) ?_; (iterate 3 (refine Eq.trans (pl_same (by rfl)) ?_)); refine Eq.trans (pl_any (by rfl)) ?_; refine Eq.trans (pl_same (by rfl)) ?_; refine Eq.trans (pl_int (by rfl)) ?_; (iterate 13 (refine Eq.trans (pl_same (by rfl)) ?_)); refine Eq.trans (pl_int (by rfl)) ?_; refine Eq.trans (pl_bool (by rfl)) ?_; (iterate 12 (refine Eq.trans (pl_any (by rfl)) ?_)); refine Eq.trans (pl_same (by rfl)) ?_
  rfl
noncomputable def E80_1 (d : Nat) (v0 : AV) (H : Heap) : Ans :=
  C0.fin H (.zsl true)
theorem E80_1_ok (d : Nat) (a0 : Int) (a1 : Int) (v0 : AV) (x31 : Int) (x32 : Int) (b33 : Bool) (v34 : AV) (v35 : AV) (v36 : AV) (v37 : AV) (v38 : AV) (v39 : AV) (v40 : AV) (v41 : AV) (v42 : AV) (v43 : AV) (v44 : AV)   (v90 : AV) (x91 : Int) (v92 : AV) (v93 : AV) (v94 : AV) (v95 : AV) (v96 : AV) (v97 : AV) (v98 : AV) (v99 : AV) (v100 : AV) (v101 : AV) (v102 : AV) (v103 : AV) (v104 : AV) (v105 : AV) (H : Heap) : r80E1 C0 d a0 a1 v0 x31 x32 b33 v34 v35 v36 v37 v38 v39 v40 v41 v42 v43 v44 ⟨[(.agg [(.int .i64 a0), (.int .u64 a1)]), v0, (.zsl true), v90, (.int .i64 x31), (.int .i64 x91), (.int .i64 x32), (.bool b33), v34, v35, v36, v37, v38, v39, v40, v41, v42, v43, v44, v92, v93, v94, v95, v96, v97, v98, v99, v100, v101, v102, v103, v104, v105, (.tup [])], H⟩ = E80_1 d v0 H := by
  unfold r80E1; refine Eq.trans (pl_len (by rfl)) ?_; (iterate 3 (refine Eq.trans (pl_same (by rfl)) ?_)); refine Eq.trans (pl_any (by rfl)) ?_; refine Eq.trans (pl_same (by rfl)) ?_; refine Eq.trans (pl_int (by rfl)) ?_; (iterate 13 (refine Eq.trans (pl_same (by rfl)) ?_)); (iterate 14 (refine Eq.trans (pl_any (by rfl)) ?_)); refine Eq.trans (pl_same (by rfl)) ?_
  rfl
noncomputable def L80_1 (d : Nat) (v0 : AV) : Nat → AV → Int → Heap → Ans
  | 0, _, _, _ => none
  | n + 1, v48, x49, H =>
  cnd (decide (x49 < 64))
   (C0.hop H (.fldA 0 (.v v0)) fun v64 h65 =>
   C0.hop h65 (.load false 1 (.v v64)) fun v66 h67 =>
   C0.int .i64 (some v66) fun x68 =>
   cnd (decide (x49 < 0))
   (none)
   (C0.hop h67 (.mkrow E3 1 [(0, (.v (.int .i64 (IntKind.wrap .i64 (bits .and .u64 (Int.fdiv (IntKind.wrap .u64 x68) (2 ^ (min (Int.toNat x49) 64))) 1)))))]) fun v69 h70 =>
   C0.hop h70 (.app E3 (.v v48) (.v v69)) fun v71 h72 =>
   L80_1 d v0 n v71 (IntKind.wrap .i64 (x49 + 1)) h72))
   (X80_1_0 d v0 v48 H)
theorem it80_1 (d : Nat) (a0 : Int) (a1 : Int) (v0 : AV) (x31 : Int) (x32 : Int) (b33 : Bool) (v34 : AV) (v35 : AV) (v36 : AV) (v37 : AV) (v38 : AV) (v39 : AV) (v40 : AV) (v41 : AV) (v42 : AV) (v43 : AV) (v44 : AV)   : ∀ (n : Nat) (v48 : AV) (x49 : Int) (v50 : AV) (v51 : AV) (v52 : AV) (v53 : AV) (v54 : AV) (v55 : AV) (v56 : AV) (v57 : AV) (v58 : AV) (v59 : AV) (v60 : AV) (v61 : AV) (v62 : AV) (v63 : AV) (H : Heap), C0.iter (r80R1 C0 d a0 a1 v0 x31 x32 b33 v34 v35 v36 v37 v38 v39 v40 v41 v42 v43 v44) n ⟨[(.agg [(.int .i64 a0), (.int .u64 a1)]), v0, (.zsl true), v48, (.int .i64 x31), (.int .i64 x49), (.int .i64 x32), (.bool b33), v34, v35, v36, v37, v38, v39, v40, v41, v42, v43, v44, v50, v51, v52, v53, v54, v55, v56, v57, v58, v59, v60, v61, v62, v63, (.tup [])], H⟩ [2] [r80X1_0 C0 d a0 a1 v0 x31 x32 b33 v34 v35 v36 v37 v38 v39 v40 v41 v42 v43 v44] (r80E1 C0 d a0 a1 v0 x31 x32 b33 v34 v35 v36 v37 v38 v39 v40 v41 v42 v43 v44) = L80_1 d v0 n v48 x49 H := by
  generalize hR : r80R1 C0 d a0 a1 v0 x31 x32 b33 v34 v35 v36 v37 v38 v39 v40 v41 v42 v43 v44 = R
  intro n
  induction n with
  | zero => intros; rfl
  | succ n ih =>
    intro v48 x49 v50 v51 v52 v53 v54 v55 v56 v57 v58 v59 v60 v61 v62 v63 H
    simp only [it_ret] at ih
    rw [it_ret, xiter_s]
    refine Eq.trans (congrFun (congrFun hR.symm _) _) ?_
    unfold r80R1
    refine Eq.trans (pl_len (by rfl)) ?_; (iterate 3 (refine Eq.trans (pl_same (by rfl)) ?_)); refine Eq.trans (pl_any (by rfl)) ?_; refine Eq.trans (pl_same (by rfl)) ?_; refine Eq.trans (pl_int (by rfl)) ?_; (iterate 13 (refine Eq.trans (pl_same (by rfl)) ?_)); (iterate 14 (refine Eq.trans (pl_any (by rfl)) ?_)); refine Eq.trans (pl_same (by rfl)) ?_
    simp only [L80_1, kIter_n, kIter_x, kIter_r, kOut_x, kOut_r, xgo_hit, xgo_miss, ih, X80_1_0_ok d a0 a1 v0 x31 x32 b33 v34 v35 v36 v37 v38 v39 v40 v41 v42 v43 v44  , E80_1_ok d a0 a1 v0 x31 x32 b33 v34 v35 v36 v37 v38 v39 v40 v41 v42 v43 v44  ]
noncomputable def X80_0_0 (d : Nat) (v0 : AV) (v30 : AV) (H : Heap) : Ans :=
  L80_1 d v0 1000000000000000000 v30 0 H
theorem X80_0_0_ok (d : Nat) (a0 : Int) (a1 : Int) (v0 : AV)   (v30 : AV) (x31 : Int) (x32 : Int) (b33 : Bool) (v34 : AV) (v35 : AV) (v36 : AV) (v37 : AV) (v38 : AV) (v39 : AV) (v40 : AV) (v41 : AV) (v42 : AV) (v43 : AV) (v44 : AV) (H : Heap) : r80X0_0 C0 d a0 a1 v0 ⟨[(.agg [(.int .i64 a0), (.int .u64 a1)]), v0, (.zsl true), v30, (.int .i64 x31), (.tup []), (.int .i64 x32), (.bool b33), v34, v35, v36, v37, v38, v39, v40, v41, v42, v43, v44, (.tup []), (.tup []), (.tup []), (.tup []), (.tup []), (.tup []), (.tup []), (.tup []), (.tup []), (.tup []), (.tup []), (.tup []), (.tup []), (.tup []), (.tup [])], H⟩ = X80_0_0 d v0 v30 H := by
  unfold r80X0_0; refine Eq.trans (pl_len (by rfl)) ?_; (iterate 3 (refine Eq.trans (pl_same (by rfl)) ?_)); refine Eq.trans (pl_any (by rfl)) ?_; refine Eq.trans (pl_int (by rfl)) ?_; refine Eq.trans (pl_same (by rfl)) ?_; refine Eq.trans (pl_int (by rfl)) ?_; refine Eq.trans (pl_bool (by rfl)) ?_; (iterate 11 (refine Eq.trans (pl_any (by rfl)) ?_)); (iterate 15 (refine Eq.trans (pl_same (by rfl)) ?_))
  first | rfl | (simp only [it80_1] <;> rfl)
noncomputable def E80_0 (d : Nat) (v0 : AV) (H : Heap) : Ans :=
  C0.fin H (.zsl true)
theorem E80_0_ok (d : Nat) (a0 : Int) (a1 : Int) (v0 : AV)   (v106 : AV) (x107 : Int) (v108 : AV) (v109 : AV) (v110 : AV) (v111 : AV) (v112 : AV) (v113 : AV) (v114 : AV) (v115 : AV) (v116 : AV) (v117 : AV) (v118 : AV) (v119 : AV) (v120 : AV) (H : Heap) : r80E0 C0 d a0 a1 v0 ⟨[(.agg [(.int .i64 a0), (.int .u64 a1)]), v0, (.zsl true), v106, (.int .i64 x107), (.tup []), v108, v109, v110, v111, v112, v113, v114, v115, v116, v117, v118, v119, v120, (.tup []), (.tup []), (.tup []), (.tup []), (.tup []), (.tup []), (.tup []), (.tup []), (.tup []), (.tup []), (.tup []), (.tup []), (.tup []), (.tup []), (.tup [])], H⟩ = E80_0 d v0 H := by
  unfold r80E0; refine Eq.trans (pl_len (by rfl)) ?_; (iterate 3 (refine Eq.trans (pl_same (by rfl)) ?_)); refine Eq.trans (pl_any (by rfl)) ?_; refine Eq.trans (pl_int (by rfl)) ?_; refine Eq.trans (pl_same (by rfl)) ?_; (iterate 13 (refine Eq.trans (pl_any (by rfl)) ?_)); (iterate 15 (refine Eq.trans (pl_same (by rfl)) ?_))
  rfl
noncomputable def L80_0 (d : Nat) (v0 : AV) : Nat → AV → Int → Heap → Ans
  | 0, _, _, _ => none
  | n + 1, v5, x6, H =>
  cnd (decide (x6 < 64))
   (C0.hop H (.fldA 1 (.v v0)) fun v20 h21 =>
   C0.hop h21 (.load false 1 (.v v20)) fun v22 h23 =>
   C0.int .u64 (some v22) fun x24 =>
   cnd (decide (x6 < 0))
   (none)
   (C0.hop h23 (.mkrow E3 1 [(0, (.v (.int .i64 (IntKind.wrap .i64 (bits .and .u64 (Int.fdiv x24 (2 ^ (min (Int.toNat x6) 64))) 1)))))]) fun v25 h26 =>
   C0.hop h26 (.app E3 (.v v5) (.v v25)) fun v27 h28 =>
   L80_0 d v0 n v27 (IntKind.wrap .i64 (x6 + 1)) h28))
   (X80_0_0 d v0 v5 H)
theorem it80_0 (d : Nat) (a0 : Int) (a1 : Int) (v0 : AV)   : ∀ (n : Nat) (v5 : AV) (x6 : Int) (v7 : AV) (v8 : AV) (v9 : AV) (v10 : AV) (v11 : AV) (v12 : AV) (v13 : AV) (v14 : AV) (v15 : AV) (v16 : AV) (v17 : AV) (v18 : AV) (v19 : AV) (H : Heap), C0.iter (r80R0 C0 d a0 a1 v0) n ⟨[(.agg [(.int .i64 a0), (.int .u64 a1)]), v0, (.zsl true), v5, (.int .i64 x6), (.tup []), v7, v8, v9, v10, v11, v12, v13, v14, v15, v16, v17, v18, v19, (.tup []), (.tup []), (.tup []), (.tup []), (.tup []), (.tup []), (.tup []), (.tup []), (.tup []), (.tup []), (.tup []), (.tup []), (.tup []), (.tup []), (.tup [])], H⟩ [0] [r80X0_0 C0 d a0 a1 v0] (r80E0 C0 d a0 a1 v0) = L80_0 d v0 n v5 x6 H := by
  generalize hR : r80R0 C0 d a0 a1 v0 = R
  intro n
  induction n with
  | zero => intros; rfl
  | succ n ih =>
    intro v5 x6 v7 v8 v9 v10 v11 v12 v13 v14 v15 v16 v17 v18 v19 H
    simp only [it_ret] at ih
    rw [it_ret, xiter_s]
    refine Eq.trans (congrFun (congrFun hR.symm _) _) ?_
    unfold r80R0
    refine Eq.trans (pl_len (by rfl)) ?_; (iterate 3 (refine Eq.trans (pl_same (by rfl)) ?_)); refine Eq.trans (pl_any (by rfl)) ?_; refine Eq.trans (pl_int (by rfl)) ?_; refine Eq.trans (pl_same (by rfl)) ?_; (iterate 13 (refine Eq.trans (pl_any (by rfl)) ?_)); (iterate 15 (refine Eq.trans (pl_same (by rfl)) ?_))
    simp only [L80_0, kIter_n, kIter_x, kIter_r, kOut_x, kOut_r, xgo_hit, xgo_miss, ih, X80_0_0_ok d a0 a1 v0  , E80_0_ok d a0 a1 v0  ]
/-- apogee/apogeeref01.bits -/
theorem q80 (d : Nat) (a0 : Int) (a1 : Int) : xcall C0 M unr d 80 [(.agg [(.int .i64 a0), (.int .u64 a1)])] =
  C0.hop [] (.box E82 (.v (.agg [(.int .i64 a0), (.int .u64 a1)]))) fun v0 h1 =>
  L80_0 d v0 1000000000000000000 (.zsl true) 0 h1 := (r80 C0 d a0 a1).trans (by simp only [it80_0])
noncomputable def X81_0_0 (d : Nat) (a0 : List AV) (v0 : AV) (v2 : AV) (x61 : Int) (H : Heap) : Ans :=
  C0.hop H (.fldA 0 (.v v2)) fun v88 h89 =>
   C0.hop h89 (.store 1 (.v v88) (.v (.int .i64 (IntKind.wrap .i64 x61)))) fun v90 h91 =>
   C0.hop h91 (.load true 2 (.v v2)) fun v92 h93 =>
   C0.agg 2 (some v92) fun l94 =>
   C0.int .i64 l94[0]? fun x95 =>
   C0.int .u64 l94[1]? fun x96 =>
   C0.hop h93 (.store 2 (.v v0) (.v (.agg [(.int .i64 x95), (.int .u64 x96)]))) fun v97 h98 =>
   C0.hop h98 (.load true 2 (.v v0)) fun v99 h100 =>
   C0.fin h98 v99
theorem X81_0_0_ok (d : Nat) (a0 : List AV) (v0 : AV) (v2 : AV)   (x61 : Int) (x62 : Int) (x63 : Int) (b64 : Bool) (v65 : AV) (v66 : AV) (v67 : AV) (v68 : AV) (v69 : AV) (v70 : AV) (v71 : AV) (v72 : AV) (v73 : AV) (v74 : AV) (v75 : AV) (v76 : AV) (v77 : AV) (v78 : AV) (v79 : AV) (v80 : AV) (v81 : AV) (v82 : AV) (v83 : AV) (v84 : AV) (v85 : AV) (v86 : AV) (v87 : AV) (H : Heap) : r81X0_0 C0 d a0 v0 v2 ⟨[(.lst a0), (.tup []), v0, v2, (.int .u64 x61), (.int .i64 x62), (.agg [(.int .i64 0), (.int .u64 0)]), (.int .i64 x63), (.bool b64), v65, v66, v67, v68, v69, v70, v71, v72, v73, v74, v75, v76, v77, v78, v79, v80, v81, v82, v83, v84, v85, v86, v87, (.tup []), (.tup []), (.tup []), (.tup [])], H⟩ = X81_0_0 d a0 v0 v2 x61 H := by
  unfold r81X0_0; refine Eq.trans (pl_len (by rfl)) ?_; (iterate 4 (refine Eq.trans (pl_same (by rfl)) ?_)); (iterate 2 (refine Eq.trans (pl_int (by rfl)) ?_)); refine Eq.trans (pl_same (by rfl)) ?_; refine Eq.trans (pl_int (by rfl)) ?_; refine Eq.trans (pl_bool (by rfl)) ?_; (iterate 23 (refine Eq.trans (pl_any (by rfl)) ?_)); (iterate 4 (refine Eq.trans (pl_same (by rfl)) ?_))
  rfl
noncomputable def E81_0 (d : Nat) (a0 : List AV) (v0 : AV) (v2 : AV) (H : Heap) : Ans :=
  C0.hop H (.load true 2 (.v v0)) fun v128 h129 =>
   C0.fin H v128
theorem E81_0_ok (d : Nat) (a0 : List AV) (v0 : AV) (v2 : AV)   (x101 : Int) (x102 : Int) (v103 : AV) (v104 : AV) (v105 : AV) (v106 : AV) (v107 : AV) (v108 : AV) (v109 : AV) (v110 : AV) (v111 : AV) (v112 : AV) (v113 : AV) (v114 : AV) (v115 : AV) (v116 : AV) (v117 : AV) (v118 : AV) (v119 : AV) (v120 : AV) (v121 : AV) (v122 : AV) (v123 : AV) (v124 : AV) (v125 : AV) (v126 : AV) (v127 : AV) (H : Heap) : r81E0 C0 d a0 v0 v2 ⟨[(.lst a0), (.tup []), v0, v2, (.int .u64 x101), (.int .i64 x102), (.agg [(.int .i64 0), (.int .u64 0)]), v103, v104, v105, v106, v107, v108, v109, v110, v111, v112, v113, v114, v115, v116, v117, v118, v119, v120, v121, v122, v123, v124, v125, v126, v127, (.tup []), (.tup []), (.tup []), (.tup [])], H⟩ = E81_0 d a0 v0 v2 H := by
  unfold r81E0; refine Eq.trans (pl_len (by rfl)) ?_; (iterate 4 (refine Eq.trans (pl_same (by rfl)) ?_)); (iterate 2 (refine Eq.trans (pl_int (by rfl)) ?_)); refine Eq.trans (pl_same (by rfl)) ?_; (iterate 25 (refine Eq.trans (pl_any (by rfl)) ?_)); (iterate 4 (refine Eq.trans (pl_same (by rfl)) ?_))
  rfl
noncomputable def L81_0 (d : Nat) (a0 : List AV) (v0 : AV) (v2 : AV) : Nat → Int → Int → Heap → Ans
  | 0, _, _, _ => none
  | n + 1, x9, x10, H =>
  cnd (decide (x10 < 64))
   (C0.hop H (.ixAS .any 1 (.v (.lst a0)) (.v (.int .i64 x10))) fun v36 h37 =>
   C0.hop h37 (.load false 1 (.v v36)) fun v38 h39 =>
   C0.int .i64 (some v38) fun x40 =>
   cnd (x40 == 1)
   (C0.hop h39 (.fldA 1 (.v v2)) fun v41 h42 =>
   C0.hop h42 (.load false 1 (.v v41)) fun v43 h44 =>
   C0.int .u64 (some v43) fun x45 =>
   cnd (decide (x10 < 0))
   (none)
   (C0.hop h44 (.fldA 1 (.v v2)) fun v46 h47 =>
   C0.hop h47 (.store 1 (.v v46) (.v (.int .u64 (bits .or .u64 x45 (IntKind.wrap .u64 (1 * (2 ^ (min (Int.toNat x10) 64)))))))) fun v48 h49 =>
   C0.hop h49 (.ixAS .any 1 (.v (.lst a0)) (.v (.int .i64 (IntKind.wrap .i64 (64 + x10))))) fun v50 h51 =>
   C0.hop h51 (.load false 1 (.v v50)) fun v52 h53 =>
   C0.int .i64 (some v52) fun x54 =>
   cnd (x54 == 1)
   (cnd (decide (x10 < 0))
   (none)
   (L81_0 d a0 v0 v2 n (bits .or .u64 x9 (IntKind.wrap .u64 (1 * (2 ^ (min (Int.toNat x10) 64))))) (IntKind.wrap .i64 (x10 + 1)) h53))
   (L81_0 d a0 v0 v2 n x9 (IntKind.wrap .i64 (x10 + 1)) h53)))
   (C0.hop h39 (.ixAS .any 1 (.v (.lst a0)) (.v (.int .i64 (IntKind.wrap .i64 (64 + x10))))) fun v55 h56 =>
   C0.hop h56 (.load false 1 (.v v55)) fun v57 h58 =>
   C0.int .i64 (some v57) fun x59 =>
   cnd (x59 == 1)
   (cnd (decide (x10 < 0))
   (none)
   (L81_0 d a0 v0 v2 n (bits .or .u64 x9 (IntKind.wrap .u64 (1 * (2 ^ (min (Int.toNat x10) 64))))) (IntKind.wrap .i64 (x10 + 1)) h58))
   (L81_0 d a0 v0 v2 n x9 (IntKind.wrap .i64 (x10 + 1)) h58)))
   (X81_0_0 d a0 v0 v2 x9 H)
theorem it81_0 (d : Nat) (a0 : List AV) (v0 : AV) (v2 : AV)   : ∀ (n : Nat) (x9 : Int) (x10 : Int) (v11 : AV) (v12 : AV) (v13 : AV) (v14 : AV) (v15 : AV) (v16 : AV) (v17 : AV) (v18 : AV) (v19 : AV) (v20 : AV) (v21 : AV) (v22 : AV) (v23 : AV) (v24 : AV) (v25 : AV) (v26 : AV) (v27 : AV) (v28 : AV) (v29 : AV) (v30 : AV) (v31 : AV) (v32 : AV) (v33 : AV) (v34 : AV) (v35 : AV) (H : Heap), C0.iter (r81R0 C0 d a0 v0 v2) n ⟨[(.lst a0), (.tup []), v0, v2, (.int .u64 x9), (.int .i64 x10), (.agg [(.int .i64 0), (.int .u64 0)]), v11, v12, v13, v14, v15, v16, v17, v18, v19, v20, v21, v22, v23, v24, v25, v26, v27, v28, v29, v30, v31, v32, v33, v34, v35, (.tup []), (.tup []), (.tup []), (.tup [])], H⟩ [0] [r81X0_0 C0 d a0 v0 v2] (r81E0 C0 d a0 v0 v2) = L81_0 d a0 v0 v2 n x9 x10 H := by
  generalize hR : r81R0 C0 d a0 v0 v2 = R
  intro n
  induction n with
  | zero => intros; rfl
  | succ n ih =>
    intro x9 x10 v11 v12 v13 v14 v15 v16 v17 v18 v19 v20 v21 v22 v23 v24 v25 v26 v27 v28 v29 v30 v31 v32 v33 v34 v35 H
    simp only [it_ret] at ih
    rw [it_ret, xiter_s]
    refine Eq.trans (congrFun (congrFun hR.symm _) _) ?_
    unfold r81R0
    refine Eq.trans (pl_len (by rfl)) ?_; (iterate 4 (refine Eq.trans (pl_same (by rfl)) ?_)); (iterate 2 (refine Eq.trans (pl_int (by rfl)) ?_)); refine Eq.trans (pl_same (by rfl)) ?_; (iterate 25 (refine Eq.trans (pl_any (by rfl)) ?_)); (iterate 4 (refine Eq.trans (pl_same (by rfl)) ?_))
    simp only [L81_0, kIter_n, kIter_x, kIter_r, kOut_x, kOut_r, xgo_hit, xgo_miss, ih, X81_0_0_ok d a0 v0 v2  , E81_0_ok d a0 v0 v2  ]
/-- apogee/apogeeref01.value -/
theorem q81 (d : Nat) (a0 : List AV) : xcall C0 M unr d 81 [(.lst a0)] =
  C0.hop [] (.alloc E82) fun v0 h1 =>
  C0.hop h1 (.alloc E82) fun v2 h3 =>
  C0.hop h3 (.store 2 (.v v2) (.v (.agg [(.int .i64 0), (.int .u64 0)]))) fun v4 h5 =>
  L81_0 d a0 v0 v2 1000000000000000000 0 0 h5 := (r81 C0 d a0).trans (by simp only [it81_0])
end Go.Proofs.Ytjblhppbjebagaa.AE

namespace Go.Proofs.Ytjblhppbjebagaa.AE
set_option linter.unusedVariables false
set_option linter.unusedSimpArgs false
set_option linter.constructorNameAsVariable false
open Go

theorem hg_lt {H : Heap} {id : Nat} {b : Blk} (h : hget H id = some b) : id < H.length := by
  unfold hget at h
  rcases Nat.lt_or_ge id H.length with h1 | h1
  · exact h1
  · rw [List.getElem?_eq_none h1] at h; cases h
theorem hget_app {H l : Heap} {id : Nat} {b : Blk} (h : hget H id = some b) : hget (H ++ l) id = some b := by
  have := hg_lt h
  unfold hget at *
  rw [List.getElem?_append_left this]; exact h
theorem hget_new {H : Heap} {b : Blk} : hget (H ++ [some b]) H.length = some b := by unfold hget; simp
theorem hget_set {H : Heap} {id : Nat} {b : Blk} (h : id < H.length) : hget (H.set id (some b)) id = some b := by unfold hget; simp [h]
theorem hget_set_ne {H : Heap} {id id' : Nat} {x : Option Blk} (h : id ≠ id') : hget (H.set id x) id' = hget H id' := by unfold hget; rw [List.getElem?_set_ne h]
/-- A slice that may grow: all of a block of its own, or none. -/
def Own (H : Heap) (e : ETy) (v : AV) (l : List AV) : Prop := (l = [] ∧ ∃ b, v = .zsl b) ∨ ∃ id, v = .slc id 0 l.length ∧ hget H id = some ⟨e, l⟩
/-- It names that memory. -/
def names (v : AV) (id : Nat) : Prop := ∃ o n, v = .slc id o n
theorem own_els {H : Heap} {e : ETy} {v : AV} {l : List AV} (h : Own H e v l) : elsOf H v = some l := by
  rcases h with ⟨rfl, b, rfl⟩ | ⟨id, rfl, h⟩
  · rfl
  · simp [elsOf, h]
theorem own_len {H : Heap} {e : ETy} {v : AV} {l : List AV} (h : Own H e v l) : lenOf H v = some l.length := by
  rcases h with ⟨rfl, b, rfl⟩ | ⟨id, rfl, h⟩
  · rfl
  · simp [lenOf, h]
theorem own_keep {H H' : Heap} {e : ETy} {v : AV} {l : List AV} (h : Own H e v l) (hk : ∀ id b, names v id → hget H id = some b → hget H' id = some b) : Own H' e v l := by
  rcases h with ⟨rfl, b, rfl⟩ | ⟨id, rfl, h⟩
  · exact .inl ⟨rfl, b, rfl⟩
  · exact .inr ⟨id, rfl, hk _ _ ⟨_, _, rfl⟩ h⟩
/-- Onto a slice of one's own. -/
theorem app_own {H : Heap} {e : ETy} {v : AV} {l xs : List AV} {r : AV} (ho : Own H e v l) (hr : elsOf H r = some xs) (hx : xs.all (elOk e) = true) (hs : (l.length + xs.length) * e.bytes ≤ 140737488355328) (hs2 : l.length + xs.length ≤ 9223372036854775807) :
    ∃ v' H', aop noCall (evO []) H (.app e (.v v) (.v r)) = some (v', H') ∧ Own H' e v' (l ++ xs) ∧ v' = .slc H.length 0 (l.length + xs.length) ∧ H'.length = H.length + 1 ∧ ∀ id b, ¬ names v id → hget H id = some b → hget H' id = some b := by
  rcases ho with ⟨rfl, b, rfl⟩ | ⟨id, rfl, h⟩
  · refine ⟨.slc H.length 0 xs.length, H ++ [some ⟨e, xs⟩], ?_, .inr ⟨H.length, by simp, by simp [hget_new]⟩, by simp, by simp, fun id b _ h => hget_app h⟩
    simp only [aop, evO, hr, aApp]
    rw [if_pos ⟨by simpa using hs, by simpa using hs2, hx⟩]
  · have hid := hg_lt h
    have hl : (H.set id none).length = H.length := by simp
    refine ⟨.slc H.length 0 (l.length + xs.length), H.set id none ++ [some ⟨e, l ++ xs⟩], ?_, .inr ⟨H.length, by simp, ?_⟩, rfl, by simp, fun id' b hn h' => ?_⟩
    · simp only [aop, evO, hr, aApp, h]
      rw [if_pos ⟨trivial, hs, hs2, trivial, trivial, hx⟩]
    · rw [← hl]; exact hget_new
    · refine hget_app ?_
      rw [hget_set_ne]; exact h'
      rintro rfl; exact hn ⟨_, _, rfl⟩
/-- One more. -/
theorem app_one {H : Heap} {e : ETy} {v x : AV} {l : List AV} (ho : Own H e v l) (hx : elOk e x = true) (hs : (l.length + 1) * e.bytes ≤ 140737488355328) (hs2 : l.length + 1 ≤ 9223372036854775807) :
    ∃ v' H', (∀ K : AV → Heap → Ans, (C0.hop H (.mkrow e 1 [(0, .v x)]) fun r H1 => C0.hop H1 (.app e (.v v) (.v r)) K) = K v' H') ∧ Own H' e v' (l ++ [x]) ∧ (∀ id, names v' id → H.length < id) ∧ H.length ≤ H'.length ∧ ∀ id b, ¬ names v id → hget H id = some b → hget H' id = some b := by
  have e1 : aop noCall (evO []) H (.mkrow e 1 [(0, .v x)]) = some (.slc H.length 0 1, H ++ [some ⟨e, [x]⟩]) := by
    simp [aop, evO, fillR, hx]
  have ho' : Own (H ++ [some ⟨e, [x]⟩]) e v l := own_keep ho fun id b _ h => hget_app h
  obtain ⟨v', H', h1, h2, h5, h3, h4⟩ := app_own (xs := [x]) (r := .slc H.length 0 1) ho' (by simp [elsOf, hget_new]) (by simp [hx]) (by simpa using hs) (by simpa using hs2)
  refine ⟨v', H', ?_, h2, ?_, by rw [h3]; simp; omega, fun id b hn h => h4 id b hn (hget_app h)⟩
  · intro K; rw [hop_eq e1, hop_eq h1]
  · rintro id ⟨o, n, rfl⟩
    injection h5 with h6
    rw [h6]; simp

/-- An element's place, a look at it, and a store. -/
theorem ix_slc {H : Heap} {id o n es : Nat} {b : Blk} {q : Int} {K : AV → Heap → Ans} (h : hget H id = some b) (h0 : 0 ≤ q) (h1 : q < n) (he : b.e.es = es) :
    C0.hop H (.ixAS .any es (.v (.slc id o n)) (.v (.int .i64 q))) K = K (.ptr id (o + q.toNat) 0) H := hop_eq (by simp [aop, evO, aInt, aIx, h, h0, h1, he])
theorem ix_lst {H : Heap} {l : List AV} {es : Nat} {q : Int} {x : AV} {K : AV → Heap → Ans} (h0 : 0 ≤ q) (hx : l[q.toNat]? = some x) (he : x.cells.length = es) :
    C0.hop H (.ixAS .any es (.v (.lst l)) (.v (.int .i64 q))) K = K (.fptr x 0) H := hop_eq (by simp [aop, evO, aInt, aIx, h0, hx, he])
theorem ld_ptr {H : Heap} {id i j n : Nat} {ag : Bool} {b : Blk} {el v : AV} {K : AV → Heap → Ans} (h : hget H id = some b) (hi : b.els[i]? = some el) (hs : sub ag n j el = some v) :
    C0.hop H (.load ag n (.v (.ptr id i j))) K = K v H := hop_eq (by simp [aop, evO, aLoad, h, hi, hs])
theorem ld_fptr {H : Heap} {x v : AV} {j n : Nat} {ag : Bool} {K : AV → Heap → Ans} (hs : sub ag n j x = some v) :
    C0.hop H (.load ag n (.v (.fptr x j))) K = K v H := hop_eq (by simp [aop, evO, aLoad, hs])
theorem st_ptr {H : Heap} {id i j n : Nat} {b : Blk} {el el' x : AV} {K : AV → Heap → Ans} (h : hget H id = some b) (hi : b.els[i]? = some el) (hs : putSub n j x el = some el') :
    C0.hop H (.store n (.v (.ptr id i j)) (.v x)) K = K .undef (H.set id (some { b with els := b.els.set i el' })) := hop_eq (by simp [aop, evO, aStore, h, hi, hs])
theorem sh_ptr {H : Heap} {id i j d : Nat} {K : AV → Heap → Ans} : C0.hop H (.fldA d (.v (.ptr id i j))) K = K (.ptr id i (j + d)) H := hop_eq rfl
theorem sh_fptr {H : Heap} {x : AV} {j d : Nat} {K : AV → Heap → Ans} : C0.hop H (.fldA d (.v (.fptr x j))) K = K (.fptr x (j + d)) H := hop_eq rfl
theorem len_own {H : Heap} {e : ETy} {v : AV} {l : List AV} {K : AV → Heap → Ans} (h : Own H e v l) : C0.hop H (.bk .lenV [.v v]) K = K (.int .i64 l.length) H := hop_eq (by simp [aop, evO, own_len h])
theorem len_lst {H : Heap} {l : List AV} {K : AV → Heap → Ans} : C0.hop H (.bk .lenV [.v (.lst l)]) K = K (.int .i64 l.length) H := hop_eq rfl
theorem len_zsl {H : Heap} {b : Bool} {K : AV → Heap → Ans} : C0.hop H (.bk .lenV [.v (.zsl b)]) K = K (.int .i64 0) H := hop_eq rfl
theorem nil_ptr {H : Heap} {id i j : Nat} {K : AV → Heap → Ans} : C0.hop H (.nilck (.v (.ptr id i j))) K = K (.ptr id i j) H := hop_eq rfl
theorem snap_own {H : Heap} {e : ETy} {v : AV} {l : List AV} {k : Nat} (ho : Own H e v l) (hf : ∀ x ∈ l, snap (k + 1) H x = x) : snap (k + 2) H v = .lst l := by
  rcases ho with ⟨rfl, b, rfl⟩ | ⟨id, rfl, h⟩
  · rfl
  · simp only [snap, h]
    rw [if_neg (by omega), if_pos (by simp)]
    congr 1
    simp only [List.drop_zero, List.take_length]
    exact (List.map_congr_left hf).trans (List.map_id _)
def iv (l : List Int) : List AV := l.map fun x => .int .i64 x
theorem iv_len (l : List Int) : (iv l).length = l.length := by simp [iv]
theorem iv_app (l m : List Int) : iv (l ++ m) = iv l ++ iv m := by simp [iv]
theorem iv_at (l : List Int) (i : Nat) : (iv l)[i]? = l[i]?.map fun x => .int .i64 x := by simp [iv]
theorem snap_iv {H : Heap} {e : ETy} {v : AV} {l : List Int} (ho : Own H e v (iv l)) : snap 12 H v = .lst (iv l) :=
  snap_own (k := 10) ho fun x hx => by
    unfold iv at hx
    obtain ⟨n, _, rfl⟩ := List.mem_map.mp hx
    rfl
theorem snp_own {H : Heap} {e : ETy} {v : AV} {l : List Int} {K : List AV → Bool → Ans} (ho : Own H e v (iv l)) (hne : l ≠ []) : C0.snp H [v] K = K [.lst (iv l)] false := by
  have hs := snap_iv ho
  rcases ho with ⟨h, _⟩ | ⟨id, rfl, h⟩
  · exact absurd (by simpa [iv] using h) hne
  · rw [snp_id (by rfl)]
    simp only [List.map_cons, List.map_nil]
    rw [show DEPTH = 12 from rfl, hs]
end Go.Proofs.Ytjblhppbjebagaa.AE

namespace Go.Proofs.Ytjblhppbjebagaa.AE
set_option linter.unusedVariables false
set_option linter.unusedSimpArgs false
set_option linter.constructorNameAsVariable false
open Go

theorem i64w (n : Int) : IntKind.i64.wrap n = (n + 9223372036854775808) % 18446744073709551616 - 9223372036854775808 := IntKind.wrap_i64 n
theorem u64w (n : Int) : IntKind.u64.wrap n = n % 18446744073709551616 := by simp [IntKind.wrap, IntKind.bits, IntKind.signed]
theorem u64_small {n : Int} (h : 0 ≤ n) (h' : n < 18446744073709551616) : IntKind.u64.wrap n = n := by rw [u64w]; omega
theorem i64_small {n : Int} (h : -9223372036854775808 ≤ n) (h' : n < 9223372036854775808) : IntKind.i64.wrap n = n := by rw [i64w]; omega
theorem u64_mask (k : Nat) (hk : k ≤ 64) {x : Int} (h : 0 ≤ x) (h' : x < 18446744073709551616) : Go.bits .and .u64 x (2 ^ k - 1) = x % 2 ^ k := by
  obtain ⟨n, rfl⟩ := Int.eq_ofNat_of_zero_le h
  have hn : n < 18446744073709551616 := by omega
  have hp : 1 ≤ 2 ^ k := Nat.one_le_two_pow
  have hm : ((2 : Int) ^ k - 1) = ((2 ^ k - 1 : Nat) : Int) := by
    rw [Int.natCast_sub hp]; simp
  have hk2 : 2 ^ k ≤ 18446744073709551616 := Nat.le_trans (Nat.pow_le_pow_right (by decide) hk) (by decide)
  show IntKind.u64.wrap ((BitVec.ofInt 64 (n : Int) &&& BitVec.ofInt 64 ((2 : Int) ^ k - 1)).toNat : Int) = _
  rw [hm, BitVec.toNat_and]
  rw [BitVec.ofInt_natCast, BitVec.ofInt_natCast, BitVec.toNat_ofNat, BitVec.toNat_ofNat, Nat.mod_eq_of_lt (by simpa using hn), Nat.mod_eq_of_lt (by simpa using (by omega : 2 ^ k - 1 < 18446744073709551616)), Nat.and_two_pow_sub_one_eq_mod]
  have : n % 2 ^ k ≤ n := Nat.mod_le _ _
  rw [u64_small (by omega) (by omega)]
  simp
theorem u64_and32 {x : Int} (h : 0 ≤ x) (h' : x < 18446744073709551616) : Go.bits .and .u64 x 4294967295 = x % 4294967296 := u64_mask 32 (by decide) h h'

def hiw (v : Int) : Int := IntKind.i64.wrap (v / 18446744073709551616)
def low (v : Int) : Int := v % 18446744073709551616

theorem mul_bd63 (a b : Int) (ha : -9223372036854775808 ≤ a) (ha' : a < 9223372036854775808) (hb : -9223372036854775808 ≤ b) (hb' : b < 9223372036854775808) :
    -85070591730234615865843651857942052864 ≤ a * b ∧ a * b ≤ 85070591730234615865843651857942052864 := by
  have h1 := Int.mul_nonneg (show 0 ≤ 9223372036854775808 - a by omega) (show 0 ≤ 9223372036854775808 + b by omega)
  have h2 := Int.mul_nonneg (show 0 ≤ 9223372036854775808 + a by omega) (show 0 ≤ 9223372036854775808 - b by omega)
  have h3 := Int.mul_nonneg (show 0 ≤ 9223372036854775808 - a by omega) (show 0 ≤ 9223372036854775808 - b by omega)
  have h4 := Int.mul_nonneg (show 0 ≤ 9223372036854775808 + a by omega) (show 0 ≤ 9223372036854775808 + b by omega)
  have e1 : (9223372036854775808 - a) * (9223372036854775808 + b) = 85070591730234615865843651857942052864 + 9223372036854775808 * b - 9223372036854775808 * a - a * b := by grind
  have e2 : (9223372036854775808 + a) * (9223372036854775808 - b) = 85070591730234615865843651857942052864 - 9223372036854775808 * b + 9223372036854775808 * a - a * b := by grind
  have e3 : (9223372036854775808 - a) * (9223372036854775808 - b) = 85070591730234615865843651857942052864 - 9223372036854775808 * b - 9223372036854775808 * a + a * b := by grind
  have e4 : (9223372036854775808 + a) * (9223372036854775808 + b) = 85070591730234615865843651857942052864 + 9223372036854775808 * b + 9223372036854775808 * a + a * b := by grind
  omega
theorem prod_bd {x y m : Int} (hx : -m ≤ x) (hx' : x ≤ m) (hy : -m ≤ y) (hy' : y ≤ m) : -(m * m) ≤ x * y ∧ x * y ≤ m * m := by
  have h1 := Int.mul_nonneg (show 0 ≤ m - x by omega) (show 0 ≤ m + y by omega)
  have h2 := Int.mul_nonneg (show 0 ≤ m + x by omega) (show 0 ≤ m - y by omega)
  have h3 := Int.mul_nonneg (show 0 ≤ m - x by omega) (show 0 ≤ m - y by omega)
  have h4 := Int.mul_nonneg (show 0 ≤ m + x by omega) (show 0 ≤ m + y by omega)
  have e1 : (m - x) * (m + y) = m * m + m * y - x * m - x * y := by grind
  have e2 : (m + x) * (m - y) = m * m - m * y + x * m - x * y := by grind
  have e3 : (m - x) * (m - y) = m * m - m * y - x * m + x * y := by grind
  have e4 : (m + x) * (m + y) = m * m + m * y + x * m + x * y := by grind
  generalize m * m = mm at *; generalize m * y = my at *; generalize x * m = xm at *; generalize x * y = xy at *
  omega
theorem prod_bd41 {x y : Int} (hx : -2199023255552 ≤ x) (hx' : x ≤ 2199023255552) (hy : -2199023255552 ≤ y) (hy' : y ≤ 2199023255552) : -4835703278458516698824704 ≤ x * y ∧ x * y ≤ 4835703278458516698824704 := prod_bd hx hx' hy hy'
def cmp (x y : Int) : Int := if x < y then -1 else if y < x then 1 else 0
end Go.Proofs.Ytjblhppbjebagaa.AE

namespace Go.Proofs.Ytjblhppbjebagaa.Geo
set_option linter.unusedVariables false
set_option linter.unusedSimpArgs false
set_option linter.constructorNameAsVariable false

abbrev Pt := Int × Int
def Okc (x : Int) : Prop := -1099511627776 ≤ x ∧ x ≤ 1099511627776
instance (x : Int) : Decidable (Okc x) := by unfold Okc; infer_instance
def OkP (p : Pt) : Prop := Okc p.1 ∧ Okc p.2
instance (p : Pt) : Decidable (OkP p) := by unfold OkP; infer_instance
/-- Twice the area from a over b to c. -/
def TN (a b c : Pt) : Int := (b.1 - a.1) * (c.2 - a.2) - (b.2 - a.2) * (c.1 - a.1)
def sg (v : Int) : Int := if v < 0 then -1 else if v = 0 then 0 else 1
theorem sg_neg (v : Int) : sg (-v) = -sg v := by unfold sg; split <;> split <;> (try split) <;> (try split) <;> omega
theorem sg_zero {v : Int} : sg v = 0 ↔ v = 0 := by unfold sg; split <;> (try split) <;> omega
theorem sg_pos {v : Int} : sg v > 0 ↔ v > 0 := by unfold sg; split <;> (try split) <;> omega
theorem sg_lt {v : Int} : sg v < 0 ↔ v < 0 := by unfold sg; split <;> (try split) <;> omega
theorem sg_cases (v : Int) : (v < 0 ∧ sg v = -1) ∨ (v = 0 ∧ sg v = 0) ∨ (v > 0 ∧ sg v = 1) := by unfold sg; split <;> (try split) <;> omega
/-- Two signs that are opposite. -/
theorem sg_mul_neg {u v : Int} : sg u * sg v < 0 ↔ (u < 0 ∧ v > 0) ∨ (u > 0 ∧ v < 0) := by
  rcases sg_cases u with ⟨h, e⟩ | ⟨h, e⟩ | ⟨h, e⟩ <;> rcases sg_cases v with ⟨h', e'⟩ | ⟨h', e'⟩ | ⟨h', e'⟩ <;> rw [e, e'] <;> simp <;> omega

theorem TN_cyc (a b c : Pt) : TN b c a = TN a b c := by unfold TN; grind
theorem TN_rev (a b c : Pt) : TN c b a = -TN a b c := by unfold TN; grind
theorem TN_swap (a b c : Pt) : TN b a c = -TN a b c := by unfold TN; grind
theorem TN_aab (a b : Pt) : TN a a b = 0 := by unfold TN; grind
theorem TN_abb (a b : Pt) : TN a b b = 0 := by unfold TN; grind
theorem TN_aba (a b : Pt) : TN a b a = 0 := by unfold TN; grind

/-- Both numbers are between those of two places. -/
def Btw (p a b : Pt) : Prop := ((a.1 ≤ p.1 ∧ p.1 ≤ b.1) ∨ (b.1 ≤ p.1 ∧ p.1 ≤ a.1)) ∧ ((a.2 ≤ p.2 ∧ p.2 ≤ b.2) ∨ (b.2 ≤ p.2 ∧ p.2 ≤ a.2))
instance (p a b : Pt) : Decidable (Btw p a b) := by unfold Btw; infer_instance
theorem Btw_swap {p a b : Pt} : Btw p b a ↔ Btw p a b := by unfold Btw; omega
/-- On the way from a to b. -/
def On (p a b : Pt) : Prop := TN a b p = 0 ∧ Btw p a b
instance (p a b : Pt) : Decidable (On p a b) := by unfold On; infer_instance
theorem On_swap {p a b : Pt} : On p b a ↔ On p a b := by
  unfold On; rw [TN_swap, Btw_swap]
  exact ⟨fun h => ⟨by have := h.1; omega, h.2⟩, fun h => ⟨by have := h.1; omega, h.2⟩⟩
theorem On_a (a b : Pt) : On a a b := ⟨TN_aba a b, by unfold Btw; omega⟩
theorem On_b (a b : Pt) : On b a b := ⟨TN_abb a b, by unfold Btw; omega⟩
theorem On_one {p a : Pt} : On p a a ↔ p = a := by
  constructor
  · rintro ⟨_, h⟩; unfold Btw at h; exact Prod.ext (by omega) (by omega)
  · rintro rfl; exact On_a _ _
/-- The one way crosses the other one. -/
def Cross (a b c d : Pt) : Prop := sg (TN a b c) * sg (TN a b d) < 0 ∧ sg (TN c d a) * sg (TN c d b) < 0
instance (a b c d : Pt) : Decidable (Cross a b c d) := by unfold Cross; infer_instance
def Meet (a b c d : Pt) : Prop := On a c d ∨ On b c d ∨ On c a b ∨ On d a b ∨ Cross a b c d
instance (a b c d : Pt) : Decidable (Meet a b c d) := by unfold Meet; infer_instance
theorem Cross_swap {a b c d : Pt} : Cross c d a b ↔ Cross a b c d := by unfold Cross; exact And.comm
theorem Cross_ab {a b c d : Pt} : Cross b a c d ↔ Cross a b c d := by
  unfold Cross; rw [TN_swap a b c, TN_swap a b d, sg_neg, sg_neg, Int.neg_mul_neg, Int.mul_comm (sg (TN c d b))]
theorem Cross_cd {a b c d : Pt} : Cross a b d c ↔ Cross a b c d := by rw [← Cross_swap, Cross_ab, Cross_swap]
theorem Meet_swap {a b c d : Pt} : Meet c d a b ↔ Meet a b c d := by unfold Meet; rw [Cross_swap]; constructor <;> (rintro (h | h | h | h | h) <;> simp [h])
theorem Meet_ab {a b c d : Pt} : Meet b a c d ↔ Meet a b c d := by
  unfold Meet; rw [Cross_ab, On_swap (p := c), On_swap (p := d)]; constructor <;> (rintro (h | h | h | h | h) <;> simp [h])
theorem Meet_cd {a b c d : Pt} : Meet a b d c ↔ Meet a b c d := by rw [← Meet_swap, Meet_ab, Meet_swap]
theorem Meet_self (a b : Pt) : Meet a b a b := Or.inl (On_a a b)
theorem Meet_cc {a b c : Pt} : Meet a b c c ↔ On c a b := by
  constructor
  · rintro (h | h | h | h | h)
    · rw [On_one.1 h]; exact On_a _ _
    · rw [On_one.1 h]; exact On_b _ _
    · exact h
    · exact h
    · exfalso; have := h.1; rw [sg_mul_neg] at this; omega
  · intro h; exact Or.inr (Or.inr (Or.inl h))

/-! Moved, mirrored, turned -/
def mv (p : Pt) (x y : Int) : Pt := (p.1 + x, p.2 + y)
theorem TN_mv (a b c : Pt) (x y : Int) : TN (mv a x y) (mv b x y) (mv c x y) = TN a b c := by unfold TN mv; grind
theorem Btw_mv (a b c : Pt) (x y : Int) : Btw (mv a x y) (mv b x y) (mv c x y) ↔ Btw a b c := by unfold Btw mv; omega
theorem On_mv (p a b : Pt) (x y : Int) : On (mv p x y) (mv a x y) (mv b x y) ↔ On p a b := by unfold On; rw [TN_mv, Btw_mv]
theorem Cross_mv (a b c d : Pt) (x y : Int) : Cross (mv a x y) (mv b x y) (mv c x y) (mv d x y) ↔ Cross a b c d := by unfold Cross; simp only [TN_mv]
theorem Meet_mv (a b c d : Pt) (x y : Int) : Meet (mv a x y) (mv b x y) (mv c x y) (mv d x y) ↔ Meet a b c d := by unfold Meet; simp only [On_mv, Cross_mv]
def mir (p : Pt) : Pt := (-p.1, p.2)
theorem TN_mir (a b c : Pt) : TN (mir a) (mir b) (mir c) = -TN a b c := by unfold TN mir; grind
theorem On_mir (p a b : Pt) : On (mir p) (mir a) (mir b) ↔ On p a b := by unfold On; rw [TN_mir]; unfold Btw mir; omega
theorem Cross_mir (a b c d : Pt) : Cross (mir a) (mir b) (mir c) (mir d) ↔ Cross a b c d := by unfold Cross; simp only [TN_mir, sg_neg, Int.neg_mul_neg]
theorem Meet_mir (a b c d : Pt) : Meet (mir a) (mir b) (mir c) (mir d) ↔ Meet a b c d := by unfold Meet; simp only [On_mir, Cross_mir]
def qua (p : Pt) : Pt := (-p.2, p.1)
theorem TN_qua (a b c : Pt) : TN (qua a) (qua b) (qua c) = TN a b c := by unfold TN qua; grind
theorem On_qua (p a b : Pt) : On (qua p) (qua a) (qua b) ↔ On p a b := by unfold On; rw [TN_qua]; unfold Btw qua; omega
theorem Cross_qua (a b c d : Pt) : Cross (qua a) (qua b) (qua c) (qua d) ↔ Cross a b c d := by unfold Cross; simp only [TN_qua]
theorem Meet_qua (a b c d : Pt) : Meet (qua a) (qua b) (qua c) (qua d) ↔ Meet a b c d := by unfold Meet; simp only [On_qua, Cross_qua]
end Go.Proofs.Ytjblhppbjebagaa.Geo

namespace Go.Proofs.Ytjblhppbjebagaa.AE
set_option linter.unusedVariables false
set_option linter.unusedSimpArgs false
set_option linter.constructorNameAsVariable false
open Go Go.Proofs.Ytjblhppbjebagaa.Geo
abbrev i64 (n : Int) : AV := .int .i64 n
abbrev u64 (n : Int) : AV := .int .u64 n
abbrev pt (p : Int × Int) : AV := .agg [.int .i64 p.1, .int .i64 p.2]

theorem s74 (d : Nat) (x : Int) : pcall M (d + 1) 74 [.int .i64 x] = some (.bool false) := told (r74 C0 d x) (by simp)
theorem s75 (d : Nat) (x : Int) : pcall M (d + 1) 75 [.int .u64 x] = some (.bool false) := told (r75 C0 d x) (by simp)
theorem s66 (d : Nat) (x y : Int) : pcall M (d + 2) 66 [.int .i64 x, .int .i64 y] = some (.int .i64 (cmp x y)) := told (r66 C0 (d + 1) x y) (by
  rw [s74, s74, C0_bool, C0_bool, cnd_f, cnd_f]
  unfold cmp
  by_cases h : x < y
  · simp [h, cnd_t]
  · by_cases h2 : y < x <;> simp [h, h2, cnd_t, cnd_f])
theorem s67 (d : Nat) (x y : Int) : pcall M (d + 2) 67 [.int .u64 x, .int .u64 y] = some (.int .i64 (cmp x y)) := told (r67 C0 (d + 1) x y) (by
  rw [s75, s75, C0_bool, C0_bool, cnd_f, cnd_f]
  unfold cmp
  by_cases h : x < y
  · simp [h, cnd_t]
  · by_cases h2 : y < x <;> simp [h, h2, cnd_t, cnd_f])
theorem s50 (d : Nat) (x : Int) : pcall M (d + 1) 50 [.int .i64 x] = some (.bool (decide (Okc x))) := told (r50 C0 d x) (by
  unfold Okc
  by_cases h : x ≥ -1099511627776 <;> by_cases h2 : x ≤ 1099511627776 <;> simp [h, h2, cnd_t, cnd_f])
theorem s35 (d : Nat) (p : Int × Int) : pcall M (d + 2) 35 [pt p] = some (.bool (decide (OkP p))) := told (r35 C0 (d + 1) p.1 p.2) (by
  rw [s50, s50, C0_bool, C0_bool]
  unfold OkP
  by_cases h : Okc p.1 <;> by_cases h2 : Okc p.2 <;> simp [h, h2, cnd_t, cnd_f])
theorem s63 (d : Nat) (p : Int × Int) : pcall M (d + 3) 63 [pt p] = some (.bool (!decide (OkP p))) := told (r63 C0 (d + 2) p.1 p.2) (by
  rw [s35, C0_bool])

def fi : List Pt → Int → Int
  | [], _ => -1
  | p :: l, i => if OkP p then fi l (i + 1) else i

theorem pts_at {ps : List Pt} {i : Nat} (h : i < ps.length) : (ps.map pt)[((i : Nat) : Int).toNat]? = some (pt ps[i]) := by simp [h]
theorem s53_0 (d : Nat) (ps : List Pt) (hl : ps.length < 1000000000000000000) : ∀ (l2 : List Pt) (i f : Nat), ps.drop i = l2 → l2.length < f →
    L53f63_0 (d + 3) (ps.map pt) f (i : Nat) = some (.int .i64 (fi l2 (i : Nat))) := by
  intro l2
  induction l2 with
  | nil =>
    intro i f hd hf
    obtain ⟨f, rfl⟩ : ∃ m, f = m + 1 := ⟨f - 1, by omega⟩
    have : ps.length ≤ i := List.drop_eq_nil_iff.mp hd
    rw [L53f63_0, decide_eq_false (by simp; omega), cnd_f]; rfl
  | cons p l2 ih =>
    intro i f hd hf
    obtain ⟨f, rfl⟩ : ∃ m, f = m + 1 := ⟨f - 1, by simp at hf; omega⟩
    have hi : i < ps.length := by
      rcases Nat.lt_or_ge i ps.length with h | h
      · exact h
      · rw [List.drop_eq_nil_of_le h] at hd; cases hd
    have hp : ps[i] = p := by have := List.drop_eq_getElem_cons hi; rw [hd] at this; exact (List.cons.inj this).1.symm
    have hd2 : ps.drop (i + 1) = l2 := by have := List.drop_eq_getElem_cons hi; rw [hd] at this; exact (List.cons.inj this).2.symm
    rw [L53f63_0, decide_eq_true (by simp; omega), cnd_t, decide_eq_true (by omega), cnd_t, pts_at hi]
    refine Eq.trans (pl_agg (by rfl) (by rfl)) ?_; refine Eq.trans (pl_int (by rfl)) ?_; refine Eq.trans (pl_int (by rfl)) ?_
    rw [show pcall M (d + 3) 63 [.agg [.int .i64 ps[i].1, .int .i64 ps[i].2]] = some (.bool (!decide (OkP ps[i]))) from s63 d ps[i], C0_bool, hp]
    simp only [fi]
    by_cases h : OkP p
    · rw [decide_eq_true h, if_pos h, show IntKind.wrap .i64 ((i : Int) + 1) = ((i + 1 : Nat) : Int) by rw [IntKind.wrap_i64]; omega]
      refine (ih (i + 1) f hd2 (by simp at hf; omega)).trans ?_
      simp
    · rw [decide_eq_false h, if_neg h]; rfl
theorem s53 (d : Nat) (ps : List Pt) (hl : ps.length < 140737488355329) : pcall M (d + 4) 53 [.lst (ps.map pt), .fn 63 [] []] = some (.int .i64 (fi ps 0)) :=
  told (q53f63 (d + 3) (ps.map pt) .nilp) (s53_0 d ps (by omega) ps 0 _ rfl (by omega))
end Go.Proofs.Ytjblhppbjebagaa.AE

namespace Go.Proofs.Ytjblhppbjebagaa.AE
set_option linter.unusedVariables false
set_option linter.unusedSimpArgs false
set_option linter.constructorNameAsVariable false
open Go Go.Proofs.Ytjblhppbjebagaa.Geo

theorem s65 (d : Nat) (x y : Int) : pcall M (d + 1) 65 [.lst [.int .i64 x, .int .i64 y]] = some (.int .i64 (if x ≠ 0 then x else y)) := told (q65 d _) (by
  rw [show (1000000000000000000 : Nat) = 999999999999999997 + 1 + 1 + 1 from rfl, L65_0]
  refine Eq.trans (pl_len (by rfl)) ?_; refine Eq.trans (pl_len (by rfl)) ?_; refine Eq.trans (pl_int (by rfl)) ?_
  by_cases hx : x = 0
  · subst hx
    refine Eq.trans (pl_f (by rfl)) ?_
    rw [L65_0]
    refine Eq.trans (pl_len (by rfl)) ?_; refine Eq.trans (pl_len (by rfl)) ?_; refine Eq.trans (pl_int (by rfl)) ?_
    by_cases hy : y = 0
    · subst hy
      refine Eq.trans (pl_f (by rfl)) ?_
      rw [L65_0]; rfl
    · rw [show (y != 0) = true by simp [hy], cnd_t]; rfl
  · rw [show (x != 0) = true by simp [hx], cnd_t, if_pos hx]; rfl)

theorem s52 (d : Nat) (a b : Int) (ha : -170141183460469231731687303715884105728 ≤ a) (ha' : a < 170141183460469231731687303715884105728) (hb : -170141183460469231731687303715884105728 ≤ b) (hb' : b < 170141183460469231731687303715884105728) :
    pcall M (d + 3) 52 [.agg [.int .i64 (hiw a), .int .u64 (low a)], .agg [.int .i64 (hiw b), .int .u64 (low b)]] = some (.int .i64 (cmp a b)) := told (r52 C0 (d + 2) _ _ _ _) (by
  rw [s66, s67, C0_int, C0_int, s65, C0_int]
  have e1 : hiw a = a / 18446744073709551616 := by unfold hiw; rw [i64_small (by omega) (by omega)]
  have e2 : hiw b = b / 18446744073709551616 := by unfold hiw; rw [i64_small (by omega) (by omega)]
  rw [e1, e2]
  unfold low cmp
  congr 2
  repeat' split
  all_goals omega)

theorem s64 (d : Nat) (a b : Int) (ha : 0 ≤ a) (ha' : a < 18446744073709551616) (hb : 0 ≤ b) (hb' : b < 18446744073709551616) :
    ∃ hi lo, pcall M (d + 1) 64 [.int .u64 a, .int .u64 b] = some (.tup [.int .u64 hi, .int .u64 lo]) ∧ hi * 18446744073709551616 + lo = a * b ∧ 0 ≤ lo ∧ lo < 18446744073709551616 ∧ 0 ≤ hi ∧ hi < 18446744073709551616 := by
  refine ⟨_, _, told (r64 C0 d a b) rfl, ?_⟩
  have h32 : ∀ x : Int, Int.fdiv x (2 ^ (min (Int.toNat 32) 64)) = x / 4294967296 := by
    intro x
    rw [show ((2 : Int) ^ (min (Int.toNat 32) 64)) = 4294967296 from by decide]
    exact Int.fdiv_eq_ediv_of_nonneg x (by decide)
  rw [u64_and32 ha ha', u64_and32 hb hb']
  simp only [h32]
  obtain ⟨a1, a0, e1, e2, e3, e4⟩ : ∃ a1 a0 : Int, a / 4294967296 = a1 ∧ a % 4294967296 = a0 ∧ a = a1 * 4294967296 + a0 ∧ (0 ≤ a0 ∧ a0 < 4294967296 ∧ 0 ≤ a1 ∧ a1 < 4294967296) := ⟨_, _, rfl, rfl, by omega, by omega⟩
  obtain ⟨b1, b0, f1, f2, f3, f4⟩ : ∃ a1 a0 : Int, b / 4294967296 = a1 ∧ b % 4294967296 = a0 ∧ b = a1 * 4294967296 + a0 ∧ (0 ≤ a0 ∧ a0 < 4294967296 ∧ 0 ≤ a1 ∧ a1 < 4294967296) := ⟨_, _, rfl, rfl, by omega, by omega⟩
  rw [e1, e2, f1, f2]
  have hp : a * b = (a1 * b1) * 18446744073709551616 + (a1 * b0 + a0 * b1) * 4294967296 + a0 * b0 := by rw [e3, f3]; grind
  rw [hp]
  have bd : ∀ x y : Int, 0 ≤ x → x < 4294967296 → 0 ≤ y → y < 4294967296 → 0 ≤ x * y ∧ x * y ≤ 18446744065119617025 := by
    intro x y h1 h2 h3 h4
    exact ⟨Int.mul_nonneg h1 h3, Int.le_trans (Int.mul_le_mul (show x ≤ 4294967295 by omega) (show y ≤ 4294967295 by omega) h3 (by omega)) (by decide)⟩
  have B11 := bd a1 b1 (by omega) (by omega) (by omega) (by omega)
  have B10 := bd a1 b0 (by omega) (by omega) (by omega) (by omega)
  have B01 := bd a0 b1 (by omega) (by omega) (by omega) (by omega)
  have B00 := bd a0 b0 (by omega) (by omega) (by omega) (by omega)
  generalize a1 * b1 = p11 at *
  generalize a1 * b0 = p10 at *
  generalize a0 * b1 = p01 at *
  generalize a0 * b0 = p00 at *
  simp only [u64w]
  rw [show ∀ x : Int, Go.bits .and .u64 (x % 18446744073709551616) 4294967295 = (x % 18446744073709551616) % 4294967296 from fun x => u64_and32 (by omega) (by omega)]
  omega

theorem s51 (d : Nat) (a b : Int) (ha : -9223372036854775808 ≤ a) (ha' : a < 9223372036854775808) (hb : -9223372036854775808 ≤ b) (hb' : b < 9223372036854775808) :
    pcall M (d + 2) 51 [.int .i64 a, .int .i64 b] = some (.agg [.int .i64 (hiw (a * b)), .int .u64 (low (a * b))]) := told (r51 C0 (d + 1) a b) (by
  obtain ⟨hi, lo, e, h0, l0, l1, i0, i1⟩ := s64 d (IntKind.u64.wrap a) (IntKind.u64.wrap b) (by rw [u64w]; omega) (by rw [u64w]; omega) (by rw [u64w]; omega) (by rw [u64w]; omega)
  have bd := mul_bd63 a b ha ha' hb hb'
  rw [e, C0_tup2]
  simp only [at0, at1, C0_int, u64w]
  rw [u64w, u64w] at h0
  unfold hiw low
  have fin : ∀ h : Int, (h * 18446744073709551616 + lo - a * b) % 340282366920938463463374607431768211456 = 0 → (some (.agg [.int .i64 (IntKind.i64.wrap h), .int .u64 lo]) : Ans) = some (.agg [.int .i64 (IntKind.i64.wrap (a * b / 18446744073709551616)), .int .u64 (a * b % 18446744073709551616)]) := by
    intro h hh
    generalize a * b = p at *
    have e2 : lo = p % 18446744073709551616 := by omega
    have e1 : IntKind.i64.wrap h = IntKind.i64.wrap (p / 18446744073709551616) := by rw [i64w, i64w]; omega
    rw [e1, e2]
  by_cases ca : a < 0
  · rw [decide_eq_true ca, cnd_t]
    have ua : a % 18446744073709551616 = a + 18446744073709551616 := by omega
    by_cases cb : b < 0
    · rw [decide_eq_true cb, cnd_t]
      have ub : b % 18446744073709551616 = b + 18446744073709551616 := by omega
      have hp : (a + 18446744073709551616) * (b + 18446744073709551616) = a * b + 18446744073709551616 * (a + b) + 340282366920938463463374607431768211456 := by grind
      rw [ua, ub, hp] at h0
      rw [ua, ub]
      refine fin _ ?_
      generalize a * b = p at *
      omega
    · rw [decide_eq_false cb, cnd_f]
      have ub : b % 18446744073709551616 = b := by omega
      have hp : (a + 18446744073709551616) * b = a * b + 18446744073709551616 * b := by grind
      rw [ua, ub, hp] at h0
      rw [ub]
      refine fin _ ?_
      generalize a * b = p at *
      omega
  · rw [decide_eq_false ca, cnd_f]
    have ua : a % 18446744073709551616 = a := by omega
    by_cases cb : b < 0
    · rw [decide_eq_true cb, cnd_t]
      have ub : b % 18446744073709551616 = b + 18446744073709551616 := by omega
      have hp : a * (b + 18446744073709551616) = a * b + 18446744073709551616 * a := by grind
      rw [ua, ub, hp] at h0
      rw [ua]
      refine fin _ ?_
      generalize a * b = p at *
      omega
    · rw [decide_eq_false cb, cnd_f]
      have ub : b % 18446744073709551616 = b := by omega
      rw [ua, ub] at h0
      refine fin _ ?_
      generalize a * b = p at *
      omega)

theorem fi_ge (ps : List Pt) : ∀ i : Int, 0 ≤ i → (fi ps i ≥ 0 ↔ ¬ ∀ p ∈ ps, OkP p) := by
  induction ps with
  | nil => intro i hi; simp [fi]
  | cons p l ih =>
    intro i hi
    simp only [fi]
    by_cases h : OkP p
    · simp only [h, if_true]; rw [ih (i + 1) (by omega)]; simp [h]
    · simp only [h, if_false]
      exact ⟨fun _ hh => h (hh p (by simp)), fun _ => hi⟩
theorem s49 (d : Nat) (ps : List Pt) (hl : ps.length < 140737488355329) : pcall M (d + 6) 49 [.lst (ps.map pt)] = some (.bool (decide (∀ p ∈ ps, OkP p))) := told (r49 C0 (d + 5) _) (by
  have h30 : pcall M (d + 5) 40 [.lst (ps.map pt), .fn 63 [] []] = some (.bool (decide (fi ps 0 ≥ 0))) := told (r40f63 C0 (d + 4) _ .nilp) (by rw [s53 d ps hl, C0_int])
  rw [h30, C0_bool]
  congr 2
  have := fi_ge ps 0 (by decide)
  by_cases h : ∀ p ∈ ps, OkP p
  · have : ¬ fi ps 0 ≥ 0 := fun hh => (this.mp hh) h
    rw [decide_eq_true h, decide_eq_false this]; rfl
  · rw [decide_eq_false h, decide_eq_true (this.mpr h)]; rfl)

def ok3 (a b c : Pt) : Prop := OkP a ∧ OkP b ∧ OkP c
instance (a b c : Pt) : Decidable (ok3 a b c) := by unfold ok3; infer_instance
def tn3 (a b c : Pt) : Int := if ok3 a b c then sg (TN a b c) else 0
def onB (p a b : Pt) : Bool := decide (ok3 p a b ∧ On p a b)
def ok4 (a b c d : Pt) : Prop := OkP a ∧ OkP b ∧ OkP c ∧ OkP d
instance (a b c d : Pt) : Decidable (ok4 a b c d) := by unfold ok4; infer_instance
def meetB (a b c d : Pt) : Bool := decide (ok4 a b c d ∧ Meet a b c d)
theorem cmp_sg (p q : Int) : cmp p q = sg (p - q) := by unfold cmp sg; split <;> split <;> (try split) <;> (try split) <;> omega

theorem s39 (d : Nat) (a b c : Pt) : pcall M (d + 7) 39 [pt a, pt b, pt c] = some (.int .i64 (tn3 a b c)) := told (r39 C0 (d + 6) _ _ _ _ _ _) (by
  have h22 := s49 d [a, b, c] (by simp)
  simp only [List.map_cons, List.map_nil, pt] at h22
  rw [h22, C0_bool]
  unfold tn3
  by_cases h : ok3 a b c
  · rw [if_pos h, decide_eq_true (by simpa [ok3] using h)]
    obtain ⟨⟨⟨ha, ha'⟩, hb, hb'⟩, ⟨⟨hc, hc'⟩, hd, hd'⟩, ⟨he, he'⟩, hf, hf'⟩ := h
    rw [i64_small (n := b.1 - a.1) (by omega) (by omega), i64_small (n := c.2 - a.2) (by omega) (by omega), i64_small (n := b.2 - a.2) (by omega) (by omega), i64_small (n := c.1 - a.1) (by omega) (by omega)]
    rw [s51 (d + 4) _ _ (by omega) (by omega) (by omega) (by omega), s51 (d + 4) _ _ (by omega) (by omega) (by omega) (by omega)]
    have p1 := prod_bd41 (x := b.1 - a.1) (y := c.2 - a.2) (by omega) (by omega) (by omega) (by omega)
    have p2 := prod_bd41 (x := b.2 - a.2) (y := c.1 - a.1) (by omega) (by omega) (by omega) (by omega)
    simp only [Bool.not_true, cnd_f, C0_agg2, at0, at1, C0_int]
    rw [s52 (d + 3) _ _ (by omega) (by omega) (by omega) (by omega), C0_int, cmp_sg]
    rfl
  · rw [if_neg h, decide_eq_false (by simpa [ok3] using h)]
    rfl)
end Go.Proofs.Ytjblhppbjebagaa.AE

namespace Go.Proofs.Ytjblhppbjebagaa.AE
set_option linter.unusedVariables false
set_option linter.unusedSimpArgs false
set_option linter.constructorNameAsVariable false
open Go Go.Proofs.Ytjblhppbjebagaa.Geo

def btw (x y z : Int) : Bool := decide ((y ≤ x ∧ x ≤ z) ∨ (z ≤ x ∧ x ≤ y))
theorem btw_t {x y z : Int} : btw x y z = true ↔ (y ≤ x ∧ x ≤ z) ∨ (z ≤ x ∧ x ≤ y) := decide_eq_true_iff
def okB (l : List Pt) : Bool := decide (∀ p ∈ l, OkP p)
theorem okB_t {l : List Pt} : okB l = true ↔ ∀ p ∈ l, OkP p := decide_eq_true_iff
def zeroB (x : Int) : Bool := x == 0
theorem zeroB_t {x : Int} : zeroB x = true ↔ x = 0 := beq_iff_eq
def negB (x : Int) : Bool := decide (x < 0)
theorem negB_t {x : Int} : negB x = true ↔ x < 0 := decide_eq_true_iff
theorem onB_t {p a b : Pt} : onB p a b = true ↔ ok3 p a b ∧ On p a b := decide_eq_true_iff
theorem meetB_t {a b c d : Pt} : meetB a b c d = true ↔ ok4 a b c d ∧ Meet a b c d := decide_eq_true_iff
theorem s59 (d : Nat) (x y z : Int) : pcall M (d + 1) 59 [.int .i64 x, .int .i64 y, .int .i64 z] = some (.bool (btw x y z)) := told (r59 C0 d x y z) (by
  have e1 : (if z < y then z else y) = min z y := by omega
  have e2 : (if z > y then z else y) = max z y := by omega
  rw [e1, e2]
  unfold btw
  by_cases h : min z y ≤ x
  · rw [decide_eq_true h, cnd_t]; congr 2; rw [decide_eq_decide]; omega
  · rw [decide_eq_false h, cnd_f]; congr 2; symm; rw [decide_eq_false_iff_not]; omega)

theorem s47 (d : Nat) (p a b : Pt) : pcall M (d + 8) 47 [pt p, pt a, pt b] = some (.bool (onB p a b)) := told (r47 C0 (d + 7) _ _ _ _ _ _) (by
  have h22 := s49 (d + 1) [p, a, b] (by simp)
  simp only [List.map_cons, List.map_nil, pt] at h22
  have h12 := s39 d a b p
  simp only [pt] at h12
  rw [h22, C0_bool, h12, C0_int, s59 (d + 6), s59 (d + 6), C0_bool, C0_bool]
  change cnd (okB [p, a, b]) (cnd (zeroB (tn3 a b p)) (cnd (btw p.1 a.1 b.1) (some (.bool (btw p.2 a.2 b.2))) (some (.bool false))) (some (.bool false))) (some (.bool false)) = _
  have hok : okB [p, a, b] = true ↔ ok3 p a b := by rw [okB_t]; simp [ok3]
  have key : onB p a b = (okB [p, a, b] && (zeroB (tn3 a b p) && (btw p.1 a.1 b.1 && btw p.2 a.2 b.2))) := by
    rw [Bool.eq_iff_iff]
    simp only [Bool.and_eq_true, onB_t, hok, zeroB_t, btw_t]
    constructor
    · rintro ⟨h, hT, hB⟩
      exact ⟨h, by rw [tn3, if_pos ⟨h.2.1, h.2.2, h.1⟩, sg_zero]; exact hT, hB⟩
    · rintro ⟨h, hT, hB⟩
      rw [tn3, if_pos ⟨h.2.1, h.2.2, h.1⟩, sg_zero] at hT
      exact ⟨h, hT, hB⟩
  rw [key]
  cases okB [p, a, b] <;> cases zeroB (tn3 a b p) <;> cases btw p.1 a.1 b.1 <;> rfl)

theorem tn3_sg {a b c : Pt} (h : ok3 a b c) : tn3 a b c = sg (TN a b c) := if_pos h
theorem sg_small (u v : Int) : IntKind.i64.wrap (sg u * sg v) = sg u * sg v := by
  rcases sg_cases u with ⟨_, h⟩ | ⟨_, h⟩ | ⟨_, h⟩ <;> rcases sg_cases v with ⟨_, h'⟩ | ⟨_, h'⟩ | ⟨_, h'⟩ <;> rw [h, h', i64w] <;> decide

theorem s79 (d : Nat) (a b c e : Pt) : pcall M (d + 9) 79 [pt a, pt b, pt c, pt e] = some (.bool (meetB a b c e)) := told (r79 C0 (d + 8) _ _ _ _ _ _ _ _) (by
  have h22 := s49 (d + 2) [a, b, c, e] (by simp)
  simp only [List.map_cons, List.map_nil, pt] at h22
  have o := fun p q r => s47 d p q r
  have t := fun p q r => s39 (d + 1) p q r
  simp only [pt] at o t
  rw [h22, C0_bool, o a c e, o b c e, o c a b, o e a b, t a b c, t a b e, t c e a, t c e b]
  simp only [C0_bool, C0_int]
  change cnd (!okB [a, b, c, e]) (some (.bool false)) (cnd (onB a c e) (some (.bool true)) (cnd (onB b c e) (some (.bool true)) (cnd (onB c a b) (some (.bool true)) (cnd (onB e a b) (some (.bool true))
    (cnd (negB (IntKind.wrap .i64 (tn3 a b c * tn3 a b e))) (some (.bool (negB (IntKind.wrap .i64 (tn3 c e a * tn3 c e b))))) (some (.bool false))))))) = _
  have hok : okB [a, b, c, e] = true ↔ ok4 a b c e := by rw [okB_t]; simp [ok4]
  have key : meetB a b c e = (okB [a, b, c, e] && (onB a c e || (onB b c e || (onB c a b || (onB e a b || (negB (IntKind.wrap .i64 (tn3 a b c * tn3 a b e)) && negB (IntKind.wrap .i64 (tn3 c e a * tn3 c e b)))))))) := by
    rw [Bool.eq_iff_iff]
    simp only [Bool.and_eq_true, Bool.or_eq_true, onB_t, hok, negB_t, meetB_t]
    refine and_congr_right fun h => ?_
    obtain ⟨ha, hb, hc, he⟩ := h
    rw [tn3_sg ⟨ha, hb, hc⟩, tn3_sg ⟨ha, hb, he⟩, tn3_sg ⟨hc, he, ha⟩, tn3_sg ⟨hc, he, hb⟩, sg_small, sg_small]
    simp only [ok3, ha, hb, hc, he, true_and, and_true]
    exact Iff.rfl
  rw [key]
  cases okB [a, b, c, e] <;> cases onB a c e <;> cases onB b c e <;> cases onB c a b <;> cases onB e a b <;> cases negB (IntKind.wrap .i64 (tn3 a b c * tn3 a b e)) <;> rfl)

theorem s26 (d : Nat) (p : Pt) : pcall M (d + 1) 26 [pt p] = some (.bool (decide (OkP p))) := told (r26 C0 d _ _) (by
  unfold OkP Okc
  by_cases h1 : p.1 ≥ -1099511627776 <;> by_cases h2 : p.1 ≤ 1099511627776 <;> by_cases h3 : p.2 ≥ -1099511627776 <;> by_cases h4 : p.2 ≤ 1099511627776 <;> simp [h1, h2, h3, h4, cnd_t, cnd_f])
end Go.Proofs.Ytjblhppbjebagaa.AE

namespace Go.Proofs.Ytjblhppbjebagaa.AE
set_option linter.unusedVariables false
set_option linter.unusedSimpArgs false
open Go

def bin : List Int → Int
  | [] => 0
  | x :: l => x + 2 * bin l
def bitl (n : Int) : Nat → List Int
  | 0 => []
  | k + 1 => n % 2 :: bitl (n / 2) k
theorem bin_app (l m : List Int) : bin (l ++ m) = bin l + 2 ^ l.length * bin m := by
  induction l with
  | nil => simp [bin]
  | cons x l ih => simp only [List.cons_append, bin, ih, List.length_cons, Int.pow_succ]; grind
theorem bitl_len (n : Int) (k : Nat) : (bitl n k).length = k := by
  induction k generalizing n with
  | zero => rfl
  | succ k ih => simp [bitl, ih]
theorem bitl_snoc (n : Int) (k : Nat) : bitl n (k + 1) = bitl n k ++ [n / 2 ^ k % 2] := by
  induction k generalizing n with
  | zero => simp [bitl]
  | succ k ih =>
    rw [bitl, ih (n / 2), bitl]
    simp only [List.cons_append]
    rw [Int.ediv_ediv_of_nonneg (by decide), Int.pow_succ, Int.mul_comm (2 ^ k) 2]
theorem bin_bitl (n : Int) (k : Nat) : bin (bitl n k) = n % 2 ^ k := by
  induction k generalizing n with
  | zero => simp [bitl, bin]
  | succ k ih =>
    simp only [bitl, bin, ih]
    have hp : (0 : Int) < 2 ^ k := Int.pow_pos (by decide)
    have e1 := Int.mul_ediv_add_emod (n / 2) (2 ^ k)
    have e2 := Int.emod_nonneg (n / 2) (show (2 : Int) ^ k ≠ 0 by omega)
    have e3 := Int.emod_lt_of_pos (n / 2) hp
    rw [Int.pow_succ]
    symm
    have e0 : n = n % 2 + 2 * (n / 2 % 2 ^ k) + (2 ^ k * 2) * (n / 2 / 2 ^ k) := by
      rw [Int.mul_assoc (2 ^ k) 2, Int.mul_left_comm (2 ^ k) 2]; omega
    rw [e0]
    rw [Int.add_mul_emod_self_left]
    have h2 : (n % 2 + 2 * (n / 2 % 2 ^ k) + 2 ^ k * 2 * (n / 2 / 2 ^ k)) = n := e0.symm
    rw [h2]
    exact Int.emod_eq_of_lt (by omega) (by omega)
def Bits (l : List Int) : Prop := ∀ x ∈ l, x = 0 ∨ x = 1
theorem bin_nonneg {l : List Int} (h : Bits l) : 0 ≤ bin l ∧ bin l < 2 ^ l.length := by
  induction l with
  | nil => simp [bin]
  | cons x l ih =>
    have := ih fun y hy => h y (List.mem_cons_of_mem _ hy)
    have hx := h x (List.mem_cons_self ..)
    simp only [bin, List.length_cons, Int.pow_succ]
    omega
theorem bitl_bits (n : Int) (k : Nat) : Bits (bitl n k) := by
  induction k generalizing n with
  | zero => intro x hx; cases hx
  | succ k ih =>
    intro x hx
    rcases List.mem_cons.mp hx with rfl | hx
    · omega
    · exact ih _ x hx
theorem bits_app {l m : List Int} : Bits (l ++ m) ↔ Bits l ∧ Bits m := by
  unfold Bits; simp only [List.mem_append]
  exact ⟨fun h => ⟨fun x hx => h x (.inl hx), fun x hx => h x (.inr hx)⟩, fun h x hx => hx.elim (h.1 x) (h.2 x)⟩
theorem u64_or_pow {x : Int} {i : Nat} (hi : i < 64) (h : 0 ≤ x) (h' : x < 2 ^ i) : Go.bits .or .u64 x (2 ^ i) = x + 2 ^ i := by
  obtain ⟨n, rfl⟩ := Int.eq_ofNat_of_zero_le h
  have hn : n < 2 ^ i := by exact_mod_cast h'
  have hp : (2 : Nat) ^ i < 2 ^ 64 := Nat.pow_lt_pow_right (by decide) hi
  have hp2 : (2 : Nat) ^ i + 2 ^ i ≤ 2 ^ 64 := by
    have := Nat.pow_le_pow_right (n := 2) (by decide) (show i + 1 ≤ 64 by omega)
    rw [Nat.pow_succ] at this; omega
  show IntKind.u64.wrap ((BitVec.ofInt 64 (n : Int) ||| BitVec.ofInt 64 ((2 : Int) ^ i)).toNat : Int) = _
  rw [show ((2 : Int) ^ i) = ((2 ^ i : Nat) : Int) by simp, BitVec.toNat_or, BitVec.ofInt_natCast, BitVec.ofInt_natCast, BitVec.toNat_ofNat, BitVec.toNat_ofNat, Nat.mod_eq_of_lt (by omega), Nat.mod_eq_of_lt hp]
  have := Nat.two_pow_add_eq_or_of_lt (i := i) hn 1
  rw [Nat.mul_one] at this
  rw [Nat.or_comm, ← this, u64_small (by omega) (by omega)]
  simp; omega
theorem pow64 (i : Nat) (hi : i < 64) : (0 : Int) < 2 ^ i ∧ (2 : Int) ^ i < 18446744073709551616 := by
  constructor
  · exact Int.pow_pos (by decide)
  · have : (2 : Nat) ^ i < 2 ^ 64 := Nat.pow_lt_pow_right (by decide) hi
    have h2 : ((2 ^ i : Nat) : Int) < ((2 ^ 64 : Nat) : Int) := by exact_mod_cast this
    simpa using h2
end Go.Proofs.Ytjblhppbjebagaa.AE

namespace Go.Proofs.Ytjblhppbjebagaa.AE
set_option linter.unusedVariables false
set_option linter.unusedSimpArgs false
set_option linter.constructorNameAsVariable false
open Go
/-- A number of 128 bits, as a value. -/
abbrev wd (n : Int) : AV := .agg [.int .i64 (hiw n), .int .u64 (low n)]
theorem low_rng (n : Int) : 0 ≤ low n ∧ low n < 18446744073709551616 := by unfold low; omega
theorem u_hiw (n : Int) : IntKind.wrap .u64 (hiw n) = n / 18446744073709551616 % 18446744073709551616 := by unfold hiw; rw [i64w, u64w]; omega
theorem shr1 {x : Int} {i : Nat} (hi : i < 64) (h : 0 ≤ x) (h' : x < 18446744073709551616) : IntKind.wrap .i64 (bits .and .u64 (Int.fdiv x (2 ^ (min (Int.toNat (i : Int)) 64))) 1) = x / 2 ^ i % 2 := by
  rw [show min (Int.toNat (i : Int)) 64 = i by omega, Int.fdiv_eq_ediv_of_nonneg _ (Int.le_of_lt (pow64 i hi).1)]
  have hp := pow64 i hi
  have h1 : 0 ≤ x / 2 ^ i := Int.ediv_nonneg h (by omega)
  have h2 : x / 2 ^ i < 18446744073709551616 := Int.lt_of_le_of_lt (Int.ediv_le_self _ h) h'
  have := u64_mask 1 (by decide) h1 h2
  rw [show ((2 : Int) ^ 1 - 1) = 1 by decide, show ((2 : Int) ^ 1) = 2 by decide] at this
  rw [this, i64w]; omega
theorem wrap_succ (i : Nat) (h : i < 1000000000000000000) : IntKind.wrap .i64 ((i : Int) + 1) = ((i + 1 : Nat) : Int) := by rw [i64w]; omega

theorem bits1 (d : Nat) (n : Int) : ∀ (k i f : Nat) (H : Heap) (v : AV) (l : List Int), i + k = 64 → k < f → l.length = 64 + i → hget H 0 = some ⟨E82, [wd n]⟩ → Own H E3 v (iv l) → ¬ names v 0 →
    L80_1 d (.ptr 0 0 0) f v (i : Nat) H = some (.lst (iv (l ++ ((List.range k).map fun j => n / 18446744073709551616 % 18446744073709551616 / 2 ^ (i + j) % 2)))) := by
  intro k
  induction k with
  | zero =>
    intro i f H v l hi hf hl h0 ho hn
    obtain ⟨f, rfl⟩ : ∃ g, f = g + 1 := ⟨f - 1, by omega⟩
    rw [L80_1, decide_eq_false (by omega), cnd_f, X80_1_0, C0_fin, snap_iv ho]; simp
  | succ k ih =>
    intro i f H v l hi hf hl h0 ho hn
    obtain ⟨f, rfl⟩ : ∃ g, f = g + 1 := ⟨f - 1, by omega⟩
    rw [L80_1, decide_eq_true (by omega), cnd_t, sh_ptr, ld_ptr h0 (by rfl) (by rfl), C0_int, decide_eq_false (by omega), cnd_f, u_hiw, shr1 (by omega) (by omega) (by omega)]
    obtain ⟨v', H', e, ho', hn', _, hk⟩ := app_one (x := .int .i64 (n / 18446744073709551616 % 18446744073709551616 / 2 ^ i % 2)) ho (by rfl) (by rw [iv_len, hl]; change (64 + i + 1) * 8 ≤ _; omega) (by rw [iv_len]; omega)
    rw [e, wrap_succ i (by omega), ih (i + 1) f H' v' (l ++ [n / 18446744073709551616 % 18446744073709551616 / 2 ^ i % 2]) (by omega) (by omega) (by simp; omega) (hk 0 _ hn h0) (by rw [iv_app]; exact ho') (fun hc => by have := hn' 0 hc; omega)]
    rw [List.append_assoc, List.range_succ_eq_map]
    simp [Nat.add_assoc, Nat.add_comm 1, List.map_map, Function.comp_def]
end Go.Proofs.Ytjblhppbjebagaa.AE

namespace Go.Proofs.Ytjblhppbjebagaa.AE
set_option linter.unusedVariables false
set_option linter.unusedSimpArgs false
set_option linter.constructorNameAsVariable false
open Go

theorem bitl_range (m : Int) (k : Nat) : bitl m k = (List.range k).map fun j => m / 2 ^ j % 2 := by
  induction k with
  | zero => rfl
  | succ k ih => rw [bitl_snoc, ih, List.range_succ, List.map_append]; rfl
def wbits (n : Int) : List Int := bitl (low n) 64 ++ bitl (n / 18446744073709551616 % 18446744073709551616) 64
theorem wbits_len (n : Int) : (wbits n).length = 128 := by simp [wbits, bitl_len]
theorem wbits_bits (n : Int) : Bits (wbits n) := bits_app.mpr ⟨bitl_bits _ _, bitl_bits _ _⟩
theorem bin_wbits (n : Int) : bin (wbits n) = n % 340282366920938463463374607431768211456 := by
  unfold wbits; rw [bin_app, bin_bitl, bin_bitl, bitl_len]
  have e : (2 : Int) ^ 64 = 18446744073709551616 := by decide
  rw [e]; unfold low; omega
theorem bits0 (d : Nat) (n : Int) : ∀ (k i f : Nat) (H : Heap) (v : AV), i + k = 64 → k < f → hget H 0 = some ⟨E82, [wd n]⟩ → Own H E3 v (iv (bitl (low n) i)) → ¬ names v 0 →
    L80_0 d (.ptr 0 0 0) f v (i : Nat) H = some (.lst (iv (wbits n))) := by
  intro k
  induction k with
  | zero =>
    intro i f H v hi hf h0 ho hn
    obtain ⟨f, rfl⟩ : ∃ g, f = g + 1 := ⟨f - 1, by omega⟩
    obtain rfl : i = 64 := by omega
    rw [L80_0, decide_eq_false (by omega), cnd_f, X80_0_0]
    have := bits1 d n 64 0 1000000000000000000 H v _ (by omega) (by omega) (by simp [bitl_len]) h0 ho hn
    simp only [Nat.zero_add, ← bitl_range] at this
    exact this
  | succ k ih =>
    intro i f H v hi hf h0 ho hn
    obtain ⟨f, rfl⟩ : ∃ g, f = g + 1 := ⟨f - 1, by omega⟩
    have l0 := low_rng n
    rw [L80_0, decide_eq_true (by omega), cnd_t, sh_ptr, ld_ptr h0 (by rfl) (by rfl), C0_int, decide_eq_false (by omega), cnd_f, shr1 (by omega) l0.1 l0.2]
    obtain ⟨v', H', e, ho', hn', _, hk⟩ := app_one (x := .int .i64 (low n / 2 ^ i % 2)) ho (by rfl) (by rw [iv_len, bitl_len]; change (i + 1) * 8 ≤ _; omega) (by rw [iv_len, bitl_len]; omega)
    rw [e, wrap_succ i (by omega), ih (i + 1) f H' v' (by omega) (by omega) (hk 0 _ hn h0) (by rw [bitl_snoc, iv_app]; exact ho') (fun hc => by have := hn' 0 hc; omega)]
theorem s80 (d : Nat) (n : Int) : pcall M (d + 1) 80 [wd n] = some (.lst (iv (wbits n))) := told (q80 d _ _) (by
  refine Eq.trans (hop_eq (by rfl)) ?_
  exact bits0 d n 64 0 1000000000000000000 _ _ (by omega) (by omega) rfl (.inl ⟨rfl, _, rfl⟩) (by rintro ⟨o, m, h⟩; cases h))

theorem bin_take {l : List Int} {i : Nat} (h : i < l.length) : bin (l.take (i + 1)) = bin (l.take i) + 2 ^ i * l[i] := by
  rw [List.take_succ_eq_append_getElem h, bin_app]
  simp [bin, List.length_take, Nat.min_eq_left (Nat.le_of_lt h)]
theorem wd_congr {a b : Int} (h : a % 340282366920938463463374607431768211456 = b % 340282366920938463463374607431768211456) : wd a = wd b := by
  have e1 : hiw a = hiw b := by unfold hiw; rw [i64w, i64w]; omega
  have e2 : low a = low b := by unfold low; omega
  rw [wd, wd, e1, e2]
theorem take_bits {l : List Int} (h : Bits l) (i : Nat) : Bits (l.take i) := fun x hx => h x (List.mem_of_mem_take hx)
theorem drop_bits {l : List Int} (h : Bits l) (i : Nat) : Bits (l.drop i) := fun x hx => h x (List.mem_of_mem_drop hx)
theorem bin_lt {l : List Int} (h : Bits l) {i : Nat} (hi : i ≤ l.length) : 0 ≤ bin (l.take i) ∧ bin (l.take i) < 2 ^ i := by
  have := bin_nonneg (take_bits h i)
  rwa [List.length_take, Nat.min_eq_left hi] at this
theorem shl1 {i : Nat} (hi : i < 64) : IntKind.wrap .u64 (1 * (2 ^ (min (Int.toNat (i : Int)) 64))) = 2 ^ i := by
  rw [show min (Int.toNat (i : Int)) 64 = i by omega, Int.one_mul]
  exact u64_small (Int.le_of_lt (pow64 i hi).1) (pow64 i hi).2
theorem value1 (d : Nat) (l : List Int) (hb : Bits l) (hl : l.length = 128) : ∀ (k i f : Nat), i + k = 64 → k < f →
    L81_0 d (iv l) (.ptr 0 0 0) (.ptr 1 0 0) f (bin ((l.drop 64).take i)) (i : Nat) [some ⟨E82, [wd 0]⟩, some ⟨E82, [.agg [.int .i64 0, .int .u64 (bin (l.take i))]]⟩] = some (wd (bin l)) := by
  intro k
  induction k with
  | zero =>
    intro i f hi hf
    obtain ⟨f, rfl⟩ : ∃ g, f = g + 1 := ⟨f - 1, by omega⟩
    obtain rfl : i = 64 := by omega
    rw [L81_0, decide_eq_false (by omega), cnd_f, X81_0_0]
    have b1 := bin_lt hb (i := 64) (by omega)
    have e0 : (l.drop 64).take 64 = l.drop 64 := List.take_of_length_le (by simp; omega)
    have e1 : bin l = bin (l.take 64) + 2 ^ 64 * bin (l.drop 64) := by
      have := bin_app (l.take 64) (l.drop 64)
      rw [List.take_append_drop, List.length_take, Nat.min_eq_left (by omega)] at this
      exact this
    have e2 : (2 : Int) ^ 64 = 18446744073709551616 := by decide
    rw [e2] at b1 e1
    have h1 : hiw (bin l) = IntKind.wrap .i64 (bin (l.drop 64)) := by unfold hiw; rw [e1]; congr 1; omega
    have h2 : low (bin l) = bin (l.take 64) := by unfold low; omega
    have hwd : wd (bin l) = .agg [.int .i64 (IntKind.wrap .i64 (bin (l.drop 64))), .int .u64 (bin (l.take 64))] := by rw [wd, h1, h2]
    rw [hwd, e0]
    refine Eq.trans (hop_eq (by rfl)) ?_; refine Eq.trans (hop_eq (by rfl)) ?_; refine Eq.trans (hop_eq (by rfl)) ?_; refine Eq.trans (pl_agg (by rfl) (by rfl)) ?_; refine Eq.trans (pl_int (by rfl)) ?_; refine Eq.trans (pl_int (by rfl)) ?_; refine Eq.trans (hop_eq (by rfl)) ?_; refine Eq.trans (hop_eq (by rfl)) ?_
    rfl
  | succ k ih =>
    intro i f hi hf
    obtain ⟨f, rfl⟩ : ∃ g, f = g + 1 := ⟨f - 1, by omega⟩
    have i1 : i < l.length := by omega
    have i2 : i < (l.drop 64).length := by simp; omega
    have g1 : (iv l)[((i : Nat) : Int).toNat]? = some (.int .i64 l[i]) := by rw [iv_at]; simp [i1]
    have g2 : (iv l)[(IntKind.wrap .i64 (64 + (i : Int))).toNat]? = some (.int .i64 (l.drop 64)[i]) := by
      have : (IntKind.wrap .i64 (64 + (i : Int))).toNat = 64 + i := by rw [i64w]; omega
      rw [this, iv_at]; simp [List.getElem?_eq_getElem (show 64 + i < l.length by omega)]
    have w0 : 0 ≤ IntKind.wrap .i64 (64 + (i : Int)) := by rw [i64w]; omega
    have b1 := bin_lt hb (i := i) (by omega)
    have b2 := bin_lt (drop_bits hb 64) (i := i) (by simp; omega)
    have IH := ih (i + 1) f (by omega) (by omega)
    rw [bin_take i1, bin_take i2] at IH
    rw [L81_0, decide_eq_true (by omega), cnd_t]
    refine Eq.trans (ix_lst (by omega) g1 (by rfl)) ?_
    refine Eq.trans (hop_eq (by rfl)) ?_; refine Eq.trans (pl_int (by rfl)) ?_
    have c0 : ∀ i : Nat, decide ((i : Int) < 0) = false := fun i => decide_eq_false (by omega)
    rcases hb l[i] (List.getElem_mem _) with x0 | x0 <;> rcases drop_bits hb 64 (l.drop 64)[i] (List.getElem_mem _) with y0 | y0
    all_goals rw [x0] ; rw [y0] at g2
    · rw [x0, y0] at IH
      refine Eq.trans (pl_f (by rfl)) ?_
      refine Eq.trans (ix_lst w0 g2 (by rfl)) ?_
      refine Eq.trans (hop_eq (by rfl)) ?_; refine Eq.trans (pl_int (by rfl)) ?_
      refine Eq.trans (pl_f (by rfl)) ?_
      rw [wrap_succ i (by omega)]
      simpa using IH
    · rw [x0, y0] at IH
      refine Eq.trans (pl_f (by rfl)) ?_
      refine Eq.trans (ix_lst w0 g2 (by rfl)) ?_
      refine Eq.trans (hop_eq (by rfl)) ?_; refine Eq.trans (pl_int (by rfl)) ?_; refine Eq.trans (pl_len (by rfl)) ?_
      rw [c0, cnd_f, wrap_succ i (by omega), shl1 (by omega), u64_or_pow (by omega) b2.1 b2.2]
      simpa using IH
    · rw [x0, y0] at IH
      refine Eq.trans (pl_len (by rfl)) ?_; refine Eq.trans (hop_eq (by rfl)) ?_; refine Eq.trans (hop_eq (by rfl)) ?_; refine Eq.trans (pl_int (by rfl)) ?_
      rw [c0, cnd_f, shl1 (by omega), u64_or_pow (by omega) b1.1 b1.2]
      refine Eq.trans (hop_eq (by rfl)) ?_; refine Eq.trans (hop_eq (by rfl)) ?_
      refine Eq.trans (ix_lst w0 g2 (by rfl)) ?_
      refine Eq.trans (hop_eq (by rfl)) ?_; refine Eq.trans (pl_int (by rfl)) ?_
      refine Eq.trans (pl_f (by rfl)) ?_
      rw [wrap_succ i (by omega)]
      simp only [Int.mul_one, Int.mul_zero, Int.add_zero] at IH
      exact IH
    · rw [x0, y0] at IH
      refine Eq.trans (pl_len (by rfl)) ?_; refine Eq.trans (hop_eq (by rfl)) ?_; refine Eq.trans (hop_eq (by rfl)) ?_; refine Eq.trans (pl_int (by rfl)) ?_
      rw [c0, cnd_f, shl1 (by omega), u64_or_pow (by omega) b1.1 b1.2]
      refine Eq.trans (hop_eq (by rfl)) ?_; refine Eq.trans (hop_eq (by rfl)) ?_
      refine Eq.trans (ix_lst w0 g2 (by rfl)) ?_
      refine Eq.trans (hop_eq (by rfl)) ?_; refine Eq.trans (pl_int (by rfl)) ?_; refine Eq.trans (pl_len (by rfl)) ?_
      rw [cnd_f, wrap_succ i (by omega), u64_or_pow (by omega) b2.1 b2.2]
      simp only [Int.mul_one] at IH
      exact IH
theorem s81 (d : Nat) (l : List Int) (hb : Bits l) (hl : l.length = 128) : pcall M (d + 1) 81 [.lst (iv l)] = some (wd (bin l)) := told (q81 d _) (by
  refine Eq.trans (hop_eq (by rfl)) ?_; refine Eq.trans (hop_eq (by rfl)) ?_; refine Eq.trans (hop_eq (by rfl)) ?_
  have := value1 d l hb hl 64 0 1000000000000000000 (by omega) (by omega)
  simp only [List.take_zero, bin] at this
  exact this)
end Go.Proofs.Ytjblhppbjebagaa.AE

namespace Go.Proofs.Ytjblhppbjebagaa.AE
set_option linter.unusedVariables false
set_option linter.unusedSimpArgs false
open Go
theorem sgn_i64 (b : BitVec 64) : (IntKind.i64.wrap (b.toNat : Int) < 0) ↔ b.msb = true := by
  rw [i64w, BitVec.msb_eq_decide]; have := b.isLt; simp; omega
theorem msb_i64 (x : Int) (h : -9223372036854775808 ≤ x) (h' : x < 9223372036854775808) : (BitVec.ofInt 64 x).msb = decide (x < 0) := by
  rw [BitVec.msb_eq_decide, BitVec.toNat_ofInt]
  by_cases hx : x < 0 <;> simp [hx] <;> omega
theorem bits_xor_sgn (x y : Int) (h : -9223372036854775808 ≤ x) (h' : x < 9223372036854775808) (g : -9223372036854775808 ≤ y) (g' : y < 9223372036854775808) :
    Go.bits .xor .i64 x y < 0 ↔ ¬ (x < 0 ↔ y < 0) := by
  show IntKind.i64.wrap ((BitVec.ofInt 64 x ^^^ BitVec.ofInt 64 y).toNat : Int) < 0 ↔ _
  rw [sgn_i64, BitVec.msb_xor, msb_i64 x h h', msb_i64 y g g']
  by_cases a : x < 0 <;> by_cases b : y < 0 <;> simp [a, b]
theorem bits_rng_i64 (op : BinOp) (x y : Int) : -9223372036854775808 ≤ Go.bits op .i64 x y ∧ Go.bits op .i64 x y < 9223372036854775808 := by
  unfold Go.bits; rw [show ∀ n, IntKind.wrap .i64 n = _ from i64w]; omega
theorem bits_and_sgn (x y : Int) (h : -9223372036854775808 ≤ x) (h' : x < 9223372036854775808) (g : -9223372036854775808 ≤ y) (g' : y < 9223372036854775808) :
    Go.bits .and .i64 x y < 0 ↔ (x < 0 ∧ y < 0) := by
  show IntKind.i64.wrap ((BitVec.ofInt 64 x &&& BitVec.ofInt 64 y).toNat : Int) < 0 ↔ _
  rw [sgn_i64, BitVec.msb_and, msb_i64 x h h', msb_i64 y g g']
  by_cases a : x < 0 <;> by_cases b : y < 0 <;> simp [a, b]
end Go.Proofs.Ytjblhppbjebagaa.AE

namespace Go.Proofs.Ytjblhppbjebagaa.AE
set_option linter.unusedVariables false
set_option linter.unusedSimpArgs false
set_option linter.constructorNameAsVariable false
open Go

theorem plus1 (d : Nat) (x y : List Int) (hx : Bits x) (hy : Bits y) (lx : x.length = 128) (ly : y.length = 128) : ∀ (k i f : Nat) (H : Heap) (v : AV) (out : List Int) (c : Int), i + k = 128 → k < f → out.length = i → Bits out → (c = 0 ∨ c = 1) →
    bin out + 2 ^ i * c = bin (x.take i) + bin (y.take i) → hget H 2 = some ⟨E82, [wd 0]⟩ → Own H E3 v (iv out) → ¬ names v 2 → 2 < H.length →
    L77_0 (d + 1) (.ptr 2 0 0) (.lst (iv x)) (.lst (iv y)) f v c (i : Nat) H = some (wd (bin x + bin y)) := by
  intro k
  induction k with
  | zero =>
    intro i f H v out c hi hf lo ob hc hs h2 ho hn hl
    obtain ⟨f, rfl⟩ : ∃ g, f = g + 1 := ⟨f - 1, by omega⟩
    obtain rfl : i = 128 := by omega
    rw [L77_0, decide_eq_false (by omega), cnd_f, X77_0_0, snp_own ho (by intro h; rw [h] at lo; simp at lo), s81 d out ob lo]
    refine Eq.trans (pl_agg (by rfl) (by rfl)) ?_; refine Eq.trans (pl_int (by rfl)) ?_; refine Eq.trans (pl_int (by rfl)) ?_; refine Eq.trans (pl_len (by rfl)) ?_
    rw [st_ptr h2 (by rfl) (by rfl)]
    refine Eq.trans (ld_ptr (hget_set hl) (by rfl) (by rfl)) ?_
    rw [List.take_of_length_le (by omega), List.take_of_length_le (by omega)] at hs
    have e2 : (2 : Int) ^ 128 = 340282366920938463463374607431768211456 := by decide
    rw [e2] at hs
    rw [wd_congr (a := bin x + bin y) (b := bin out) (by rw [← hs]; omega)]
    rfl
  | succ k ih =>
    intro i f H v out c hi hf lo ob hc hs h2 ho hn hl
    obtain ⟨f, rfl⟩ : ∃ g, f = g + 1 := ⟨f - 1, by omega⟩
    have i1 : i < x.length := by omega
    have i2 : i < y.length := by omega
    have g1 : (iv x)[((i : Nat) : Int).toNat]? = some (.int .i64 x[i]) := by rw [iv_at]; simp [i1]
    have g2 : (iv y)[((i : Nat) : Int).toNat]? = some (.int .i64 y[i]) := by rw [iv_at]; simp [i2]
    have bx := hx x[i] (List.getElem_mem _)
    have by' := hy y[i] (List.getElem_mem _)
    rw [L77_0, decide_eq_true (by omega), cnd_t]
    refine Eq.trans (ix_lst (by omega) g1 (by rfl)) ?_
    refine Eq.trans (hop_eq (by rfl)) ?_; refine Eq.trans (pl_int (by rfl)) ?_
    refine Eq.trans (ix_lst (by omega) g2 (by rfl)) ?_
    refine Eq.trans (hop_eq (by rfl)) ?_; refine Eq.trans (pl_int (by rfl)) ?_
    obtain ⟨t, ht⟩ : ∃ t, t = x[i] + y[i] + c := ⟨_, rfl⟩
    have ew : IntKind.wrap .i64 ((IntKind.wrap .i64 (x[i] + y[i])) + c) = t := by rw [i64w, i64w]; omega
    have e1 : Int.tmod t 2 = t % 2 := Int.tmod_eq_emod_of_nonneg (by omega)
    have e2 : Int.tdiv t 2 = t / 2 := Int.tdiv_eq_ediv_of_nonneg (by omega)
    have e3 : IntKind.wrap .i64 (t / 2) = t / 2 := i64_small (by omega) (by omega)
    rw [ew, e1, e2, e3]
    obtain ⟨v', H', e, ho', hn', hl', hk⟩ := app_one (x := .int .i64 (t % 2)) ho (by rfl) (by rw [iv_len, lo]; change (i + 1) * 8 ≤ _; omega) (by rw [iv_len, lo]; omega)
    rw [e, wrap_succ i (by omega)]
    refine ih (i + 1) f H' v' (out ++ [t % 2]) (t / 2) (by omega) (by omega) (by simp [lo]) (bits_app.mpr ⟨ob, by intro z hz; simp at hz; omega⟩) (by omega) ?_ (hk 2 _ hn h2) (by rw [iv_app]; exact ho') (fun hc => by have := hn' 2 hc; omega) (by omega)
    rw [bin_app, lo, bin_take i1, bin_take i2, Int.pow_succ]
    simp only [bin]
    have e4 : t = t % 2 + 2 * (t / 2) := by omega
    have : bin out + 2 ^ i * (t % 2 + 2 * 0) + 2 ^ i * 2 * (t / 2) = bin out + 2 ^ i * (t % 2 + 2 * (t / 2)) := by grind
    rw [this, ← e4, ht]
    grind
theorem s77 (d : Nat) (a b : Int) : pcall M (d + 2) 77 [wd a, wd b] = some (wd (a + b)) := told (q77 (d + 1) _ _ _ _) (by
  refine Eq.trans (hop_eq (by rfl)) ?_; refine Eq.trans (hop_eq (by rfl)) ?_; refine Eq.trans (hop_eq (by rfl)) ?_; refine Eq.trans (hop_eq (by rfl)) ?_; refine Eq.trans (pl_agg (by rfl) (by rfl)) ?_; refine Eq.trans (pl_int (by rfl)) ?_; refine Eq.trans (pl_int (by rfl)) ?_
  refine Eq.trans (pl_any (s80 d a)) ?_
  refine Eq.trans (hop_eq (by rfl)) ?_; refine Eq.trans (pl_agg (by rfl) (by rfl)) ?_; refine Eq.trans (pl_int (by rfl)) ?_; refine Eq.trans (pl_int (by rfl)) ?_
  refine Eq.trans (pl_any (s80 d b)) ?_
  have := plus1 d (wbits a) (wbits b) (wbits_bits a) (wbits_bits b) (wbits_len a) (wbits_len b) 128 0 1000000000000000000
    [some ⟨E82, [wd a]⟩, some ⟨E82, [wd b]⟩, some ⟨E82, [wd 0]⟩] (.zsl true) [] 0 (by omega) (by omega) rfl (by intro z hz; cases hz) (.inl rfl) (by simp [bin]) rfl (.inl ⟨rfl, _, rfl⟩) (by rintro ⟨o, m, h⟩; cases h) (by simp)
  refine this.trans ?_
  rw [bin_wbits, bin_wbits, wd_congr (a := a + b) (b := a % 340282366920938463463374607431768211456 + b % 340282366920938463463374607431768211456) (by omega)])

theorem s76 (d : Nat) (x : Int) (h : -9223372036854775808 ≤ x) (h' : x < 9223372036854775808) : pcall M (d + 1) 76 [.int .i64 x] = some (wd x) := told (r76 C0 d x) (by
  have e2 : IntKind.wrap .u64 x = low x := by unfold low; rw [u64w]
  rw [e2]
  by_cases hx : x < 0
  · rw [decide_eq_true hx, cnd_t, wd, show hiw x = -1 by unfold hiw; rw [i64w]; omega]
  · rw [decide_eq_false hx, cnd_f, wd, show hiw x = 0 by unfold hiw; rw [i64w]; omega])
theorem bits_not_i64 (x : Int) (h : -9223372036854775808 ≤ x) (h' : x < 9223372036854775808) : Go.bits .xor .i64 (-1) x = -1 - x := by
  show IntKind.i64.wrap ((BitVec.ofInt 64 (-1) ^^^ BitVec.ofInt 64 x).toNat : Int) = _
  rw [show BitVec.ofInt 64 (-1) = BitVec.allOnes 64 by decide, BitVec.allOnes_xor, BitVec.toNat_not, i64w, BitVec.toNat_ofInt]
  have : ((2 ^ 64 : Nat) : Int) = 18446744073709551616 := by decide
  rw [this]
  omega
theorem bits_not_u64 (x : Int) (h : 0 ≤ x) (h' : x < 18446744073709551616) : Go.bits .xor .u64 18446744073709551615 x = 18446744073709551615 - x := by
  show IntKind.u64.wrap ((BitVec.ofInt 64 18446744073709551615 ^^^ BitVec.ofInt 64 x).toNat : Int) = _
  rw [show BitVec.ofInt 64 18446744073709551615 = BitVec.allOnes 64 by decide, BitVec.allOnes_xor, BitVec.toNat_not, u64w, BitVec.toNat_ofInt]
  have : ((2 ^ 64 : Nat) : Int) = 18446744073709551616 := by decide
  rw [this]
  omega
theorem hiw_rng (n : Int) : -9223372036854775808 ≤ hiw n ∧ hiw n < 9223372036854775808 := by unfold hiw; rw [i64w]; omega
theorem s78 (d : Nat) (n : Int) : pcall M (d + 3) 78 [wd n] = some (wd (-n)) := told (r78 C0 (d + 2) _ _) (by
  have r1 := hiw_rng n
  have r2 := low_rng n
  rw [if_pos rfl, if_neg (by decide), bits_not_i64 _ r1.1 r1.2, show IntKind.max .u64 = 18446744073709551615 by decide, bits_not_u64 _ r2.1 r2.2]
  have e : (.agg [.int .i64 (-1 - hiw n), .int .u64 (18446744073709551615 - low n)] : AV) = wd (-1 - n) := by
    rw [wd, show -1 - hiw n = hiw (-1 - n) by unfold hiw; rw [i64w, i64w]; omega, show 18446744073709551615 - low n = low (-1 - n) by unfold low; omega]
  have e1 : (.agg [.int .i64 0, .int .u64 1] : AV) = wd 1 := by rfl
  rw [e, e1, s77]
  refine Eq.trans (pl_agg (by rfl) (by rfl)) ?_; refine Eq.trans (pl_int (by rfl)) ?_; refine Eq.trans (pl_int (by rfl)) ?_
  rw [show -1 - n + 1 = -n by omega])
theorem mod_succ (n : Int) (i : Nat) : n % 2 ^ (i + 1) = n % 2 ^ i + 2 ^ i * (n / 2 ^ i % 2) := by
  have := congrArg bin (bitl_snoc n i)
  rw [bin_app, bin_bitl, bin_bitl, bitl_len] at this
  simpa [bin] using this
theorem and1 {x : Int} {i : Nat} (hi : i < 64) (h : 0 ≤ x) (h' : x < 18446744073709551616) : bits .and .u64 (Int.fdiv x (2 ^ (min (Int.toNat (i : Int)) 64))) 1 = x / 2 ^ i % 2 := by
  rw [show min (Int.toNat (i : Int)) 64 = i by omega, Int.fdiv_eq_ediv_of_nonneg _ (Int.le_of_lt (pow64 i hi).1)]
  have hp := pow64 i hi
  have h1 : 0 ≤ x / 2 ^ i := Int.ediv_nonneg h (by omega)
  have h2 : x / 2 ^ i < 18446744073709551616 := Int.lt_of_le_of_lt (Int.ediv_le_self _ h) h'
  have := u64_mask 1 (by decide) h1 h2
  rwa [show ((2 : Int) ^ 1 - 1) = 1 by decide, show ((2 : Int) ^ 1) = 2 by decide] at this
theorem mul1 (d : Nat) (a b : Int) (hb : -9223372036854775808 ≤ b) (hb' : b < 9223372036854775808) : ∀ (k i f : Nat), i + k = 64 → k < f →
    L69_0 (d + 3) b (.ptr 0 0 0) (.ptr 1 0 0) (.ptr 2 0 0) f (i : Nat) [some ⟨E82, [wd 0]⟩, some ⟨E82, [wd (a * 2 ^ i)]⟩, some ⟨E82, [wd (a * (b % 18446744073709551616 % 2 ^ i))]⟩] = some (wd (a * b)) := by
  intro k
  induction k with
  | zero =>
    intro i f hi hf
    obtain ⟨f, rfl⟩ : ∃ g, f = g + 1 := ⟨f - 1, by omega⟩
    obtain rfl : i = 64 := by omega
    have e2 : (2 : Int) ^ 64 = 18446744073709551616 := by decide
    rw [L69_0, decide_eq_false (by omega), cnd_f, X69_0_0, e2]
    by_cases h : b < 0
    · rw [decide_eq_true h, cnd_t]
      refine Eq.trans (hop_eq (by rfl)) ?_; refine Eq.trans (pl_agg (by rfl) (by rfl)) ?_; refine Eq.trans (pl_int (by rfl)) ?_; refine Eq.trans (pl_int (by rfl)) ?_; refine Eq.trans (hop_eq (by rfl)) ?_; refine Eq.trans (pl_agg (by rfl) (by rfl)) ?_; refine Eq.trans (pl_int (by rfl)) ?_; refine Eq.trans (pl_int (by rfl)) ?_
      refine Eq.trans (pl_agg (s78 d _) (by rfl)) ?_
      refine Eq.trans (pl_int (by rfl)) ?_; refine Eq.trans (pl_int (by rfl)) ?_
      refine Eq.trans (pl_agg (s77 (d + 1) _ _) (by rfl)) ?_
      refine Eq.trans (pl_int (by rfl)) ?_; refine Eq.trans (pl_int (by rfl)) ?_; refine Eq.trans (hop_eq (by rfl)) ?_; refine Eq.trans (hop_eq (by rfl)) ?_; refine Eq.trans (pl_agg (by rfl) (by rfl)) ?_; refine Eq.trans (pl_int (by rfl)) ?_; refine Eq.trans (pl_int (by rfl)) ?_; refine Eq.trans (hop_eq (by rfl)) ?_; refine Eq.trans (hop_eq (by rfl)) ?_
      have e3 : a * (b % 18446744073709551616 % 18446744073709551616) + -(a * 18446744073709551616) = a * b := by
        rw [show b % 18446744073709551616 % 18446744073709551616 = b + 18446744073709551616 by omega]; grind
      rw [← e3]; rfl
    · rw [decide_eq_false h, cnd_f]
      refine Eq.trans (hop_eq (by rfl)) ?_; refine Eq.trans (pl_agg (by rfl) (by rfl)) ?_; refine Eq.trans (pl_int (by rfl)) ?_; refine Eq.trans (pl_int (by rfl)) ?_; refine Eq.trans (hop_eq (by rfl)) ?_; refine Eq.trans (hop_eq (by rfl)) ?_
      have e3 : a * (b % 18446744073709551616 % 18446744073709551616) = a * b := by rw [show b % 18446744073709551616 % 18446744073709551616 = b by omega]
      rw [← e3]; rfl
  | succ k ih =>
    intro i f hi hf
    obtain ⟨f, rfl⟩ : ∃ g, f = g + 1 := ⟨f - 1, by omega⟩
    have IH := ih (i + 1) f (by omega) (by omega)
    rw [mod_succ] at IH
    have px : a * 2 ^ (i + 1) = a * 2 ^ i + a * 2 ^ i := by rw [Int.pow_succ]; grind
    rw [px] at IH
    rw [L69_0, decide_eq_true (by omega), cnd_t, decide_eq_false (by omega), cnd_f, u64w, and1 (by omega) (by omega) (by omega)]
    rcases (show b % 18446744073709551616 / 2 ^ i % 2 = 0 ∨ b % 18446744073709551616 / 2 ^ i % 2 = 1 by omega) with h | h
    · rw [h] at IH ⊢
      refine Eq.trans (pl_f (by rfl)) ?_
      refine Eq.trans (hop_eq (by rfl)) ?_; refine Eq.trans (pl_agg (by rfl) (by rfl)) ?_; refine Eq.trans (pl_int (by rfl)) ?_; refine Eq.trans (pl_int (by rfl)) ?_; refine Eq.trans (hop_eq (by rfl)) ?_; refine Eq.trans (pl_agg (by rfl) (by rfl)) ?_; refine Eq.trans (pl_int (by rfl)) ?_; refine Eq.trans (pl_int (by rfl)) ?_
      refine Eq.trans (pl_agg (s77 (d + 1) _ _) (by rfl)) ?_
      refine Eq.trans (pl_int (by rfl)) ?_; refine Eq.trans (pl_int (by rfl)) ?_; refine Eq.trans (hop_eq (by rfl)) ?_
      rw [wrap_succ i (by omega)]
      rw [Int.mul_zero, Int.add_zero] at IH
      exact IH
    · rw [h] at IH ⊢
      refine Eq.trans (pl_len (by rfl)) ?_; refine Eq.trans (hop_eq (by rfl)) ?_; refine Eq.trans (pl_agg (by rfl) (by rfl)) ?_; refine Eq.trans (pl_int (by rfl)) ?_; refine Eq.trans (pl_int (by rfl)) ?_; refine Eq.trans (hop_eq (by rfl)) ?_; refine Eq.trans (pl_agg (by rfl) (by rfl)) ?_; refine Eq.trans (pl_int (by rfl)) ?_; refine Eq.trans (pl_int (by rfl)) ?_
      refine Eq.trans (pl_agg (s77 (d + 1) _ _) (by rfl)) ?_
      refine Eq.trans (pl_int (by rfl)) ?_; refine Eq.trans (pl_int (by rfl)) ?_; refine Eq.trans (hop_eq (by rfl)) ?_; refine Eq.trans (hop_eq (by rfl)) ?_; refine Eq.trans (pl_agg (by rfl) (by rfl)) ?_; refine Eq.trans (pl_int (by rfl)) ?_; refine Eq.trans (pl_int (by rfl)) ?_; refine Eq.trans (hop_eq (by rfl)) ?_; refine Eq.trans (pl_agg (by rfl) (by rfl)) ?_; refine Eq.trans (pl_int (by rfl)) ?_; refine Eq.trans (pl_int (by rfl)) ?_
      refine Eq.trans (pl_agg (s77 (d + 1) _ _) (by rfl)) ?_
      refine Eq.trans (pl_int (by rfl)) ?_; refine Eq.trans (pl_int (by rfl)) ?_; refine Eq.trans (hop_eq (by rfl)) ?_
      rw [wrap_succ i (by omega)]
      rw [Int.mul_one, Int.mul_add] at IH
      exact IH
theorem s69 (d : Nat) (a b : Int) (ha : -9223372036854775808 ≤ a) (ha' : a < 9223372036854775808) (hb : -9223372036854775808 ≤ b) (hb' : b < 9223372036854775808) :
    pcall M (d + 4) 69 [.int .i64 a, .int .i64 b] = some (wd (a * b)) := told (q69 (d + 3) _ _) (by
  refine Eq.trans (hop_eq (by rfl)) ?_
  refine Eq.trans (pl_agg (s76 (d + 2) a ha ha') (by rfl)) ?_
  refine Eq.trans (pl_int (by rfl)) ?_; refine Eq.trans (pl_int (by rfl)) ?_; refine Eq.trans (hop_eq (by rfl)) ?_; refine Eq.trans (hop_eq (by rfl)) ?_; refine Eq.trans (hop_eq (by rfl)) ?_; refine Eq.trans (hop_eq (by rfl)) ?_
  have := mul1 d a b hb hb' 64 0 1000000000000000000 (by omega) (by omega)
  have e : b % 18446744073709551616 % 2 ^ 0 = 0 := by rw [show (2 : Int) ^ 0 = 1 from rfl, Int.emod_one]
  rw [e, show a * 2 ^ 0 = a by rw [show (2 : Int) ^ 0 = 1 from rfl, Int.mul_one], Int.mul_zero] at this
  exact this)
theorem s68 (d : Nat) (a b : Int) (ha : -170141183460469231731687303715884105728 ≤ a) (ha' : a < 170141183460469231731687303715884105728) (hb : -170141183460469231731687303715884105728 ≤ b) (hb' : b < 170141183460469231731687303715884105728) :
    pcall M (d + 1) 68 [wd a, wd b] = some (.int .i64 (cmp a b)) := told (r68 C0 d _ _ _ _) (by
  have e1 : hiw a = a / 18446744073709551616 := by unfold hiw; rw [i64_small (by omega) (by omega)]
  have e2 : hiw b = b / 18446744073709551616 := by unfold hiw; rw [i64_small (by omega) (by omega)]
  rw [e1, e2]
  unfold low cmp
  by_cases c1 : a / 18446744073709551616 < b / 18446744073709551616
  · rw [decide_eq_true c1, cnd_t, if_pos (by omega)]
  · rw [decide_eq_false c1, cnd_f]
    by_cases c2 : a / 18446744073709551616 = b / 18446744073709551616
    · rw [show (a / 18446744073709551616 == b / 18446744073709551616) = true by simp [c2], cnd_t]
      by_cases c3 : a % 18446744073709551616 < b % 18446744073709551616
      · rw [decide_eq_true c3, cnd_t, if_pos (by omega)]
      · rw [decide_eq_false c3, cnd_f]
        by_cases c4 : a % 18446744073709551616 = b % 18446744073709551616
        · rw [show (a % 18446744073709551616 == b % 18446744073709551616) = true by simp [c4], if_neg (by omega), if_neg (by omega)]; rfl
        · rw [show (a % 18446744073709551616 == b % 18446744073709551616) = false by simp [c4], if_neg (by omega), if_pos (by omega)]; rfl
    · rw [show (a / 18446744073709551616 == b / 18446744073709551616) = false by simp [c2], cnd_f, if_neg (by omega), if_pos (by omega)]; rfl)
end Go.Proofs.Ytjblhppbjebagaa.AE

namespace Go.Proofs.Ytjblhppbjebagaa.AE
set_option linter.unusedVariables false
set_option linter.unusedSimpArgs false
set_option linter.constructorNameAsVariable false
open Go Go.Proofs.Ytjblhppbjebagaa.Geo

theorem s55 (d : Nat) (a b c : Pt) : pcall M (d + 5) 55 [pt a, pt b, pt c] = some (.int .i64 (tn3 a b c)) := told (r55 C0 (d + 4) _ _ _ _ _ _) (by
  have R := fun p => s26 (d + 3) p
  simp only [pt] at R
  rw [R a, R b, R c]
  simp only [C0_bool]
  unfold tn3
  by_cases ha : OkP a
  · by_cases hb : OkP b
    · by_cases hc : OkP c
      · rw [if_pos ⟨ha, hb, hc⟩, decide_eq_true ha, decide_eq_true hb, decide_eq_true hc]
        obtain ⟨⟨ha, ha'⟩, hb1, hb1'⟩ := ha
        obtain ⟨⟨hc1, hc1'⟩, hd, hd'⟩ := hb
        obtain ⟨⟨he, he'⟩, hf, hf'⟩ := hc
        rw [i64_small (n := b.1 - a.1) (by omega) (by omega), i64_small (n := c.2 - a.2) (by omega) (by omega), i64_small (n := b.2 - a.2) (by omega) (by omega), i64_small (n := c.1 - a.1) (by omega) (by omega)]
        rw [s69 d _ _ (by omega) (by omega) (by omega) (by omega), s69 d _ _ (by omega) (by omega) (by omega) (by omega)]
        have p1 := prod_bd41 (x := b.1 - a.1) (y := c.2 - a.2) (by omega) (by omega) (by omega) (by omega)
        have p2 := prod_bd41 (x := b.2 - a.2) (y := c.1 - a.1) (by omega) (by omega) (by omega) (by omega)
        simp only [Bool.not_true, cnd_f, C0_agg2, at0, at1, C0_int]
        rw [s68 (d + 3) _ _ (by omega) (by omega) (by omega) (by omega), C0_int, cmp_sg]
        rfl
      · rw [if_neg fun h => hc h.2.2, decide_eq_true ha, decide_eq_true hb, decide_eq_false hc]; rfl
    · rw [if_neg fun h => hb h.2.1, decide_eq_true ha, decide_eq_false hb]; rfl
  · rw [if_neg fun h => ha h.1, decide_eq_false ha]; rfl)
theorem s54 (d : Nat) (p a b : Pt) : pcall M (d + 6) 54 [pt p, pt a, pt b] = some (.bool (onB p a b)) := told (r54 C0 (d + 5) _ _ _ _ _ _) (by
  have R := fun p => s26 (d + 4) p
  have t := s55 d a b p
  simp only [pt] at R t
  rw [R a, R b, R p, t]
  simp only [C0_bool, C0_int]
  have e1 : ∀ x y : Int, (if y < x then y else x) = min x y := fun x y => by omega
  have e2 : ∀ x y : Int, (if y > x then y else x) = max x y := fun x y => by omega
  rw [e1, e1, e2, e2]
  by_cases ha : OkP a
  · by_cases hb : OkP b
    · by_cases hp : OkP p
      · rw [decide_eq_true ha, decide_eq_true hb, decide_eq_true hp, tn3_sg ⟨ha, hb, hp⟩]
        simp only [Bool.not_true, cnd_f]
        by_cases ht : TN a b p = 0
        · rw [show (sg (TN a b p) != 0) = false by simp [sg_zero, ht], cnd_f]
          have key : onB p a b = (decide (p.1 ≥ min a.1 b.1) && (decide (p.1 ≤ max a.1 b.1) && (decide (p.2 ≥ min a.2 b.2) && decide (p.2 ≤ max a.2 b.2)))) := by
            rw [Bool.eq_iff_iff]
            simp only [Bool.and_eq_true, onB_t, decide_eq_true_eq]
            unfold On Btw
            constructor
            · rintro ⟨_, _, h⟩; omega
            · intro h; exact ⟨⟨hp, ha, hb⟩, ht, by omega⟩
          rw [key]
          cases decide (p.1 ≥ min a.1 b.1) <;> cases decide (p.1 ≤ max a.1 b.1) <;> cases decide (p.2 ≥ min a.2 b.2) <;> rfl
        · rw [show (sg (TN a b p) != 0) = true by simp [sg_zero, ht], cnd_t]
          have : onB p a b = false := by rw [← Bool.not_eq_true]; intro h; exact ht (onB_t.mp h).2.1
          rw [this]
      · have : onB p a b = false := by rw [← Bool.not_eq_true]; intro h; exact hp (onB_t.mp h).1.1
        rw [decide_eq_true ha, decide_eq_true hb, decide_eq_false hp, this]; rfl
    · have : onB p a b = false := by rw [← Bool.not_eq_true]; intro h; exact hb (onB_t.mp h).1.2.2
      rw [decide_eq_true ha, decide_eq_false hb, this]; rfl
  · have : onB p a b = false := by rw [← Bool.not_eq_true]; intro h; exact ha (onB_t.mp h).1.2.1
    rw [decide_eq_false ha, this]; rfl)
def okb (p : Pt) : Bool := decide (OkP p)
theorem okb_t {p : Pt} : okb p = true ↔ OkP p := decide_eq_true_iff
theorem s42 (d : Nat) (a b c e : Pt) : pcall M (d + 7) 42 [pt a, pt b, pt c, pt e] = some (.bool (meetB a b c e)) := told (r42 C0 (d + 6) _ _ _ _ _ _ _ _) (by
  have R := fun p => s26 (d + 5) p
  have o := fun p q r => s54 d p q r
  have t := fun p q r => s55 (d + 1) p q r
  simp only [pt] at o t R
  rw [R a, R b, R c, R e, o a c e, o b c e, o c a b, o e a b, t a b c, t a b e, t c e a, t c e b]
  simp only [C0_bool, C0_int]
  change cnd (!okb a) (some (.bool false)) (cnd (!okb b) (some (.bool false)) (cnd (!okb c) (some (.bool false)) (cnd (!okb e) (some (.bool false)) (cnd (onB a c e) (some (.bool true)) (cnd (onB b c e) (some (.bool true)) (cnd (onB c a b) (some (.bool true)) (cnd (onB e a b) (some (.bool true))
    (cnd (negB (IntKind.wrap .i64 (tn3 a b c * tn3 a b e))) (some (.bool (negB (IntKind.wrap .i64 (tn3 c e a * tn3 c e b))))) (some (.bool false)))))))))) = _
  have key : meetB a b c e = (okb a && (okb b && (okb c && (okb e && (onB a c e || (onB b c e || (onB c a b || (onB e a b || (negB (IntKind.wrap .i64 (tn3 a b c * tn3 a b e)) && negB (IntKind.wrap .i64 (tn3 c e a * tn3 c e b))))))))))) := by
    rw [Bool.eq_iff_iff]
    simp only [Bool.and_eq_true, Bool.or_eq_true, onB_t, okb_t, negB_t, meetB_t]
    have fin : ok4 a b c e → (Meet a b c e ↔ (ok3 a c e ∧ On a c e ∨ ok3 b c e ∧ On b c e ∨ ok3 c a b ∧ On c a b ∨ ok3 e a b ∧ On e a b ∨ IntKind.wrap .i64 (tn3 a b c * tn3 a b e) < 0 ∧ IntKind.wrap .i64 (tn3 c e a * tn3 c e b) < 0)) := by
      rintro ⟨ha, hb, hc, he⟩
      rw [tn3_sg ⟨ha, hb, hc⟩, tn3_sg ⟨ha, hb, he⟩, tn3_sg ⟨hc, he, ha⟩, tn3_sg ⟨hc, he, hb⟩, sg_small, sg_small]
      simp only [ok3, ha, hb, hc, he, true_and, and_true]
      exact Iff.rfl
    constructor
    · rintro ⟨h, hm⟩; exact ⟨h.1, h.2.1, h.2.2.1, h.2.2.2, (fin h).mp hm⟩
    · rintro ⟨h1, h2, h3, h4, hm⟩; exact ⟨⟨h1, h2, h3, h4⟩, (fin ⟨h1, h2, h3, h4⟩).mpr hm⟩
  rw [key]
  cases okb a <;> cases okb b <;> cases okb c <;> cases okb e <;> cases onB a c e <;> cases onB b c e <;> cases onB c a b <;> cases onB e a b <;> cases negB (IntKind.wrap .i64 (tn3 a b c * tn3 a b e)) <;> rfl)
end Go.Proofs.Ytjblhppbjebagaa.AE
