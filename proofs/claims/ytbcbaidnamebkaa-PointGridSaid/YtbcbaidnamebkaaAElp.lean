/- Loops as recursions over what is live in them. No conditions. -/
import Derived.Test.YtbcbaidnamebkaaAEsymL
namespace Go.Proofs.Ytbcbaidnamebkaa.AE
set_option linter.unusedVariables false
set_option linter.unusedSimpArgs false
set_option linter.constructorNameAsVariable false
open Go
set_option maxRecDepth 100000
noncomputable def X46_0_0 (d : Nat) (a0 : List AV) (v0 : AV) (v2 : AV) (x61 : Int) (H : Heap) : Ans :=
  C0.hop H (.fldA 0 (.v v2)) fun v88 h89 =>
    C0.hop h89 (.store 1 (.v v88) (.v (.int .i64 (IntKind.wrap .i64 x61)))) fun v90 h91 =>
    C0.hop h91 (.load true 2 (.v v2)) fun v92 h93 =>
    C0.agg 2 (some v92) fun l94 =>
    C0.int .i64 l94[0]? fun x95 =>
    C0.int .u64 l94[1]? fun x96 =>
    C0.hop h93 (.store 2 (.v v0) (.v (.agg [(.int .i64 x95), (.int .u64 x96)]))) fun v97 h98 =>
    C0.hop h98 (.load true 2 (.v v0)) fun v99 h100 =>
    some (snap 12 h98 v99)
theorem X46_0_0_ok (d : Nat) (a0 : List AV) (v0 : AV) (v2 : AV) (x61 : Int) (x62 : Int) (x63 : Int) (b64 : Bool) (v65 : AV) (v66 : AV) (v67 : AV) (v68 : AV) (v69 : AV) (v70 : AV) (v71 : AV) (v72 : AV) (v73 : AV) (v74 : AV) (v75 : AV) (v76 : AV) (v77 : AV) (v78 : AV) (v79 : AV) (v80 : AV) (v81 : AV) (v82 : AV) (v83 : AV) (v84 : AV) (v85 : AV) (v86 : AV) (v87 : AV) (H : Heap) : r46X0_0 C0 d a0 v0 v2 ⟨[(.lst a0), (.tup []), v0, v2, (.int .u64 x61), (.int .i64 x62), (.agg [(.int .i64 0), (.int .u64 0)]), (.int .i64 x63), (.bool b64), v65, v66, v67, v68, v69, v70, v71, v72, v73, v74, v75, v76, v77, v78, v79, v80, v81, v82, v83, v84, v85, v86, v87, (.tup []), (.tup []), (.tup []), (.tup [])], H⟩ = X46_0_0 d a0 v0 v2 x61 H := by
  unfold r46X0_0; refine Eq.trans (pl_len (by rfl)) ?_; (iterate 4 (refine Eq.trans (pl_same (by rfl)) ?_)); (iterate 2 (refine Eq.trans (pl_int (by rfl)) ?_)); refine Eq.trans (pl_same (by rfl)) ?_; refine Eq.trans (pl_int (by rfl)) ?_; refine Eq.trans (pl_bool (by rfl)) ?_; (iterate 23 (refine Eq.trans (pl_any (by rfl)) ?_)); (iterate 4 (refine Eq.trans (pl_same (by rfl)) ?_)); rfl
noncomputable def E46_0 (d : Nat) (a0 : List AV) (v0 : AV) (v2 : AV) (H : Heap) : Ans :=
  C0.hop H (.load true 2 (.v v0)) fun v128 h129 =>
    some (snap 12 H v128)
theorem E46_0_ok (d : Nat) (a0 : List AV) (v0 : AV) (v2 : AV) (x101 : Int) (x102 : Int) (v103 : AV) (v104 : AV) (v105 : AV) (v106 : AV) (v107 : AV) (v108 : AV) (v109 : AV) (v110 : AV) (v111 : AV) (v112 : AV) (v113 : AV) (v114 : AV) (v115 : AV) (v116 : AV) (v117 : AV) (v118 : AV) (v119 : AV) (v120 : AV) (v121 : AV) (v122 : AV) (v123 : AV) (v124 : AV) (v125 : AV) (v126 : AV) (v127 : AV) (H : Heap) : r46E0 C0 d a0 v0 v2 ⟨[(.lst a0), (.tup []), v0, v2, (.int .u64 x101), (.int .i64 x102), (.agg [(.int .i64 0), (.int .u64 0)]), v103, v104, v105, v106, v107, v108, v109, v110, v111, v112, v113, v114, v115, v116, v117, v118, v119, v120, v121, v122, v123, v124, v125, v126, v127, (.tup []), (.tup []), (.tup []), (.tup [])], H⟩ = E46_0 d a0 v0 v2 H := by
  unfold r46E0; refine Eq.trans (pl_len (by rfl)) ?_; (iterate 4 (refine Eq.trans (pl_same (by rfl)) ?_)); (iterate 2 (refine Eq.trans (pl_int (by rfl)) ?_)); refine Eq.trans (pl_same (by rfl)) ?_; (iterate 25 (refine Eq.trans (pl_any (by rfl)) ?_)); (iterate 4 (refine Eq.trans (pl_same (by rfl)) ?_)); rfl
noncomputable def L46_0 (d : Nat) (a0 : List AV) (v0 : AV) (v2 : AV) : Nat → Int → Int → Heap → Ans
  | 0, _, _, _ => none
  | n + 1, x9, x10, H =>
  cnd (decide (x10 < 64))
     (C0.hop H (.ixAS .any 1 (.v (.lst a0)) (.v (.int .i64 x10))) fun v36 h37 =>
      C0.hop h37 (.load false 1 (.v v36)) fun v38 h39 =>
      C0.int .i64 (some v38) fun x40 =>
      cnd (x40 == 1)
       (C0.hop h39 (.fldA 1 (.v v2)) fun v41 h42 =>
        C0.hop h42 (.load false 1 (.v v41)) fun v43 h44 =>
        C0.int .u64 (some v43) fun x45 =>
        cnd (decide (x10 < 0))
         (none)
         (C0.hop h44 (.fldA 1 (.v v2)) fun v46 h47 =>
          C0.hop h47 (.store 1 (.v v46) (.v (.int .u64 (bits .or .u64 x45 (IntKind.wrap .u64 (1 * (2 ^ (min (Int.toNat x10) 64)))))))) fun v48 h49 =>
          C0.hop h49 (.ixAS .any 1 (.v (.lst a0)) (.v (.int .i64 (IntKind.wrap .i64 (64 + x10))))) fun v50 h51 =>
          C0.hop h51 (.load false 1 (.v v50)) fun v52 h53 =>
          C0.int .i64 (some v52) fun x54 =>
          cnd (x54 == 1)
           (cnd (decide (x10 < 0))
             (none)
             (L46_0 d a0 v0 v2 n (bits .or .u64 x9 (IntKind.wrap .u64 (1 * (2 ^ (min (Int.toNat x10) 64))))) (IntKind.wrap .i64 (x10 + 1)) h53))
           (L46_0 d a0 v0 v2 n x9 (IntKind.wrap .i64 (x10 + 1)) h53)))
       (C0.hop h39 (.ixAS .any 1 (.v (.lst a0)) (.v (.int .i64 (IntKind.wrap .i64 (64 + x10))))) fun v55 h56 =>
        C0.hop h56 (.load false 1 (.v v55)) fun v57 h58 =>
        C0.int .i64 (some v57) fun x59 =>
        cnd (x59 == 1)
         (cnd (decide (x10 < 0))
           (none)
           (L46_0 d a0 v0 v2 n (bits .or .u64 x9 (IntKind.wrap .u64 (1 * (2 ^ (min (Int.toNat x10) 64))))) (IntKind.wrap .i64 (x10 + 1)) h58))
         (L46_0 d a0 v0 v2 n x9 (IntKind.wrap .i64 (x10 + 1)) h58)))
     (X46_0_0 d a0 v0 v2 x9 H)
theorem it46_0 (d : Nat) (a0 : List AV) (v0 : AV) (v2 : AV) : ∀ (n : Nat) (x9 : Int) (x10 : Int) (v11 : AV) (v12 : AV) (v13 : AV) (v14 : AV) (v15 : AV) (v16 : AV) (v17 : AV) (v18 : AV) (v19 : AV) (v20 : AV) (v21 : AV) (v22 : AV) (v23 : AV) (v24 : AV) (v25 : AV) (v26 : AV) (v27 : AV) (v28 : AV) (v29 : AV) (v30 : AV) (v31 : AV) (v32 : AV) (v33 : AV) (v34 : AV) (v35 : AV) (H : Heap), C0.iter (r46R0 C0 d a0 v0 v2) n ⟨[(.lst a0), (.tup []), v0, v2, (.int .u64 x9), (.int .i64 x10), (.agg [(.int .i64 0), (.int .u64 0)]), v11, v12, v13, v14, v15, v16, v17, v18, v19, v20, v21, v22, v23, v24, v25, v26, v27, v28, v29, v30, v31, v32, v33, v34, v35, (.tup []), (.tup []), (.tup []), (.tup [])], H⟩ [0] [r46X0_0 C0 d a0 v0 v2] (r46E0 C0 d a0 v0 v2) = L46_0 d a0 v0 v2 n x9 x10 H := by
  generalize hR : r46R0 C0 d a0 v0 v2 = R
  intro n
  induction n with
  | zero => intros; rfl
  | succ n ih =>
    intro x9 x10 v11 v12 v13 v14 v15 v16 v17 v18 v19 v20 v21 v22 v23 v24 v25 v26 v27 v28 v29 v30 v31 v32 v33 v34 v35 H
    simp only [it_ret] at ih
    rw [it_ret, xiter_s]
    refine Eq.trans (congrFun (congrFun hR.symm _) _) ?_
    unfold r46R0
    refine Eq.trans (pl_len (by rfl)) ?_; (iterate 4 (refine Eq.trans (pl_same (by rfl)) ?_)); (iterate 2 (refine Eq.trans (pl_int (by rfl)) ?_)); refine Eq.trans (pl_same (by rfl)) ?_; (iterate 25 (refine Eq.trans (pl_any (by rfl)) ?_)); (iterate 4 (refine Eq.trans (pl_same (by rfl)) ?_))
    simp only [L46_0, xgo_hit, xgo_miss, ih, X46_0_0_ok, E46_0_ok]
noncomputable def X45_1_0 (d : Nat) (v0 : AV) (v74 : AV) (H : Heap) : Ans :=
  some (snap 12 H v74)
theorem X45_1_0_ok (d : Nat) (a0 : Int) (a1 : Int) (v0 : AV) (x31 : Int) (x32 : Int) (b33 : Bool) (v34 : AV) (v35 : AV) (v36 : AV) (v37 : AV) (v38 : AV) (v39 : AV) (v40 : AV) (v41 : AV) (v42 : AV) (v43 : AV) (v44 : AV) (v74 : AV) (x75 : Int) (x76 : Int) (b77 : Bool) (v78 : AV) (v79 : AV) (v80 : AV) (v81 : AV) (v82 : AV) (v83 : AV) (v84 : AV) (v85 : AV) (v86 : AV) (v87 : AV) (v88 : AV) (v89 : AV) (H : Heap) : r45X1_0 C0 d a0 a1 v0 x31 x32 b33 v34 v35 v36 v37 v38 v39 v40 v41 v42 v43 v44 ⟨[(.agg [(.int .i64 a0), (.int .u64 a1)]), v0, (.zsl true), v74, (.int .i64 x31), (.int .i64 x75), (.int .i64 x32), (.bool b33), v34, v35, v36, v37, v38, v39, v40, v41, v42, v43, v44, (.int .i64 x76), (.bool b77), v78, v79, v80, v81, v82, v83, v84, v85, v86, v87, v88, v89, (.tup [])], H⟩ = X45_1_0 d v0 v74 H := by
  unfold r45X1_0; refine Eq.trans (pl_len (by rfl)) ?_; (iterate 3 (refine Eq.trans (pl_same (by rfl)) ?_)); refine Eq.trans (pl_any (by rfl)) ?_; refine Eq.trans (pl_same (by rfl)) ?_; refine Eq.trans (pl_int (by rfl)) ?_; (iterate 13 (refine Eq.trans (pl_same (by rfl)) ?_)); refine Eq.trans (pl_int (by rfl)) ?_; refine Eq.trans (pl_bool (by rfl)) ?_; (iterate 12 (refine Eq.trans (pl_any (by rfl)) ?_)); refine Eq.trans (pl_same (by rfl)) ?_; rfl
noncomputable def E45_1 (d : Nat) (v0 : AV)  : Ans :=
  some (.lst [])
theorem E45_1_ok (d : Nat) (a0 : Int) (a1 : Int) (v0 : AV) (x31 : Int) (x32 : Int) (b33 : Bool) (v34 : AV) (v35 : AV) (v36 : AV) (v37 : AV) (v38 : AV) (v39 : AV) (v40 : AV) (v41 : AV) (v42 : AV) (v43 : AV) (v44 : AV) (v90 : AV) (x91 : Int) (v92 : AV) (v93 : AV) (v94 : AV) (v95 : AV) (v96 : AV) (v97 : AV) (v98 : AV) (v99 : AV) (v100 : AV) (v101 : AV) (v102 : AV) (v103 : AV) (v104 : AV) (v105 : AV) (H : Heap) : r45E1 C0 d a0 a1 v0 x31 x32 b33 v34 v35 v36 v37 v38 v39 v40 v41 v42 v43 v44 ⟨[(.agg [(.int .i64 a0), (.int .u64 a1)]), v0, (.zsl true), v90, (.int .i64 x31), (.int .i64 x91), (.int .i64 x32), (.bool b33), v34, v35, v36, v37, v38, v39, v40, v41, v42, v43, v44, v92, v93, v94, v95, v96, v97, v98, v99, v100, v101, v102, v103, v104, v105, (.tup [])], H⟩ = E45_1 d v0  := by
  unfold r45E1; refine Eq.trans (pl_len (by rfl)) ?_; (iterate 3 (refine Eq.trans (pl_same (by rfl)) ?_)); refine Eq.trans (pl_any (by rfl)) ?_; refine Eq.trans (pl_same (by rfl)) ?_; refine Eq.trans (pl_int (by rfl)) ?_; (iterate 13 (refine Eq.trans (pl_same (by rfl)) ?_)); (iterate 14 (refine Eq.trans (pl_any (by rfl)) ?_)); refine Eq.trans (pl_same (by rfl)) ?_; rfl
noncomputable def L45_1 (d : Nat) (v0 : AV) : Nat → AV → Int → Heap → Ans
  | 0, _, _, _ => none
  | n + 1, v48, x49, H =>
  cnd (decide (x49 < 64))
     (C0.hop H (.fldA 0 (.v v0)) fun v64 h65 =>
      C0.hop h65 (.load false 1 (.v v64)) fun v66 h67 =>
      C0.int .i64 (some v66) fun x68 =>
      cnd (decide (x49 < 0))
       (none)
       (C0.hop h67 (.mkrow E3 1 [(0, (.v (.int .i64 (IntKind.wrap .i64 (bits .and .u64 (Int.fdiv (IntKind.wrap .u64 x68) (2 ^ (min (Int.toNat x49) 64))) 1)))))]) fun v69 h70 =>
        C0.hop h70 (.app E3 (.v v48) (.v v69)) fun v71 h72 =>
        L45_1 d v0 n v71 (IntKind.wrap .i64 (x49 + 1)) h72))
     (X45_1_0 d v0 v48 H)
theorem it45_1 (d : Nat) (a0 : Int) (a1 : Int) (v0 : AV) (x31 : Int) (x32 : Int) (b33 : Bool) (v34 : AV) (v35 : AV) (v36 : AV) (v37 : AV) (v38 : AV) (v39 : AV) (v40 : AV) (v41 : AV) (v42 : AV) (v43 : AV) (v44 : AV) : ∀ (n : Nat) (v48 : AV) (x49 : Int) (v50 : AV) (v51 : AV) (v52 : AV) (v53 : AV) (v54 : AV) (v55 : AV) (v56 : AV) (v57 : AV) (v58 : AV) (v59 : AV) (v60 : AV) (v61 : AV) (v62 : AV) (v63 : AV) (H : Heap), C0.iter (r45R1 C0 d a0 a1 v0 x31 x32 b33 v34 v35 v36 v37 v38 v39 v40 v41 v42 v43 v44) n ⟨[(.agg [(.int .i64 a0), (.int .u64 a1)]), v0, (.zsl true), v48, (.int .i64 x31), (.int .i64 x49), (.int .i64 x32), (.bool b33), v34, v35, v36, v37, v38, v39, v40, v41, v42, v43, v44, v50, v51, v52, v53, v54, v55, v56, v57, v58, v59, v60, v61, v62, v63, (.tup [])], H⟩ [2] [r45X1_0 C0 d a0 a1 v0 x31 x32 b33 v34 v35 v36 v37 v38 v39 v40 v41 v42 v43 v44] (r45E1 C0 d a0 a1 v0 x31 x32 b33 v34 v35 v36 v37 v38 v39 v40 v41 v42 v43 v44) = L45_1 d v0 n v48 x49 H := by
  generalize hR : r45R1 C0 d a0 a1 v0 x31 x32 b33 v34 v35 v36 v37 v38 v39 v40 v41 v42 v43 v44 = R
  intro n
  induction n with
  | zero => intros; rfl
  | succ n ih =>
    intro v48 x49 v50 v51 v52 v53 v54 v55 v56 v57 v58 v59 v60 v61 v62 v63 H
    simp only [it_ret] at ih
    rw [it_ret, xiter_s]
    refine Eq.trans (congrFun (congrFun hR.symm _) _) ?_
    unfold r45R1
    refine Eq.trans (pl_len (by rfl)) ?_; (iterate 3 (refine Eq.trans (pl_same (by rfl)) ?_)); refine Eq.trans (pl_any (by rfl)) ?_; refine Eq.trans (pl_same (by rfl)) ?_; refine Eq.trans (pl_int (by rfl)) ?_; (iterate 13 (refine Eq.trans (pl_same (by rfl)) ?_)); (iterate 14 (refine Eq.trans (pl_any (by rfl)) ?_)); refine Eq.trans (pl_same (by rfl)) ?_
    simp only [L45_1, xgo_hit, xgo_miss, ih, X45_1_0_ok, E45_1_ok]
noncomputable def X45_0_0 (d : Nat) (v0 : AV) (v30 : AV) (H : Heap) : Ans :=
  L45_1 d v0 1000000000000000000 v30 0 H
theorem X45_0_0_ok (d : Nat) (a0 : Int) (a1 : Int) (v0 : AV) (v30 : AV) (x31 : Int) (x32 : Int) (b33 : Bool) (v34 : AV) (v35 : AV) (v36 : AV) (v37 : AV) (v38 : AV) (v39 : AV) (v40 : AV) (v41 : AV) (v42 : AV) (v43 : AV) (v44 : AV) (H : Heap) : r45X0_0 C0 d a0 a1 v0 ⟨[(.agg [(.int .i64 a0), (.int .u64 a1)]), v0, (.zsl true), v30, (.int .i64 x31), (.tup []), (.int .i64 x32), (.bool b33), v34, v35, v36, v37, v38, v39, v40, v41, v42, v43, v44, (.tup []), (.tup []), (.tup []), (.tup []), (.tup []), (.tup []), (.tup []), (.tup []), (.tup []), (.tup []), (.tup []), (.tup []), (.tup []), (.tup []), (.tup [])], H⟩ = X45_0_0 d v0 v30 H := by
  unfold r45X0_0; refine Eq.trans (pl_len (by rfl)) ?_; (iterate 3 (refine Eq.trans (pl_same (by rfl)) ?_)); refine Eq.trans (pl_any (by rfl)) ?_; refine Eq.trans (pl_int (by rfl)) ?_; refine Eq.trans (pl_same (by rfl)) ?_; refine Eq.trans (pl_int (by rfl)) ?_; refine Eq.trans (pl_bool (by rfl)) ?_; (iterate 11 (refine Eq.trans (pl_any (by rfl)) ?_)); (iterate 15 (refine Eq.trans (pl_same (by rfl)) ?_)); simp only [it45_1]; rfl
noncomputable def E45_0 (d : Nat) (v0 : AV)  : Ans :=
  some (.lst [])
theorem E45_0_ok (d : Nat) (a0 : Int) (a1 : Int) (v0 : AV) (v106 : AV) (x107 : Int) (v108 : AV) (v109 : AV) (v110 : AV) (v111 : AV) (v112 : AV) (v113 : AV) (v114 : AV) (v115 : AV) (v116 : AV) (v117 : AV) (v118 : AV) (v119 : AV) (v120 : AV) (H : Heap) : r45E0 C0 d a0 a1 v0 ⟨[(.agg [(.int .i64 a0), (.int .u64 a1)]), v0, (.zsl true), v106, (.int .i64 x107), (.tup []), v108, v109, v110, v111, v112, v113, v114, v115, v116, v117, v118, v119, v120, (.tup []), (.tup []), (.tup []), (.tup []), (.tup []), (.tup []), (.tup []), (.tup []), (.tup []), (.tup []), (.tup []), (.tup []), (.tup []), (.tup []), (.tup [])], H⟩ = E45_0 d v0  := by
  unfold r45E0; refine Eq.trans (pl_len (by rfl)) ?_; (iterate 3 (refine Eq.trans (pl_same (by rfl)) ?_)); refine Eq.trans (pl_any (by rfl)) ?_; refine Eq.trans (pl_int (by rfl)) ?_; refine Eq.trans (pl_same (by rfl)) ?_; (iterate 13 (refine Eq.trans (pl_any (by rfl)) ?_)); (iterate 15 (refine Eq.trans (pl_same (by rfl)) ?_)); rfl
noncomputable def L45_0 (d : Nat) (v0 : AV) : Nat → AV → Int → Heap → Ans
  | 0, _, _, _ => none
  | n + 1, v5, x6, H =>
  cnd (decide (x6 < 64))
     (C0.hop H (.fldA 1 (.v v0)) fun v20 h21 =>
      C0.hop h21 (.load false 1 (.v v20)) fun v22 h23 =>
      C0.int .u64 (some v22) fun x24 =>
      cnd (decide (x6 < 0))
       (none)
       (C0.hop h23 (.mkrow E3 1 [(0, (.v (.int .i64 (IntKind.wrap .i64 (bits .and .u64 (Int.fdiv x24 (2 ^ (min (Int.toNat x6) 64))) 1)))))]) fun v25 h26 =>
        C0.hop h26 (.app E3 (.v v5) (.v v25)) fun v27 h28 =>
        L45_0 d v0 n v27 (IntKind.wrap .i64 (x6 + 1)) h28))
     (X45_0_0 d v0 v5 H)
theorem it45_0 (d : Nat) (a0 : Int) (a1 : Int) (v0 : AV) : ∀ (n : Nat) (v5 : AV) (x6 : Int) (v7 : AV) (v8 : AV) (v9 : AV) (v10 : AV) (v11 : AV) (v12 : AV) (v13 : AV) (v14 : AV) (v15 : AV) (v16 : AV) (v17 : AV) (v18 : AV) (v19 : AV) (H : Heap), C0.iter (r45R0 C0 d a0 a1 v0) n ⟨[(.agg [(.int .i64 a0), (.int .u64 a1)]), v0, (.zsl true), v5, (.int .i64 x6), (.tup []), v7, v8, v9, v10, v11, v12, v13, v14, v15, v16, v17, v18, v19, (.tup []), (.tup []), (.tup []), (.tup []), (.tup []), (.tup []), (.tup []), (.tup []), (.tup []), (.tup []), (.tup []), (.tup []), (.tup []), (.tup []), (.tup [])], H⟩ [0] [r45X0_0 C0 d a0 a1 v0] (r45E0 C0 d a0 a1 v0) = L45_0 d v0 n v5 x6 H := by
  generalize hR : r45R0 C0 d a0 a1 v0 = R
  intro n
  induction n with
  | zero => intros; rfl
  | succ n ih =>
    intro v5 x6 v7 v8 v9 v10 v11 v12 v13 v14 v15 v16 v17 v18 v19 H
    simp only [it_ret] at ih
    rw [it_ret, xiter_s]
    refine Eq.trans (congrFun (congrFun hR.symm _) _) ?_
    unfold r45R0
    refine Eq.trans (pl_len (by rfl)) ?_; (iterate 3 (refine Eq.trans (pl_same (by rfl)) ?_)); refine Eq.trans (pl_any (by rfl)) ?_; refine Eq.trans (pl_int (by rfl)) ?_; refine Eq.trans (pl_same (by rfl)) ?_; (iterate 13 (refine Eq.trans (pl_any (by rfl)) ?_)); (iterate 15 (refine Eq.trans (pl_same (by rfl)) ?_))
    simp only [L45_0, xgo_hit, xgo_miss, ih, X45_0_0_ok, E45_0_ok]
noncomputable def X42f31_0_0 (d : Nat) (a0 : List AV)  : Ans :=
  some (.int .i64 (-1))
theorem X42f31_0_0_ok (d : Nat) (a0 : List AV) (x21 : Int) (v22 : AV) (x23 : Int) (v24 : AV) (v25 : AV) (v26 : AV) (v27 : AV) (v28 : AV) (v29 : AV) (v30 : AV) (v31 : AV) (v32 : AV) (v33 : AV) : r42f31X0_0 C0 d a0 ⟨[(.lst a0), (.fn 31 [] []), (.tup []), (.tup []), (.int .i64 x21), v22, (.lst a0), (.int .i64 (((List.length a0) : Nat) : Int)), (.int .i64 x23), v24, v25, v26, v27, v28, v29, v30, v31, v32, v33], []⟩ = X42f31_0_0 d a0  := by
  unfold r42f31X0_0; refine Eq.trans (pl_len (by rfl)) ?_; (iterate 4 (refine Eq.trans (pl_same (by rfl)) ?_)); refine Eq.trans (pl_int (by rfl)) ?_; refine Eq.trans (pl_any (by rfl)) ?_; (iterate 2 (refine Eq.trans (pl_same (by rfl)) ?_)); refine Eq.trans (pl_int (by rfl)) ?_; (iterate 10 (refine Eq.trans (pl_any (by rfl)) ?_)); refine Eq.trans (pl_sameH) ?_; rfl
noncomputable def E42f31_0 (d : Nat) (a0 : List AV) (x34 : Int) : Ans :=
  some (.int .i64 x34)
theorem E42f31_0_ok (d : Nat) (a0 : List AV) (x34 : Int) (x35 : Int) (x36 : Int) (v37 : AV) (x38 : Int) (v39 : AV) (v40 : AV) (x41 : Int) (v42 : AV) (x44 : Int) (x45 : Int) (b46 : Bool) (x47 : Int) (v48 : AV) : r42f31E0 C0 d a0 ⟨[(.lst a0), (.fn 31 [] []), (.tup []), (.tup []), (.int .i64 x34), (.int .i64 x35), (.lst a0), (.int .i64 (((List.length a0) : Nat) : Int)), (.int .i64 x36), v37, (.int .i64 x38), v39, v40, (.int .i64 x41), v42, (.agg [(.int .i64 x44), (.int .i64 x45)]), (.bool b46), (.int .i64 x47), v48], []⟩ = E42f31_0 d a0 x34 := by
  unfold r42f31E0; refine Eq.trans (pl_len (by rfl)) ?_; (iterate 4 (refine Eq.trans (pl_same (by rfl)) ?_)); (iterate 2 (refine Eq.trans (pl_int (by rfl)) ?_)); (iterate 2 (refine Eq.trans (pl_same (by rfl)) ?_)); refine Eq.trans (pl_int (by rfl)) ?_; refine Eq.trans (pl_any (by rfl)) ?_; refine Eq.trans (pl_int (by rfl)) ?_; (iterate 2 (refine Eq.trans (pl_any (by rfl)) ?_)); refine Eq.trans (pl_int (by rfl)) ?_; refine Eq.trans (pl_any (by rfl)) ?_; refine Eq.trans (pl_agg (by rfl) (by rfl)) ?_; (iterate 2 (refine Eq.trans (pl_int (by rfl)) ?_)); refine Eq.trans (pl_bool (by rfl)) ?_; refine Eq.trans (pl_int (by rfl)) ?_; refine Eq.trans (pl_any (by rfl)) ?_; refine Eq.trans (pl_sameH) ?_; rfl
noncomputable def L42f31_0 (d : Nat) (a0 : List AV) : Nat → Int → Ans
  | 0, _ => none
  | n + 1, x5 =>
  cnd (decide (x5 < (((List.length a0) : Nat) : Int)))
     (cnd (decide (0 ≤ x5))
       (C0.agg 2 a0[(Int.toNat x5)]? fun l16 =>
        C0.int .i64 l16[0]? fun x17 =>
        C0.int .i64 l16[1]? fun x18 =>
        C0.bool (pcall M d 31 [(.agg [(.int .i64 x17), (.int .i64 x18)])]) fun b19 =>
        cnd b19
         (E42f31_0 d a0 x5)
         (L42f31_0 d a0 n (IntKind.wrap .i64 (x5 + 1))))
       (none))
     (X42f31_0_0 d a0)
theorem it42f31_0 (d : Nat) (a0 : List AV) : ∀ (n : Nat) (x3 : Int) (v4 : AV) (x5 : Int) (v6 : AV) (v7 : AV) (v8 : AV) (v9 : AV) (v10 : AV) (v11 : AV) (v12 : AV) (v13 : AV) (v14 : AV) (v15 : AV), C0.iter (r42f31R0 C0 d a0) n ⟨[(.lst a0), (.fn 31 [] []), (.tup []), (.tup []), (.int .i64 x3), v4, (.lst a0), (.int .i64 (((List.length a0) : Nat) : Int)), (.int .i64 x5), v6, v7, v8, v9, v10, v11, v12, v13, v14, v15], []⟩ [0] [r42f31X0_0 C0 d a0] (r42f31E0 C0 d a0) = L42f31_0 d a0 n x5 := by
  generalize hR : r42f31R0 C0 d a0 = R
  intro n
  induction n with
  | zero => intros; rfl
  | succ n ih =>
    intro x3 v4 x5 v6 v7 v8 v9 v10 v11 v12 v13 v14 v15
    simp only [it_ret] at ih
    rw [it_ret, xiter_s]
    refine Eq.trans (congrFun (congrFun hR.symm _) _) ?_
    unfold r42f31R0
    refine Eq.trans (pl_len (by rfl)) ?_; (iterate 4 (refine Eq.trans (pl_same (by rfl)) ?_)); refine Eq.trans (pl_int (by rfl)) ?_; refine Eq.trans (pl_any (by rfl)) ?_; (iterate 2 (refine Eq.trans (pl_same (by rfl)) ?_)); refine Eq.trans (pl_int (by rfl)) ?_; (iterate 10 (refine Eq.trans (pl_any (by rfl)) ?_)); refine Eq.trans (pl_sameH) ?_
    simp only [L42f31_0, xgo_hit, xgo_miss, ih, X42f31_0_0_ok, E42f31_0_ok]
noncomputable def X37_0_0 (d : Nat) (v4 : AV) (v11 : AV) (v17 : AV) (v62 : AV) (H : Heap) : Ans :=
  C0.snp H [v62] fun l88 b89 =>
    C0.agg 2 (pcall M d 46 l88) fun l90 =>
    C0.int .i64 l90[0]? fun x91 =>
    C0.int .u64 l90[1]? fun x92 =>
    cnd (b89 || true)
     (C0.hop H (.store 2 (.v v4) (.v (.agg [(.int .i64 x91), (.int .u64 x92)]))) fun v93 h94 =>
      C0.hop h94 (.load true 2 (.v v4)) fun v95 h96 =>
      some (snap 12 h94 v95))
     (none)
theorem X37_0_0_ok (d : Nat) (a0 : Int) (a1 : Int) (a2 : Int) (a3 : Int) (v0 : AV) (v2 : AV) (v4 : AV) (x9 : Int) (x10 : Int) (v11 : AV) (x15 : Int) (x16 : Int) (v17 : AV) (v62 : AV) (x63 : Int) (x64 : Int) (v65 : AV) (x66 : Int) (b67 : Bool) (v68 : AV) (v69 : AV) (v70 : AV) (v71 : AV) (v72 : AV) (v73 : AV) (v74 : AV) (v75 : AV) (v76 : AV) (v77 : AV) (v78 : AV) (v79 : AV) (v80 : AV) (v81 : AV) (v82 : AV) (v83 : AV) (v84 : AV) (v85 : AV) (v86 : AV) (v87 : AV) (H : Heap) : r37X0_0 C0 d a0 a1 a2 a3 v0 v2 v4 x9 x10 v11 x15 x16 v17 ⟨[(.agg [(.int .i64 a0), (.int .u64 a1)]), (.agg [(.int .i64 a2), (.int .u64 a3)]), v0, v2, v4, v11, v17, v62, (.int .i64 x63), (.int .i64 x64), v65, (.agg [(.int .i64 x9), (.int .u64 x10)]), v11, (.agg [(.int .i64 x15), (.int .u64 x16)]), v17, (.int .i64 x66), (.bool b67), v68, v69, v70, v71, v72, v73, v74, v75, v76, v77, v78, v79, v80, v81, v82, v83, v84, v85, v86, v87, (.tup []), (.tup [])], H⟩ = X37_0_0 d v4 v11 v17 v62 H := by
  unfold r37X0_0; refine Eq.trans (pl_len (by rfl)) ?_; (iterate 7 (refine Eq.trans (pl_same (by rfl)) ?_)); refine Eq.trans (pl_any (by rfl)) ?_; (iterate 2 (refine Eq.trans (pl_int (by rfl)) ?_)); refine Eq.trans (pl_any (by rfl)) ?_; (iterate 4 (refine Eq.trans (pl_same (by rfl)) ?_)); refine Eq.trans (pl_int (by rfl)) ?_; refine Eq.trans (pl_bool (by rfl)) ?_; (iterate 20 (refine Eq.trans (pl_any (by rfl)) ?_)); (iterate 2 (refine Eq.trans (pl_same (by rfl)) ?_)); rfl
noncomputable def E37_0 (d : Nat) (v4 : AV) (v11 : AV) (v17 : AV) (H : Heap) : Ans :=
  C0.hop H (.load true 2 (.v v4)) fun v123 h124 =>
    some (snap 12 H v123)
theorem E37_0_ok (d : Nat) (a0 : Int) (a1 : Int) (a2 : Int) (a3 : Int) (v0 : AV) (v2 : AV) (v4 : AV) (x9 : Int) (x10 : Int) (v11 : AV) (x15 : Int) (x16 : Int) (v17 : AV) (v97 : AV) (x98 : Int) (x99 : Int) (v100 : AV) (v101 : AV) (v102 : AV) (v103 : AV) (v104 : AV) (v105 : AV) (v106 : AV) (v107 : AV) (v108 : AV) (v109 : AV) (v110 : AV) (v111 : AV) (v112 : AV) (v113 : AV) (v114 : AV) (v115 : AV) (v116 : AV) (v117 : AV) (v118 : AV) (v119 : AV) (v120 : AV) (v121 : AV) (v122 : AV) (H : Heap) : r37E0 C0 d a0 a1 a2 a3 v0 v2 v4 x9 x10 v11 x15 x16 v17 ⟨[(.agg [(.int .i64 a0), (.int .u64 a1)]), (.agg [(.int .i64 a2), (.int .u64 a3)]), v0, v2, v4, v11, v17, v97, (.int .i64 x98), (.int .i64 x99), v100, (.agg [(.int .i64 x9), (.int .u64 x10)]), v11, (.agg [(.int .i64 x15), (.int .u64 x16)]), v17, v101, v102, v103, v104, v105, v106, v107, v108, v109, v110, v111, v112, v113, v114, v115, v116, v117, v118, v119, v120, v121, v122, (.tup []), (.tup [])], H⟩ = E37_0 d v4 v11 v17 H := by
  unfold r37E0; refine Eq.trans (pl_len (by rfl)) ?_; (iterate 7 (refine Eq.trans (pl_same (by rfl)) ?_)); refine Eq.trans (pl_any (by rfl)) ?_; (iterate 2 (refine Eq.trans (pl_int (by rfl)) ?_)); refine Eq.trans (pl_any (by rfl)) ?_; (iterate 4 (refine Eq.trans (pl_same (by rfl)) ?_)); (iterate 22 (refine Eq.trans (pl_any (by rfl)) ?_)); (iterate 2 (refine Eq.trans (pl_same (by rfl)) ?_)); rfl
noncomputable def L37_0 (d : Nat) (v4 : AV) (v11 : AV) (v17 : AV) : Nat → AV → Int → Int → Heap → Ans
  | 0, _, _, _, _ => none
  | n + 1, v21, x22, x23, H =>
  cnd (decide (x23 < 128))
     (C0.hop H (.ixAS .any 1 (.v v11) (.v (.int .i64 x23))) fun v47 h48 =>
      C0.hop h48 (.load false 1 (.v v47)) fun v49 h50 =>
      C0.int .i64 (some v49) fun x51 =>
      C0.hop h50 (.ixAS .any 1 (.v v17) (.v (.int .i64 x23))) fun v52 h53 =>
      C0.hop h53 (.load false 1 (.v v52)) fun v54 h55 =>
      C0.int .i64 (some v54) fun x56 =>
      C0.hop h55 (.mkrow E3 1 [(0, (.v (.int .i64 (Int.tmod (IntKind.wrap .i64 ((IntKind.wrap .i64 (x51 + x56)) + x22)) 2))))]) fun v57 h58 =>
      C0.hop h58 (.app E3 (.v v21) (.v v57)) fun v59 h60 =>
      L37_0 d v4 v11 v17 n v59 (IntKind.wrap .i64 (Int.tdiv (IntKind.wrap .i64 ((IntKind.wrap .i64 (x51 + x56)) + x22)) 2)) (IntKind.wrap .i64 (x23 + 1)) h60)
     (X37_0_0 d v4 v11 v17 v21 H)
theorem it37_0 (d : Nat) (a0 : Int) (a1 : Int) (a2 : Int) (a3 : Int) (v0 : AV) (v2 : AV) (v4 : AV) (x9 : Int) (x10 : Int) (v11 : AV) (x15 : Int) (x16 : Int) (v17 : AV) : ∀ (n : Nat) (v21 : AV) (x22 : Int) (x23 : Int) (v24 : AV) (v25 : AV) (v26 : AV) (v27 : AV) (v28 : AV) (v29 : AV) (v30 : AV) (v31 : AV) (v32 : AV) (v33 : AV) (v34 : AV) (v35 : AV) (v36 : AV) (v37 : AV) (v38 : AV) (v39 : AV) (v40 : AV) (v41 : AV) (v42 : AV) (v43 : AV) (v44 : AV) (v45 : AV) (v46 : AV) (H : Heap), C0.iter (r37R0 C0 d a0 a1 a2 a3 v0 v2 v4 x9 x10 v11 x15 x16 v17) n ⟨[(.agg [(.int .i64 a0), (.int .u64 a1)]), (.agg [(.int .i64 a2), (.int .u64 a3)]), v0, v2, v4, v11, v17, v21, (.int .i64 x22), (.int .i64 x23), v24, (.agg [(.int .i64 x9), (.int .u64 x10)]), v11, (.agg [(.int .i64 x15), (.int .u64 x16)]), v17, v25, v26, v27, v28, v29, v30, v31, v32, v33, v34, v35, v36, v37, v38, v39, v40, v41, v42, v43, v44, v45, v46, (.tup []), (.tup [])], H⟩ [0] [r37X0_0 C0 d a0 a1 a2 a3 v0 v2 v4 x9 x10 v11 x15 x16 v17] (r37E0 C0 d a0 a1 a2 a3 v0 v2 v4 x9 x10 v11 x15 x16 v17) = L37_0 d v4 v11 v17 n v21 x22 x23 H := by
  generalize hR : r37R0 C0 d a0 a1 a2 a3 v0 v2 v4 x9 x10 v11 x15 x16 v17 = R
  intro n
  induction n with
  | zero => intros; rfl
  | succ n ih =>
    intro v21 x22 x23 v24 v25 v26 v27 v28 v29 v30 v31 v32 v33 v34 v35 v36 v37 v38 v39 v40 v41 v42 v43 v44 v45 v46 H
    simp only [it_ret] at ih
    rw [it_ret, xiter_s]
    refine Eq.trans (congrFun (congrFun hR.symm _) _) ?_
    unfold r37R0
    refine Eq.trans (pl_len (by rfl)) ?_; (iterate 7 (refine Eq.trans (pl_same (by rfl)) ?_)); refine Eq.trans (pl_any (by rfl)) ?_; (iterate 2 (refine Eq.trans (pl_int (by rfl)) ?_)); refine Eq.trans (pl_any (by rfl)) ?_; (iterate 4 (refine Eq.trans (pl_same (by rfl)) ?_)); (iterate 22 (refine Eq.trans (pl_any (by rfl)) ?_)); (iterate 2 (refine Eq.trans (pl_same (by rfl)) ?_))
    simp only [L37_0, xgo_hit, xgo_miss, ih, X37_0_0_ok, E37_0_ok]
noncomputable def X33_0_0 (d : Nat) (a0 : List AV)  : Ans :=
  some (.int .i64 0)
theorem X33_0_0_ok (d : Nat) (a0 : List AV) (x16 : Int) (v17 : AV) (x18 : Int) (v19 : AV) (v20 : AV) (v21 : AV) (v22 : AV) (v23 : AV) (v24 : AV) (v25 : AV) (v26 : AV) : r33X0_0 C0 d a0 ⟨[(.lst a0), (.tup []), (.int .i64 x16), (.int .i64 0), (.tup []), v17, (.lst a0), (.int .i64 (((List.length a0) : Nat) : Int)), (.int .i64 x18), v19, v20, v21, v22, v23, v24, v25, v26, (.tup [])], []⟩ = X33_0_0 d a0  := by
  unfold r33X0_0; refine Eq.trans (pl_len (by rfl)) ?_; (iterate 2 (refine Eq.trans (pl_same (by rfl)) ?_)); refine Eq.trans (pl_int (by rfl)) ?_; (iterate 2 (refine Eq.trans (pl_same (by rfl)) ?_)); refine Eq.trans (pl_any (by rfl)) ?_; (iterate 2 (refine Eq.trans (pl_same (by rfl)) ?_)); refine Eq.trans (pl_int (by rfl)) ?_; (iterate 8 (refine Eq.trans (pl_any (by rfl)) ?_)); refine Eq.trans (pl_same (by rfl)) ?_; refine Eq.trans (pl_sameH) ?_; rfl
noncomputable def E33_0 (d : Nat) (a0 : List AV) (x27 : Int) : Ans :=
  some (.int .i64 x27)
theorem E33_0_ok (d : Nat) (a0 : List AV) (x27 : Int) (x28 : Int) (x29 : Int) (v30 : AV) (v31 : AV) (x32 : Int) (x33 : Int) (x34 : Int) (b35 : Bool) (x36 : Int) (v37 : AV) : r33E0 C0 d a0 ⟨[(.lst a0), (.tup []), (.int .i64 x27), (.int .i64 0), (.tup []), (.int .i64 x28), (.lst a0), (.int .i64 (((List.length a0) : Nat) : Int)), (.int .i64 x29), v30, v31, (.int .i64 x32), (.int .i64 x33), (.int .i64 x34), (.bool b35), (.int .i64 x36), v37, (.tup [])], []⟩ = E33_0 d a0 x27 := by
  unfold r33E0; refine Eq.trans (pl_len (by rfl)) ?_; (iterate 2 (refine Eq.trans (pl_same (by rfl)) ?_)); refine Eq.trans (pl_int (by rfl)) ?_; (iterate 2 (refine Eq.trans (pl_same (by rfl)) ?_)); refine Eq.trans (pl_int (by rfl)) ?_; (iterate 2 (refine Eq.trans (pl_same (by rfl)) ?_)); refine Eq.trans (pl_int (by rfl)) ?_; (iterate 2 (refine Eq.trans (pl_any (by rfl)) ?_)); (iterate 3 (refine Eq.trans (pl_int (by rfl)) ?_)); refine Eq.trans (pl_bool (by rfl)) ?_; refine Eq.trans (pl_int (by rfl)) ?_; refine Eq.trans (pl_any (by rfl)) ?_; refine Eq.trans (pl_same (by rfl)) ?_; refine Eq.trans (pl_sameH) ?_; rfl
noncomputable def L33_0 (d : Nat) (a0 : List AV) : Nat → Int → Ans
  | 0, _ => none
  | n + 1, x5 =>
  cnd (decide (x5 < (((List.length a0) : Nat) : Int)))
     (cnd (decide (0 ≤ x5))
       (C0.int .i64 a0[(Int.toNat x5)]? fun x14 =>
        cnd (x14 != 0)
         (E33_0 d a0 x14)
         (L33_0 d a0 n (IntKind.wrap .i64 (x5 + 1))))
       (none))
     (X33_0_0 d a0)
theorem it33_0 (d : Nat) (a0 : List AV) : ∀ (n : Nat) (x3 : Int) (v4 : AV) (x5 : Int) (v6 : AV) (v7 : AV) (v8 : AV) (v9 : AV) (v10 : AV) (v11 : AV) (v12 : AV) (v13 : AV), C0.iter (r33R0 C0 d a0) n ⟨[(.lst a0), (.tup []), (.int .i64 x3), (.int .i64 0), (.tup []), v4, (.lst a0), (.int .i64 (((List.length a0) : Nat) : Int)), (.int .i64 x5), v6, v7, v8, v9, v10, v11, v12, v13, (.tup [])], []⟩ [0] [r33X0_0 C0 d a0] (r33E0 C0 d a0) = L33_0 d a0 n x5 := by
  generalize hR : r33R0 C0 d a0 = R
  intro n
  induction n with
  | zero => intros; rfl
  | succ n ih =>
    intro x3 v4 x5 v6 v7 v8 v9 v10 v11 v12 v13
    simp only [it_ret] at ih
    rw [it_ret, xiter_s]
    refine Eq.trans (congrFun (congrFun hR.symm _) _) ?_
    unfold r33R0
    refine Eq.trans (pl_len (by rfl)) ?_; (iterate 2 (refine Eq.trans (pl_same (by rfl)) ?_)); refine Eq.trans (pl_int (by rfl)) ?_; (iterate 2 (refine Eq.trans (pl_same (by rfl)) ?_)); refine Eq.trans (pl_any (by rfl)) ?_; (iterate 2 (refine Eq.trans (pl_same (by rfl)) ?_)); refine Eq.trans (pl_int (by rfl)) ?_; (iterate 8 (refine Eq.trans (pl_any (by rfl)) ?_)); refine Eq.trans (pl_same (by rfl)) ?_; refine Eq.trans (pl_sameH) ?_
    simp only [L33_0, xgo_hit, xgo_miss, ih, X33_0_0_ok, E33_0_ok]
noncomputable def X29_0_0 (d : Nat) (a0 : List AV) (a1 : List AV)  : Ans :=
  some (.bool true)
theorem X29_0_0_ok (d : Nat) (a0 : List AV) (a1 : List AV) (b25 : Bool) (v26 : AV) (x27 : Int) (v28 : AV) (v29 : AV) (v30 : AV) (v31 : AV) (v32 : AV) (v33 : AV) (v34 : AV) (v35 : AV) (v36 : AV) (v37 : AV) (v38 : AV) (v39 : AV) : r29X0_0 C0 d a0 a1 ⟨[(.lst a0), (.lst a1), (.tup []), (.tup []), (.bool b25), v26, (.lst a0), (.int .i64 (((List.length a0) : Nat) : Int)), (.lst a1), (.int .i64 (((List.length a1) : Nat) : Int)), (.bool false), (.lst a0), (.int .i64 (((List.length a0) : Nat) : Int)), (.int .i64 x27), v28, v29, v30, v31, v32, v33, v34, v35, v36, v37, v38, v39], []⟩ = X29_0_0 d a0 a1  := by
  unfold r29X0_0; refine Eq.trans (pl_len (by rfl)) ?_; (iterate 4 (refine Eq.trans (pl_same (by rfl)) ?_)); refine Eq.trans (pl_bool (by rfl)) ?_; refine Eq.trans (pl_any (by rfl)) ?_; (iterate 7 (refine Eq.trans (pl_same (by rfl)) ?_)); refine Eq.trans (pl_int (by rfl)) ?_; (iterate 12 (refine Eq.trans (pl_any (by rfl)) ?_)); refine Eq.trans (pl_sameH) ?_; rfl
noncomputable def E29_0 (d : Nat) (a0 : List AV) (a1 : List AV) (b40 : Bool) : Ans :=
  some (.bool b40)
theorem E29_0_ok (d : Nat) (a0 : List AV) (a1 : List AV) (b40 : Bool) (x41 : Int) (x42 : Int) (v43 : AV) (x44 : Int) (v45 : AV) (x46 : Int) (v47 : AV) (x49 : Int) (x50 : Int) (v51 : AV) (x52 : Int) (v53 : AV) (x55 : Int) (x56 : Int) (b57 : Bool) (v58 : AV) : r29E0 C0 d a0 a1 ⟨[(.lst a0), (.lst a1), (.tup []), (.tup []), (.bool b40), (.int .i64 x41), (.lst a0), (.int .i64 (((List.length a0) : Nat) : Int)), (.lst a1), (.int .i64 (((List.length a1) : Nat) : Int)), (.bool false), (.lst a0), (.int .i64 (((List.length a0) : Nat) : Int)), (.int .i64 x42), v43, (.int .i64 x44), v45, (.int .i64 x46), v47, (.agg [(.int .i64 x49), (.int .i64 x50)]), v51, (.int .i64 x52), v53, (.agg [(.int .i64 x55), (.int .i64 x56)]), (.bool b57), v58], []⟩ = E29_0 d a0 a1 b40 := by
  unfold r29E0; refine Eq.trans (pl_len (by rfl)) ?_; (iterate 4 (refine Eq.trans (pl_same (by rfl)) ?_)); refine Eq.trans (pl_bool (by rfl)) ?_; refine Eq.trans (pl_int (by rfl)) ?_; (iterate 7 (refine Eq.trans (pl_same (by rfl)) ?_)); refine Eq.trans (pl_int (by rfl)) ?_; refine Eq.trans (pl_any (by rfl)) ?_; refine Eq.trans (pl_int (by rfl)) ?_; refine Eq.trans (pl_any (by rfl)) ?_; refine Eq.trans (pl_int (by rfl)) ?_; refine Eq.trans (pl_any (by rfl)) ?_; refine Eq.trans (pl_agg (by rfl) (by rfl)) ?_; (iterate 2 (refine Eq.trans (pl_int (by rfl)) ?_)); refine Eq.trans (pl_any (by rfl)) ?_; refine Eq.trans (pl_int (by rfl)) ?_; refine Eq.trans (pl_any (by rfl)) ?_; refine Eq.trans (pl_agg (by rfl) (by rfl)) ?_; (iterate 2 (refine Eq.trans (pl_int (by rfl)) ?_)); refine Eq.trans (pl_bool (by rfl)) ?_; refine Eq.trans (pl_any (by rfl)) ?_; refine Eq.trans (pl_sameH) ?_; rfl
noncomputable def L29_0 (d : Nat) (a0 : List AV) (a1 : List AV) : Nat → Int → Ans
  | 0, _ => none
  | n + 1, x5 =>
  cnd (decide (x5 < (((List.length a0) : Nat) : Int)))
     (cnd (decide (0 ≤ x5))
       (C0.agg 2 a0[(Int.toNat x5)]? fun l18 =>
        C0.int .i64 l18[0]? fun x19 =>
        C0.int .i64 l18[1]? fun x20 =>
        cnd (decide (0 ≤ x5))
         (C0.agg 2 a1[(Int.toNat x5)]? fun l21 =>
          C0.int .i64 l21[0]? fun x22 =>
          C0.int .i64 l21[1]? fun x23 =>
          cnd (xor true ((x19 == x22) && ((x20 == x23) && true)))
           (E29_0 d a0 a1 false)
           (L29_0 d a0 a1 n (IntKind.wrap .i64 (x5 + 1))))
         (none))
       (none))
     (X29_0_0 d a0 a1)
theorem it29_0 (d : Nat) (a0 : List AV) (a1 : List AV) : ∀ (n : Nat) (b3 : Bool) (v4 : AV) (x5 : Int) (v6 : AV) (v7 : AV) (v8 : AV) (v9 : AV) (v10 : AV) (v11 : AV) (v12 : AV) (v13 : AV) (v14 : AV) (v15 : AV) (v16 : AV) (v17 : AV), C0.iter (r29R0 C0 d a0 a1) n ⟨[(.lst a0), (.lst a1), (.tup []), (.tup []), (.bool b3), v4, (.lst a0), (.int .i64 (((List.length a0) : Nat) : Int)), (.lst a1), (.int .i64 (((List.length a1) : Nat) : Int)), (.bool false), (.lst a0), (.int .i64 (((List.length a0) : Nat) : Int)), (.int .i64 x5), v6, v7, v8, v9, v10, v11, v12, v13, v14, v15, v16, v17], []⟩ [0] [r29X0_0 C0 d a0 a1] (r29E0 C0 d a0 a1) = L29_0 d a0 a1 n x5 := by
  generalize hR : r29R0 C0 d a0 a1 = R
  intro n
  induction n with
  | zero => intros; rfl
  | succ n ih =>
    intro b3 v4 x5 v6 v7 v8 v9 v10 v11 v12 v13 v14 v15 v16 v17
    simp only [it_ret] at ih
    rw [it_ret, xiter_s]
    refine Eq.trans (congrFun (congrFun hR.symm _) _) ?_
    unfold r29R0
    refine Eq.trans (pl_len (by rfl)) ?_; (iterate 4 (refine Eq.trans (pl_same (by rfl)) ?_)); refine Eq.trans (pl_bool (by rfl)) ?_; refine Eq.trans (pl_any (by rfl)) ?_; (iterate 7 (refine Eq.trans (pl_same (by rfl)) ?_)); refine Eq.trans (pl_int (by rfl)) ?_; (iterate 12 (refine Eq.trans (pl_any (by rfl)) ?_)); refine Eq.trans (pl_sameH) ?_
    simp only [L29_0, xgo_hit, xgo_miss, ih, X29_0_0_ok, E29_0_ok]
noncomputable def X26_0_0 (d : Nat) (a1 : Int) (v0 : AV) (v5 : AV) (v9 : AV) (H : Heap) : Ans :=
  cnd (decide (a1 < 0))
     (C0.hop H (.load true 2 (.v v9)) fun v94 h95 =>
      C0.agg 2 (some v94) fun l96 =>
      C0.int .i64 l96[0]? fun x97 =>
      C0.int .u64 l96[1]? fun x98 =>
      C0.hop h95 (.load true 2 (.v v5)) fun v99 h100 =>
      C0.agg 2 (some v99) fun l101 =>
      C0.int .i64 l101[0]? fun x102 =>
      C0.int .u64 l101[1]? fun x103 =>
      C0.agg 2 (pcall M d 38 [(.agg [(.int .i64 x102), (.int .u64 x103)])]) fun l104 =>
      C0.int .i64 l104[0]? fun x105 =>
      C0.int .u64 l104[1]? fun x106 =>
      C0.agg 2 (pcall M d 37 [(.agg [(.int .i64 x97), (.int .u64 x98)]), (.agg [(.int .i64 x105), (.int .u64 x106)])]) fun l107 =>
      C0.int .i64 l107[0]? fun x108 =>
      C0.int .u64 l107[1]? fun x109 =>
      C0.hop h100 (.store 2 (.v v9) (.v (.agg [(.int .i64 x108), (.int .u64 x109)]))) fun v110 h111 =>
      C0.hop h111 (.load true 2 (.v v9)) fun v112 h113 =>
      C0.agg 2 (some v112) fun l114 =>
      C0.int .i64 l114[0]? fun x115 =>
      C0.int .u64 l114[1]? fun x116 =>
      C0.hop h113 (.store 2 (.v v0) (.v (.agg [(.int .i64 x115), (.int .u64 x116)]))) fun v117 h118 =>
      C0.hop h118 (.load true 2 (.v v0)) fun v119 h120 =>
      some (snap 12 h118 v119))
     (C0.hop H (.load true 2 (.v v9)) fun v121 h122 =>
      C0.agg 2 (some v121) fun l123 =>
      C0.int .i64 l123[0]? fun x124 =>
      C0.int .u64 l123[1]? fun x125 =>
      C0.hop h122 (.store 2 (.v v0) (.v (.agg [(.int .i64 x124), (.int .u64 x125)]))) fun v126 h127 =>
      C0.hop h127 (.load true 2 (.v v0)) fun v128 h129 =>
      some (snap 12 h127 v128))
theorem X26_0_0_ok (d : Nat) (a0 : Int) (a1 : Int) (v0 : AV) (x3 : Int) (x4 : Int) (v5 : AV) (v9 : AV) (x78 : Int) (x79 : Int) (b80 : Bool) (v81 : AV) (v82 : AV) (v83 : AV) (v84 : AV) (v85 : AV) (v86 : AV) (v87 : AV) (v88 : AV) (v89 : AV) (v90 : AV) (v91 : AV) (v92 : AV) (v93 : AV) (H : Heap) : r26X0_0 C0 d a0 a1 v0 x3 x4 v5 v9 ⟨[(.int .i64 a0), (.int .i64 a1), (.tup []), (.tup []), v0, v5, v9, (.int .u64 (IntKind.wrap .u64 a1)), (.int .i64 x78), (.int .i64 a0), (.agg [(.int .i64 x3), (.int .u64 x4)]), (.agg [(.int .i64 0), (.int .u64 0)]), (.int .i64 a1), (.int .u64 (IntKind.wrap .u64 a1)), (.int .i64 x79), (.bool b80), v81, v82, v83, v84, v85, v86, v87, v88, v89, v90, v91, v92, v93, (.tup []), (.tup []), (.tup []), (.tup []), (.tup []), (.tup []), (.tup [])], H⟩ = X26_0_0 d a1 v0 v5 v9 H := by
  unfold r26X0_0; refine Eq.trans (pl_len (by rfl)) ?_; (iterate 8 (refine Eq.trans (pl_same (by rfl)) ?_)); refine Eq.trans (pl_int (by rfl)) ?_; (iterate 5 (refine Eq.trans (pl_same (by rfl)) ?_)); refine Eq.trans (pl_int (by rfl)) ?_; refine Eq.trans (pl_bool (by rfl)) ?_; (iterate 13 (refine Eq.trans (pl_any (by rfl)) ?_)); (iterate 7 (refine Eq.trans (pl_same (by rfl)) ?_)); rfl
noncomputable def E26_0 (d : Nat) (a1 : Int) (v0 : AV) (v5 : AV) (v9 : AV) (H : Heap) : Ans :=
  C0.hop H (.load true 2 (.v v0)) fun v146 h147 =>
    some (snap 12 H v146)
theorem E26_0_ok (d : Nat) (a0 : Int) (a1 : Int) (v0 : AV) (x3 : Int) (x4 : Int) (v5 : AV) (v9 : AV) (x130 : Int) (v131 : AV) (v132 : AV) (v133 : AV) (v134 : AV) (v135 : AV) (v136 : AV) (v137 : AV) (v138 : AV) (v139 : AV) (v140 : AV) (v141 : AV) (v142 : AV) (v143 : AV) (v144 : AV) (v145 : AV) (H : Heap) : r26E0 C0 d a0 a1 v0 x3 x4 v5 v9 ⟨[(.int .i64 a0), (.int .i64 a1), (.tup []), (.tup []), v0, v5, v9, (.int .u64 (IntKind.wrap .u64 a1)), (.int .i64 x130), (.int .i64 a0), (.agg [(.int .i64 x3), (.int .u64 x4)]), (.agg [(.int .i64 0), (.int .u64 0)]), (.int .i64 a1), (.int .u64 (IntKind.wrap .u64 a1)), v131, v132, v133, v134, v135, v136, v137, v138, v139, v140, v141, v142, v143, v144, v145, (.tup []), (.tup []), (.tup []), (.tup []), (.tup []), (.tup []), (.tup [])], H⟩ = E26_0 d a1 v0 v5 v9 H := by
  unfold r26E0; refine Eq.trans (pl_len (by rfl)) ?_; (iterate 8 (refine Eq.trans (pl_same (by rfl)) ?_)); refine Eq.trans (pl_int (by rfl)) ?_; (iterate 5 (refine Eq.trans (pl_same (by rfl)) ?_)); (iterate 15 (refine Eq.trans (pl_any (by rfl)) ?_)); (iterate 7 (refine Eq.trans (pl_same (by rfl)) ?_)); rfl
noncomputable def L26_0 (d : Nat) (a1 : Int) (v0 : AV) (v5 : AV) (v9 : AV) : Nat → Int → Heap → Ans
  | 0, _, _ => none
  | n + 1, x16, H =>
  cnd (decide (x16 < 64))
     (cnd (decide (x16 < 0))
       (none)
       (cnd ((bits .and .u64 (Int.fdiv (IntKind.wrap .u64 a1) (2 ^ (min (Int.toNat x16) 64))) 1) == 1)
         (C0.hop H (.load true 2 (.v v9)) fun v32 h33 =>
          C0.agg 2 (some v32) fun l34 =>
          C0.int .i64 l34[0]? fun x35 =>
          C0.int .u64 l34[1]? fun x36 =>
          C0.hop h33 (.load true 2 (.v v5)) fun v37 h38 =>
          C0.agg 2 (some v37) fun l39 =>
          C0.int .i64 l39[0]? fun x40 =>
          C0.int .u64 l39[1]? fun x41 =>
          C0.agg 2 (pcall M d 37 [(.agg [(.int .i64 x35), (.int .u64 x36)]), (.agg [(.int .i64 x40), (.int .u64 x41)])]) fun l42 =>
          C0.int .i64 l42[0]? fun x43 =>
          C0.int .u64 l42[1]? fun x44 =>
          C0.hop h38 (.store 2 (.v v9) (.v (.agg [(.int .i64 x43), (.int .u64 x44)]))) fun v45 h46 =>
          C0.hop h46 (.load true 2 (.v v5)) fun v47 h48 =>
          C0.agg 2 (some v47) fun l49 =>
          C0.int .i64 l49[0]? fun x50 =>
          C0.int .u64 l49[1]? fun x51 =>
          C0.hop h48 (.load true 2 (.v v5)) fun v52 h53 =>
          C0.agg 2 (some v52) fun l54 =>
          C0.int .i64 l54[0]? fun x55 =>
          C0.int .u64 l54[1]? fun x56 =>
          C0.agg 2 (pcall M d 37 [(.agg [(.int .i64 x50), (.int .u64 x51)]), (.agg [(.int .i64 x55), (.int .u64 x56)])]) fun l57 =>
          C0.int .i64 l57[0]? fun x58 =>
          C0.int .u64 l57[1]? fun x59 =>
          C0.hop h53 (.store 2 (.v v5) (.v (.agg [(.int .i64 x58), (.int .u64 x59)]))) fun v60 h61 =>
          L26_0 d a1 v0 v5 v9 n (IntKind.wrap .i64 (x16 + 1)) h61)
         (C0.hop H (.load true 2 (.v v5)) fun v62 h63 =>
          C0.agg 2 (some v62) fun l64 =>
          C0.int .i64 l64[0]? fun x65 =>
          C0.int .u64 l64[1]? fun x66 =>
          C0.hop h63 (.load true 2 (.v v5)) fun v67 h68 =>
          C0.agg 2 (some v67) fun l69 =>
          C0.int .i64 l69[0]? fun x70 =>
          C0.int .u64 l69[1]? fun x71 =>
          C0.agg 2 (pcall M d 37 [(.agg [(.int .i64 x65), (.int .u64 x66)]), (.agg [(.int .i64 x70), (.int .u64 x71)])]) fun l72 =>
          C0.int .i64 l72[0]? fun x73 =>
          C0.int .u64 l72[1]? fun x74 =>
          C0.hop h68 (.store 2 (.v v5) (.v (.agg [(.int .i64 x73), (.int .u64 x74)]))) fun v75 h76 =>
          L26_0 d a1 v0 v5 v9 n (IntKind.wrap .i64 (x16 + 1)) h76)))
     (X26_0_0 d a1 v0 v5 v9 H)
theorem it26_0 (d : Nat) (a0 : Int) (a1 : Int) (v0 : AV) (x3 : Int) (x4 : Int) (v5 : AV) (v9 : AV) : ∀ (n : Nat) (x16 : Int) (v17 : AV) (v18 : AV) (v19 : AV) (v20 : AV) (v21 : AV) (v22 : AV) (v23 : AV) (v24 : AV) (v25 : AV) (v26 : AV) (v27 : AV) (v28 : AV) (v29 : AV) (v30 : AV) (v31 : AV) (H : Heap), C0.iter (r26R0 C0 d a0 a1 v0 x3 x4 v5 v9) n ⟨[(.int .i64 a0), (.int .i64 a1), (.tup []), (.tup []), v0, v5, v9, (.int .u64 (IntKind.wrap .u64 a1)), (.int .i64 x16), (.int .i64 a0), (.agg [(.int .i64 x3), (.int .u64 x4)]), (.agg [(.int .i64 0), (.int .u64 0)]), (.int .i64 a1), (.int .u64 (IntKind.wrap .u64 a1)), v17, v18, v19, v20, v21, v22, v23, v24, v25, v26, v27, v28, v29, v30, v31, (.tup []), (.tup []), (.tup []), (.tup []), (.tup []), (.tup []), (.tup [])], H⟩ [0] [r26X0_0 C0 d a0 a1 v0 x3 x4 v5 v9] (r26E0 C0 d a0 a1 v0 x3 x4 v5 v9) = L26_0 d a1 v0 v5 v9 n x16 H := by
  generalize hR : r26R0 C0 d a0 a1 v0 x3 x4 v5 v9 = R
  intro n
  induction n with
  | zero => intros; rfl
  | succ n ih =>
    intro x16 v17 v18 v19 v20 v21 v22 v23 v24 v25 v26 v27 v28 v29 v30 v31 H
    simp only [it_ret] at ih
    rw [it_ret, xiter_s]
    refine Eq.trans (congrFun (congrFun hR.symm _) _) ?_
    unfold r26R0
    refine Eq.trans (pl_len (by rfl)) ?_; (iterate 8 (refine Eq.trans (pl_same (by rfl)) ?_)); refine Eq.trans (pl_int (by rfl)) ?_; (iterate 5 (refine Eq.trans (pl_same (by rfl)) ?_)); (iterate 15 (refine Eq.trans (pl_any (by rfl)) ?_)); (iterate 7 (refine Eq.trans (pl_same (by rfl)) ?_))
    simp only [L26_0, xgo_hit, xgo_miss, ih, X26_0_0_ok, E26_0_ok]
noncomputable def X8_0_0 (d : Nat) (x0 : Int) (x1 : Int) (x2 : Int) (x3 : Int) (x4 : Int) (x5 : Int) (b55 : Bool) : Ans :=
  cnd ((if ((IntKind.wrap .i64 (x1 - x3)) > (if ((IntKind.wrap .i64 (x3 - x1)) > (if ((IntKind.wrap .i64 (x0 - x2)) > (IntKind.wrap .i64 (x2 - x0))) then (IntKind.wrap .i64 (x0 - x2)) else (IntKind.wrap .i64 (x2 - x0)))) then (IntKind.wrap .i64 (x3 - x1)) else (if ((IntKind.wrap .i64 (x0 - x2)) > (IntKind.wrap .i64 (x2 - x0))) then (IntKind.wrap .i64 (x0 - x2)) else (IntKind.wrap .i64 (x2 - x0))))) then (IntKind.wrap .i64 (x1 - x3)) else (if ((IntKind.wrap .i64 (x3 - x1)) > (if ((IntKind.wrap .i64 (x0 - x2)) > (IntKind.wrap .i64 (x2 - x0))) then (IntKind.wrap .i64 (x0 - x2)) else (IntKind.wrap .i64 (x2 - x0)))) then (IntKind.wrap .i64 (x3 - x1)) else (if ((IntKind.wrap .i64 (x0 - x2)) > (IntKind.wrap .i64 (x2 - x0))) then (IntKind.wrap .i64 (x0 - x2)) else (IntKind.wrap .i64 (x2 - x0))))) == 0)
     (C0.bool (pcall M d 9 []) fun b100 =>
      cnd b100
       (cnd ((if ((IntKind.wrap .i64 (x1 - x3)) > (if ((IntKind.wrap .i64 (x3 - x1)) > (if ((IntKind.wrap .i64 (x0 - x2)) > (IntKind.wrap .i64 (x2 - x0))) then (IntKind.wrap .i64 (x0 - x2)) else (IntKind.wrap .i64 (x2 - x0)))) then (IntKind.wrap .i64 (x3 - x1)) else (if ((IntKind.wrap .i64 (x0 - x2)) > (IntKind.wrap .i64 (x2 - x0))) then (IntKind.wrap .i64 (x0 - x2)) else (IntKind.wrap .i64 (x2 - x0))))) then (IntKind.wrap .i64 (x1 - x3)) else (if ((IntKind.wrap .i64 (x3 - x1)) > (if ((IntKind.wrap .i64 (x0 - x2)) > (IntKind.wrap .i64 (x2 - x0))) then (IntKind.wrap .i64 (x0 - x2)) else (IntKind.wrap .i64 (x2 - x0)))) then (IntKind.wrap .i64 (x3 - x1)) else (if ((IntKind.wrap .i64 (x0 - x2)) > (IntKind.wrap .i64 (x2 - x0))) then (IntKind.wrap .i64 (x0 - x2)) else (IntKind.wrap .i64 (x2 - x0))))) != 0)
         (some (.bool true))
         (C0.bool (pcall M d 14 [(.agg [(.int .i64 x4), (.int .i64 x5)]), (.agg [(.int .i64 x0), (.int .i64 x1)]), (.agg [(.int .i64 x2), (.int .i64 x3)])]) fun b101 =>
          some (.bool (xor false (b101 == (xor false ((x4 == x0) && ((x5 == x1) && true))))))))
       (some (.bool false)))
     (cnd (decide ((if ((IntKind.wrap .i64 (x1 - x3)) > (if ((IntKind.wrap .i64 (x3 - x1)) > (if ((IntKind.wrap .i64 (x0 - x2)) > (IntKind.wrap .i64 (x2 - x0))) then (IntKind.wrap .i64 (x0 - x2)) else (IntKind.wrap .i64 (x2 - x0)))) then (IntKind.wrap .i64 (x3 - x1)) else (if ((IntKind.wrap .i64 (x0 - x2)) > (IntKind.wrap .i64 (x2 - x0))) then (IntKind.wrap .i64 (x0 - x2)) else (IntKind.wrap .i64 (x2 - x0))))) then (IntKind.wrap .i64 (x1 - x3)) else (if ((IntKind.wrap .i64 (x3 - x1)) > (if ((IntKind.wrap .i64 (x0 - x2)) > (IntKind.wrap .i64 (x2 - x0))) then (IntKind.wrap .i64 (x0 - x2)) else (IntKind.wrap .i64 (x2 - x0)))) then (IntKind.wrap .i64 (x3 - x1)) else (if ((IntKind.wrap .i64 (x0 - x2)) > (IntKind.wrap .i64 (x2 - x0))) then (IntKind.wrap .i64 (x0 - x2)) else (IntKind.wrap .i64 (x2 - x0))))) = 0))
       (none)
       (cnd ((Int.tmod 240 (if ((IntKind.wrap .i64 (x1 - x3)) > (if ((IntKind.wrap .i64 (x3 - x1)) > (if ((IntKind.wrap .i64 (x0 - x2)) > (IntKind.wrap .i64 (x2 - x0))) then (IntKind.wrap .i64 (x0 - x2)) else (IntKind.wrap .i64 (x2 - x0)))) then (IntKind.wrap .i64 (x3 - x1)) else (if ((IntKind.wrap .i64 (x0 - x2)) > (IntKind.wrap .i64 (x2 - x0))) then (IntKind.wrap .i64 (x0 - x2)) else (IntKind.wrap .i64 (x2 - x0))))) then (IntKind.wrap .i64 (x1 - x3)) else (if ((IntKind.wrap .i64 (x3 - x1)) > (if ((IntKind.wrap .i64 (x0 - x2)) > (IntKind.wrap .i64 (x2 - x0))) then (IntKind.wrap .i64 (x0 - x2)) else (IntKind.wrap .i64 (x2 - x0)))) then (IntKind.wrap .i64 (x3 - x1)) else (if ((IntKind.wrap .i64 (x0 - x2)) > (IntKind.wrap .i64 (x2 - x0))) then (IntKind.wrap .i64 (x0 - x2)) else (IntKind.wrap .i64 (x2 - x0)))))) != 0)
         (C0.bool (pcall M d 9 []) fun b102 =>
          cnd b102
           (cnd ((if ((IntKind.wrap .i64 (x1 - x3)) > (if ((IntKind.wrap .i64 (x3 - x1)) > (if ((IntKind.wrap .i64 (x0 - x2)) > (IntKind.wrap .i64 (x2 - x0))) then (IntKind.wrap .i64 (x0 - x2)) else (IntKind.wrap .i64 (x2 - x0)))) then (IntKind.wrap .i64 (x3 - x1)) else (if ((IntKind.wrap .i64 (x0 - x2)) > (IntKind.wrap .i64 (x2 - x0))) then (IntKind.wrap .i64 (x0 - x2)) else (IntKind.wrap .i64 (x2 - x0))))) then (IntKind.wrap .i64 (x1 - x3)) else (if ((IntKind.wrap .i64 (x3 - x1)) > (if ((IntKind.wrap .i64 (x0 - x2)) > (IntKind.wrap .i64 (x2 - x0))) then (IntKind.wrap .i64 (x0 - x2)) else (IntKind.wrap .i64 (x2 - x0)))) then (IntKind.wrap .i64 (x3 - x1)) else (if ((IntKind.wrap .i64 (x0 - x2)) > (IntKind.wrap .i64 (x2 - x0))) then (IntKind.wrap .i64 (x0 - x2)) else (IntKind.wrap .i64 (x2 - x0))))) != 0)
             (some (.bool true))
             (C0.bool (pcall M d 14 [(.agg [(.int .i64 x4), (.int .i64 x5)]), (.agg [(.int .i64 x0), (.int .i64 x1)]), (.agg [(.int .i64 x2), (.int .i64 x3)])]) fun b103 =>
              some (.bool (xor false (b103 == (xor false ((x4 == x0) && ((x5 == x1) && true))))))))
           (some (.bool false)))
         (C0.bool (pcall M d 9 []) fun b104 =>
          cnd b104
           (C0.bool (pcall M d 14 [(.agg [(.int .i64 x4), (.int .i64 x5)]), (.agg [(.int .i64 x0), (.int .i64 x1)]), (.agg [(.int .i64 x2), (.int .i64 x3)])]) fun b105 =>
            some (.bool (xor false (b105 == b55))))
           (some (.bool false)))))
theorem X8_0_0_ok (d : Nat) (a0 : Int) (a1 : Int) (a2 : Int) (a3 : Int) (a4 : Int) (a5 : Int) (x0 : Int) (x1 : Int) (x2 : Int) (x3 : Int) (x4 : Int) (x5 : Int) (b55 : Bool) (x56 : Int) (v57 : AV) (v58 : AV) (x59 : Int) (b60 : Bool) (v61 : AV) (v62 : AV) (v63 : AV) (v64 : AV) (v65 : AV) (v66 : AV) (v67 : AV) (v68 : AV) (v69 : AV) (v70 : AV) (v71 : AV) (v72 : AV) (v73 : AV) (v74 : AV) (v75 : AV) (v76 : AV) (v77 : AV) (v78 : AV) (v79 : AV) (v80 : AV) (v81 : AV) (v82 : AV) (v83 : AV) (v84 : AV) (v85 : AV) (v86 : AV) (v87 : AV) (v88 : AV) (v89 : AV) (v90 : AV) (v91 : AV) (v92 : AV) (v93 : AV) (v94 : AV) (v95 : AV) (v96 : AV) (v97 : AV) (v98 : AV) (v99 : AV) : r8X0_0 C0 d a0 a1 a2 a3 a4 a5 x0 x1 x2 x3 x4 x5 ⟨[(.agg [(.int .i64 a0), (.int .i64 a1)]), (.agg [(.int .i64 a2), (.int .i64 a3)]), (.agg [(.int .i64 a4), (.int .i64 a5)]), (.ptr 0 0 0), (.ptr 1 0 0), (.ptr 2 0 0), (.bool false), (.fn 19 [] []), (.bool b55), (.int .i64 x56), v57, v58, (.tup []), (.fn 19 [] []), (.ptr 0 0 0), (.int .i64 a0), (.int .i64 x0), (.fn 19 [] []), (.ptr 0 0 1), (.int .i64 a1), (.int .i64 x1), (.agg [(.int .i64 x0), (.int .i64 x1)]), (.fn 19 [] []), (.ptr 1 0 0), (.int .i64 a2), (.int .i64 x2), (.fn 19 [] []), (.ptr 1 0 1), (.int .i64 a3), (.int .i64 x3), (.agg [(.int .i64 x2), (.int .i64 x3)]), (.fn 19 [] []), (.ptr 2 0 0), (.int .i64 a4), (.int .i64 x4), (.fn 19 [] []), (.ptr 2 0 1), (.int .i64 a5), (.int .i64 x5), (.agg [(.int .i64 x4), (.int .i64 x5)]), (.int .i64 x59), (.bool b60), v61, v62, v63, v64, v65, v66, v67, v68, v69, v70, v71, v72, v73, v74, v75, v76, v77, v78, v79, v80, v81, v82, v83, v84, v85, v86, v87, v88, v89, v90, v91, v92, v93, v94, v95, v96, v97, v98, v99, (.tup []), (.tup []), (.tup []), (.tup []), (.tup []), (.tup []), (.tup []), (.tup []), (.tup []), (.tup []), (.tup []), (.tup []), (.tup []), (.tup []), (.tup []), (.tup []), (.tup []), (.tup []), (.tup []), (.tup []), (.tup []), (.tup []), (.tup []), (.tup []), (.tup []), (.tup []), (.tup []), (.tup []), (.tup []), (.tup []), (.tup []), (.tup []), (.tup []), (.tup []), (.tup []), (.tup []), (.tup []), (.tup []), (.tup []), (.tup []), (.tup []), (.tup []), (.tup []), (.tup []), (.tup []), (.tup []), (.tup []), (.tup []), (.tup []), (.tup []), (.tup []), (.tup [])], [some ⟨E23, [(.agg [(.int .i64 x0), (.int .i64 x1)])]⟩, some ⟨E23, [(.agg [(.int .i64 x2), (.int .i64 x3)])]⟩, some ⟨E23, [(.agg [(.int .i64 x4), (.int .i64 x5)])]⟩]⟩ = X8_0_0 d x0 x1 x2 x3 x4 x5 b55 := by
  unfold r8X0_0; refine Eq.trans (pl_len (by rfl)) ?_; (iterate 8 (refine Eq.trans (pl_same (by rfl)) ?_)); refine Eq.trans (pl_bool (by rfl)) ?_; refine Eq.trans (pl_int (by rfl)) ?_; (iterate 2 (refine Eq.trans (pl_any (by rfl)) ?_)); (iterate 28 (refine Eq.trans (pl_same (by rfl)) ?_)); refine Eq.trans (pl_int (by rfl)) ?_; refine Eq.trans (pl_bool (by rfl)) ?_; (iterate 39 (refine Eq.trans (pl_any (by rfl)) ?_)); (iterate 52 (refine Eq.trans (pl_same (by rfl)) ?_)); refine Eq.trans (pl_sameH) ?_; rfl
noncomputable def E8_0 (d : Nat) (x0 : Int) (x1 : Int) (x2 : Int) (x3 : Int) (x4 : Int) (x5 : Int)  : Ans :=
  some (.bool false)
theorem E8_0_ok (d : Nat) (a0 : Int) (a1 : Int) (a2 : Int) (a3 : Int) (a4 : Int) (a5 : Int) (x0 : Int) (x1 : Int) (x2 : Int) (x3 : Int) (x4 : Int) (x5 : Int) (b106 : Bool) (x107 : Int) (v108 : AV) (v109 : AV) (v110 : AV) (v111 : AV) (v112 : AV) (v113 : AV) (v114 : AV) (v115 : AV) (v116 : AV) (v117 : AV) (v118 : AV) (v119 : AV) (v120 : AV) (v121 : AV) (v122 : AV) (v123 : AV) (v124 : AV) (v125 : AV) (v126 : AV) (v127 : AV) (v128 : AV) (v129 : AV) (v130 : AV) (v131 : AV) (v132 : AV) (v133 : AV) (v134 : AV) (v135 : AV) (v136 : AV) (v137 : AV) (v138 : AV) (v139 : AV) (v140 : AV) (v141 : AV) (v142 : AV) (v143 : AV) (v144 : AV) (v145 : AV) (v146 : AV) (v147 : AV) (v148 : AV) (v149 : AV) (v150 : AV) : r8E0 C0 d a0 a1 a2 a3 a4 a5 x0 x1 x2 x3 x4 x5 ⟨[(.agg [(.int .i64 a0), (.int .i64 a1)]), (.agg [(.int .i64 a2), (.int .i64 a3)]), (.agg [(.int .i64 a4), (.int .i64 a5)]), (.ptr 0 0 0), (.ptr 1 0 0), (.ptr 2 0 0), (.bool false), (.fn 19 [] []), (.bool b106), (.int .i64 x107), v108, v109, (.tup []), (.fn 19 [] []), (.ptr 0 0 0), (.int .i64 a0), (.int .i64 x0), (.fn 19 [] []), (.ptr 0 0 1), (.int .i64 a1), (.int .i64 x1), (.agg [(.int .i64 x0), (.int .i64 x1)]), (.fn 19 [] []), (.ptr 1 0 0), (.int .i64 a2), (.int .i64 x2), (.fn 19 [] []), (.ptr 1 0 1), (.int .i64 a3), (.int .i64 x3), (.agg [(.int .i64 x2), (.int .i64 x3)]), (.fn 19 [] []), (.ptr 2 0 0), (.int .i64 a4), (.int .i64 x4), (.fn 19 [] []), (.ptr 2 0 1), (.int .i64 a5), (.int .i64 x5), (.agg [(.int .i64 x4), (.int .i64 x5)]), v110, v111, v112, v113, v114, v115, v116, v117, v118, v119, v120, v121, v122, v123, v124, v125, v126, v127, v128, v129, v130, v131, v132, v133, v134, v135, v136, v137, v138, v139, v140, v141, v142, v143, v144, v145, v146, v147, v148, v149, v150, (.tup []), (.tup []), (.tup []), (.tup []), (.tup []), (.tup []), (.tup []), (.tup []), (.tup []), (.tup []), (.tup []), (.tup []), (.tup []), (.tup []), (.tup []), (.tup []), (.tup []), (.tup []), (.tup []), (.tup []), (.tup []), (.tup []), (.tup []), (.tup []), (.tup []), (.tup []), (.tup []), (.tup []), (.tup []), (.tup []), (.tup []), (.tup []), (.tup []), (.tup []), (.tup []), (.tup []), (.tup []), (.tup []), (.tup []), (.tup []), (.tup []), (.tup []), (.tup []), (.tup []), (.tup []), (.tup []), (.tup []), (.tup []), (.tup []), (.tup []), (.tup []), (.tup [])], [some ⟨E23, [(.agg [(.int .i64 x0), (.int .i64 x1)])]⟩, some ⟨E23, [(.agg [(.int .i64 x2), (.int .i64 x3)])]⟩, some ⟨E23, [(.agg [(.int .i64 x4), (.int .i64 x5)])]⟩]⟩ = E8_0 d x0 x1 x2 x3 x4 x5  := by
  unfold r8E0; refine Eq.trans (pl_len (by rfl)) ?_; (iterate 8 (refine Eq.trans (pl_same (by rfl)) ?_)); refine Eq.trans (pl_bool (by rfl)) ?_; refine Eq.trans (pl_int (by rfl)) ?_; (iterate 2 (refine Eq.trans (pl_any (by rfl)) ?_)); (iterate 28 (refine Eq.trans (pl_same (by rfl)) ?_)); (iterate 41 (refine Eq.trans (pl_any (by rfl)) ?_)); (iterate 52 (refine Eq.trans (pl_same (by rfl)) ?_)); refine Eq.trans (pl_sameH) ?_; rfl
noncomputable def L8_0 (d : Nat) (x0 : Int) (x1 : Int) (x2 : Int) (x3 : Int) (x4 : Int) (x5 : Int) : Nat → Bool → Int → Ans
  | 0, _, _ => none
  | n + 1, b9, x10 =>
  cnd (decide (x10 ≤ 240))
     (cnd b9
       (L8_0 d x0 x1 x2 x3 x4 x5 n true (IntKind.wrap .i64 (x10 + 1)))
       (cnd ((IntKind.wrap .i64 ((IntKind.wrap .i64 (240 * x0)) + (IntKind.wrap .i64 (x10 * (IntKind.wrap .i64 (x2 - x0)))))) == (IntKind.wrap .i64 (240 * x4)))
         (L8_0 d x0 x1 x2 x3 x4 x5 n ((IntKind.wrap .i64 ((IntKind.wrap .i64 (240 * x1)) + (IntKind.wrap .i64 (x10 * (IntKind.wrap .i64 (x3 - x1)))))) == (IntKind.wrap .i64 (240 * x5))) (IntKind.wrap .i64 (x10 + 1)))
         (L8_0 d x0 x1 x2 x3 x4 x5 n false (IntKind.wrap .i64 (x10 + 1)))))
     (X8_0_0 d x0 x1 x2 x3 x4 x5 b9)
theorem it8_0 (d : Nat) (a0 : Int) (a1 : Int) (a2 : Int) (a3 : Int) (a4 : Int) (a5 : Int) (x0 : Int) (x1 : Int) (x2 : Int) (x3 : Int) (x4 : Int) (x5 : Int) : ∀ (n : Nat) (b9 : Bool) (x10 : Int) (v11 : AV) (v12 : AV) (v13 : AV) (v14 : AV) (v15 : AV) (v16 : AV) (v17 : AV) (v18 : AV) (v19 : AV) (v20 : AV) (v21 : AV) (v22 : AV) (v23 : AV) (v24 : AV) (v25 : AV) (v26 : AV) (v27 : AV) (v28 : AV) (v29 : AV) (v30 : AV) (v31 : AV) (v32 : AV) (v33 : AV) (v34 : AV) (v35 : AV) (v36 : AV) (v37 : AV) (v38 : AV) (v39 : AV) (v40 : AV) (v41 : AV) (v42 : AV) (v43 : AV) (v44 : AV) (v45 : AV) (v46 : AV) (v47 : AV) (v48 : AV) (v49 : AV) (v50 : AV) (v51 : AV) (v52 : AV) (v53 : AV), C0.iter (r8R0 C0 d a0 a1 a2 a3 a4 a5 x0 x1 x2 x3 x4 x5) n ⟨[(.agg [(.int .i64 a0), (.int .i64 a1)]), (.agg [(.int .i64 a2), (.int .i64 a3)]), (.agg [(.int .i64 a4), (.int .i64 a5)]), (.ptr 0 0 0), (.ptr 1 0 0), (.ptr 2 0 0), (.bool false), (.fn 19 [] []), (.bool b9), (.int .i64 x10), v11, v12, (.tup []), (.fn 19 [] []), (.ptr 0 0 0), (.int .i64 a0), (.int .i64 x0), (.fn 19 [] []), (.ptr 0 0 1), (.int .i64 a1), (.int .i64 x1), (.agg [(.int .i64 x0), (.int .i64 x1)]), (.fn 19 [] []), (.ptr 1 0 0), (.int .i64 a2), (.int .i64 x2), (.fn 19 [] []), (.ptr 1 0 1), (.int .i64 a3), (.int .i64 x3), (.agg [(.int .i64 x2), (.int .i64 x3)]), (.fn 19 [] []), (.ptr 2 0 0), (.int .i64 a4), (.int .i64 x4), (.fn 19 [] []), (.ptr 2 0 1), (.int .i64 a5), (.int .i64 x5), (.agg [(.int .i64 x4), (.int .i64 x5)]), v13, v14, v15, v16, v17, v18, v19, v20, v21, v22, v23, v24, v25, v26, v27, v28, v29, v30, v31, v32, v33, v34, v35, v36, v37, v38, v39, v40, v41, v42, v43, v44, v45, v46, v47, v48, v49, v50, v51, v52, v53, (.tup []), (.tup []), (.tup []), (.tup []), (.tup []), (.tup []), (.tup []), (.tup []), (.tup []), (.tup []), (.tup []), (.tup []), (.tup []), (.tup []), (.tup []), (.tup []), (.tup []), (.tup []), (.tup []), (.tup []), (.tup []), (.tup []), (.tup []), (.tup []), (.tup []), (.tup []), (.tup []), (.tup []), (.tup []), (.tup []), (.tup []), (.tup []), (.tup []), (.tup []), (.tup []), (.tup []), (.tup []), (.tup []), (.tup []), (.tup []), (.tup []), (.tup []), (.tup []), (.tup []), (.tup []), (.tup []), (.tup []), (.tup []), (.tup []), (.tup []), (.tup []), (.tup [])], [some ⟨E23, [(.agg [(.int .i64 x0), (.int .i64 x1)])]⟩, some ⟨E23, [(.agg [(.int .i64 x2), (.int .i64 x3)])]⟩, some ⟨E23, [(.agg [(.int .i64 x4), (.int .i64 x5)])]⟩]⟩ [0] [r8X0_0 C0 d a0 a1 a2 a3 a4 a5 x0 x1 x2 x3 x4 x5] (r8E0 C0 d a0 a1 a2 a3 a4 a5 x0 x1 x2 x3 x4 x5) = L8_0 d x0 x1 x2 x3 x4 x5 n b9 x10 := by
  generalize hR : r8R0 C0 d a0 a1 a2 a3 a4 a5 x0 x1 x2 x3 x4 x5 = R
  intro n
  induction n with
  | zero => intros; rfl
  | succ n ih =>
    intro b9 x10 v11 v12 v13 v14 v15 v16 v17 v18 v19 v20 v21 v22 v23 v24 v25 v26 v27 v28 v29 v30 v31 v32 v33 v34 v35 v36 v37 v38 v39 v40 v41 v42 v43 v44 v45 v46 v47 v48 v49 v50 v51 v52 v53
    simp only [it_ret] at ih
    rw [it_ret, xiter_s]
    refine Eq.trans (congrFun (congrFun hR.symm _) _) ?_
    unfold r8R0
    refine Eq.trans (pl_len (by rfl)) ?_; (iterate 8 (refine Eq.trans (pl_same (by rfl)) ?_)); refine Eq.trans (pl_bool (by rfl)) ?_; refine Eq.trans (pl_int (by rfl)) ?_; (iterate 2 (refine Eq.trans (pl_any (by rfl)) ?_)); (iterate 28 (refine Eq.trans (pl_same (by rfl)) ?_)); (iterate 41 (refine Eq.trans (pl_any (by rfl)) ?_)); (iterate 52 (refine Eq.trans (pl_same (by rfl)) ?_)); refine Eq.trans (pl_sameH) ?_
    simp only [L8_0, xgo_hit, xgo_miss, ih, X8_0_0_ok, E8_0_ok]
/-- apogee/apogeelaw10.PointGrid -/
theorem q8 (d : Nat) (a0 : Int) (a1 : Int) (a2 : Int) (a3 : Int) (a4 : Int) (a5 : Int) : xcall C0 M unr d 8 [(.agg [(.int .i64 a0), (.int .i64 a1)]), (.agg [(.int .i64 a2), (.int .i64 a3)]), (.agg [(.int .i64 a4), (.int .i64 a5)])] =
  C0.int .i64 (pcall M d 19 [(.int .i64 a0)]) fun x0 =>
  C0.int .i64 (pcall M d 19 [(.int .i64 a1)]) fun x1 =>
  C0.int .i64 (pcall M d 19 [(.int .i64 a2)]) fun x2 =>
  C0.int .i64 (pcall M d 19 [(.int .i64 a3)]) fun x3 =>
  C0.int .i64 (pcall M d 19 [(.int .i64 a4)]) fun x4 =>
  C0.int .i64 (pcall M d 19 [(.int .i64 a5)]) fun x5 =>
  L8_0 d x0 x1 x2 x3 x4 x5 1000000000000000000 false 0 := (r8 C0 d a0 a1 a2 a3 a4 a5).trans (by simp only [it8_0])
/-- apogee/apogeeref01.Mul -/
theorem q26 (d : Nat) (a0 : Int) (a1 : Int) : xcall C0 M unr d 26 [(.int .i64 a0), (.int .i64 a1)] =
  C0.hop [] (.alloc E43) fun v0 h1 =>
  C0.agg 2 (pcall M d 36 [(.int .i64 a0)]) fun l2 =>
  C0.int .i64 l2[0]? fun x3 =>
  C0.int .u64 l2[1]? fun x4 =>
  C0.hop h1 (.alloc E43) fun v5 h6 =>
  C0.hop h6 (.store 2 (.v v5) (.v (.agg [(.int .i64 x3), (.int .u64 x4)]))) fun v7 h8 =>
  C0.hop h8 (.alloc E43) fun v9 h10 =>
  C0.hop h10 (.store 2 (.v v9) (.v (.agg [(.int .i64 0), (.int .u64 0)]))) fun v11 h12 =>
  L26_0 d a1 v0 v5 v9 1000000000000000000 0 h12 := (r26 C0 d a0 a1).trans (by simp only [it26_0])
/-- slices.Equal[[]apogee/api.Point,apogee/api.Point] -/
theorem q29 (d : Nat) (a0 : List AV) (a1 : List AV) : xcall C0 M unr d 29 [(.lst a0), (.lst a1)] =
  cnd ((((List.length a0) : Nat) : Int) != (((List.length a1) : Nat) : Int))
   (some (.bool false))
   (L29_0 d a0 a1 1000000000000000000 0) := (r29 C0 d a0 a1).trans (by simp only [it29_0])
/-- cmp.Or[int] -/
theorem q33 (d : Nat) (a0 : List AV) : xcall C0 M unr d 33 [(.lst a0)] =
  L33_0 d a0 1000000000000000000 0 := (r33 C0 d a0).trans (by simp only [it33_0])
/-- apogee/apogeeref01.plus -/
theorem q37 (d : Nat) (a0 : Int) (a1 : Int) (a2 : Int) (a3 : Int) : xcall C0 M unr d 37 [(.agg [(.int .i64 a0), (.int .u64 a1)]), (.agg [(.int .i64 a2), (.int .u64 a3)])] =
  C0.hop [] (.box E43 (.v (.agg [(.int .i64 a0), (.int .u64 a1)]))) fun v0 h1 =>
  C0.hop h1 (.box E43 (.v (.agg [(.int .i64 a2), (.int .u64 a3)]))) fun v2 h3 =>
  C0.hop h3 (.alloc E43) fun v4 h5 =>
  C0.hop h5 (.load true 2 (.v v0)) fun v6 h7 =>
  C0.agg 2 (some v6) fun l8 =>
  C0.int .i64 l8[0]? fun x9 =>
  C0.int .u64 l8[1]? fun x10 =>
  C0.any (pcall M d 45 [(.agg [(.int .i64 x9), (.int .u64 x10)])]) fun v11 =>
  C0.hop h7 (.load true 2 (.v v2)) fun v12 h13 =>
  C0.agg 2 (some v12) fun l14 =>
  C0.int .i64 l14[0]? fun x15 =>
  C0.int .u64 l14[1]? fun x16 =>
  C0.any (pcall M d 45 [(.agg [(.int .i64 x15), (.int .u64 x16)])]) fun v17 =>
  L37_0 d v4 v11 v17 1000000000000000000 (.zsl true) 0 0 h13 := (r37 C0 d a0 a1 a2 a3).trans (by simp only [it37_0])
/-- slices.IndexFunc[[]apogee/api.Point,apogee/api.Point] -/
theorem q42f31 (d : Nat) (a0 : List AV) (a1 : AV) : xcall C0 M unr d 42 [(.lst a0), (.fn 31 [] [])] =
  L42f31_0 d a0 1000000000000000000 0 := (r42f31 C0 d a0 a1).trans (by simp only [it42f31_0])
/-- apogee/apogeeref01.bits -/
theorem q45 (d : Nat) (a0 : Int) (a1 : Int) : xcall C0 M unr d 45 [(.agg [(.int .i64 a0), (.int .u64 a1)])] =
  C0.hop [] (.box E43 (.v (.agg [(.int .i64 a0), (.int .u64 a1)]))) fun v0 h1 =>
  L45_0 d v0 1000000000000000000 (.zsl true) 0 h1 := (r45 C0 d a0 a1).trans (by simp only [it45_0])
/-- apogee/apogeeref01.value -/
theorem q46 (d : Nat) (a0 : List AV) : xcall C0 M unr d 46 [(.lst a0)] =
  C0.hop [] (.alloc E43) fun v0 h1 =>
  C0.hop h1 (.alloc E43) fun v2 h3 =>
  C0.hop h3 (.store 2 (.v v2) (.v (.agg [(.int .i64 0), (.int .u64 0)]))) fun v4 h5 =>
  L46_0 d a0 v0 v2 1000000000000000000 0 0 h5 := (r46 C0 d a0).trans (by simp only [it46_0])
end Go.Proofs.Ytbcbaidnamebkaa.AE
