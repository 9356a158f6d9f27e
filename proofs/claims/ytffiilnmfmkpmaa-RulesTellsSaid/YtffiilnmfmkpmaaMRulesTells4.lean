/- The texts that the law RulesTells needs, part 4. No conditions. -/
import Derived.Test.YtffiilnmfmkpmaaMRulesTells3
namespace Go.Proofs.Ytffiilnmfmkpmaa.AE
set_option linter.unusedVariables false
set_option linter.unusedSimpArgs false
set_option linter.constructorNameAsVariable false
open Go
set_option maxRecDepth 100000
set_option maxHeartbeats 0
noncomputable def X9_0_0 (d : Nat) (a0 : List AV)  : Ans :=
  some (.bool (decide ((((List.length a0) : Nat) : Int) ≤ 8)))
theorem X9_0_0_ok (d : Nat) (a0 : List AV) (a1 a2 a3 a4 a5 a6 a7 a8 : Int) (b32 : Bool) (x33 x34 : Int) (v35 v36 : AV) (x37 : Int) (b38 : Bool) (v39 v40 v41 v42 v43 v44 v45 v46 v47 v48 : AV) : r9X0_0 C0 d a0 a1 a2 a3 a4 a5 a6 a7 a8 ⟨[(.agg [(.lst a0), (iz a1), (iz a2), (iz a3), (iz a4), (iz a5), (iz a6), (iz a7), (iz a8)]), (.ptr 0 0 0), (.bool b32), (iz x33), (iz x34), v35, v36, (iz x37), (.bool b38), v39, v40, v41, v42, v43, v44, v45, v46, v47, v48, tz, tz, tz, tz], [some ⟨E24, [(.agg [(.lst a0), (iz a1), (iz a2), (iz a3), (iz a4), (iz a5), (iz a6), (iz a7), (iz a8)])]⟩]⟩ = X9_0_0 d a0  := by
  unfold r9X0_0; refine Eq.trans (pl_len (by rfl)) ?_; (iterate 2 (refine yt yS ?_)); refine yt yB ?_; (iterate 2 (refine yt yI ?_)); (iterate 2 (refine yt yA ?_)); refine yt yI ?_; refine yt yB ?_; (iterate 10 (refine yt yA ?_)); (iterate 4 (refine yt yS ?_)); refine Eq.trans (pl_sameH) ?_
  rfl
noncomputable def E9_0 (d : Nat) (a0 : List AV) (b49 : Bool) : Ans :=
  some (.bool b49)
theorem E9_0_ok (d : Nat) (a0 : List AV) (a1 a2 a3 a4 a5 a6 a7 a8 : Int) (b49 : Bool) (x50 x51 : Int) (v52 v53 : AV) (x54 : Int) (b55 : Bool) (v56 v57 v58 v59 : AV) (x60 : Int) (v61 v62 v63 : AV) (x64 : Int) (b65 : Bool) : r9E0 C0 d a0 a1 a2 a3 a4 a5 a6 a7 a8 ⟨[(.agg [(.lst a0), (iz a1), (iz a2), (iz a3), (iz a4), (iz a5), (iz a6), (iz a7), (iz a8)]), (.ptr 0 0 0), (.bool b49), (iz x50), (iz x51), v52, v53, (iz x54), (.bool b55), v56, v57, v58, v59, (iz x60), v61, v62, v63, (iz x64), (.bool b65), tz, tz, tz, tz], [some ⟨E24, [(.agg [(.lst a0), (iz a1), (iz a2), (iz a3), (iz a4), (iz a5), (iz a6), (iz a7), (iz a8)])]⟩]⟩ = E9_0 d a0 b49 := by
  unfold r9E0; refine Eq.trans (pl_len (by rfl)) ?_; (iterate 2 (refine yt yS ?_)); refine yt yB ?_; (iterate 2 (refine yt yI ?_)); (iterate 2 (refine yt yA ?_)); refine yt yI ?_; refine yt yB ?_; (iterate 4 (refine yt yA ?_)); refine yt yI ?_; (iterate 3 (refine yt yA ?_)); refine yt yI ?_; refine yt yB ?_; (iterate 4 (refine yt yS ?_)); refine Eq.trans (pl_sameH) ?_
  rfl
noncomputable def L9_0 (d : Nat) (a0 : List AV) : Nat → Int → Ans
  | 0, _ => none
  | n + 1, x4 =>
  cnd (decide (x4 < (((List.length a0) : Nat) : Int)))
   (cnd (decide (0 ≤ x4))
   (C0.agg 5 a0[(Int.toNat x4)]? fun l20 =>
   C0.lst l20[0]? (fun l21 =>
   C0.int .i64 l20[1]? fun x23 =>
   C0.int .i64 l20[2]? fun x24 =>
   C0.int .i64 l20[3]? fun x25 =>
   C0.int .i64 l20[4]? fun x26 =>
   cnd (decide ((((List.length l21) : Nat) : Int) > 12))
   (E9_0 d a0 false)
   (L9_0 d a0 n (IntKind.wrap .i64 (x4 + 1))))
        (fun z22 =>
   C0.int .i64 l20[1]? fun x27 =>
   C0.int .i64 l20[2]? fun x28 =>
   C0.int .i64 l20[3]? fun x29 =>
   C0.int .i64 l20[4]? fun x30 =>
   L9_0 d a0 n (IntKind.wrap .i64 (x4 + 1))))
   (none))
   (X9_0_0 d a0)
theorem it9_0 (d : Nat) (a0 : List AV) (a1 a2 a3 a4 a5 a6 a7 a8 : Int)   : ∀ (n : Nat) (b3 : Bool) (x4 : Int) (v5 v6 v7 v8 v9 v10 v11 v12 v13 v14 v15 v16 v17 v18 v19 : AV), C0.iter (r9R0 C0 d a0 a1 a2 a3 a4 a5 a6 a7 a8) n ⟨[(.agg [(.lst a0), (iz a1), (iz a2), (iz a3), (iz a4), (iz a5), (iz a6), (iz a7), (iz a8)]), (.ptr 0 0 0), (.bool b3), (iz x4), v5, v6, v7, v8, v9, v10, v11, v12, v13, v14, v15, v16, v17, v18, v19, tz, tz, tz, tz], [some ⟨E24, [(.agg [(.lst a0), (iz a1), (iz a2), (iz a3), (iz a4), (iz a5), (iz a6), (iz a7), (iz a8)])]⟩]⟩ [0] [r9X0_0 C0 d a0 a1 a2 a3 a4 a5 a6 a7 a8] (r9E0 C0 d a0 a1 a2 a3 a4 a5 a6 a7 a8) = L9_0 d a0 n x4 := by
  generalize hR : r9R0 C0 d a0 a1 a2 a3 a4 a5 a6 a7 a8 = R
  intro n
  induction n with
  | zero => intros; rfl
  | succ n ih =>
    intro b3 x4 v5 v6 v7 v8 v9 v10 v11 v12 v13 v14 v15 v16 v17 v18 v19
    simp only [it_ret] at ih
    rw [it_ret, xiter_s]
    refine Eq.trans (congrFun (congrFun hR.symm _) _) ?_
    unfold r9R0
    refine Eq.trans (pl_len (by rfl)) ?_; (iterate 2 (refine yt yS ?_)); refine yt yB ?_; refine yt yI ?_; (iterate 15 (refine yt yA ?_)); (iterate 4 (refine yt yS ?_)); refine Eq.trans (pl_sameH) ?_
    simp only [L9_0, kIter_n, kIter_x, kIter_r, kOut_x, kOut_r, xgo_hit, xgo_miss, ih, X9_0_0_ok d a0 a1 a2 a3 a4 a5 a6 a7 a8  , E9_0_ok d a0 a1 a2 a3 a4 a5 a6 a7 a8  ]
/-- apogee/apogeeref13.Few -/
theorem q9 (d : Nat) (a0 : List AV) (a1 a2 a3 a4 a5 a6 a7 a8 : Int) : xcall C0 M unr d 9 [(.agg [(.lst a0), (iz a1), (iz a2), (iz a3), (iz a4), (iz a5), (iz a6), (iz a7), (iz a8)])] =
  L9_0 d a0 10000000000000000000 0 := (r9 C0 d a0 a1 a2 a3 a4 a5 a6 a7 a8).trans (by simp only [it9_0])
noncomputable def X10_0_0 (d : Nat) (a0 : List AV) (a1 a2 a3 a4 a5 a6 a7 a8 : Int)  : Ans :=
  C0.bool (pcall M d 22 [(iz a1), (iz 1), (iz 50)]) fun b49 =>
   cnd (!b49)
   (some (iz 3))
   (C0.bool (pcall M d 22 [(iz a2), (iz 1), (iz 50)]) fun b50 =>
   cnd (!b50)
   (some (iz 3))
   (C0.bool (pcall M d 22 [(iz a3), (iz 1), (iz 50)]) fun b51 =>
   cnd (!b51)
   (some (iz 3))
   (C0.bool (pcall M d 22 [(iz a4), (iz 0), (iz 1024)]) fun b52 =>
   cnd (!b52)
   (some (iz 4))
   (C0.bool (pcall M d 22 [(iz a5), (iz 1), (iz 65536)]) fun b53 =>
   cnd (!b53)
   (some (iz 5))
   (C0.bool (pcall M d 22 [(iz a6), (iz 1), (iz 50)]) fun b54 =>
   cnd (!b54)
   (some (iz 6))
   (C0.bool (pcall M d 22 [(iz a7), (iz 1), (iz 1073741824)]) fun b55 =>
   cnd (!b55)
   (some (iz 7))
   (C0.bool (pcall M d 22 [(iz a8), (iz 0), (iz (((List.length a0) : Nat) : Int))]) fun b56 =>
   cnd (!b56)
   (some (iz 8))
   (some (iz 0)))))))))
theorem X10_0_0_ok (d : Nat) (a0 : List AV) (a1 a2 a3 a4 a5 a6 a7 a8 x33 x34 x35 : Int) (v36 v37 : AV) (x38 : Int) (b39 : Bool) (v40 v41 v42 v43 v44 v45 v46 v47 v48 : AV) : r10X0_0 C0 d a0 a1 a2 a3 a4 a5 a6 a7 a8 ⟨[(.agg [(.lst a0), (iz a1), (iz a2), (iz a3), (iz a4), (iz a5), (iz a6), (iz a7), (iz a8)]), (.ptr 0 0 0), (iz x33), (iz x34), (.ptr 0 0 0), (.lst a0), (iz (((List.length a0) : Nat) : Int)), (.bool (decide ((((List.length a0) : Nat) : Int) < 1))), bf, (.ptr 0 0 0), (.lst a0), (iz (((List.length a0) : Nat) : Int)), (.bool (decide ((((List.length a0) : Nat) : Int) > 4))), bf, (iz x35), v36, v37, (iz x38), (.bool b39), v40, v41, v42, v43, v44, v45, v46, v47, v48, tz, tz, tz, tz, tz, tz, tz, tz, tz, tz, tz, tz, tz, tz, tz, tz, tz, tz, tz, tz, tz, tz, tz, tz, tz, tz, tz, tz, tz, tz, tz, tz, tz, tz, tz, tz, tz, tz, tz, tz, tz, tz, tz, tz, tz], [some ⟨E24, [(.agg [(.lst a0), (iz a1), (iz a2), (iz a3), (iz a4), (iz a5), (iz a6), (iz a7), (iz a8)])]⟩]⟩ = X10_0_0 d a0 a1 a2 a3 a4 a5 a6 a7 a8  := by
  unfold r10X0_0; refine Eq.trans (pl_len (by rfl)) ?_; (iterate 2 (refine yt yS ?_)); (iterate 2 (refine yt yI ?_)); (iterate 10 (refine yt yS ?_)); refine yt yI ?_; (iterate 2 (refine yt yA ?_)); refine yt yI ?_; refine yt yB ?_; (iterate 9 (refine yt yA ?_)); (iterate 45 (refine yt yS ?_)); refine Eq.trans (pl_sameH) ?_
  rfl
noncomputable def E10_0 (d : Nat) (a0 : List AV) (a1 a2 a3 a4 a5 a6 a7 a8 x57 : Int) : Ans :=
  some (iz x57)
theorem E10_0_ok (d : Nat) (a0 : List AV) (a1 a2 a3 a4 a5 a6 a7 a8 x57 x58 x59 : Int) (v60 v61 : AV) (x62 : Int) (b63 : Bool) (v64 v65 v66 v67 : AV) (x68 : Int) (v69 v71 : AV) (x72 x73 x74 x75 : Int) (b76 b77 : Bool) : r10E0 C0 d a0 a1 a2 a3 a4 a5 a6 a7 a8 ⟨[(.agg [(.lst a0), (iz a1), (iz a2), (iz a3), (iz a4), (iz a5), (iz a6), (iz a7), (iz a8)]), (.ptr 0 0 0), (iz x57), (iz x58), (.ptr 0 0 0), (.lst a0), (iz (((List.length a0) : Nat) : Int)), (.bool (decide ((((List.length a0) : Nat) : Int) < 1))), bf, (.ptr 0 0 0), (.lst a0), (iz (((List.length a0) : Nat) : Int)), (.bool (decide ((((List.length a0) : Nat) : Int) > 4))), bf, (iz x59), v60, v61, (iz x62), (.bool b63), v64, v65, v66, v67, (iz x68), v69, (.agg [v71, (iz x72), (iz x73), (iz x74), (iz x75)]), (.bool b76), (.bool b77), tz, tz, tz, tz, tz, tz, tz, tz, tz, tz, tz, tz, tz, tz, tz, tz, tz, tz, tz, tz, tz, tz, tz, tz, tz, tz, tz, tz, tz, tz, tz, tz, tz, tz, tz, tz, tz, tz, tz, tz, tz, tz, tz, tz, tz], [some ⟨E24, [(.agg [(.lst a0), (iz a1), (iz a2), (iz a3), (iz a4), (iz a5), (iz a6), (iz a7), (iz a8)])]⟩]⟩ = E10_0 d a0 a1 a2 a3 a4 a5 a6 a7 a8 x57 := by
  unfold r10E0; refine Eq.trans (pl_len (by rfl)) ?_; (iterate 2 (refine yt yS ?_)); (iterate 2 (refine yt yI ?_)); (iterate 10 (refine yt yS ?_)); refine yt yI ?_; (iterate 2 (refine yt yA ?_)); refine yt yI ?_; refine yt yB ?_; (iterate 4 (refine yt yA ?_)); refine yt yI ?_; refine yt yA ?_; refine yt yG ?_; refine yt yA ?_; (iterate 4 (refine yt yI ?_)); (iterate 2 (refine yt yB ?_)); (iterate 45 (refine yt yS ?_)); refine Eq.trans (pl_sameH) ?_
  rfl
noncomputable def L10_0 (d : Nat) (a0 : List AV) (a1 a2 a3 a4 a5 a6 a7 a8 : Int) : Nat → Int → Ans
  | 0, _ => none
  | n + 1, x4 =>
  cnd (decide (x4 < (((List.length a0) : Nat) : Int)))
   (cnd (decide (0 ≤ x4))
   (C0.agg 5 a0[(Int.toNat x4)]? fun l19 =>
   C0.lst l19[0]? (fun l20 =>
   C0.int .i64 l19[1]? fun x22 =>
   C0.int .i64 l19[2]? fun x23 =>
   C0.int .i64 l19[3]? fun x24 =>
   C0.int .i64 l19[4]? fun x25 =>
   C0.bool (pcall M d 17 [(.agg [(.lst l20), (iz x22), (iz x23), (iz x24), (iz x25)])]) fun b26 =>
   cnd (!b26)
   (E10_0 d a0 a1 a2 a3 a4 a5 a6 a7 a8 2)
   (L10_0 d a0 a1 a2 a3 a4 a5 a6 a7 a8 n (IntKind.wrap .i64 (x4 + 1))))
        (fun z21 =>
   C0.int .i64 l19[1]? fun x27 =>
   C0.int .i64 l19[2]? fun x28 =>
   C0.int .i64 l19[3]? fun x29 =>
   C0.int .i64 l19[4]? fun x30 =>
   C0.bool (pcall M d 17 [(.agg [(.zsl z21), (iz x27), (iz x28), (iz x29), (iz x30)])]) fun b31 =>
   cnd (!b31)
   (E10_0 d a0 a1 a2 a3 a4 a5 a6 a7 a8 2)
   (L10_0 d a0 a1 a2 a3 a4 a5 a6 a7 a8 n (IntKind.wrap .i64 (x4 + 1)))))
   (none))
   (X10_0_0 d a0 a1 a2 a3 a4 a5 a6 a7 a8)
theorem it10_0 (d : Nat) (a0 : List AV) (a1 a2 a3 a4 a5 a6 a7 a8 : Int)   : ∀ (n : Nat) (x3 x4 : Int) (v5 v6 v7 v8 v9 v10 v11 v12 v13 v14 v15 v16 v17 v18 : AV), C0.iter (r10R0 C0 d a0 a1 a2 a3 a4 a5 a6 a7 a8) n ⟨[(.agg [(.lst a0), (iz a1), (iz a2), (iz a3), (iz a4), (iz a5), (iz a6), (iz a7), (iz a8)]), (.ptr 0 0 0), (iz x3), (iz x4), (.ptr 0 0 0), (.lst a0), (iz (((List.length a0) : Nat) : Int)), (.bool (decide ((((List.length a0) : Nat) : Int) < 1))), bf, (.ptr 0 0 0), (.lst a0), (iz (((List.length a0) : Nat) : Int)), (.bool (decide ((((List.length a0) : Nat) : Int) > 4))), bf, v5, v6, v7, v8, v9, v10, v11, v12, v13, v14, v15, v16, v17, v18, tz, tz, tz, tz, tz, tz, tz, tz, tz, tz, tz, tz, tz, tz, tz, tz, tz, tz, tz, tz, tz, tz, tz, tz, tz, tz, tz, tz, tz, tz, tz, tz, tz, tz, tz, tz, tz, tz, tz, tz, tz, tz, tz, tz, tz], [some ⟨E24, [(.agg [(.lst a0), (iz a1), (iz a2), (iz a3), (iz a4), (iz a5), (iz a6), (iz a7), (iz a8)])]⟩]⟩ [0] [r10X0_0 C0 d a0 a1 a2 a3 a4 a5 a6 a7 a8] (r10E0 C0 d a0 a1 a2 a3 a4 a5 a6 a7 a8) = L10_0 d a0 a1 a2 a3 a4 a5 a6 a7 a8 n x4 := by
  generalize hR : r10R0 C0 d a0 a1 a2 a3 a4 a5 a6 a7 a8 = R
  intro n
  induction n with
  | zero => intros; rfl
  | succ n ih =>
    intro x3 x4 v5 v6 v7 v8 v9 v10 v11 v12 v13 v14 v15 v16 v17 v18
    simp only [it_ret] at ih
    rw [it_ret, xiter_s]
    refine Eq.trans (congrFun (congrFun hR.symm _) _) ?_
    unfold r10R0
    refine Eq.trans (pl_len (by rfl)) ?_; (iterate 2 (refine yt yS ?_)); (iterate 2 (refine yt yI ?_)); (iterate 10 (refine yt yS ?_)); (iterate 14 (refine yt yA ?_)); (iterate 45 (refine yt yS ?_)); refine Eq.trans (pl_sameH) ?_
    simp only [L10_0, kIter_n, kIter_x, kIter_r, kOut_x, kOut_r, xgo_hit, xgo_miss, ih, X10_0_0_ok d a0 a1 a2 a3 a4 a5 a6 a7 a8  , E10_0_ok d a0 a1 a2 a3 a4 a5 a6 a7 a8  ]
/-- apogee/apogeeref13.Wrong -/
theorem q10 (d : Nat) (a0 : List AV) (a1 a2 a3 a4 a5 a6 a7 a8 : Int) : xcall C0 M unr d 10 [(.agg [(.lst a0), (iz a1), (iz a2), (iz a3), (iz a4), (iz a5), (iz a6), (iz a7), (iz a8)])] =
  cnd (decide ((((List.length a0) : Nat) : Int) < 1))
   (some (iz 1))
   (cnd (decide ((((List.length a0) : Nat) : Int) > 4))
   (some (iz 1))
   (L10_0 d a0 a1 a2 a3 a4 a5 a6 a7 a8 10000000000000000000 0)) := (r10 C0 d a0 a1 a2 a3 a4 a5 a6 a7 a8).trans (by simp only [it10_0])
noncomputable def X35f26_0_0 (d : Nat) (a0 : List AV)  : Ans :=
  some (iz (-1))
theorem X35f26_0_0_ok (d : Nat) (a0 : List AV) (x30 : Int) (v31 : AV) (x32 : Int) (v33 v34 v35 v36 v37 v38 v39 v40 v41 v42 : AV) : r35f26X0_0 C0 d a0 ⟨[(.lst a0), (.fn 26 [] []), tz, tz, (iz x30), v31, (.lst a0), (iz (((List.length a0) : Nat) : Int)), (iz x32), v33, v34, v35, v36, v37, v38, v39, v40, v41, v42], []⟩ = X35f26_0_0 d a0  := by
  unfold r35f26X0_0; refine Eq.trans (pl_len (by rfl)) ?_; (iterate 4 (refine yt yS ?_)); refine yt yI ?_; refine yt yA ?_; (iterate 2 (refine yt yS ?_)); refine yt yI ?_; (iterate 10 (refine yt yA ?_)); refine Eq.trans (pl_sameH) ?_
  rfl
noncomputable def E35f26_0 (d : Nat) (a0 : List AV) (x43 : Int) : Ans :=
  some (iz x43)
theorem E35f26_0_ok (d : Nat) (a0 : List AV) (x43 x44 x45 : Int) (v46 : AV) (x47 : Int) (v48 v49 : AV) (x50 : Int) (v51 v53 : AV) (x54 x55 x56 x57 : Int) (b58 : Bool) (x59 : Int) (v60 : AV) : r35f26E0 C0 d a0 ⟨[(.lst a0), (.fn 26 [] []), tz, tz, (iz x43), (iz x44), (.lst a0), (iz (((List.length a0) : Nat) : Int)), (iz x45), v46, (iz x47), v48, v49, (iz x50), v51, (.agg [v53, (iz x54), (iz x55), (iz x56), (iz x57)]), (.bool b58), (iz x59), v60], []⟩ = E35f26_0 d a0 x43 := by
  unfold r35f26E0; refine Eq.trans (pl_len (by rfl)) ?_; (iterate 4 (refine yt yS ?_)); (iterate 2 (refine yt yI ?_)); (iterate 2 (refine yt yS ?_)); refine yt yI ?_; refine yt yA ?_; refine yt yI ?_; (iterate 2 (refine yt yA ?_)); refine yt yI ?_; refine yt yA ?_; refine yt yG ?_; refine yt yA ?_; (iterate 4 (refine yt yI ?_)); refine yt yB ?_; refine yt yI ?_; refine yt yA ?_; refine Eq.trans (pl_sameH) ?_
  rfl
noncomputable def L35f26_0 (d : Nat) (a0 : List AV) : Nat → Int → Ans
  | 0, _ => none
  | n + 1, x5 =>
  cnd (decide (x5 < (((List.length a0) : Nat) : Int)))
   (cnd (decide (0 ≤ x5))
   (C0.agg 5 a0[(Int.toNat x5)]? fun l16 =>
   C0.lst l16[0]? (fun l17 =>
   C0.int .i64 l16[1]? fun x19 =>
   C0.int .i64 l16[2]? fun x20 =>
   C0.int .i64 l16[3]? fun x21 =>
   C0.int .i64 l16[4]? fun x22 =>
   C0.bool (pcall M d 26 [(.agg [(.lst l17), (iz x19), (iz x20), (iz x21), (iz x22)])]) fun b23 =>
   cnd b23
   (E35f26_0 d a0 x5)
   (L35f26_0 d a0 n (IntKind.wrap .i64 (x5 + 1))))
        (fun z18 =>
   C0.int .i64 l16[1]? fun x24 =>
   C0.int .i64 l16[2]? fun x25 =>
   C0.int .i64 l16[3]? fun x26 =>
   C0.int .i64 l16[4]? fun x27 =>
   C0.bool (pcall M d 26 [(.agg [(.zsl z18), (iz x24), (iz x25), (iz x26), (iz x27)])]) fun b28 =>
   cnd b28
   (E35f26_0 d a0 x5)
   (L35f26_0 d a0 n (IntKind.wrap .i64 (x5 + 1)))))
   (none))
   (X35f26_0_0 d a0)
theorem it35f26_0 (d : Nat) (a0 : List AV)   : ∀ (n : Nat) (x3 : Int) (v4 : AV) (x5 : Int) (v6 v7 v8 v9 v10 v11 v12 v13 v14 v15 : AV), C0.iter (r35f26R0 C0 d a0) n ⟨[(.lst a0), (.fn 26 [] []), tz, tz, (iz x3), v4, (.lst a0), (iz (((List.length a0) : Nat) : Int)), (iz x5), v6, v7, v8, v9, v10, v11, v12, v13, v14, v15], []⟩ [0] [r35f26X0_0 C0 d a0] (r35f26E0 C0 d a0) = L35f26_0 d a0 n x5 := by
  generalize hR : r35f26R0 C0 d a0 = R
  intro n
  induction n with
  | zero => intros; rfl
  | succ n ih =>
    intro x3 v4 x5 v6 v7 v8 v9 v10 v11 v12 v13 v14 v15
    simp only [it_ret] at ih
    rw [it_ret, xiter_s]
    refine Eq.trans (congrFun (congrFun hR.symm _) _) ?_
    unfold r35f26R0
    refine Eq.trans (pl_len (by rfl)) ?_; (iterate 4 (refine yt yS ?_)); refine yt yI ?_; refine yt yA ?_; (iterate 2 (refine yt yS ?_)); refine yt yI ?_; (iterate 10 (refine yt yA ?_)); refine Eq.trans (pl_sameH) ?_
    simp only [L35f26_0, kIter_n, kIter_x, kIter_r, kOut_x, kOut_r, xgo_hit, xgo_miss, ih, X35f26_0_0_ok d a0  , E35f26_0_ok d a0  ]
/-- slices.IndexFunc[[]apogee/api.Phase,apogee/api.Phase] -/
theorem q35f26 (d : Nat) (a0 : List AV) (a1 : AV) : xcall C0 M unr d 35 [(.lst a0), (.fn 26 [] [])] =
  L35f26_0 d a0 10000000000000000000 0 := (r35f26 C0 d a0 a1).trans (by simp only [it35f26_0])
end Go.Proofs.Ytffiilnmfmkpmaa.AE

namespace Go.Proofs.Ytffiilnmfmkpmaa.AE
set_option linter.unusedVariables false
set_option linter.unusedSimpArgs false
set_option linter.constructorNameAsVariable false
open Go Go.Proofs.Ytffiilnmfmkpmaa.Geo
attribute [local irreducible] pcall C0
set_option maxRecDepth 100000
structure Phs where
  ps : List Pt
  g : Int
  v : Int
  m : Int
  u : Int
abbrev phA (p : Phs) : AV := .agg [.lst (p.ps.map pt), .int .i64 p.g, .int .i64 p.v, .int .i64 p.m, .int .i64 p.u]
structure Rul where
  phs : List Phs
  n : Int
  d : Int
  gr : Int
  eps : Int
  st : Int
  age : Int
  lift : Int
  saf : Int
abbrev rl (r : Rul) : AV := .agg [.lst (r.phs.map phA), .int .i64 r.n, .int .i64 r.d, .int .i64 r.gr, .int .i64 r.eps, .int .i64 r.st, .int .i64 r.age, .int .i64 r.lift, .int .i64 r.saf]
theorem rows_phs : ∀ l : List AV, (∀ x ∈ l, ∃ cs, x = .agg cs ∧ CTall [(.sl true [(.i .i64), (.i .i64)]), (.i .i64), (.i .i64), (.i .i64), (.i .i64)] cs) → ∃ ps : List Phs, l = ps.map phA
  | [], _ => ⟨[], rfl⟩
  | x :: l, h => by
    obtain ⟨ps, rfl⟩ := rows_phs l fun y hy => h y (List.mem_cons_of_mem _ hy)
    obtain ⟨_, rfl, _, _, rfl, ⟨r, rfl, hl, hx⟩, _, _, rfl, ⟨g, rfl, _⟩, _, _, rfl, ⟨w, rfl, _⟩, _, _, rfl, ⟨m, rfl, _⟩, _, _, rfl, ⟨u, rfl, _⟩, rfl⟩ := h x (List.mem_cons_self ..)
    obtain ⟨qs, rfl⟩ := rows_pts r hx
    exact ⟨⟨qs, g, w, m, u⟩ :: ps, rfl⟩
theorem ty_rul {v : AV} (h : TyOK true [(.sl true [(.sl true [(.i .i64), (.i .i64)]), (.i .i64), (.i .i64), (.i .i64), (.i .i64)]), (.i .i64), (.i .i64), (.i .i64), (.i .i64), (.i .i64), (.i .i64), (.i .i64), (.i .i64)] v) : ∃ r, v = rl r ∧ r.phs.length ≤ 9223372036854775807 := by
  obtain ⟨l, rfl, _, _, rfl, ⟨r, rfl, hl, hx⟩, _, _, rfl, ⟨a, rfl, _⟩, _, _, rfl, ⟨b, rfl, _⟩, _, _, rfl, ⟨c, rfl, _⟩, _, _, rfl, ⟨d, rfl, _⟩, _, _, rfl, ⟨e, rfl, _⟩, _, _, rfl, ⟨f, rfl, _⟩, _, _, rfl, ⟨g, rfl, _⟩, _, _, rfl, ⟨i, rfl, _⟩, rfl⟩ := h
  obtain ⟨ps, rfl⟩ := rows_phs r hx
  exact ⟨⟨ps, a, b, c, d, e, f, g, i⟩, rfl, by rw [← maxLen_eq]; simpa using hl⟩
theorem phs_at {l : List Phs} {i : Nat} (h : i < l.length) : (l.map phA)[i]? = some (phA l[i]) := by simp [List.getElem?_map, List.getElem?_eq_getElem h]
def fewX (l : List Phs) : Bool := l.all (fun p => decide (p.ps.length ≤ 12)) && decide (l.length ≤ 8)
theorem few_go (d : Nat) (l : List Phs) (hl : l.length ≤ 9223372036854775807) : ∀ (k i : Nat), i + k = l.length → ∀ f, k < f →
    L9_0 d (l.map phA) f (i : Nat) = some (.bool ((l.drop i).all (fun p => decide (p.ps.length ≤ 12)) && decide (l.length ≤ 8)))
  | 0, i, h, f + 1, _ => by
    rw [L9_0, decide_eq_false (by simp; omega), cnd_f, List.drop_of_length_le (by omega)]
    unfold X9_0_0
    simp
    omega
  | k + 1, i, h, f + 1, hf => by
    have hi : i < l.length := by omega
    rw [L9_0, decide_eq_true (by simp; omega), cnd_t, decide_eq_true (by omega), cnd_t, show (((i : Nat) : Int)).toNat = i by omega, phs_at hi]
    repeat with_reducible first | refine tt sh_ptr ?_ | refine tt sh_fptr ?_ | refine tt w2 ?_ | refine tt w3 ?_ | refine tt w8 ?_ | refine tt w9 ?_ | refine tt wf ?_ | refine tt wg ?_ | refine tt wh ?_ | refine tt wi ?_ | refine tt wj ?_ | refine tt wk ?_ | refine tt wl ?_ | refine tt wn ?_ | refine tt c_ort ?_ | refine tt c_nt ?_ | refine tt c_nf ?_ | refine tt (cnd_t _ _) ?_ | refine tt (cnd_f _ _) ?_ | refine tt w6 ?_ | refine tt w4 ?_ | refine tt w5 ?_ | refine tt w7 ?_ | refine tt wm ?_ | refine tt wo ?_ | refine tt wx ?_ | refine tt nil_ptr ?_ | refine tt len_lst ?_ | refine tt len_zsl ?_
    rw [List.drop_eq_getElem_cons hi, List.all_cons, List.length_map]
    by_cases c : l[i].ps.length ≤ 12
    · rw [decide_eq_false (show ¬ ((l[i].ps.length : Nat) : Int) > 12 by omega), cnd_f, decide_eq_true c, Bool.true_and, show IntKind.wrap .i64 (((i : Nat) : Int) + 1) = ((i + 1 : Nat) : Int) by rw [i64w]; omega]
      exact few_go d l hl k (i + 1) (by omega) f (by omega)
    · rw [decide_eq_true (show ((l[i].ps.length : Nat) : Int) > 12 by omega), cnd_t, decide_eq_false c]; rfl
theorem s9 (d : Nat) (r : Rul) (hl : r.phs.length ≤ 9223372036854775807) : pcall M (d + 1) 9 [rl r] = some (.bool (fewX r.phs)) := told (q9 d _ _ _ _ _ _ _ _ _) (by
  have := few_go d r.phs hl r.phs.length 0 (by omega) 10000000000000000000 (by omega)
  rw [List.drop_zero] at this
  exact this)
theorem few_t {l : List Phs} (h : fewX l = true) : (∀ p ∈ l, p.ps.length ≤ 12) ∧ l.length ≤ 8 := by
  unfold fewX at h
  simp only [Bool.and_eq_true, List.all_eq_true, decide_eq_true_iff] at h
  exact h
theorem s22 (d : Nat) (n a b : Int) : pcall M (d + 1) 22 [.int .i64 n, .int .i64 a, .int .i64 b] = some (.bool (decide (a ≤ n ∧ n ≤ b))) := told (r22 C0 d _ _ _) (by
  by_cases h : n ≥ a
  · rw [decide_eq_true h, cnd_t]; congr 2; rw [decide_eq_decide]; omega
  · rw [decide_eq_false h, cnd_f, decide_eq_false (by omega)])
theorem s24 (d : Nat) (n a b : Int) : pcall M (d + 1) 24 [.int .i64 n, .int .i64 a, .int .i64 b] = some (.bool (decide (a ≤ n ∧ n ≤ b))) := told (r24 C0 d _ _ _) (by
  by_cases h : n ≥ a
  · rw [decide_eq_true h, cnd_t]; congr 2; rw [decide_eq_decide]; omega
  · rw [decide_eq_false h, cnd_f, decide_eq_false (by omega)])
theorem s28 (d : Nat) (n a b : Int) : pcall M (d + 1) 28 [.int .i64 n, .int .i64 a, .int .i64 b] = some (.bool (decide (a ≤ n ∧ n ≤ b))) := told (r28 C0 d _ _ _) (by
  by_cases h : n ≥ a
  · rw [decide_eq_true h, cnd_t]; congr 2; rw [decide_eq_decide]; omega
  · rw [decide_eq_false h, cnd_f, decide_eq_false (by omega)])
def RightPh (p : Phs) : Prop := rightB p.ps = true ∧ (1 ≤ p.g ∧ p.g ≤ 100) ∧ (1 ≤ p.v ∧ p.v ≤ 65536) ∧ (1 ≤ p.m ∧ p.m ≤ 1000000) ∧ (0 ≤ p.u ∧ p.u ≤ 1073741824)
instance (p : Phs) : Decidable (RightPh p) := by unfold RightPh; infer_instance
theorem s17 (d : Nat) (p : Phs) (hl : p.ps.length ≤ 140737488355328) : pcall M (d + 10) 17 [phA p] = some (.bool (decide (RightPh p))) := told (r17 C0 (d + 9) _ _ _ _ _) (by
  refine Eq.trans (pl_bool (s31 d p.ps hl)) ?_
  by_cases h : rightB p.ps = true
  rotate_left
  · refine Eq.trans (pl_f (Bool.eq_false_iff.mpr h)) ?_
    rw [decide_eq_false (fun k => h k.1)]
  · refine Eq.trans (pl_len h) ?_
    refine Eq.trans (pl_bool (s22 (d + 8) _ _ _)) ?_
    by_cases h1 : 1 ≤ p.g ∧ p.g ≤ 100
    rotate_left
    · rw [decide_eq_false h1, cnd_f, decide_eq_false (fun h => h1 h.2.1)]
    rw [decide_eq_true h1, cnd_t]
    refine Eq.trans (pl_bool (s22 (d + 8) _ _ _)) ?_
    by_cases h2 : 1 ≤ p.v ∧ p.v ≤ 65536
    rotate_left
    · rw [decide_eq_false h2, cnd_f, decide_eq_false (fun h => h2 h.2.2.1)]
    rw [decide_eq_true h2, cnd_t]
    refine Eq.trans (pl_bool (s22 (d + 8) _ _ _)) ?_
    by_cases h3 : 1 ≤ p.m ∧ p.m ≤ 1000000
    rotate_left
    · rw [decide_eq_false h3, cnd_f, decide_eq_false (fun h => h3 h.2.2.2.1)]
    rw [decide_eq_true h3, cnd_t]
    refine Eq.trans (pl_bool (s22 (d + 8) _ _ _)) ?_
    by_cases h4 : 0 ≤ p.u ∧ p.u ≤ 1073741824
    · rw [decide_eq_true h4, decide_eq_true ⟨h, h1, h2, h3, h4⟩]
    · rw [decide_eq_false h4, decide_eq_false (fun h => h4 h.2.2.2.2)])
theorem s16 (d : Nat) (p : Phs) (hl : p.ps.length ≤ 140737488355328) : pcall M (d + 13) 16 [phA p] = some (.bool (decide (RightPh p))) := told (r16 C0 (d + 12) _ _ _ _ _) (by
  refine Eq.trans (pl_bool (s30 d p.ps hl)) ?_
  by_cases h : rightB p.ps = true
  rotate_left
  · refine Eq.trans (pl_f (Bool.eq_false_iff.mpr h)) ?_
    rw [decide_eq_false (fun k => h k.1)]
  · refine Eq.trans (pl_len h) ?_
    refine Eq.trans (pl_bool (s28 (d + 11) _ _ _)) ?_
    by_cases h1 : 1 ≤ p.g ∧ p.g ≤ 100
    rotate_left
    · rw [decide_eq_false h1, cnd_f, decide_eq_false (fun h => h1 h.2.1)]
    rw [decide_eq_true h1, cnd_t]
    refine Eq.trans (pl_bool (s28 (d + 11) _ _ _)) ?_
    by_cases h2 : 1 ≤ p.v ∧ p.v ≤ 65536
    rotate_left
    · rw [decide_eq_false h2, cnd_f, decide_eq_false (fun h => h2 h.2.2.1)]
    rw [decide_eq_true h2, cnd_t]
    refine Eq.trans (pl_bool (s24 (d + 11) _ _ _)) ?_
    by_cases h3 : 1 ≤ p.m ∧ p.m ≤ 1000000
    rotate_left
    · rw [decide_eq_false h3, cnd_f, decide_eq_false (fun h => h3 h.2.2.2.1)]
    rw [decide_eq_true h3, cnd_t]
    refine Eq.trans (pl_bool (s28 (d + 11) _ _ _)) ?_
    by_cases h4 : 0 ≤ p.u ∧ p.u ≤ 1073741824
    · rw [decide_eq_true h4, decide_eq_true ⟨h, h1, h2, h3, h4⟩]
    · rw [decide_eq_false h4, decide_eq_false (fun h => h4 h.2.2.2.2)])
end Go.Proofs.Ytffiilnmfmkpmaa.AE

namespace Go.Proofs.Ytffiilnmfmkpmaa.AE
set_option linter.unusedVariables false
set_option linter.unusedSimpArgs false
set_option linter.constructorNameAsVariable false
open Go Go.Proofs.Ytffiilnmfmkpmaa.Geo
attribute [local irreducible] pcall C0
set_option maxRecDepth 100000
def fiP (g : Phs → Bool) : List Phs → Int → Int
  | [], _ => -1
  | p :: l, i => bif g p then i else fiP g l (i + 1)
theorem fiP_any (g : Phs → Bool) (ps : List Phs) : ∀ i : Int, 0 ≤ i → decide (fiP g ps i ≥ 0) = ps.any g := by
  induction ps with
  | nil => intro i hi; simp [fiP]
  | cons p l ih =>
    intro i hi
    have h := ih (i + 1) (by omega)
    have e : ∀ b : Bool, decide ((bif b then i else fiP g l (i + 1)) ≥ 0) = (b || l.any g) := fun b => by
      match b with
      | false => exact h
      | true => exact decide_eq_true hi
    exact e (g p)
def badX (p : Phs) : Bool := !decide (RightPh p)
theorem s26 (d : Nat) (p : Phs) (hl : p.ps.length ≤ 140737488355328) : pcall M (d + 14) 26 [phA p] = some (.bool (badX p)) := told (r26 C0 (d + 13) _ _ _ _ _) (by
  exact pl_bool (s16 d p hl))
theorem idx_go (d : Nat) (g : Phs → Bool) (l : List Phs) (hl : l.length ≤ 100) (hg : ∀ p ∈ l, pcall M d 26 [phA p] = some (.bool (g p))) : ∀ (k i : Nat), i + k = l.length → ∀ f, k < f →
    L35f26_0 d (l.map phA) f (i : Nat) = some (.int .i64 (fiP g (l.drop i) (i : Nat)))
  | 0, i, h, f + 1, _ => by
    rw [L35f26_0, decide_eq_false (by simp; omega), cnd_f, List.drop_of_length_le (by omega)]; rfl
  | k + 1, i, h, f + 1, hf => by
    have hi : i < l.length := by omega
    rw [L35f26_0, decide_eq_true (by simp; omega), cnd_t, decide_eq_true (by omega), cnd_t, show (((i : Nat) : Int)).toNat = i by omega, phs_at hi]
    repeat with_reducible first | refine tt sh_ptr ?_ | refine tt sh_fptr ?_ | refine tt w2 ?_ | refine tt w3 ?_ | refine tt w8 ?_ | refine tt w9 ?_ | refine tt wf ?_ | refine tt wg ?_ | refine tt wh ?_ | refine tt wi ?_ | refine tt wj ?_ | refine tt wk ?_ | refine tt wl ?_ | refine tt wn ?_ | refine tt c_ort ?_ | refine tt c_nt ?_ | refine tt c_nf ?_ | refine tt (cnd_t _ _) ?_ | refine tt (cnd_f _ _) ?_ | refine tt w6 ?_ | refine tt w4 ?_ | refine tt w5 ?_ | refine tt w7 ?_ | refine tt wm ?_ | refine tt wo ?_ | refine tt wx ?_ | refine tt nil_ptr ?_ | refine tt len_lst ?_ | refine tt len_zsl ?_
    refine Eq.trans (pl_bool (hg l[i] (List.getElem_mem _))) ?_
    rw [List.drop_eq_getElem_cons hi]
    unfold fiP
    cases g l[i]
    · rw [cnd_f, show IntKind.wrap .i64 (((i : Nat) : Int) + 1) = ((i + 1 : Nat) : Int) by rw [i64w]; omega]
      exact (idx_go d g l hl hg k (i + 1) (by omega) f (by omega)).trans (by simp)
    · rfl
theorem anyI (d : Nat) (g : Phs → Bool) (l : List Phs) (hl : l.length ≤ 100) (hg : ∀ p ∈ l, pcall M d 26 [phA p] = some (.bool (g p))) :
    pcall M (d + 2) 25 [.lst (l.map phA), .fn 26 [] []] = some (.bool (l.any g)) := told (r25f26 C0 (d + 1) _ .nilp) (by
  have h : pcall M (d + 1) 35 [.lst (l.map phA), .fn 26 [] []] = some (.int .i64 (fiP g l 0)) :=
    told (q35f26 d (l.map phA) .nilp) (by have := idx_go d g l hl hg l.length 0 (by omega) 10000000000000000000 (by omega); rw [List.drop_zero] at this; exact this)
  refine Eq.trans (pl_int h) ?_
  rw [fiP_any g l 0 (by decide)])
/-- What is wrong beside the phases. -/
def wrongT (k n d gr eps st age lift saf : Int) : Int :=
  if ¬ ((1 ≤ n ∧ n ≤ 50) ∧ (1 ≤ d ∧ d ≤ 50) ∧ (1 ≤ gr ∧ gr ≤ 50)) then 3 else if ¬ (0 ≤ eps ∧ eps ≤ 1024) then 4 else if ¬ (1 ≤ st ∧ st ≤ 65536) then 5
  else if ¬ (1 ≤ age ∧ age ≤ 50) then 6 else if ¬ (1 ≤ lift ∧ lift ≤ 1073741824) then 7 else if ¬ (0 ≤ saf ∧ saf ≤ k) then 8 else 0
def wrongX (r : Rul) : Int := if r.phs.length < 1 ∨ r.phs.length > 4 then 1 else bif r.phs.any badX then 2 else wrongT r.phs.length r.n r.d r.gr r.eps r.st r.age r.lift r.saf
theorem ref_tail (d : Nat) (l : List AV) (n e gr eps st age lift saf : Int) : X10_0_0 (d + 1) l n e gr eps st age lift saf = some (.int .i64 (wrongT l.length n e gr eps st age lift saf)) := by
  unfold X10_0_0 wrongT
  have W := s22 d
  refine Eq.trans (pl_bool (W _ _ _)) ?_
  by_cases h1 : 1 ≤ n ∧ n ≤ 50
  rotate_left
  · rw [decide_eq_false h1, if_pos (fun h => h1 h.1)]; rfl
  rw [decide_eq_true h1]
  repeat with_reducible first | refine tt sh_ptr ?_ | refine tt sh_fptr ?_ | refine tt w2 ?_ | refine tt w3 ?_ | refine tt w8 ?_ | refine tt w9 ?_ | refine tt wf ?_ | refine tt wg ?_ | refine tt wh ?_ | refine tt wi ?_ | refine tt wj ?_ | refine tt wk ?_ | refine tt wl ?_ | refine tt wn ?_ | refine tt c_ort ?_ | refine tt c_nt ?_ | refine tt c_nf ?_ | refine tt (cnd_t _ _) ?_ | refine tt (cnd_f _ _) ?_ | refine tt w6 ?_ | refine tt w4 ?_ | refine tt w5 ?_ | refine tt w7 ?_ | refine tt wm ?_ | refine tt wo ?_ | refine tt wx ?_ | refine tt nil_ptr ?_ | refine tt len_lst ?_ | refine tt len_zsl ?_
  refine Eq.trans (pl_bool (W _ _ _)) ?_
  by_cases h2 : 1 ≤ e ∧ e ≤ 50
  rotate_left
  · rw [decide_eq_false h2, if_pos (fun h => h2 h.2.1)]; rfl
  rw [decide_eq_true h2]
  repeat with_reducible first | refine tt sh_ptr ?_ | refine tt sh_fptr ?_ | refine tt w2 ?_ | refine tt w3 ?_ | refine tt w8 ?_ | refine tt w9 ?_ | refine tt wf ?_ | refine tt wg ?_ | refine tt wh ?_ | refine tt wi ?_ | refine tt wj ?_ | refine tt wk ?_ | refine tt wl ?_ | refine tt wn ?_ | refine tt c_ort ?_ | refine tt c_nt ?_ | refine tt c_nf ?_ | refine tt (cnd_t _ _) ?_ | refine tt (cnd_f _ _) ?_ | refine tt w6 ?_ | refine tt w4 ?_ | refine tt w5 ?_ | refine tt w7 ?_ | refine tt wm ?_ | refine tt wo ?_ | refine tt wx ?_ | refine tt nil_ptr ?_ | refine tt len_lst ?_ | refine tt len_zsl ?_
  refine Eq.trans (pl_bool (W _ _ _)) ?_
  by_cases h3 : 1 ≤ gr ∧ gr ≤ 50
  rotate_left
  · rw [decide_eq_false h3, if_pos (fun h => h3 h.2.2)]; rfl
  rw [decide_eq_true h3, if_neg (fun h => h ⟨h1, h2, h3⟩)]
  repeat with_reducible first | refine tt sh_ptr ?_ | refine tt sh_fptr ?_ | refine tt w2 ?_ | refine tt w3 ?_ | refine tt w8 ?_ | refine tt w9 ?_ | refine tt wf ?_ | refine tt wg ?_ | refine tt wh ?_ | refine tt wi ?_ | refine tt wj ?_ | refine tt wk ?_ | refine tt wl ?_ | refine tt wn ?_ | refine tt c_ort ?_ | refine tt c_nt ?_ | refine tt c_nf ?_ | refine tt (cnd_t _ _) ?_ | refine tt (cnd_f _ _) ?_ | refine tt w6 ?_ | refine tt w4 ?_ | refine tt w5 ?_ | refine tt w7 ?_ | refine tt wm ?_ | refine tt wo ?_ | refine tt wx ?_ | refine tt nil_ptr ?_ | refine tt len_lst ?_ | refine tt len_zsl ?_
  refine Eq.trans (pl_bool (W _ _ _)) ?_
  by_cases h4 : 0 ≤ eps ∧ eps ≤ 1024
  rotate_left
  · rw [decide_eq_false h4, if_pos h4]; rfl
  rw [decide_eq_true h4, if_neg (fun h => h h4)]
  repeat with_reducible first | refine tt sh_ptr ?_ | refine tt sh_fptr ?_ | refine tt w2 ?_ | refine tt w3 ?_ | refine tt w8 ?_ | refine tt w9 ?_ | refine tt wf ?_ | refine tt wg ?_ | refine tt wh ?_ | refine tt wi ?_ | refine tt wj ?_ | refine tt wk ?_ | refine tt wl ?_ | refine tt wn ?_ | refine tt c_ort ?_ | refine tt c_nt ?_ | refine tt c_nf ?_ | refine tt (cnd_t _ _) ?_ | refine tt (cnd_f _ _) ?_ | refine tt w6 ?_ | refine tt w4 ?_ | refine tt w5 ?_ | refine tt w7 ?_ | refine tt wm ?_ | refine tt wo ?_ | refine tt wx ?_ | refine tt nil_ptr ?_ | refine tt len_lst ?_ | refine tt len_zsl ?_
  refine Eq.trans (pl_bool (W _ _ _)) ?_
  by_cases h5 : 1 ≤ st ∧ st ≤ 65536
  rotate_left
  · rw [decide_eq_false h5, if_pos h5]; rfl
  rw [decide_eq_true h5, if_neg (fun h => h h5)]
  repeat with_reducible first | refine tt sh_ptr ?_ | refine tt sh_fptr ?_ | refine tt w2 ?_ | refine tt w3 ?_ | refine tt w8 ?_ | refine tt w9 ?_ | refine tt wf ?_ | refine tt wg ?_ | refine tt wh ?_ | refine tt wi ?_ | refine tt wj ?_ | refine tt wk ?_ | refine tt wl ?_ | refine tt wn ?_ | refine tt c_ort ?_ | refine tt c_nt ?_ | refine tt c_nf ?_ | refine tt (cnd_t _ _) ?_ | refine tt (cnd_f _ _) ?_ | refine tt w6 ?_ | refine tt w4 ?_ | refine tt w5 ?_ | refine tt w7 ?_ | refine tt wm ?_ | refine tt wo ?_ | refine tt wx ?_ | refine tt nil_ptr ?_ | refine tt len_lst ?_ | refine tt len_zsl ?_
  refine Eq.trans (pl_bool (W _ _ _)) ?_
  by_cases h6 : 1 ≤ age ∧ age ≤ 50
  rotate_left
  · rw [decide_eq_false h6, if_pos h6]; rfl
  rw [decide_eq_true h6, if_neg (fun h => h h6)]
  repeat with_reducible first | refine tt sh_ptr ?_ | refine tt sh_fptr ?_ | refine tt w2 ?_ | refine tt w3 ?_ | refine tt w8 ?_ | refine tt w9 ?_ | refine tt wf ?_ | refine tt wg ?_ | refine tt wh ?_ | refine tt wi ?_ | refine tt wj ?_ | refine tt wk ?_ | refine tt wl ?_ | refine tt wn ?_ | refine tt c_ort ?_ | refine tt c_nt ?_ | refine tt c_nf ?_ | refine tt (cnd_t _ _) ?_ | refine tt (cnd_f _ _) ?_ | refine tt w6 ?_ | refine tt w4 ?_ | refine tt w5 ?_ | refine tt w7 ?_ | refine tt wm ?_ | refine tt wo ?_ | refine tt wx ?_ | refine tt nil_ptr ?_ | refine tt len_lst ?_ | refine tt len_zsl ?_
  refine Eq.trans (pl_bool (W _ _ _)) ?_
  by_cases h7 : 1 ≤ lift ∧ lift ≤ 1073741824
  rotate_left
  · rw [decide_eq_false h7, if_pos h7]; rfl
  rw [decide_eq_true h7, if_neg (fun h => h h7)]
  repeat with_reducible first | refine tt sh_ptr ?_ | refine tt sh_fptr ?_ | refine tt w2 ?_ | refine tt w3 ?_ | refine tt w8 ?_ | refine tt w9 ?_ | refine tt wf ?_ | refine tt wg ?_ | refine tt wh ?_ | refine tt wi ?_ | refine tt wj ?_ | refine tt wk ?_ | refine tt wl ?_ | refine tt wn ?_ | refine tt c_ort ?_ | refine tt c_nt ?_ | refine tt c_nf ?_ | refine tt (cnd_t _ _) ?_ | refine tt (cnd_f _ _) ?_ | refine tt w6 ?_ | refine tt w4 ?_ | refine tt w5 ?_ | refine tt w7 ?_ | refine tt wm ?_ | refine tt wo ?_ | refine tt wx ?_ | refine tt nil_ptr ?_ | refine tt len_lst ?_ | refine tt len_zsl ?_
  refine Eq.trans (pl_bool (W _ _ _)) ?_
  by_cases h8 : 0 ≤ saf ∧ saf ≤ ((l.length : Nat) : Int)
  rotate_left
  · rw [decide_eq_false h8, if_pos h8]; rfl
  rw [decide_eq_true h8, if_neg (fun h => h h8)]
  rfl
theorem ref_go (d : Nat) (r : Rul) (hl : r.phs.length ≤ 100) (ha : ∀ p ∈ r.phs, p.ps.length ≤ 140737488355328) : ∀ (k i : Nat), i + k = r.phs.length → ∀ f, k < f →
    L10_0 (d + 10) (r.phs.map phA) r.n r.d r.gr r.eps r.st r.age r.lift r.saf f (i : Nat) = some (.int .i64 (bif (r.phs.drop i).any badX then 2 else wrongT r.phs.length r.n r.d r.gr r.eps r.st r.age r.lift r.saf))
  | 0, i, h, f + 1, _ => by
    rw [L10_0, decide_eq_false (by simp; omega), cnd_f, List.drop_of_length_le (by omega), ref_tail, List.length_map]; rfl
  | k + 1, i, h, f + 1, hf => by
    have hi : i < r.phs.length := by omega
    rw [L10_0, decide_eq_true (by simp; omega), cnd_t, decide_eq_true (by omega), cnd_t, show (((i : Nat) : Int)).toNat = i by omega, phs_at hi]
    repeat with_reducible first | refine tt sh_ptr ?_ | refine tt sh_fptr ?_ | refine tt w2 ?_ | refine tt w3 ?_ | refine tt w8 ?_ | refine tt w9 ?_ | refine tt wf ?_ | refine tt wg ?_ | refine tt wh ?_ | refine tt wi ?_ | refine tt wj ?_ | refine tt wk ?_ | refine tt wl ?_ | refine tt wn ?_ | refine tt c_ort ?_ | refine tt c_nt ?_ | refine tt c_nf ?_ | refine tt (cnd_t _ _) ?_ | refine tt (cnd_f _ _) ?_ | refine tt w6 ?_ | refine tt w4 ?_ | refine tt w5 ?_ | refine tt w7 ?_ | refine tt wm ?_ | refine tt wo ?_ | refine tt wx ?_ | refine tt nil_ptr ?_ | refine tt len_lst ?_ | refine tt len_zsl ?_
    refine Eq.trans (pl_bool (s17 d r.phs[i] (ha _ (List.getElem_mem _)))) ?_
    rw [List.drop_eq_getElem_cons hi, List.any_cons]
    change cnd (badX r.phs[i]) _ _ = _
    cases badX r.phs[i]
    · rw [cnd_f, Bool.false_or, show IntKind.wrap .i64 (((i : Nat) : Int) + 1) = ((i + 1 : Nat) : Int) by rw [i64w]; omega]
      exact ref_go d r hl ha k (i + 1) (by omega) f (by omega)
    · rfl
theorem s10 (d : Nat) (r : Rul) (hl : r.phs.length ≤ 100) (ha : ∀ p ∈ r.phs, p.ps.length ≤ 140737488355328) : pcall M (d + 11) 10 [rl r] = some (.int .i64 (wrongX r)) := told (q10 (d + 10) _ _ _ _ _ _ _ _ _) (by
  unfold wrongX
  rw [List.length_map]
  by_cases h1 : r.phs.length < 1
  · rw [decide_eq_true (show ((r.phs.length : Nat) : Int) < 1 by omega), cnd_t, if_pos (.inl h1)]
  rw [decide_eq_false (show ¬ ((r.phs.length : Nat) : Int) < 1 by omega), cnd_f]
  by_cases h2 : r.phs.length > 4
  · rw [decide_eq_true (show ((r.phs.length : Nat) : Int) > 4 by omega), cnd_t, if_pos (.inr h2)]
  rw [decide_eq_false (show ¬ ((r.phs.length : Nat) : Int) > 4 by omega), cnd_f, if_neg (by omega)]
  have := ref_go d r hl ha r.phs.length 0 (by omega) 10000000000000000000 (by omega)
  rw [List.drop_zero] at this
  exact this)
end Go.Proofs.Ytffiilnmfmkpmaa.AE

namespace Go.Proofs.Ytffiilnmfmkpmaa.AE
set_option linter.unusedVariables false
set_option linter.unusedSimpArgs false
set_option linter.constructorNameAsVariable false
open Go Go.Proofs.Ytffiilnmfmkpmaa.Geo
attribute [local irreducible] pcall C0
set_option maxRecDepth 100000
def limX (r : Rul) : Prop := (1 ≤ r.n ∧ r.n ≤ 50) ∧ (1 ≤ r.d ∧ r.d ≤ 50) ∧ (1 ≤ r.gr ∧ r.gr ≤ 50)
instance (r : Rul) : Decidable (limX r) := by unfold limX; infer_instance
theorem limI (d : Nat) (r : Rul) : pcall M (d + 2) 27 [.fptr (rl r) 0] = some (.bool (decide (limX r))) := told (r27 C0 (d + 1) .nilp _ _ _ _ _ _ _ _ _) (by
  refine Eq.trans (pl_bool (s24 d _ _ _)) ?_
  by_cases h1 : 1 ≤ (if r.gr < (if r.d < r.n then r.d else r.n) then r.gr else (if r.d < r.n then r.d else r.n)) ∧ (if r.gr < (if r.d < r.n then r.d else r.n) then r.gr else (if r.d < r.n then r.d else r.n)) ≤ 50
  · rw [decide_eq_true h1, cnd_t]
    refine Eq.trans (pl_bool (s24 d _ _ _)) ?_
    congr 2; rw [decide_eq_decide]; unfold limX; omega
  · rw [decide_eq_false h1, cnd_f, decide_eq_false (by unfold limX; omega)])
theorem s12 (d : Nat) (r : Rul) (hl : r.phs.length ≤ 100) (ha : ∀ p ∈ r.phs, p.ps.length ≤ 140737488355328) : pcall M (d + 17) 12 [rl r] = some (.int .i64 (wrongX r)) := told (r12 C0 (d + 16) _ _ _ _ _ _ _ _ _) (by
  have W := s24 (d + 15)
  have V := s28 (d + 15)
  refine Eq.trans (pl_bool (W _ _ _)) ?_
  unfold wrongX
  rw [List.length_map]
  by_cases h1 : (1 : Int) ≤ ((r.phs.length : Nat) : Int) ∧ ((r.phs.length : Nat) : Int) ≤ 4
  rotate_left
  · rw [decide_eq_false h1, if_pos (by omega)]; rfl
  rw [decide_eq_true h1, if_neg (by omega)]
  repeat with_reducible first | refine tt sh_ptr ?_ | refine tt sh_fptr ?_ | refine tt w2 ?_ | refine tt w3 ?_ | refine tt w8 ?_ | refine tt w9 ?_ | refine tt wf ?_ | refine tt wg ?_ | refine tt wh ?_ | refine tt wi ?_ | refine tt wj ?_ | refine tt wk ?_ | refine tt wl ?_ | refine tt wn ?_ | refine tt c_ort ?_ | refine tt c_nt ?_ | refine tt c_nf ?_ | refine tt (cnd_t _ _) ?_ | refine tt (cnd_f _ _) ?_ | refine tt w6 ?_ | refine tt w4 ?_ | refine tt w5 ?_ | refine tt w7 ?_ | refine tt wm ?_ | refine tt wo ?_ | refine tt wx ?_ | refine tt nil_ptr ?_ | refine tt len_lst ?_ | refine tt len_zsl ?_
  refine Eq.trans (pl_bool (anyI (d + 14) badX r.phs hl (fun p hp => s26 d p (ha p hp)))) ?_
  cases r.phs.any badX
  rotate_left
  · rfl
  rw [cnd_f, cond_false]
  refine Eq.trans (pl_bool (limI (d + 14) r)) ?_
  unfold wrongT
  by_cases h2 : limX r
  rotate_left
  · rw [decide_eq_false h2, if_pos (show ¬ ((1 ≤ r.n ∧ r.n ≤ 50) ∧ (1 ≤ r.d ∧ r.d ≤ 50) ∧ (1 ≤ r.gr ∧ r.gr ≤ 50)) from h2)]; rfl
  rw [decide_eq_true h2, if_neg (fun h => h (show ((1 ≤ r.n ∧ r.n ≤ 50) ∧ (1 ≤ r.d ∧ r.d ≤ 50) ∧ (1 ≤ r.gr ∧ r.gr ≤ 50)) from h2))]
  repeat with_reducible first | refine tt sh_ptr ?_ | refine tt sh_fptr ?_ | refine tt w2 ?_ | refine tt w3 ?_ | refine tt w8 ?_ | refine tt w9 ?_ | refine tt wf ?_ | refine tt wg ?_ | refine tt wh ?_ | refine tt wi ?_ | refine tt wj ?_ | refine tt wk ?_ | refine tt wl ?_ | refine tt wn ?_ | refine tt c_ort ?_ | refine tt c_nt ?_ | refine tt c_nf ?_ | refine tt (cnd_t _ _) ?_ | refine tt (cnd_f _ _) ?_ | refine tt w6 ?_ | refine tt w4 ?_ | refine tt w5 ?_ | refine tt w7 ?_ | refine tt wm ?_ | refine tt wo ?_ | refine tt wx ?_ | refine tt nil_ptr ?_ | refine tt len_lst ?_ | refine tt len_zsl ?_
  refine Eq.trans (pl_bool (V _ _ _)) ?_
  by_cases h4 : 0 ≤ r.eps ∧ r.eps ≤ 1024
  rotate_left
  · rw [decide_eq_false h4, if_pos h4]; rfl
  rw [decide_eq_true h4, if_neg (fun h => h h4)]
  repeat with_reducible first | refine tt sh_ptr ?_ | refine tt sh_fptr ?_ | refine tt w2 ?_ | refine tt w3 ?_ | refine tt w8 ?_ | refine tt w9 ?_ | refine tt wf ?_ | refine tt wg ?_ | refine tt wh ?_ | refine tt wi ?_ | refine tt wj ?_ | refine tt wk ?_ | refine tt wl ?_ | refine tt wn ?_ | refine tt c_ort ?_ | refine tt c_nt ?_ | refine tt c_nf ?_ | refine tt (cnd_t _ _) ?_ | refine tt (cnd_f _ _) ?_ | refine tt w6 ?_ | refine tt w4 ?_ | refine tt w5 ?_ | refine tt w7 ?_ | refine tt wm ?_ | refine tt wo ?_ | refine tt wx ?_ | refine tt nil_ptr ?_ | refine tt len_lst ?_ | refine tt len_zsl ?_
  refine Eq.trans (pl_bool (V _ _ _)) ?_
  by_cases h5 : 1 ≤ r.st ∧ r.st ≤ 65536
  rotate_left
  · rw [decide_eq_false h5, if_pos h5]; rfl
  rw [decide_eq_true h5, if_neg (fun h => h h5)]
  repeat with_reducible first | refine tt sh_ptr ?_ | refine tt sh_fptr ?_ | refine tt w2 ?_ | refine tt w3 ?_ | refine tt w8 ?_ | refine tt w9 ?_ | refine tt wf ?_ | refine tt wg ?_ | refine tt wh ?_ | refine tt wi ?_ | refine tt wj ?_ | refine tt wk ?_ | refine tt wl ?_ | refine tt wn ?_ | refine tt c_ort ?_ | refine tt c_nt ?_ | refine tt c_nf ?_ | refine tt (cnd_t _ _) ?_ | refine tt (cnd_f _ _) ?_ | refine tt w6 ?_ | refine tt w4 ?_ | refine tt w5 ?_ | refine tt w7 ?_ | refine tt wm ?_ | refine tt wo ?_ | refine tt wx ?_ | refine tt nil_ptr ?_ | refine tt len_lst ?_ | refine tt len_zsl ?_
  refine Eq.trans (pl_bool (W _ _ _)) ?_
  by_cases h6 : 1 ≤ r.age ∧ r.age ≤ 50
  rotate_left
  · rw [decide_eq_false h6, if_pos h6]; rfl
  rw [decide_eq_true h6, if_neg (fun h => h h6)]
  repeat with_reducible first | refine tt sh_ptr ?_ | refine tt sh_fptr ?_ | refine tt w2 ?_ | refine tt w3 ?_ | refine tt w8 ?_ | refine tt w9 ?_ | refine tt wf ?_ | refine tt wg ?_ | refine tt wh ?_ | refine tt wi ?_ | refine tt wj ?_ | refine tt wk ?_ | refine tt wl ?_ | refine tt wn ?_ | refine tt c_ort ?_ | refine tt c_nt ?_ | refine tt c_nf ?_ | refine tt (cnd_t _ _) ?_ | refine tt (cnd_f _ _) ?_ | refine tt w6 ?_ | refine tt w4 ?_ | refine tt w5 ?_ | refine tt w7 ?_ | refine tt wm ?_ | refine tt wo ?_ | refine tt wx ?_ | refine tt nil_ptr ?_ | refine tt len_lst ?_ | refine tt len_zsl ?_
  refine Eq.trans (pl_bool (V _ _ _)) ?_
  by_cases h7 : 1 ≤ r.lift ∧ r.lift ≤ 1073741824
  rotate_left
  · rw [decide_eq_false h7, if_pos h7]; rfl
  rw [decide_eq_true h7, if_neg (fun h => h h7)]
  repeat with_reducible first | refine tt sh_ptr ?_ | refine tt sh_fptr ?_ | refine tt w2 ?_ | refine tt w3 ?_ | refine tt w8 ?_ | refine tt w9 ?_ | refine tt wf ?_ | refine tt wg ?_ | refine tt wh ?_ | refine tt wi ?_ | refine tt wj ?_ | refine tt wk ?_ | refine tt wl ?_ | refine tt wn ?_ | refine tt c_ort ?_ | refine tt c_nt ?_ | refine tt c_nf ?_ | refine tt (cnd_t _ _) ?_ | refine tt (cnd_f _ _) ?_ | refine tt w6 ?_ | refine tt w4 ?_ | refine tt w5 ?_ | refine tt w7 ?_ | refine tt wm ?_ | refine tt wo ?_ | refine tt wx ?_ | refine tt nil_ptr ?_ | refine tt len_lst ?_ | refine tt len_zsl ?_
  refine Eq.trans (pl_bool (W _ _ _)) ?_
  by_cases h8 : 0 ≤ r.saf ∧ r.saf ≤ ((r.phs.length : Nat) : Int)
  rotate_left
  · rw [decide_eq_false h8, if_pos h8]; rfl
  rw [decide_eq_true h8, if_neg (fun h => h h8)]
  rfl)
theorem s13 (d : Nat) (r : Rul) (hl : r.phs.length ≤ 100) (ha : ∀ p ∈ r.phs, p.ps.length ≤ 140737488355328) : pcall M (d + 18) 13 [rl r] = some (.bool (wrongX r == 0)) := told (r13 C0 (d + 17) _ _ _ _ _ _ _ _ _) (by
  exact pl_int (s12 d r hl ha))
def windowX (r : Rul) : Int := if wrongX r = 0 then r.n + r.d + 2 else 0
theorem wrong_lim {r : Rul} (h : wrongX r = 0) : limX r ∧ 1 ≤ r.phs.length ∧ r.phs.length ≤ 4 := by
  unfold wrongX at h
  split at h
  · omega
  · rename_i h1
    cases hb : r.phs.any badX
    · rw [hb, cond_false] at h
      unfold wrongT at h
      split at h
      · omega
      · rename_i h2
        exact ⟨Decidable.not_not.mp h2, by omega, by omega⟩
    · rw [hb, cond_true] at h; omega
theorem s14 (d : Nat) (r : Rul) (hl : r.phs.length ≤ 100) (ha : ∀ p ∈ r.phs, p.ps.length ≤ 140737488355328) : pcall M (d + 19) 14 [rl r] = some (.int .i64 (windowX r)) := told (r14 C0 (d + 18) _ _ _ _ _ _ _ _ _) (by
  refine Eq.trans (pl_bool (s13 d r hl ha)) ?_
  unfold windowX
  by_cases h : wrongX r = 0
  · have k := (wrong_lim h).1
    unfold limX at k
    rw [beq_iff_eq.mpr h, if_pos h]
    repeat with_reducible first | refine tt sh_ptr ?_ | refine tt sh_fptr ?_ | refine tt w2 ?_ | refine tt w3 ?_ | refine tt w8 ?_ | refine tt w9 ?_ | refine tt wf ?_ | refine tt wg ?_ | refine tt wh ?_ | refine tt wi ?_ | refine tt wj ?_ | refine tt wk ?_ | refine tt wl ?_ | refine tt wn ?_ | refine tt c_ort ?_ | refine tt c_nt ?_ | refine tt c_nf ?_ | refine tt (cnd_t _ _) ?_ | refine tt (cnd_f _ _) ?_ | refine tt w6 ?_ | refine tt w4 ?_ | refine tt w5 ?_ | refine tt w7 ?_ | refine tt wm ?_ | refine tt wo ?_ | refine tt wx ?_ | refine tt nil_ptr ?_ | refine tt len_lst ?_ | refine tt len_zsl ?_
    rw [i64_small (n := r.n + r.d) (by omega) (by omega), i64_small (by omega) (by omega)]
  · rw [beq_eq_false_iff_ne.mpr h, if_neg h]; rfl)
end Go.Proofs.Ytffiilnmfmkpmaa.AE

namespace Go.Proofs.Ytffiilnmfmkpmaa.AE
set_option linter.unusedVariables false
set_option linter.unusedSimpArgs false
set_option linter.constructorNameAsVariable false
open Go Go.Proofs.Ytffiilnmfmkpmaa.Geo
abbrev Bx := Pt × Pt
abbrev bx (b : Bx) : AV := .agg [.int .i64 b.1.1, .int .i64 b.1.2, .int .i64 b.2.1, .int .i64 b.2.2]
end Go.Proofs.Ytffiilnmfmkpmaa.AE

namespace Go.Proofs.Ytffiilnmfmkpmaa.AE
set_option linter.unusedVariables false
set_option linter.unusedSimpArgs false
set_option linter.constructorNameAsVariable false
open Go Go.Proofs.Ytffiilnmfmkpmaa.Geo
theorem drop_vv {ps : List Pt} {i : Nat} (h : i < ps.length) : ps.drop i = vv ps i :: ps.drop (i + 1) := by
  rw [List.drop_eq_getElem_cons h]; unfold vv; rw [List.getD_eq_getElem?_getD, List.getElem?_eq_getElem h]; rfl
end Go.Proofs.Ytffiilnmfmkpmaa.AE

namespace Go.Proofs.Ytffiilnmfmkpmaa.AE
set_option linter.unusedVariables false
set_option linter.unusedSimpArgs false
set_option linter.constructorNameAsVariable false
open Go Go.Proofs.Ytffiilnmfmkpmaa.Geo
theorem pt_bne (p q : Pt) : (xor true ((p.1 == q.1) && ((p.2 == q.2) && true))) = !decide (p = q) := by
  have := pt_beq p q
  rw [← this]; cases ((p.1 == q.1) && ((p.2 == q.2) && true)) <;> rfl
theorem same0 (d : Nat) (ps qs : List Pt) (hl : ps.length ≤ 140737488355328) (he : ps.length = qs.length) : ∀ (m i f : Nat), i + m = ps.length → m < f →
    L29_0 d (ps.map pt) (qs.map pt) f (i : Nat) = some (.bool (decide (ps.drop i = qs.drop i))) := by
  intro m
  induction m with
  | zero =>
    intro i f hi hf
    obtain ⟨f, rfl⟩ : ∃ g, f = g + 1 := ⟨f - 1, by omega⟩
    rw [L29_0, decide_eq_false (by rw [pmap_len]; omega), cnd_f, List.drop_eq_nil_of_le (by omega), List.drop_eq_nil_of_le (by omega)]; rfl
  | succ m ih =>
    intro i f hi hf
    obtain ⟨f, rfl⟩ : ∃ g, f = g + 1 := ⟨f - 1, by omega⟩
    rw [L29_0, decide_eq_true (by rw [pmap_len]; omega), cnd_t, decide_eq_true (by omega), cnd_t, vv_at (by omega)]
    refine Eq.trans (pl_agg (by rfl) (by rfl)) ?_; refine Eq.trans (pl_int (by rfl)) ?_; refine Eq.trans (pl_int (by rfl)) ?_
    rw [cnd_t, vv_at (show i < qs.length by omega)]
    refine Eq.trans (pl_agg (by rfl) (by rfl)) ?_; refine Eq.trans (pl_int (by rfl)) ?_; refine Eq.trans (pl_int (by rfl)) ?_
    rw [pt_bne, drop_vv (show i < ps.length by omega), drop_vv (show i < qs.length by omega)]
    by_cases h : vv ps i = vv qs i
    · rw [decide_eq_true h]
      refine Eq.trans (pl_f (by rfl)) ?_
      rw [show IntKind.wrap .i64 ((i : Int) + 1) = ((i + 1 : Nat) : Int) by rw [IntKind.wrap_i64]; omega, ih (i + 1) f (by omega) (by omega), h]
      simp
    · rw [decide_eq_false h]
      refine Eq.trans (pl_len (by rfl)) ?_
      rw [decide_eq_false (by simp [h])]; rfl
theorem s29 (d : Nat) (ps qs : List Pt) (hl : ps.length ≤ 140737488355328) (hq : qs.length ≤ 140737488355328) : pcall M (d + 1) 29 [.lst (ps.map pt), .lst (qs.map pt)] = some (.bool (decide (ps = qs))) := told (q29 d _ _) (by
  rw [pmap_len, pmap_len]
  by_cases h : ps.length = qs.length
  · rw [h, show (((qs.length : Nat) : Int) != ((qs.length : Nat) : Int)) = false by simp, cnd_f]
    exact same0 d ps qs hl h ps.length 0 10000000000000000000 (by omega) (by omega)
  · rw [show (((ps.length : Nat) : Int) != ((qs.length : Nat) : Int)) = true by simp; omega, cnd_t, decide_eq_false (fun e => h (by rw [e]))])
end Go.Proofs.Ytffiilnmfmkpmaa.AE

namespace Go.Proofs.Ytffiilnmfmkpmaa.AE
set_option linter.unusedVariables false
set_option linter.unusedSimpArgs false
set_option linter.constructorNameAsVariable false
open Go Go.Proofs.Ytffiilnmfmkpmaa.Geo
attribute [local irreducible] pcall C0
set_option maxRecDepth 100000
theorem clonePQ (d : Nat) : emptyQ (pcall M (d + 1)) 23 = some (.lst []) := by
  unfold emptyQ
  rw [show pcall M (d + 1) 23 [.zsl true] = some (.lst []) by kernel_rfl, show pcall M (d + 1) 23 [.emp] = some (.lst []) by kernel_rfl]
def zPh : Phs := ⟨[], 0, 0, 0, 0⟩
def atX (l : List Phs) (i : Int) : Phs := if 0 ≤ i then l.getD i.toNat zPh else zPh
theorem ix_phs (H : Heap) {l : List Phs} {i : Nat} (h : i < l.length) : aop noCall (evO []) H (.ixAS .any 5 (.v (.lst (l.map phA))) (.v (.int .i64 (i : Nat)))) = some (.fptr (phA l[i]) 0, H) := by
  have e : (l.map phA)[((i : Nat) : Int).toNat]? = some (phA l[i]) := by rw [show ((i : Nat) : Int).toNat = i by omega]; exact phs_at h
  simp only [aop, evO, aInt, aIx]
  rw [if_pos (by omega), e]
  rfl
theorem all_ptE (ps : List Pt) : (ps.map pt).all (elOk E39) = true := by
  rw [List.all_eq_true]; intro x hx; obtain ⟨p, _, rfl⟩ := List.mem_map.mp hx; rfl
theorem app_row {H : Heap} {id : Nat} {ps : List Pt} (h : hget H id = some ⟨E39, []⟩) (hp : ps.length ≤ 1000) : aop noCall (evO []) H (.app E39 (.v (.slc id 0 0)) (.v (.lst (ps.map pt)))) = some (.slc H.length 0 ps.length, H.set id none ++ [some ⟨E39, ps.map pt⟩]) := by
  have b : (ps.map pt).length = ps.length := List.length_map _
  have c := all_ptE ps
  have hb : (E39).bytes = 16 := rfl
  simp only [aop, evO, elsOf, aApp]
  rw [h]
  simp only
  rw [if_pos ⟨rfl, by rw [b, hb]; omega, by rw [b]; omega, trivial, trivial, c⟩, b]
  simp
theorem phaseI (d : Nat) (r : Rul) (i : Int) (hl : r.phs.length ≤ 100) (ha : ∀ p ∈ r.phs, p.ps.length ≤ 1000) : pcall M (d + 2) 11 [rl r, .int .i64 i] = some (.tup [phA (atX r.phs i), .bool (decide (0 ≤ i ∧ i < (r.phs.length : Nat)))]) := told (r11 C0 (d + 1) _ _ _ _ _ _ _ _ _ _) (by
  refine Eq.trans (hop_eq (by rfl)) ?_; refine Eq.trans (hop_eq (by rfl)) ?_
  by_cases h0 : i < 0
  · rw [decide_eq_true h0, cnd_t, decide_eq_false (by omega)]
    unfold atX
    rw [if_neg (by omega)]
    refine Eq.trans (hop_eq (by rfl)) ?_; refine Eq.trans (pl_agg (by rfl) (by rfl)) ?_; refine Eq.trans (pl_any (by rfl)) ?_; refine Eq.trans (pl_int (by rfl)) ?_; refine Eq.trans (pl_int (by rfl)) ?_; refine Eq.trans (pl_int (by rfl)) ?_; refine Eq.trans (pl_int (by rfl)) ?_; refine Eq.trans (hop_eq (by rfl)) ?_; refine Eq.trans (hop_eq (by rfl)) ?_
    rw [C0_fin]; rfl
  rw [decide_eq_false h0, cnd_f]
  refine Eq.trans (hop_eq (by rfl)) ?_; refine Eq.trans (hop_eq (by rfl)) ?_; refine Eq.trans (hop_eq (by rfl)) ?_; refine Eq.trans (pl_int (by rfl)) ?_
  rw [List.length_map]
  by_cases h1 : i ≥ ((r.phs.length : Nat) : Int)
  · rw [decide_eq_true h1, cnd_t, decide_eq_false (by omega)]
    unfold atX
    rw [if_pos (by omega), List.getD_eq_getElem?_getD, List.getElem?_eq_none (by omega)]
    refine Eq.trans (hop_eq (by rfl)) ?_; refine Eq.trans (pl_agg (by rfl) (by rfl)) ?_; refine Eq.trans (pl_any (by rfl)) ?_; refine Eq.trans (pl_int (by rfl)) ?_; refine Eq.trans (pl_int (by rfl)) ?_; refine Eq.trans (pl_int (by rfl)) ?_; refine Eq.trans (pl_int (by rfl)) ?_; refine Eq.trans (hop_eq (by rfl)) ?_; refine Eq.trans (hop_eq (by rfl)) ?_
    rw [C0_fin]; rfl
  rw [decide_eq_false h1, cnd_f, decide_eq_true (by omega)]
  obtain ⟨k, rfl⟩ : ∃ k : Nat, i = (k : Nat) := ⟨i.toNat, by omega⟩
  have hk : k < r.phs.length := by omega
  have ea : atX r.phs (k : Nat) = r.phs[k] := by
    unfold atX
    rw [if_pos (by omega), List.getD_eq_getElem?_getD, show ((k : Nat) : Int).toNat = k by omega, List.getElem?_eq_getElem hk]; rfl
  rw [ea]
  have hp := ha _ (List.getElem_mem hk)
  refine Eq.trans (hop_eq (by rfl)) ?_; refine Eq.trans (hop_eq (by rfl)) ?_
  refine Eq.trans (hop_eq (ix_phs _ hk)) ?_
  generalize r.phs[k] = p at *
  obtain ⟨ps, g, v, m, u⟩ := p
  refine Eq.trans (hop_eq (by rfl)) ?_; refine Eq.trans (pl_agg (by rfl) (by rfl)) ?_; refine Eq.trans (pl_any (by rfl)) ?_; refine Eq.trans (pl_int (by rfl)) ?_; refine Eq.trans (pl_int (by rfl)) ?_; refine Eq.trans (pl_int (by rfl)) ?_; refine Eq.trans (pl_int (by rfl)) ?_; refine Eq.trans (hop_eq (by rfl)) ?_; refine Eq.trans (hop_eq (by rfl)) ?_; refine Eq.trans (hop_eq (by rfl)) ?_
  cases ps with
  | nil =>
    refine Eq.trans (pl_bool (n := true) (by rfl)) ?_
    rw [cnd_t]
    refine Eq.trans (pl_same (clonePQ d)) ?_
    refine Eq.trans (hop_eq (by rfl)) ?_; refine Eq.trans (hop_eq (by rfl)) ?_; refine Eq.trans (hop_eq (by rfl)) ?_; refine Eq.trans (pl_agg (by rfl) (by rfl)) ?_; refine Eq.trans (pl_any (by rfl)) ?_; refine Eq.trans (pl_int (by rfl)) ?_; refine Eq.trans (pl_int (by rfl)) ?_; refine Eq.trans (pl_int (by rfl)) ?_; refine Eq.trans (pl_int (by rfl)) ?_; refine Eq.trans (hop_eq (by rfl)) ?_; refine Eq.trans (hop_eq (by rfl)) ?_
    rw [C0_fin]; rfl
  | cons q l =>
    refine Eq.trans (pl_bool (n := false) (by rfl)) ?_
    rw [cnd_f]
    refine Eq.trans (hop_eq (by rfl)) ?_; refine Eq.trans (pl_bool (by rfl)) ?_
    refine Eq.trans (pl_f (by rfl)) ?_
    refine Eq.trans (hop_eq (by rfl)) ?_
    generalize hps : q :: l = ps at *
    refine Eq.trans (hop_eq (app_row (by rfl) hp)) ?_
    refine Eq.trans (hop_eq (by rfl)) ?_; refine Eq.trans (hop_eq (by rfl)) ?_; refine Eq.trans (hop_eq (by rfl)) ?_; refine Eq.trans (pl_agg (by rfl) (by rfl)) ?_; refine Eq.trans (pl_any (by rfl)) ?_; refine Eq.trans (pl_int (by rfl)) ?_; refine Eq.trans (pl_int (by rfl)) ?_; refine Eq.trans (pl_int (by rfl)) ?_; refine Eq.trans (pl_int (by rfl)) ?_; refine Eq.trans (hop_eq (by rfl)) ?_; refine Eq.trans (hop_eq (by rfl)) ?_
    rw [C0_fin]
    refine Eq.trans (congrArg (fun x => some (AV.tup [AV.agg [x, .int .i64 g, .int .i64 v, .int .i64 m, .int .i64 u], .bool true])) (snap_own (k := 8) (e := E39) (v := .slc _ 0 ps.length) (l := ps.map pt) (.inr ⟨_, by rw [List.length_map], by rfl⟩) fun x hx => by
      obtain ⟨n, _, rfl⟩ := List.mem_map.mp hx
      rfl)) rfl)
theorem samePhI (d : Nat) (p q : Phs) (hp : p.ps.length ≤ 140737488355328) (hq : q.ps.length ≤ 140737488355328) : pcall M (d + 2) 15 [phA p, phA q] = some (.bool (decide (p.ps = q.ps) && (p.g == q.g && (p.v == q.v && (p.m == q.m && p.u == q.u))))) := told (r15 C0 (d + 1) _ _ _ _ _ _ _ _ _ _) (by
  refine Eq.trans (pl_bool (s29 d p.ps q.ps hp hq)) ?_
  cases decide (p.ps = q.ps)
  · rfl
  · rw [cnd_t, Bool.true_and]
    cases p.g == q.g
    · rfl
    · rw [cnd_t, Bool.true_and]
      cases p.v == q.v
      · rfl
      · rw [cnd_t, Bool.true_and]
        cases p.m == q.m
        · rfl
        · rfl)
theorem samePhR (d : Nat) (p : Phs) (hp : p.ps.length ≤ 140737488355328) : pcall M (d + 2) 15 [phA p, phA p] = some (.bool true) := by
  rw [samePhI d p p hp hp]; simp
end Go.Proofs.Ytffiilnmfmkpmaa.AE

namespace Go.Proofs.Ytffiilnmfmkpmaa.AE
set_option linter.unusedVariables false
set_option linter.unusedSimpArgs false
set_option linter.constructorNameAsVariable false
open Go

noncomputable section
variable {α : Type}
def foN (m : Nat) (K : Nat → α) : α := Nat.rec (motive := fun _ => α) (K 0) (fun p _ => K (Nat.succ p)) m
theorem foN_eq (m : Nat) (K : Nat → α) : foN m K = K m := by cases m <;> rfl
def foI (n : Int) (K : Int → α) : α := match n with
  | .ofNat m => foN m fun m => K (.ofNat m)
  | .negSucc m => foN m fun m => K (.negSucc m)
theorem foI_eq (n : Int) (K : Int → α) : foI n K = K n := by cases n <;> simp only [foI, foN_eq]
def foB (b : Bool) (K : Bool → α) : α := match b with
  | true => K true
  | false => K false
theorem foB_eq (b : Bool) (K : Bool → α) : foB b K = K b := by cases b <;> rfl
def foY (b : UInt8) (K : UInt8 → α) : α := foN b.toNat fun n => K (UInt8.ofNat n)
theorem foY_eq (b : UInt8) (K : UInt8 → α) : foY b K = K b := by unfold foY; rw [foN_eq]; congr 1; simp
/-- A list's elements, one by one. -/
def foL {β : Type} (f : β → (β → α) → α) : List β → (List β → α) → α
  | [], K => K []
  | x :: l, K => f x fun x => foL f l fun l => K (x :: l)
theorem foL_eq {β : Type} {f : β → (β → α) → α} (h : ∀ x K, f x K = K x) : ∀ (l : List β) (K : List β → α), foL f l K = K l
  | [], K => rfl
  | x :: l, K => by simp only [foL, h, foL_eq h l]
def foS {β : Type} : List β → (List β → α) → α
  | [], K => K []
  | x :: l, K => foS l fun l => K (x :: l)
theorem foS_eq {β : Type} : ∀ (l : List β) (K : List β → α), foS l K = K l
  | [], K => rfl
  | x :: l, K => by simp only [foS, foS_eq l]
def foV : Nat → AV → (AV → α) → α
  | 0, v, K => K v
  | d + 1, v, K => match v with
    | .int k n => foI n fun n => K (.int k n)
    | .bool b => foB b fun b => K (.bool b)
    | .str s => foL foY s fun s => K (.str s)
    | .zsl b => foB b fun b => K (.zsl b)
    | .ptr a b c => foN a fun a => foN b fun b => foN c fun c => K (.ptr a b c)
    | .slc a b c => foN a fun a => foN b fun b => foN c fun c => K (.slc a b c)
    | .lst l => foL (foV d) l fun l => K (.lst l)
    | .fptr v j => foV d v fun v => foN j fun j => K (.fptr v j)
    | .agg l => foL (foV d) l fun l => K (.agg l)
    | .tup l => foL (foV d) l fun l => K (.tup l)
    | .fn g a b => foN g fun g => foL (foV d) a fun a => foL (foV d) b fun b => K (.fn g a b)
    | v => K v
theorem foV_eq : ∀ (d : Nat) (v : AV) (K : AV → α), foV d v K = K v
  | 0, v, K => rfl
  | d + 1, v, K => by
    have ih : ∀ (v : AV) (K : AV → α), foV d v K = K v := foV_eq d
    cases v <;> simp only [foV, foI_eq, foB_eq, foN_eq, foL_eq foY_eq, foL_eq ih, ih]
def foBlk (b : Option Blk) (K : Option Blk → α) : α := match b with
  | none => K none
  | some ⟨e, els⟩ => foL (foV 2) els fun els => K (some ⟨e, els⟩)
theorem foBlk_eq (b : Option Blk) (K : Option Blk → α) : foBlk b K = K b := by
  match b with
  | none => rfl
  | some ⟨e, els⟩ => simp only [foBlk, foL_eq (foV_eq 2)]
def foH (H : Heap) (K : Heap → α) : α := foL foBlk H K
theorem foH_eq (H : Heap) (K : Heap → α) : foH H K = K H := foL_eq foBlk_eq H K

/-- Operations that may change memory. -/
def wrH : IOp → Bool
  | .box .. | .alloc .. | .mkrow .. | .store .. | .s2b .. | .mkslice .. | .app .. => true
  | _ => false
def foW (o : IOp) (H : Heap) (K : Heap → α) : α := match wrH o with
  | true => foH H K
  | false => K H
theorem foW_eq (o : IOp) (H : Heap) (K : Heap → α) : foW o H K = K H := by unfold foW; cases wrH o <;> simp only [foH_eq]

/-- How deep a value is told after an operation. -/
def depV : IOp → Nat
  | .call .. => 2
  | _ => 1
/-- A list with another element. -/
def foP : List AV → Nat → AV → (List AV → α) → α
  | [], _, _, K => K []
  | x :: l, 0, v, K => K (v :: l)
  | x :: l, n + 1, v, K => foP l n v fun l => K (x :: l)
theorem foP_eq : ∀ (l : List AV) (n : Nat) (v : AV) (K : List AV → α), foP l n v K = K (l.set n v)
  | [], n, v, K => by cases n <;> rfl
  | x :: l, 0, v, K => rfl
  | x :: l, n + 1, v, K => by simp only [foP, foP_eq l, List.set_cons_succ]
def foO (env : List AV) (d : Option Nat) (v : AV) (K : List AV → α) : α := match d with
  | some d => foP env d v K
  | none => K env
theorem foO_eq (env : List AV) (d : Option Nat) (v : AV) (K : List AV → α) : foO env d v K = K (put env d v) := by cases d <;> simp only [foO, put, foP_eq]
def runOpsF (call : CallF) : List IOper → List AV → Heap → Option St
  | [], env, H => some ⟨env, H⟩
  | o :: l, env, H => match want env o.guard with
    | some true => match aop call (evO env) H o.op with
      | some (v, H) => foV (depV o.op) v fun v => foW o.op H fun H => foO env o.dst v fun env => runOpsF call l env H
      | none => none
    | some false => foO env o.dst (.tup []) fun env => runOpsF call l env H
    | none => none
theorem runOpsF_eq (call : CallF) : ∀ (l : List IOper) (env : List AV) (H : Heap), runOpsF call l env H = runOps call l ⟨env, H⟩
  | [], env, H => rfl
  | o :: l, env, H => by
    simp only [runOpsF, runOps, foV_eq, foW_eq, foO_eq, runOpsF_eq call l]
    rfl
def runOpsDF (call : CallF) : List (IOper × List Nat) → Nat → List (Nat × Nat) → List AV → Heap → Option St
  | [], _, _, env, H => some ⟨env, H⟩
  | (o, chk) :: l, i, log, env, H => match want env o.guard with
    | some true =>
      foS (touch (evO env) H o.op) fun tc =>
      if log.all (fun p => !(chk.contains p.1) || !(tc.contains p.2)) then
        match aop call (evO env) H o.op with
        | some (v, H) => foV (depV o.op) v fun v => foW o.op H fun H => foO env o.dst v fun env => foN i fun i => foS (log ++ tc.map fun id => (i, id)) fun log => runOpsDF call l (i + 1) log env H
        | none => none
      else none
    | some false => foO env o.dst (.tup []) fun env => runOpsDF call l (i + 1) log env H
    | none => none
theorem runOpsDF_eq (call : CallF) : ∀ (l : List (IOper × List Nat)) (i : Nat) (log : List (Nat × Nat)) (env : List AV) (H : Heap), runOpsDF call l i log env H = runOpsD call l i log ⟨env, H⟩
  | [], _, _, env, H => rfl
  | (o, chk) :: l, i, log, env, H => by
    simp only [runOpsDF, runOpsD, foV_eq, foW_eq, foS_eq, foO_eq, foN_eq, runOpsDF_eq call l]
    rfl
def execF (call callP : CallF) (fu : Nat) : IC → St → Option (Ex × St)
  | .skip, s => some (.normal, s)
  | .regD ops, s => match s with
    | ⟨env, H⟩ => match runOpsDF callP ops 0 [] env H with
      | some s' => some (.normal, s')
      | none => none
  | .reg ops, s => match s with
    | ⟨env, H⟩ => match runOpsF call ops env H with
      | some s' => some (.normal, s')
      | none => none
  | .seq a b, s => match execF call callP fu a s with
    | some (.normal, s') => execF call callP fu b s'
    | r => r
  | .cond c a b, s => match evO s.env c with
    | .bool t => bif t then execF call callP fu a s else execF call callP fu b s
    | _ => none
  | .block id a, s => match execF call callP fu a s with
    | some (.exit i, s') => if i = id then some (.normal, s') else some (.exit i, s')
    | r => r
  | .loop a, s => iter (execF call callP fu a) fu s
  | .exit id, s => some (.exit id, s)
  | .ret, s => some (.ret, s)
theorem execF_eq (call callP : CallF) (fu : Nat) : ∀ c, execF call callP fu c = exec call callP fu c
  | .skip => by funext s; rfl
  | .regD ops => by funext ⟨env, H⟩; simp only [execF, exec, runOpsDF_eq]; rfl
  | .reg ops => by funext ⟨env, H⟩; simp only [execF, exec, runOpsF_eq]; rfl
  | .seq a b => by funext s; simp only [execF, exec, execF_eq call callP fu a, execF_eq call callP fu b]; rfl
  | .cond c a b => by funext s; simp only [execF, exec, execF_eq call callP fu a, execF_eq call callP fu b]; rfl
  | .block id a => by funext s; simp only [execF, exec, execF_eq call callP fu a]; rfl
  | .loop a => by funext s; simp only [execF, exec, execF_eq call callP fu a]
  | .exit id => by funext s; rfl
  | .ret => by funext s; rfl
def runFnF (call callP : CallF) (fu : Nat) (fn : AFn) (args : List AV) (H : Heap) : Option (AV × Heap) :=
  foL (foV 12) args fun args => foS (args ++ List.replicate (fn.ntmps - args.length) (.tup [])) fun env => match execF call callP fu fn.body ⟨env, H⟩ with
  | some (.normal, s) | some (.ret, s) => match resAll s fn.results with
    | some vs => some (packRes vs, s.H)
    | none => none
  | _ => none
theorem runFnF_eq : runFnF = runFn := by
  funext call callP fu fn args H
  simp only [runFnF, runFn, foL_eq (foV_eq 12), foS_eq, execF_eq]
  rfl
def callIF (M : Mod) (pc : FuncId → List AV → Option AV) : Nat → CallF
  | 0 => callP M pc
  | n + 1 => fun g args H =>
    match M.ext g with
    | some e => extCall e g args H
    | none => if M.inl g then (match emptyR M pc g args with
      | some v => some (v, H)
      | none => match M.code g with
        | some fn => runFnF (callIF M pc n) (callP M pc) M.fu fn args H
        | none => none) else pureCall pc g args H
theorem callIF_eq (M : Mod) (pc : FuncId → List AV → Option AV) : ∀ n, callIF M pc n = callI M pc n
  | 0 => rfl
  | n + 1 => by funext g args H; simp only [callIF, callI, callIF_eq M pc n, runFnF_eq]; rfl
def pcallF (M : Mod) : Nat → FuncId → List AV → Option AV
  | 0 => fun _ _ => none
  | d + 1 => fun g args => match M.code g with
    | none => none
    | some fn => match runFnF (callIF M (pcallF M d) IDEPTH) (callP M (pcallF M d)) M.fu fn args [] with
      | some (v, H') => foV 12 (snap DEPTH H' v) some
      | none => none
theorem pcallF_eq (M : Mod) : ∀ d, pcallF M d = pcall M d
  | 0 => rfl
  | d + 1 => by funext g args; simp only [pcallF, pcall, pcallF_eq M d, runFnF_eq, callIF_eq, foV_eq]; rfl
theorem ran {M : Mod} {d : Nat} {g : FuncId} {args : List AV} {r : AV} (h : pcallF M d g args = some r) : pcall M d g args = some r := by rw [← pcallF_eq]; exact h
end
end Go.Proofs.Ytffiilnmfmkpmaa.AE

namespace Go.Proofs.Ytffiilnmfmkpmaa.AE
set_option maxRecDepth 100000
theorem awake : pcall M 40 8 [] = some (.bool true) := ran (by kernel_rfl)
end Go.Proofs.Ytffiilnmfmkpmaa.AE

namespace Go.Proofs.Ytffiilnmfmkpmaa.AE
set_option linter.unusedVariables false
set_option linter.unusedSimpArgs false
set_option linter.constructorNameAsVariable false
open Go
set_option maxRecDepth 100000
/-- apogee/apogeelaw13.RulesTells -/
theorem r3 (C : Cb) (d : Nat) (a0 : List AV) (a1 a2 a3 a4 a5 a6 a7 a8 a9 : Int) : xcall C M unr d 3 [(.agg [(.lst a0), (iz a1), (iz a2), (iz a3), (iz a4), (iz a5), (iz a6), (iz a7), (iz a8)]), (iz a9)] =
 C.bool (pcall M d 8 []) fun b0 =>
 cnd (!b0)
 (C.bool (pcall M d 8 []) fun b1 =>
 some (.bool b1))
 (C.bool (pcall M d 9 [(.agg [(.lst a0), (iz a1), (iz a2), (iz a3), (iz a4), (iz a5), (iz a6), (iz a7), (iz a8)])]) fun b2 =>
 cnd (!b2)
 (C.bool (pcall M d 8 []) fun b3 =>
 some (.bool b3))
 (C.int .i64 (pcall M d 10 [(.agg [(.lst a0), (iz a1), (iz a2), (iz a3), (iz a4), (iz a5), (iz a6), (iz a7), (iz a8)])]) fun x4 =>
 C.tup 2 (pcall M d 11 [(.agg [(.lst a0), (iz a1), (iz a2), (iz a3), (iz a4), (iz a5), (iz a6), (iz a7), (iz a8)]), (iz a9)]) fun l5 =>
 C.agg 5 l5[0]? fun l6 =>
 C.lst l6[0]? (fun l7 =>
 C.int .i64 l6[1]? fun x9 =>
 C.int .i64 l6[2]? fun x10 =>
 C.int .i64 l6[3]? fun x11 =>
 C.int .i64 l6[4]? fun x12 =>
 C.bool l5[1]? fun b13 =>
 cnd (decide (a9 ≥ 0))
 (cnd (x4 == 0)
 (C.int .i64 (pcall M d 12 [(.agg [(.lst a0), (iz a1), (iz a2), (iz a3), (iz a4), (iz a5), (iz a6), (iz a7), (iz a8)])]) fun x14 =>
 cnd (x14 != x4)
 (some bf)
 (C.bool (pcall M d 13 [(.agg [(.lst a0), (iz a1), (iz a2), (iz a3), (iz a4), (iz a5), (iz a6), (iz a7), (iz a8)])]) fun b15 =>
 cnd (xor true (b15 == (x4 == 0)))
 (some bf)
 (cnd (xor true (b13 == (decide (a9 < (((List.length a0) : Nat) : Int)))))
 (some bf)
 (C.int .i64 (pcall M d 14 [(.agg [(.lst a0), (iz a1), (iz a2), (iz a3), (iz a4), (iz a5), (iz a6), (iz a7), (iz a8)])]) fun x16 =>
 cnd (x16 != (IntKind.wrap .i64 ((IntKind.wrap .i64 (a1 + a2)) + 2)))
 (some bf)
 (cnd (!(decide (a9 < (((List.length a0) : Nat) : Int))))
 (C.bool (pcall M d 15 [(.agg [(.lst l7), (iz x9), (iz x10), (iz x11), (iz x12)]), (.agg [(.zsl true), (iz 0), (iz 0), (iz 0), (iz 0)])]) fun b17 =>
 some (.bool b17))
 (cnd (decide (0 ≤ a9))
 (C.agg 5 a0[(Int.toNat a9)]? fun l18 =>
 C.lst l18[0]? (fun l19 =>
 C.int .i64 l18[1]? fun x21 =>
 C.int .i64 l18[2]? fun x22 =>
 C.int .i64 l18[3]? fun x23 =>
 C.int .i64 l18[4]? fun x24 =>
 C.bool (pcall M d 15 [(.agg [(.lst l7), (iz x9), (iz x10), (iz x11), (iz x12)]), (.agg [(.lst l19), (iz x21), (iz x22), (iz x23), (iz x24)])]) fun b25 =>
 cnd b25
 (C.bool (pcall M d 16 [(.agg [(.lst l7), (iz x9), (iz x10), (iz x11), (iz x12)])]) fun b26 =>
 C.bool (pcall M d 17 [(.agg [(.lst l7), (iz x9), (iz x10), (iz x11), (iz x12)])]) fun b27 =>
 some (.bool (xor false (b26 == b27))))
 (some bf))
 (fun z20 =>
 C.int .i64 l18[1]? fun x28 =>
 C.int .i64 l18[2]? fun x29 =>
 C.int .i64 l18[3]? fun x30 =>
 C.int .i64 l18[4]? fun x31 =>
 C.bool (pcall M d 15 [(.agg [(.lst l7), (iz x9), (iz x10), (iz x11), (iz x12)]), (.agg [(.zsl z20), (iz x28), (iz x29), (iz x30), (iz x31)])]) fun b32 =>
 cnd b32
 (C.bool (pcall M d 16 [(.agg [(.lst l7), (iz x9), (iz x10), (iz x11), (iz x12)])]) fun b33 =>
 C.bool (pcall M d 17 [(.agg [(.lst l7), (iz x9), (iz x10), (iz x11), (iz x12)])]) fun b34 =>
 some (.bool (xor false (b33 == b34))))
 (some bf)))
 (none)))))))
 (C.int .i64 (pcall M d 12 [(.agg [(.lst a0), (iz a1), (iz a2), (iz a3), (iz a4), (iz a5), (iz a6), (iz a7), (iz a8)])]) fun x35 =>
 cnd (x35 != x4)
 (some bf)
 (C.bool (pcall M d 13 [(.agg [(.lst a0), (iz a1), (iz a2), (iz a3), (iz a4), (iz a5), (iz a6), (iz a7), (iz a8)])]) fun b36 =>
 cnd (xor true (b36 == (x4 == 0)))
 (some bf)
 (cnd (xor true (b13 == (decide (a9 < (((List.length a0) : Nat) : Int)))))
 (some bf)
 (C.int .i64 (pcall M d 14 [(.agg [(.lst a0), (iz a1), (iz a2), (iz a3), (iz a4), (iz a5), (iz a6), (iz a7), (iz a8)])]) fun x37 =>
 cnd (x37 != 0)
 (some bf)
 (cnd (!(decide (a9 < (((List.length a0) : Nat) : Int))))
 (C.bool (pcall M d 15 [(.agg [(.lst l7), (iz x9), (iz x10), (iz x11), (iz x12)]), (.agg [(.zsl true), (iz 0), (iz 0), (iz 0), (iz 0)])]) fun b38 =>
 some (.bool b38))
 (cnd (decide (0 ≤ a9))
 (C.agg 5 a0[(Int.toNat a9)]? fun l39 =>
 C.lst l39[0]? (fun l40 =>
 C.int .i64 l39[1]? fun x42 =>
 C.int .i64 l39[2]? fun x43 =>
 C.int .i64 l39[3]? fun x44 =>
 C.int .i64 l39[4]? fun x45 =>
 C.bool (pcall M d 15 [(.agg [(.lst l7), (iz x9), (iz x10), (iz x11), (iz x12)]), (.agg [(.lst l40), (iz x42), (iz x43), (iz x44), (iz x45)])]) fun b46 =>
 cnd b46
 (C.bool (pcall M d 16 [(.agg [(.lst l7), (iz x9), (iz x10), (iz x11), (iz x12)])]) fun b47 =>
 C.bool (pcall M d 17 [(.agg [(.lst l7), (iz x9), (iz x10), (iz x11), (iz x12)])]) fun b48 =>
 some (.bool (xor false (b47 == b48))))
 (some bf))
 (fun z41 =>
 C.int .i64 l39[1]? fun x49 =>
 C.int .i64 l39[2]? fun x50 =>
 C.int .i64 l39[3]? fun x51 =>
 C.int .i64 l39[4]? fun x52 =>
 C.bool (pcall M d 15 [(.agg [(.lst l7), (iz x9), (iz x10), (iz x11), (iz x12)]), (.agg [(.zsl z41), (iz x49), (iz x50), (iz x51), (iz x52)])]) fun b53 =>
 cnd b53
 (C.bool (pcall M d 16 [(.agg [(.lst l7), (iz x9), (iz x10), (iz x11), (iz x12)])]) fun b54 =>
 C.bool (pcall M d 17 [(.agg [(.lst l7), (iz x9), (iz x10), (iz x11), (iz x12)])]) fun b55 =>
 some (.bool (xor false (b54 == b55))))
 (some bf)))
 (none))))))))
 (cnd (x4 == 0)
 (C.int .i64 (pcall M d 12 [(.agg [(.lst a0), (iz a1), (iz a2), (iz a3), (iz a4), (iz a5), (iz a6), (iz a7), (iz a8)])]) fun x56 =>
 cnd (x56 != x4)
 (some bf)
 (C.bool (pcall M d 13 [(.agg [(.lst a0), (iz a1), (iz a2), (iz a3), (iz a4), (iz a5), (iz a6), (iz a7), (iz a8)])]) fun b57 =>
 cnd (xor true (b57 == (x4 == 0)))
 (some bf)
 (cnd (xor true (b13 == false))
 (some bf)
 (C.int .i64 (pcall M d 14 [(.agg [(.lst a0), (iz a1), (iz a2), (iz a3), (iz a4), (iz a5), (iz a6), (iz a7), (iz a8)])]) fun x58 =>
 cnd (x58 != (IntKind.wrap .i64 ((IntKind.wrap .i64 (a1 + a2)) + 2)))
 (some bf)
 (C.bool (pcall M d 15 [(.agg [(.lst l7), (iz x9), (iz x10), (iz x11), (iz x12)]), (.agg [(.zsl true), (iz 0), (iz 0), (iz 0), (iz 0)])]) fun b59 =>
 some (.bool b59))))))
 (C.int .i64 (pcall M d 12 [(.agg [(.lst a0), (iz a1), (iz a2), (iz a3), (iz a4), (iz a5), (iz a6), (iz a7), (iz a8)])]) fun x60 =>
 cnd (x60 != x4)
 (some bf)
 (C.bool (pcall M d 13 [(.agg [(.lst a0), (iz a1), (iz a2), (iz a3), (iz a4), (iz a5), (iz a6), (iz a7), (iz a8)])]) fun b61 =>
 cnd (xor true (b61 == (x4 == 0)))
 (some bf)
 (cnd (xor true (b13 == false))
 (some bf)
 (C.int .i64 (pcall M d 14 [(.agg [(.lst a0), (iz a1), (iz a2), (iz a3), (iz a4), (iz a5), (iz a6), (iz a7), (iz a8)])]) fun x62 =>
 cnd (x62 != 0)
 (some bf)
 (C.bool (pcall M d 15 [(.agg [(.lst l7), (iz x9), (iz x10), (iz x11), (iz x12)]), (.agg [(.zsl true), (iz 0), (iz 0), (iz 0), (iz 0)])]) fun b63 =>
 some (.bool b63))))))))
 (fun z8 =>
 none))) := by kernel_rfl
end Go.Proofs.Ytffiilnmfmkpmaa.AE

namespace Go.Proofs.Ytffiilnmfmkpmaa.AE
set_option linter.unusedVariables false
set_option linter.unusedSimpArgs false
set_option linter.constructorNameAsVariable false
open Go Go.Proofs.Ytffiilnmfmkpmaa.Geo
set_option maxRecDepth 100000
theorem zeroS : pcall M 40 15 [phA zPh, .agg [.zsl true, .int .i64 0, .int .i64 0, .int .i64 0, .int .i64 0]] = some (.bool true) := ran (by kernel_rfl)
attribute [local irreducible] pcall C0
theorem atX_in {l : List Phs} {k : Nat} (hk : k < l.length) : atX l (k : Nat) = l[k] := by
  unfold atX
  rw [if_pos (by omega), List.getD_eq_getElem?_getD, show ((k : Nat) : Int).toNat = k by omega, List.getElem?_eq_getElem hk]; rfl
theorem atX_out {l : List Phs} {i : Int} (h : ¬ (0 ≤ i ∧ i < ((l.length : Nat) : Int))) : atX l i = zPh := by
  unfold atX
  by_cases h0 : 0 ≤ i
  · rw [if_pos h0, List.getD_eq_getElem?_getD, List.getElem?_eq_none (by omega)]; rfl
  · rw [if_neg h0]
theorem tells_law (r : Rul) (i : Int) (hl : r.phs.length ≤ 9223372036854775807) : pcall M 41 3 [rl r, .int .i64 i] = some (.bool true) := told (r3 C0 40 _ _ _ _ _ _ _ _ _ _) (by
  refine Eq.trans (pl_bool awake) ?_
  repeat with_reducible first | refine tt sh_ptr ?_ | refine tt sh_fptr ?_ | refine tt w2 ?_ | refine tt w3 ?_ | refine tt w8 ?_ | refine tt w9 ?_ | refine tt wf ?_ | refine tt wg ?_ | refine tt wh ?_ | refine tt wi ?_ | refine tt wj ?_ | refine tt wk ?_ | refine tt wl ?_ | refine tt wn ?_ | refine tt c_ort ?_ | refine tt c_nt ?_ | refine tt c_nf ?_ | refine tt (cnd_t _ _) ?_ | refine tt (cnd_f _ _) ?_ | refine tt w6 ?_ | refine tt w4 ?_ | refine tt w5 ?_ | refine tt w7 ?_ | refine tt wm ?_ | refine tt wo ?_ | refine tt wx ?_ | refine tt nil_ptr ?_ | refine tt len_lst ?_ | refine tt len_zsl ?_
  refine Eq.trans (pl_bool (s9 39 r hl)) ?_
  by_cases hf : fewX r.phs = true
  rotate_left
  · refine Eq.trans (pl_len (by rw [Bool.eq_false_iff.mpr hf]; rfl)) ?_
    exact pl_bool awake
  refine Eq.trans (pl_f (by rw [hf]; rfl)) ?_
  obtain ⟨f1, f2⟩ := few_t hf
  have ha : ∀ p ∈ r.phs, p.ps.length ≤ 140737488355328 := fun p hp => by have := f1 p hp; omega
  have T1 := s12 23 r (by omega) ha
  have T2 := s13 22 r (by omega) ha
  have T3 := s14 21 r (by omega) ha
  refine Eq.trans (pl_int (s10 29 r (by omega) ha)) ?_
  refine Eq.trans (pl_tup (phaseI 38 r i (by omega) (fun p hp => by have := f1 p hp; omega)) (by rfl)) ?_
  repeat with_reducible first | refine tt sh_ptr ?_ | refine tt sh_fptr ?_ | refine tt w2 ?_ | refine tt w3 ?_ | refine tt w8 ?_ | refine tt w9 ?_ | refine tt wf ?_ | refine tt wg ?_ | refine tt wh ?_ | refine tt wi ?_ | refine tt wj ?_ | refine tt wk ?_ | refine tt wl ?_ | refine tt wn ?_ | refine tt c_ort ?_ | refine tt c_nt ?_ | refine tt c_nf ?_ | refine tt (cnd_t _ _) ?_ | refine tt (cnd_f _ _) ?_ | refine tt w6 ?_ | refine tt w4 ?_ | refine tt w5 ?_ | refine tt w7 ?_ | refine tt wm ?_ | refine tt wo ?_ | refine tt wx ?_ | refine tt nil_ptr ?_ | refine tt len_lst ?_ | refine tt len_zsl ?_
  by_cases hi : i ≥ 0
  · rw [decide_eq_true hi, cnd_t]
    by_cases hw : wrongX r = 0
    · rw [beq_iff_eq.mpr hw, cnd_t]
      refine Eq.trans (pl_int T1) ?_
      refine Eq.trans (pl_f (by simp)) ?_
      refine Eq.trans (pl_bool T2) ?_
      refine Eq.trans (pl_f (by simp [hw])) ?_
      refine Eq.trans (pl_f (by simp [hi])) ?_
      refine Eq.trans (pl_int T3) ?_
      refine Eq.trans (pl_f (by unfold windowX; rw [if_pos hw]; have k := (wrong_lim hw).1; unfold limX at k; rw [i64_small (n := r.n + r.d) (by omega) (by omega), i64_small (by omega) (by omega)]; simp)) ?_
      by_cases hk : i < ((r.phs.length : Nat) : Int)
      · refine Eq.trans (pl_f (by simp [hk])) ?_
        refine Eq.trans (pl_len (by rfl)) ?_
        obtain ⟨k, rfl⟩ : ∃ k : Nat, i = (k : Nat) := ⟨i.toNat, by omega⟩
        have hk' : k < r.phs.length := by omega
        have ea := atX_in hk'
        rw [ea, show ((k : Nat) : Int).toNat = k by omega, phs_at hk']
        have hp := ha _ (List.getElem_mem hk')
        repeat with_reducible first | refine tt sh_ptr ?_ | refine tt sh_fptr ?_ | refine tt w2 ?_ | refine tt w3 ?_ | refine tt w8 ?_ | refine tt w9 ?_ | refine tt wf ?_ | refine tt wg ?_ | refine tt wh ?_ | refine tt wi ?_ | refine tt wj ?_ | refine tt wk ?_ | refine tt wl ?_ | refine tt wn ?_ | refine tt c_ort ?_ | refine tt c_nt ?_ | refine tt c_nf ?_ | refine tt (cnd_t _ _) ?_ | refine tt (cnd_f _ _) ?_ | refine tt w6 ?_ | refine tt w4 ?_ | refine tt w5 ?_ | refine tt w7 ?_ | refine tt wm ?_ | refine tt wo ?_ | refine tt wx ?_ | refine tt nil_ptr ?_ | refine tt len_lst ?_ | refine tt len_zsl ?_
        refine Eq.trans (pl_bool (samePhR 38 _ hp)) ?_
        rw [cnd_t]
        refine Eq.trans (pl_bool (s16 27 _ hp)) ?_
        refine Eq.trans (pl_bool (s17 30 _ hp)) ?_
        simp
      · refine Eq.trans (pl_len (by simp [hk])) ?_
        rw [atX_out (by omega)]
        exact pl_bool zeroS
    · rw [beq_eq_false_iff_ne.mpr hw, cnd_f]
      refine Eq.trans (pl_int T1) ?_
      refine Eq.trans (pl_f (by simp)) ?_
      refine Eq.trans (pl_bool T2) ?_
      refine Eq.trans (pl_f (by simp [hw])) ?_
      refine Eq.trans (pl_f (by simp [hi])) ?_
      refine Eq.trans (pl_int T3) ?_
      refine Eq.trans (pl_f (by unfold windowX; rw [if_neg hw]; rfl)) ?_
      by_cases hk : i < ((r.phs.length : Nat) : Int)
      · refine Eq.trans (pl_f (by simp [hk])) ?_
        refine Eq.trans (pl_len (by rfl)) ?_
        obtain ⟨k, rfl⟩ : ∃ k : Nat, i = (k : Nat) := ⟨i.toNat, by omega⟩
        have hk' : k < r.phs.length := by omega
        have ea := atX_in hk'
        rw [ea, show ((k : Nat) : Int).toNat = k by omega, phs_at hk']
        have hp := ha _ (List.getElem_mem hk')
        repeat with_reducible first | refine tt sh_ptr ?_ | refine tt sh_fptr ?_ | refine tt w2 ?_ | refine tt w3 ?_ | refine tt w8 ?_ | refine tt w9 ?_ | refine tt wf ?_ | refine tt wg ?_ | refine tt wh ?_ | refine tt wi ?_ | refine tt wj ?_ | refine tt wk ?_ | refine tt wl ?_ | refine tt wn ?_ | refine tt c_ort ?_ | refine tt c_nt ?_ | refine tt c_nf ?_ | refine tt (cnd_t _ _) ?_ | refine tt (cnd_f _ _) ?_ | refine tt w6 ?_ | refine tt w4 ?_ | refine tt w5 ?_ | refine tt w7 ?_ | refine tt wm ?_ | refine tt wo ?_ | refine tt wx ?_ | refine tt nil_ptr ?_ | refine tt len_lst ?_ | refine tt len_zsl ?_
        refine Eq.trans (pl_bool (samePhR 38 _ hp)) ?_
        rw [cnd_t]
        refine Eq.trans (pl_bool (s16 27 _ hp)) ?_
        refine Eq.trans (pl_bool (s17 30 _ hp)) ?_
        simp
      · refine Eq.trans (pl_len (by simp [hk])) ?_
        rw [atX_out (by omega)]
        exact pl_bool zeroS
  · rw [decide_eq_false hi, cnd_f]
    by_cases hw : wrongX r = 0
    · rw [beq_iff_eq.mpr hw, cnd_t]
      refine Eq.trans (pl_int T1) ?_
      refine Eq.trans (pl_f (by simp)) ?_
      refine Eq.trans (pl_bool T2) ?_
      refine Eq.trans (pl_f (by simp [hw])) ?_
      refine Eq.trans (pl_f (by simp [hi])) ?_
      refine Eq.trans (pl_int T3) ?_
      refine Eq.trans (pl_f (by unfold windowX; rw [if_pos hw]; have k := (wrong_lim hw).1; unfold limX at k; rw [i64_small (n := r.n + r.d) (by omega) (by omega), i64_small (by omega) (by omega)]; simp)) ?_
      rw [atX_out (by omega)]
      exact pl_bool zeroS
    · rw [beq_eq_false_iff_ne.mpr hw, cnd_f]
      refine Eq.trans (pl_int T1) ?_
      refine Eq.trans (pl_f (by simp)) ?_
      refine Eq.trans (pl_bool T2) ?_
      refine Eq.trans (pl_f (by simp [hw])) ?_
      refine Eq.trans (pl_f (by simp [hi])) ?_
      refine Eq.trans (pl_int T3) ?_
      refine Eq.trans (pl_f (by unfold windowX; rw [if_neg hw]; rfl)) ?_
      rw [atX_out (by omega)]
      exact pl_bool zeroS)
theorem law_RulesTells (a0 : AV) (a1 : Int) (w0 : TyOK true [(.sl true [(.sl true [(.i .i64), (.i .i64)]), (.i .i64), (.i .i64), (.i .i64), (.i .i64)]), (.i .i64), (.i .i64), (.i .i64), (.i .i64), (.i .i64), (.i .i64), (.i .i64), (.i .i64)] a0) (w1 : (Lit.int .i64 a1).wf = true) :
    pcall M 41 3 [a0, .int .i64 a1] = some (.bool true) := by
  obtain ⟨r, rfl, hl⟩ := ty_rul w0
  exact tells_law r a1 hl
end Go.Proofs.Ytffiilnmfmkpmaa.AE

namespace Go.Proofs.Ytffiilnmfmkpmaa.AE
set_option linter.unusedVariables false
set_option linter.unusedSimpArgs false
set_option linter.constructorNameAsVariable false
open Go Go.RowKit

theorem frl_nil {w : World} {bad : Nat → Prop} : ∀ (i : Nat) (c : AV) (u : Value), ([] : List AV)[i]? = some c → ([] : List Value)[i]? = some u → FRep w bad c u := fun _ _ _ h => by cases h
theorem frl_cons {w : World} {bad : Nat → Prop} {c0 : AV} {u0 : Value} {cs : List AV} {us : List Value} (h0 : FRep w bad c0 u0) (h : ∀ (i : Nat) (c : AV) (u : Value), cs[i]? = some c → us[i]? = some u → FRep w bad c u) :
    ∀ (i : Nat) (c : AV) (u : Value), (c0 :: cs)[i]? = some c → (u0 :: us)[i]? = some u → FRep w bad c u
  | 0, c, u, hc, hu => by cases hc; cases hu; exact h0
  | i + 1, c, u, hc, hu => h i c u hc hu
theorem law_calls {d : Nat} {g : FuncId} {args : List AV} {vs : List Value} (h : pcall M d g args = some (.bool true)) (W : World) (hl : args.length = vs.length)
    (hr : ∀ (i : Nat) (c : AV) (u : Value), args[i]? = some c → vs[i]? = some u → FRep W (fun _ => False) c u) : Calls Try.prog g vs.toArray W fun e W' => e = .returned (.bool true) ∧ Below W.heap.size W W' := by
  refine (pcall_law modOK d g args _ h W (fun _ => False) vs (fun _ h => h.elim) hl hr).mono ?_
  rintro e W' ⟨cv, rfl, hf, hb⟩
  cases hf
  exact ⟨rfl, hb⟩
end Go.Proofs.Ytffiilnmfmkpmaa.AE
