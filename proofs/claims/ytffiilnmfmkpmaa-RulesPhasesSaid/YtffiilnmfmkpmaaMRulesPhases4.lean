/- The texts that the law RulesPhases needs, part 4. No conditions. -/
import Derived.Test.YtffiilnmfmkpmaaMRulesPhases3
namespace Go.Proofs.Ytffiilnmfmkpmaa.AE
set_option linter.unusedVariables false
set_option linter.unusedSimpArgs false
set_option linter.constructorNameAsVariable false
open Go
set_option maxRecDepth 100000
set_option maxHeartbeats 0
noncomputable def X9_0_0 (d:Nat) (a0:List AV) :Ans :=
 some (.bool (decide ((((List.length a0):Nat):Int)≤8)))
theorem X9_0_0_ok (d:Nat) (a0:List AV) (a1 a2 a3 a4 a5 a6 a7 a8:Int) (b32:Bool) (x33 x34:Int) (v35 v36:AV) (x37:Int) (b38:Bool) (v39 v40 v41 v42 v43 v44 v45 v46 v47 v48:AV):r9X0_0 C0 d a0 a1 a2 a3 a4 a5 a6 a7 a8 ⟨[(.agg [(.lst a0),(iz a1),(iz a2),(iz a3),(iz a4),(iz a5),(iz a6),(iz a7),(iz a8)]),(.ptr 0 0 0),(.bool b32),(iz x33),(iz x34),v35,v36,(iz x37),(.bool b38),v39,v40,v41,v42,v43,v44,v45,v46,v47,v48,tz,tz,tz,tz],[some ⟨E24,[(.agg [(.lst a0),(iz a1),(iz a2),(iz a3),(iz a4),(iz a5),(iz a6),(iz a7),(iz a8)])]⟩]⟩=X9_0_0 d a0 :=by
 unfold r9X0_0; refine Eq.trans (pl_len (by rfl)) ?_; refine yt ySs ?_; refine yt yB ?_; (iterate 2 (refine yt yI ?_)); refine yt yAs ?_; refine yt yI ?_; refine yt yB ?_; refine yt yAs ?_; refine yt ySs ?_; refine Eq.trans (pl_sameH) ?_
 rfl
noncomputable def E9_0 (d:Nat) (a0:List AV) (b49:Bool):Ans :=
 some (.bool b49)
theorem E9_0_ok (d:Nat) (a0:List AV) (a1 a2 a3 a4 a5 a6 a7 a8:Int) (b49:Bool) (x50 x51:Int) (v52 v53:AV) (x54:Int) (b55:Bool) (v56 v57 v58 v59:AV) (x60:Int) (v61 v62 v63:AV) (x64:Int) (b65:Bool):r9E0 C0 d a0 a1 a2 a3 a4 a5 a6 a7 a8 ⟨[(.agg [(.lst a0),(iz a1),(iz a2),(iz a3),(iz a4),(iz a5),(iz a6),(iz a7),(iz a8)]),(.ptr 0 0 0),(.bool b49),(iz x50),(iz x51),v52,v53,(iz x54),(.bool b55),v56,v57,v58,v59,(iz x60),v61,v62,v63,(iz x64),(.bool b65),tz,tz,tz,tz],[some ⟨E24,[(.agg [(.lst a0),(iz a1),(iz a2),(iz a3),(iz a4),(iz a5),(iz a6),(iz a7),(iz a8)])]⟩]⟩=E9_0 d a0 b49:=by
 unfold r9E0; refine Eq.trans (pl_len (by rfl)) ?_; refine yt ySs ?_; refine yt yB ?_; (iterate 2 (refine yt yI ?_)); refine yt yAs ?_; refine yt yI ?_; refine yt yB ?_; refine yt yAs ?_; refine yt yI ?_; refine yt yAs ?_; refine yt yI ?_; refine yt yB ?_; refine yt ySs ?_; refine Eq.trans (pl_sameH) ?_
 rfl
noncomputable def L9_0 (d:Nat) (a0:List AV):Nat→Int→Ans
 | 0,_=>none
 | n+1,x4 =>
 cnd (decide (x4 < (((List.length a0):Nat):Int)))
  (cnd (decide ((0:Int)≤x4))
  (C0.agg 5 a0[(Int.toNat x4)]? fun l20 =>
  C0.lst l20[0]? (fun l21 =>
  C0.int .i64 l20[1]? fun x23 =>
  C0.int .i64 l20[2]? fun x24 =>
  C0.int .i64 l20[3]? fun x25 =>
  C0.int .i64 l20[4]? fun x26 =>
  cnd (decide ((((List.length l21):Nat):Int) > 12))
  (E9_0 d a0 false)
  (L9_0 d a0 n (IntKind.wrap .i64 (x4+1))))
    (fun z22 =>
  C0.int .i64 l20[1]? fun x27 =>
  C0.int .i64 l20[2]? fun x28 =>
  C0.int .i64 l20[3]? fun x29 =>
  C0.int .i64 l20[4]? fun x30 =>
  L9_0 d a0 n (IntKind.wrap .i64 (x4+1))))
  (none))
  (X9_0_0 d a0)
theorem L9_0_s (d:Nat) (a0:List AV) (n:Nat) (x4:Int):L9_0 d a0 (n+1) x4=(cnd (decide (x4 < (((List.length a0):Nat):Int)))
 (cnd (decide ((0:Int)≤x4))
 (C0.agg 5 a0[(Int.toNat x4)]? fun l20 =>
 C0.lst l20[0]? (fun l21 =>
 C0.int .i64 l20[1]? fun x23 =>
 C0.int .i64 l20[2]? fun x24 =>
 C0.int .i64 l20[3]? fun x25 =>
 C0.int .i64 l20[4]? fun x26 =>
 cnd (decide ((((List.length l21):Nat):Int) > 12))
 (E9_0 d a0 false)
 (L9_0 d a0 n (IntKind.wrap .i64 (x4+1))))
   (fun z22 =>
 C0.int .i64 l20[1]? fun x27 =>
 C0.int .i64 l20[2]? fun x28 =>
 C0.int .i64 l20[3]? fun x29 =>
 C0.int .i64 l20[4]? fun x30 =>
 L9_0 d a0 n (IntKind.wrap .i64 (x4+1))))
 (none))
 (X9_0_0 d a0)):=by kernel_rfl
theorem it9_0 (d:Nat) (a0:List AV) (a1 a2 a3 a4 a5 a6 a7 a8:Int)  :∀ (n:Nat) (b3:Bool) (x4:Int) (v5 v6 v7 v8 v9 v10 v11 v12 v13 v14 v15 v16 v17 v18 v19:AV),C0.iter (r9R0 C0 d a0 a1 a2 a3 a4 a5 a6 a7 a8) n ⟨[(.agg [(.lst a0),(iz a1),(iz a2),(iz a3),(iz a4),(iz a5),(iz a6),(iz a7),(iz a8)]),(.ptr 0 0 0),(.bool b3),(iz x4),v5,v6,v7,v8,v9,v10,v11,v12,v13,v14,v15,v16,v17,v18,v19,tz,tz,tz,tz],[some ⟨E24,[(.agg [(.lst a0),(iz a1),(iz a2),(iz a3),(iz a4),(iz a5),(iz a6),(iz a7),(iz a8)])]⟩]⟩ [0] [r9X0_0 C0 d a0 a1 a2 a3 a4 a5 a6 a7 a8] (r9E0 C0 d a0 a1 a2 a3 a4 a5 a6 a7 a8)=L9_0 d a0 n x4:=by
 generalize hR:r9R0 C0 d a0 a1 a2 a3 a4 a5 a6 a7 a8=R
 intro n
 induction n with
 | zero=>intros; rfl
 | succ n ih =>
   intro b3 x4 v5 v6 v7 v8 v9 v10 v11 v12 v13 v14 v15 v16 v17 v18 v19
   simp only [it_ret] at ih
   rw [it_ret,xiter_s]
   refine Eq.trans (congrFun (congrFun hR.symm _) _) ?_
   unfold r9R0
   refine Eq.trans (pl_len (by rfl)) ?_; refine yt ySs ?_; refine yt yB ?_; refine yt yI ?_; refine yt yAs ?_; (iterate 10 (refine yt yA ?_)); refine yt ySs ?_; refine Eq.trans (pl_sameH) ?_
   simp only [kIter_n,kIter_x,kIter_r,kOut_x,kOut_r,xgo_hit,xgo_miss,ih,X9_0_0_ok d a0 a1 a2 a3 a4 a5 a6 a7 a8  ,E9_0_ok d a0 a1 a2 a3 a4 a5 a6 a7 a8  ]
   exact (L9_0_s d a0 n x4).symm
theorem q9 (d:Nat) (a0:List AV) (a1 a2 a3 a4 a5 a6 a7 a8:Int):xcall C0 M unr d 9 [(.agg [(.lst a0),(iz a1),(iz a2),(iz a3),(iz a4),(iz a5),(iz a6),(iz a7),(iz a8)])] =
 L9_0 d a0 10000000000000000000 0:=(r9 C0 d a0 a1 a2 a3 a4 a5 a6 a7 a8).trans (by simp only [it9_0])
noncomputable def X10_0_0 (d:Nat) (a0:List AV) (a1 a2 a3 a4 a5 a6 a7 a8:Int) :Ans :=
 C0.bool (pcall M d 22 [(iz a1),(iz 1),(iz 50)]) fun b49 =>
  cnd (!b49)
  (some (iz 3))
  (C0.bool (pcall M d 22 [(iz a2),(iz 1),(iz 50)]) fun b50 =>
  cnd (!b50)
  (some (iz 3))
  (C0.bool (pcall M d 22 [(iz a3),(iz 1),(iz 50)]) fun b51 =>
  cnd (!b51)
  (some (iz 3))
  (C0.bool (pcall M d 22 [(iz a4),(iz 0),(iz 1024)]) fun b52 =>
  cnd (!b52)
  (some (iz 4))
  (C0.bool (pcall M d 22 [(iz a5),(iz 1),(iz 65536)]) fun b53 =>
  cnd (!b53)
  (some (iz 5))
  (C0.bool (pcall M d 22 [(iz a6),(iz 1),(iz 50)]) fun b54 =>
  cnd (!b54)
  (some (iz 6))
  (C0.bool (pcall M d 22 [(iz a7),(iz 1),(iz 1073741824)]) fun b55 =>
  cnd (!b55)
  (some (iz 7))
  (C0.bool (pcall M d 22 [(iz a8),(iz 0),(iz (((List.length a0):Nat):Int))]) fun b56 =>
  cnd (!b56)
  (some (iz 8))
  (some (iz 0)))))))))
theorem X10_0_0_ok (d:Nat) (a0:List AV) (a1 a2 a3 a4 a5 a6 a7 a8 x33 x34 x35:Int) (v36 v37:AV) (x38:Int) (b39:Bool) (v40 v41 v42 v43 v44 v45 v46 v47 v48:AV):r10X0_0 C0 d a0 a1 a2 a3 a4 a5 a6 a7 a8 ⟨[(.agg [(.lst a0),(iz a1),(iz a2),(iz a3),(iz a4),(iz a5),(iz a6),(iz a7),(iz a8)]),(.ptr 0 0 0),(iz x33),(iz x34),(.ptr 0 0 0),(.lst a0),(iz (((List.length a0):Nat):Int)),(.bool (decide ((((List.length a0):Nat):Int) < 1))),bf,(.ptr 0 0 0),(.lst a0),(iz (((List.length a0):Nat):Int)),(.bool (decide ((((List.length a0):Nat):Int) > 4))),bf,(iz x35),v36,v37,(iz x38),(.bool b39),v40,v41,v42,v43,v44,v45,v46,v47,v48,tz,tz,tz,tz,tz,tz,tz,tz,tz,tz,tz,tz,tz,tz,tz,tz,tz,tz,tz,tz,tz,tz,tz,tz,tz,tz,tz,tz,tz,tz,tz,tz,tz,tz,tz,tz,tz,tz,tz,tz,tz,tz,tz,tz,tz],[some ⟨E24,[(.agg [(.lst a0),(iz a1),(iz a2),(iz a3),(iz a4),(iz a5),(iz a6),(iz a7),(iz a8)])]⟩]⟩=X10_0_0 d a0 a1 a2 a3 a4 a5 a6 a7 a8 :=by
 unfold r10X0_0; refine Eq.trans (pl_len (by rfl)) ?_; refine yt ySs ?_; (iterate 2 (refine yt yI ?_)); refine yt ySs ?_; refine yt yI ?_; refine yt yAs ?_; refine yt yI ?_; refine yt yB ?_; refine yt yAs ?_; refine yt ySs ?_; refine Eq.trans (pl_sameH) ?_
 rfl
noncomputable def E10_0 (d:Nat) (a0:List AV) (a1 a2 a3 a4 a5 a6 a7 a8 x57:Int):Ans :=
 some (iz x57)
theorem E10_0_ok (d:Nat) (a0:List AV) (a1 a2 a3 a4 a5 a6 a7 a8 x57 x58 x59:Int) (v60 v61:AV) (x62:Int) (b63:Bool) (v64 v65 v66 v67:AV) (x68:Int) (v69 v71:AV) (x72 x73 x74 x75:Int) (b76 b77:Bool):r10E0 C0 d a0 a1 a2 a3 a4 a5 a6 a7 a8 ⟨[(.agg [(.lst a0),(iz a1),(iz a2),(iz a3),(iz a4),(iz a5),(iz a6),(iz a7),(iz a8)]),(.ptr 0 0 0),(iz x57),(iz x58),(.ptr 0 0 0),(.lst a0),(iz (((List.length a0):Nat):Int)),(.bool (decide ((((List.length a0):Nat):Int) < 1))),bf,(.ptr 0 0 0),(.lst a0),(iz (((List.length a0):Nat):Int)),(.bool (decide ((((List.length a0):Nat):Int) > 4))),bf,(iz x59),v60,v61,(iz x62),(.bool b63),v64,v65,v66,v67,(iz x68),v69,(.agg [v71,(iz x72),(iz x73),(iz x74),(iz x75)]),(.bool b76),(.bool b77),tz,tz,tz,tz,tz,tz,tz,tz,tz,tz,tz,tz,tz,tz,tz,tz,tz,tz,tz,tz,tz,tz,tz,tz,tz,tz,tz,tz,tz,tz,tz,tz,tz,tz,tz,tz,tz,tz,tz,tz,tz,tz,tz,tz,tz],[some ⟨E24,[(.agg [(.lst a0),(iz a1),(iz a2),(iz a3),(iz a4),(iz a5),(iz a6),(iz a7),(iz a8)])]⟩]⟩=E10_0 d a0 a1 a2 a3 a4 a5 a6 a7 a8 x57:=by
 unfold r10E0; refine Eq.trans (pl_len (by rfl)) ?_; refine yt ySs ?_; (iterate 2 (refine yt yI ?_)); refine yt ySs ?_; refine yt yI ?_; refine yt yAs ?_; refine yt yI ?_; refine yt yB ?_; refine yt yAs ?_; refine yt yI ?_; refine yt yA ?_; refine yt yG ?_; refine yt yA ?_; (iterate 4 (refine yt yI ?_)); (iterate 2 (refine yt yB ?_)); refine yt ySs ?_; refine Eq.trans (pl_sameH) ?_
 rfl
noncomputable def L10_0 (d:Nat) (a0:List AV) (a1 a2 a3 a4 a5 a6 a7 a8:Int):Nat→Int→Ans
 | 0,_=>none
 | n+1,x4 =>
 cnd (decide (x4 < (((List.length a0):Nat):Int)))
  (cnd (decide ((0:Int)≤x4))
  (C0.agg 5 a0[(Int.toNat x4)]? fun l19 =>
  C0.lst l19[0]? (fun l20 =>
  C0.int .i64 l19[1]? fun x22 =>
  C0.int .i64 l19[2]? fun x23 =>
  C0.int .i64 l19[3]? fun x24 =>
  C0.int .i64 l19[4]? fun x25 =>
  C0.bool (pcall M d 17 [(.agg [(.lst l20),(iz x22),(iz x23),(iz x24),(iz x25)])]) fun b26 =>
  cnd (!b26)
  (E10_0 d a0 a1 a2 a3 a4 a5 a6 a7 a8 2)
  (L10_0 d a0 a1 a2 a3 a4 a5 a6 a7 a8 n (IntKind.wrap .i64 (x4+1))))
    (fun z21 =>
  C0.int .i64 l19[1]? fun x27 =>
  C0.int .i64 l19[2]? fun x28 =>
  C0.int .i64 l19[3]? fun x29 =>
  C0.int .i64 l19[4]? fun x30 =>
  C0.bool (pcall M d 17 [(.agg [(.zsl z21),(iz x27),(iz x28),(iz x29),(iz x30)])]) fun b31 =>
  cnd (!b31)
  (E10_0 d a0 a1 a2 a3 a4 a5 a6 a7 a8 2)
  (L10_0 d a0 a1 a2 a3 a4 a5 a6 a7 a8 n (IntKind.wrap .i64 (x4+1)))))
  (none))
  (X10_0_0 d a0 a1 a2 a3 a4 a5 a6 a7 a8)
theorem L10_0_s (d:Nat) (a0:List AV) (a1 a2 a3 a4 a5 a6 a7 a8:Int) (n:Nat) (x4:Int):L10_0 d a0 a1 a2 a3 a4 a5 a6 a7 a8 (n+1) x4=(cnd (decide (x4 < (((List.length a0):Nat):Int)))
 (cnd (decide ((0:Int)≤x4))
 (C0.agg 5 a0[(Int.toNat x4)]? fun l19 =>
 C0.lst l19[0]? (fun l20 =>
 C0.int .i64 l19[1]? fun x22 =>
 C0.int .i64 l19[2]? fun x23 =>
 C0.int .i64 l19[3]? fun x24 =>
 C0.int .i64 l19[4]? fun x25 =>
 C0.bool (pcall M d 17 [(.agg [(.lst l20),(iz x22),(iz x23),(iz x24),(iz x25)])]) fun b26 =>
 cnd (!b26)
 (E10_0 d a0 a1 a2 a3 a4 a5 a6 a7 a8 2)
 (L10_0 d a0 a1 a2 a3 a4 a5 a6 a7 a8 n (IntKind.wrap .i64 (x4+1))))
   (fun z21 =>
 C0.int .i64 l19[1]? fun x27 =>
 C0.int .i64 l19[2]? fun x28 =>
 C0.int .i64 l19[3]? fun x29 =>
 C0.int .i64 l19[4]? fun x30 =>
 C0.bool (pcall M d 17 [(.agg [(.zsl z21),(iz x27),(iz x28),(iz x29),(iz x30)])]) fun b31 =>
 cnd (!b31)
 (E10_0 d a0 a1 a2 a3 a4 a5 a6 a7 a8 2)
 (L10_0 d a0 a1 a2 a3 a4 a5 a6 a7 a8 n (IntKind.wrap .i64 (x4+1)))))
 (none))
 (X10_0_0 d a0 a1 a2 a3 a4 a5 a6 a7 a8)):=by kernel_rfl
theorem it10_0 (d:Nat) (a0:List AV) (a1 a2 a3 a4 a5 a6 a7 a8:Int)  :∀ (n:Nat) (x3 x4:Int) (v5 v6 v7 v8 v9 v10 v11 v12 v13 v14 v15 v16 v17 v18:AV),C0.iter (r10R0 C0 d a0 a1 a2 a3 a4 a5 a6 a7 a8) n ⟨[(.agg [(.lst a0),(iz a1),(iz a2),(iz a3),(iz a4),(iz a5),(iz a6),(iz a7),(iz a8)]),(.ptr 0 0 0),(iz x3),(iz x4),(.ptr 0 0 0),(.lst a0),(iz (((List.length a0):Nat):Int)),(.bool (decide ((((List.length a0):Nat):Int) < 1))),bf,(.ptr 0 0 0),(.lst a0),(iz (((List.length a0):Nat):Int)),(.bool (decide ((((List.length a0):Nat):Int) > 4))),bf,v5,v6,v7,v8,v9,v10,v11,v12,v13,v14,v15,v16,v17,v18,tz,tz,tz,tz,tz,tz,tz,tz,tz,tz,tz,tz,tz,tz,tz,tz,tz,tz,tz,tz,tz,tz,tz,tz,tz,tz,tz,tz,tz,tz,tz,tz,tz,tz,tz,tz,tz,tz,tz,tz,tz,tz,tz,tz,tz],[some ⟨E24,[(.agg [(.lst a0),(iz a1),(iz a2),(iz a3),(iz a4),(iz a5),(iz a6),(iz a7),(iz a8)])]⟩]⟩ [0] [r10X0_0 C0 d a0 a1 a2 a3 a4 a5 a6 a7 a8] (r10E0 C0 d a0 a1 a2 a3 a4 a5 a6 a7 a8)=L10_0 d a0 a1 a2 a3 a4 a5 a6 a7 a8 n x4:=by
 generalize hR:r10R0 C0 d a0 a1 a2 a3 a4 a5 a6 a7 a8=R
 intro n
 induction n with
 | zero=>intros; rfl
 | succ n ih =>
   intro x3 x4 v5 v6 v7 v8 v9 v10 v11 v12 v13 v14 v15 v16 v17 v18
   simp only [it_ret] at ih
   rw [it_ret,xiter_s]
   refine Eq.trans (congrFun (congrFun hR.symm _) _) ?_
   unfold r10R0
   refine Eq.trans (pl_len (by rfl)) ?_; refine yt ySs ?_; (iterate 2 (refine yt yI ?_)); refine yt ySs ?_; refine yt yAs ?_; (iterate 9 (refine yt yA ?_)); refine yt ySs ?_; refine Eq.trans (pl_sameH) ?_
   simp only [kIter_n,kIter_x,kIter_r,kOut_x,kOut_r,xgo_hit,xgo_miss,ih,X10_0_0_ok d a0 a1 a2 a3 a4 a5 a6 a7 a8  ,E10_0_ok d a0 a1 a2 a3 a4 a5 a6 a7 a8  ]
   exact (L10_0_s d a0 a1 a2 a3 a4 a5 a6 a7 a8 n x4).symm
theorem q10 (d:Nat) (a0:List AV) (a1 a2 a3 a4 a5 a6 a7 a8:Int):xcall C0 M unr d 10 [(.agg [(.lst a0),(iz a1),(iz a2),(iz a3),(iz a4),(iz a5),(iz a6),(iz a7),(iz a8)])] =
 cnd (decide ((((List.length a0):Nat):Int) < 1))
  (some (iz 1))
  (cnd (decide ((((List.length a0):Nat):Int) > 4))
  (some (iz 1))
  (L10_0 d a0 a1 a2 a3 a4 a5 a6 a7 a8 10000000000000000000 0)):=(r10 C0 d a0 a1 a2 a3 a4 a5 a6 a7 a8).trans (by simp only [it10_0])
noncomputable def X18_0_0 (d:Nat) (n0:Nat) (K0:AV→Heap→Ans) (v0 v2:AV) (x19:Int) (H:Heap):Ans :=
 C0.hop H (.load true 9 (.v v0)) fun v81 h82 =>
  C0.agg 9 (some v81) fun l83 =>
  C0.any l83[0]? fun v84 =>
  C0.int .i64 l83[1]? fun x85 =>
  C0.int .i64 l83[2]? fun x86 =>
  C0.int .i64 l83[3]? fun x87 =>
  C0.int .i64 l83[4]? fun x88 =>
  C0.int .i64 l83[5]? fun x89 =>
  C0.int .i64 l83[6]? fun x90 =>
  C0.int .i64 l83[7]? fun x91 =>
  C0.int .i64 l83[8]? fun x92 =>
  C0.hop h82 (.store 9 (.v v2) (.v (.agg [v84,(iz x85),(iz x86),(iz x87),(iz x88),(iz x89),(iz x90),(iz x91),(iz x92)]))) fun v93 h94 =>
  C0.hop h94 (.load true 9 (.v v2)) fun v95 h96 =>
   K0 v95 h94
theorem X18_0_0_ok (d:Nat) (a0:AV) (a1 a2 a3 a4 a5 a6 a7 a8:Int) (n0:Nat) (K0:AV→Heap→Ans) (v0 v2 v4 v6 v9 v13 v15:AV) (x19:Int) (v64:AV) (x65:Int) (v66 v67 v68 v69 v70 v71 v72 v73 v74 v75 v76 v77 v78 v79 v80:AV) (H:Heap):r18X0_0 C0 d a0 a1 a2 a3 a4 a5 a6 a7 a8 n0 K0 v0 v2 v4 v6 v9 v13 v15 x19 ⟨[(.agg [a0,(iz a1),(iz a2),(iz a3),(iz a4),(iz a5),(iz a6),(iz a7),(iz a8)]),v0,v2,v64,v4,v6,(.lst []),v9,v13,v15,(iz x19),(iz x65),v66,v67,v68,v69,v70,v71,v72,v73,v74,v75,v76,v77,v78,v79,v80,tz],H⟩=X18_0_0 d n0 K0 v0 v2 x19 H:=by
 unfold r18X0_0; refine Eq.trans (pl_len (by rfl)) ?_; refine yt ySs ?_; refine yt yA ?_; refine yt ySs ?_; refine yt yI ?_; refine yt yAs ?_; refine yt yS ?_
 rfl
noncomputable def L18_0 (d:Nat) (n0:Nat) (K0:AV→Heap→Ans) (v0 v2:AV) (x19:Int):Nat→Int→Heap→Ans
 | 0,_,_=>none
 | n+1,x24,H =>
 cnd (decide (x24 < x19))
  (C0.hop H (.fldA 0 (.v v0)) fun v40 h41 =>
  C0.hop h41 (.load false 1 (.v v40)) fun v42 h43 =>
  C0.hop h43 (.fldA 0 (.v v0)) fun v44 h45 =>
  C0.hop h45 (.load false 1 (.v v44)) fun v46 h47 =>
  C0.hop h47 (.ixAS .any 5 (.v v46) (.v (iz x24))) fun v48 h49 =>
  C0.hop h49 (.fldA 0 (.v v48)) fun v50 h51 =>
  C0.hop h51 (.load false 1 (.v v50)) fun v52 h53 =>
  C0.cal M (pcall M d) (n0+8) false 23 [v52] h53 fun v54 h55 =>
  C0.any (some v54) fun v56 =>
  C0.hop h55 (.ixAS .any 5 (.v v42) (.v (iz x24))) fun v57 h58 =>
  C0.hop h58 (.fldA 0 (.v v57)) fun v59 h60 =>
  C0.hop h60 (.store 1 (.v v59) (.v v56)) fun v61 h62 =>
  L18_0 d n0 K0 v0 v2 x19 n (IntKind.wrap .i64 (x24+1)) h62)
  (X18_0_0 d n0 K0 v0 v2 x19 H)
theorem L18_0_s (d:Nat) (n0:Nat) (K0:AV→Heap→Ans) (v0 v2:AV) (x19:Int) (n:Nat) (x24:Int) (H:Heap):L18_0 d n0 K0 v0 v2 x19 (n+1) x24 H=(cnd (decide (x24 < x19))
 (C0.hop H (.fldA 0 (.v v0)) fun v40 h41 =>
 C0.hop h41 (.load false 1 (.v v40)) fun v42 h43 =>
 C0.hop h43 (.fldA 0 (.v v0)) fun v44 h45 =>
 C0.hop h45 (.load false 1 (.v v44)) fun v46 h47 =>
 C0.hop h47 (.ixAS .any 5 (.v v46) (.v (iz x24))) fun v48 h49 =>
 C0.hop h49 (.fldA 0 (.v v48)) fun v50 h51 =>
 C0.hop h51 (.load false 1 (.v v50)) fun v52 h53 =>
 C0.cal M (pcall M d) (n0+8) false 23 [v52] h53 fun v54 h55 =>
 C0.any (some v54) fun v56 =>
 C0.hop h55 (.ixAS .any 5 (.v v42) (.v (iz x24))) fun v57 h58 =>
 C0.hop h58 (.fldA 0 (.v v57)) fun v59 h60 =>
 C0.hop h60 (.store 1 (.v v59) (.v v56)) fun v61 h62 =>
 L18_0 d n0 K0 v0 v2 x19 n (IntKind.wrap .i64 (x24+1)) h62)
 (X18_0_0 d n0 K0 v0 v2 x19 H)):=by kernel_rfl
theorem it18_0 (d:Nat) (a0:AV) (a1 a2 a3 a4 a5 a6 a7 a8:Int) (n0:Nat) (K0:AV→Heap→Ans) (v0 v2 v4 v6 v9 v13 v15:AV) (x19:Int)  :∀ (n:Nat) (v23:AV) (x24:Int) (v25 v26 v27 v28 v29 v30 v31 v32 v33 v34 v35 v36 v37 v38 v39:AV) (H:Heap),C0.iter (r18R0 C0 d a0 a1 a2 a3 a4 a5 a6 a7 a8 n0 K0 v0 v2 v4 v6 v9 v13 v15 x19) n ⟨[(.agg [a0,(iz a1),(iz a2),(iz a3),(iz a4),(iz a5),(iz a6),(iz a7),(iz a8)]),v0,v2,v23,v4,v6,(.lst []),v9,v13,v15,(iz x19),(iz x24),v25,v26,v27,v28,v29,v30,v31,v32,v33,v34,v35,v36,v37,v38,v39,tz],H⟩ [0] [r18X0_0 C0 d a0 a1 a2 a3 a4 a5 a6 a7 a8 n0 K0 v0 v2 v4 v6 v9 v13 v15 x19] (r18E0 C0 d a0 a1 a2 a3 a4 a5 a6 a7 a8 n0 K0 v0 v2 v4 v6 v9 v13 v15 x19)=L18_0 d n0 K0 v0 v2 x19 n x24 H:=by
 generalize hR:r18R0 C0 d a0 a1 a2 a3 a4 a5 a6 a7 a8 n0 K0 v0 v2 v4 v6 v9 v13 v15 x19=R
 intro n
 induction n with
 | zero=>intros; rfl
 | succ n ih =>
   intro v23 x24 v25 v26 v27 v28 v29 v30 v31 v32 v33 v34 v35 v36 v37 v38 v39 H
   simp only [it_ret] at ih
   rw [it_ret,xiter_s]
   refine Eq.trans (congrFun (congrFun hR.symm _) _) ?_
   unfold r18R0
   refine Eq.trans (pl_len (by rfl)) ?_; refine yt ySs ?_; refine yt yA ?_; refine yt ySs ?_; refine yt yI ?_; (iterate 15 (refine yt yA ?_)); refine yt yS ?_
   simp only [kIter_n,kIter_x,kIter_r,kOut_x,kOut_r,xgo_hit,xgo_miss,ih,X18_0_0_ok d a0 a1 a2 a3 a4 a5 a6 a7 a8 n0 K0 v0 v2 v4 v6 v9 v13 v15 x19  ]
   exact (L18_0_s d n0 K0 v0 v2 x19 n x24 H).symm
noncomputable def X18_2_0 (d:Nat) (n0:Nat) (K0:AV→Heap→Ans) (v0 v2:AV) (x129:Int) (H:Heap):Ans :=
 C0.hop H (.load true 9 (.v v0)) fun v191 h192 =>
  C0.agg 9 (some v191) fun l193 =>
  C0.any l193[0]? fun v194 =>
  C0.int .i64 l193[1]? fun x195 =>
  C0.int .i64 l193[2]? fun x196 =>
  C0.int .i64 l193[3]? fun x197 =>
  C0.int .i64 l193[4]? fun x198 =>
  C0.int .i64 l193[5]? fun x199 =>
  C0.int .i64 l193[6]? fun x200 =>
  C0.int .i64 l193[7]? fun x201 =>
  C0.int .i64 l193[8]? fun x202 =>
  C0.hop h192 (.store 9 (.v v2) (.v (.agg [v194,(iz x195),(iz x196),(iz x197),(iz x198),(iz x199),(iz x200),(iz x201),(iz x202)]))) fun v203 h204 =>
  C0.hop h204 (.load true 9 (.v v2)) fun v205 h206 =>
   K0 v205 h204
theorem X18_2_0_ok (d:Nat) (a0:AV) (a1 a2 a3 a4 a5 a6 a7 a8:Int) (n0:Nat) (K0:AV→Heap→Ans) (v0 v2 v4 v6 v119 v123 v125:AV) (x129:Int) (v174:AV) (x175:Int) (v176 v177 v178 v179 v180 v181 v182 v183 v184 v185 v186 v187 v188 v189 v190:AV) (H:Heap):r18X2_0 C0 d a0 a1 a2 a3 a4 a5 a6 a7 a8 n0 K0 v0 v2 v4 v6 v119 v123 v125 x129 ⟨[(.agg [a0,(iz a1),(iz a2),(iz a3),(iz a4),(iz a5),(iz a6),(iz a7),(iz a8)]),v0,v2,v174,v4,v6,(.zsl true),v119,v123,v125,(iz x129),(iz x175),v176,v177,v178,v179,v180,v181,v182,v183,v184,v185,v186,v187,v188,v189,v190,tz],H⟩=X18_2_0 d n0 K0 v0 v2 x129 H:=by
 unfold r18X2_0; refine Eq.trans (pl_len (by rfl)) ?_; refine yt ySs ?_; refine yt yA ?_; refine yt ySs ?_; refine yt yI ?_; refine yt yAs ?_; refine yt yS ?_
 rfl
noncomputable def L18_2 (d:Nat) (n0:Nat) (K0:AV→Heap→Ans) (v0 v2:AV) (x129:Int):Nat→Int→Heap→Ans
 | 0,_,_=>none
 | n+1,x134,H =>
 cnd (decide (x134 < x129))
  (C0.hop H (.fldA 0 (.v v0)) fun v150 h151 =>
  C0.hop h151 (.load false 1 (.v v150)) fun v152 h153 =>
  C0.hop h153 (.fldA 0 (.v v0)) fun v154 h155 =>
  C0.hop h155 (.load false 1 (.v v154)) fun v156 h157 =>
  C0.hop h157 (.ixAS .any 5 (.v v156) (.v (iz x134))) fun v158 h159 =>
  C0.hop h159 (.fldA 0 (.v v158)) fun v160 h161 =>
  C0.hop h161 (.load false 1 (.v v160)) fun v162 h163 =>
  C0.cal M (pcall M d) (n0+8) false 23 [v162] h163 fun v164 h165 =>
  C0.any (some v164) fun v166 =>
  C0.hop h165 (.ixAS .any 5 (.v v152) (.v (iz x134))) fun v167 h168 =>
  C0.hop h168 (.fldA 0 (.v v167)) fun v169 h170 =>
  C0.hop h170 (.store 1 (.v v169) (.v v166)) fun v171 h172 =>
  L18_2 d n0 K0 v0 v2 x129 n (IntKind.wrap .i64 (x134+1)) h172)
  (X18_2_0 d n0 K0 v0 v2 x129 H)
theorem L18_2_s (d:Nat) (n0:Nat) (K0:AV→Heap→Ans) (v0 v2:AV) (x129:Int) (n:Nat) (x134:Int) (H:Heap):L18_2 d n0 K0 v0 v2 x129 (n+1) x134 H=(cnd (decide (x134 < x129))
 (C0.hop H (.fldA 0 (.v v0)) fun v150 h151 =>
 C0.hop h151 (.load false 1 (.v v150)) fun v152 h153 =>
 C0.hop h153 (.fldA 0 (.v v0)) fun v154 h155 =>
 C0.hop h155 (.load false 1 (.v v154)) fun v156 h157 =>
 C0.hop h157 (.ixAS .any 5 (.v v156) (.v (iz x134))) fun v158 h159 =>
 C0.hop h159 (.fldA 0 (.v v158)) fun v160 h161 =>
 C0.hop h161 (.load false 1 (.v v160)) fun v162 h163 =>
 C0.cal M (pcall M d) (n0+8) false 23 [v162] h163 fun v164 h165 =>
 C0.any (some v164) fun v166 =>
 C0.hop h165 (.ixAS .any 5 (.v v152) (.v (iz x134))) fun v167 h168 =>
 C0.hop h168 (.fldA 0 (.v v167)) fun v169 h170 =>
 C0.hop h170 (.store 1 (.v v169) (.v v166)) fun v171 h172 =>
 L18_2 d n0 K0 v0 v2 x129 n (IntKind.wrap .i64 (x134+1)) h172)
 (X18_2_0 d n0 K0 v0 v2 x129 H)):=by kernel_rfl
theorem it18_2 (d:Nat) (a0:AV) (a1 a2 a3 a4 a5 a6 a7 a8:Int) (n0:Nat) (K0:AV→Heap→Ans) (v0 v2 v4 v6 v119 v123 v125:AV) (x129:Int)  :∀ (n:Nat) (v133:AV) (x134:Int) (v135 v136 v137 v138 v139 v140 v141 v142 v143 v144 v145 v146 v147 v148 v149:AV) (H:Heap),C0.iter (r18R2 C0 d a0 a1 a2 a3 a4 a5 a6 a7 a8 n0 K0 v0 v2 v4 v6 v119 v123 v125 x129) n ⟨[(.agg [a0,(iz a1),(iz a2),(iz a3),(iz a4),(iz a5),(iz a6),(iz a7),(iz a8)]),v0,v2,v133,v4,v6,(.zsl true),v119,v123,v125,(iz x129),(iz x134),v135,v136,v137,v138,v139,v140,v141,v142,v143,v144,v145,v146,v147,v148,v149,tz],H⟩ [0] [r18X2_0 C0 d a0 a1 a2 a3 a4 a5 a6 a7 a8 n0 K0 v0 v2 v4 v6 v119 v123 v125 x129] (r18E2 C0 d a0 a1 a2 a3 a4 a5 a6 a7 a8 n0 K0 v0 v2 v4 v6 v119 v123 v125 x129)=L18_2 d n0 K0 v0 v2 x129 n x134 H:=by
 generalize hR:r18R2 C0 d a0 a1 a2 a3 a4 a5 a6 a7 a8 n0 K0 v0 v2 v4 v6 v119 v123 v125 x129=R
 intro n
 induction n with
 | zero=>intros; rfl
 | succ n ih =>
   intro v133 x134 v135 v136 v137 v138 v139 v140 v141 v142 v143 v144 v145 v146 v147 v148 v149 H
   simp only [it_ret] at ih
   rw [it_ret,xiter_s]
   refine Eq.trans (congrFun (congrFun hR.symm _) _) ?_
   unfold r18R2
   refine Eq.trans (pl_len (by rfl)) ?_; refine yt ySs ?_; refine yt yA ?_; refine yt ySs ?_; refine yt yI ?_; (iterate 15 (refine yt yA ?_)); refine yt yS ?_
   simp only [kIter_n,kIter_x,kIter_r,kOut_x,kOut_r,xgo_hit,xgo_miss,ih,X18_2_0_ok d a0 a1 a2 a3 a4 a5 a6 a7 a8 n0 K0 v0 v2 v4 v6 v119 v123 v125 x129  ]
   exact (L18_2_s d n0 K0 v0 v2 x129 n x134 H).symm
noncomputable def X18_4_0 (d:Nat) (n0:Nat) (K0:AV→Heap→Ans) (v0 v2:AV) (x240:Int) (H:Heap):Ans :=
 C0.hop H (.load true 9 (.v v0)) fun v302 h303 =>
  C0.agg 9 (some v302) fun l304 =>
  C0.any l304[0]? fun v305 =>
  C0.int .i64 l304[1]? fun x306 =>
  C0.int .i64 l304[2]? fun x307 =>
  C0.int .i64 l304[3]? fun x308 =>
  C0.int .i64 l304[4]? fun x309 =>
  C0.int .i64 l304[5]? fun x310 =>
  C0.int .i64 l304[6]? fun x311 =>
  C0.int .i64 l304[7]? fun x312 =>
  C0.int .i64 l304[8]? fun x313 =>
  C0.hop h303 (.store 9 (.v v2) (.v (.agg [v305,(iz x306),(iz x307),(iz x308),(iz x309),(iz x310),(iz x311),(iz x312),(iz x313)]))) fun v314 h315 =>
  C0.hop h315 (.load true 9 (.v v2)) fun v316 h317 =>
   K0 v316 h315
theorem X18_4_0_ok (d:Nat) (a0:AV) (a1 a2 a3 a4 a5 a6 a7 a8:Int) (n0:Nat) (K0:AV→Heap→Ans) (v0 v2 v4 v6 v228 v230 v234 v236:AV) (x240:Int) (v285:AV) (x286:Int) (v287 v288 v289 v290 v291 v292 v293 v294 v295 v296 v297 v298 v299 v300 v301:AV) (H:Heap):r18X4_0 C0 d a0 a1 a2 a3 a4 a5 a6 a7 a8 n0 K0 v0 v2 v4 v6 v228 v230 v234 v236 x240 ⟨[(.agg [a0,(iz a1),(iz a2),(iz a3),(iz a4),(iz a5),(iz a6),(iz a7),(iz a8)]),v0,v2,v285,v4,v6,v228,v230,v234,v236,(iz x240),(iz x286),v287,v288,v289,v290,v291,v292,v293,v294,v295,v296,v297,v298,v299,v300,v301,tz],H⟩=X18_4_0 d n0 K0 v0 v2 x240 H:=by
 unfold r18X4_0; refine Eq.trans (pl_len (by rfl)) ?_; refine yt ySs ?_; refine yt yA ?_; refine yt ySs ?_; refine yt yI ?_; refine yt yAs ?_; refine yt yS ?_
 rfl
noncomputable def L18_4 (d:Nat) (n0:Nat) (K0:AV→Heap→Ans) (v0 v2:AV) (x240:Int):Nat→Int→Heap→Ans
 | 0,_,_=>none
 | n+1,x245,H =>
 cnd (decide (x245 < x240))
  (C0.hop H (.fldA 0 (.v v0)) fun v261 h262 =>
  C0.hop h262 (.load false 1 (.v v261)) fun v263 h264 =>
  C0.hop h264 (.fldA 0 (.v v0)) fun v265 h266 =>
  C0.hop h266 (.load false 1 (.v v265)) fun v267 h268 =>
  C0.hop h268 (.ixAS .any 5 (.v v267) (.v (iz x245))) fun v269 h270 =>
  C0.hop h270 (.fldA 0 (.v v269)) fun v271 h272 =>
  C0.hop h272 (.load false 1 (.v v271)) fun v273 h274 =>
  C0.cal M (pcall M d) (n0+8) false 23 [v273] h274 fun v275 h276 =>
  C0.any (some v275) fun v277 =>
  C0.hop h276 (.ixAS .any 5 (.v v263) (.v (iz x245))) fun v278 h279 =>
  C0.hop h279 (.fldA 0 (.v v278)) fun v280 h281 =>
  C0.hop h281 (.store 1 (.v v280) (.v v277)) fun v282 h283 =>
  L18_4 d n0 K0 v0 v2 x240 n (IntKind.wrap .i64 (x245+1)) h283)
  (X18_4_0 d n0 K0 v0 v2 x240 H)
theorem L18_4_s (d:Nat) (n0:Nat) (K0:AV→Heap→Ans) (v0 v2:AV) (x240:Int) (n:Nat) (x245:Int) (H:Heap):L18_4 d n0 K0 v0 v2 x240 (n+1) x245 H=(cnd (decide (x245 < x240))
 (C0.hop H (.fldA 0 (.v v0)) fun v261 h262 =>
 C0.hop h262 (.load false 1 (.v v261)) fun v263 h264 =>
 C0.hop h264 (.fldA 0 (.v v0)) fun v265 h266 =>
 C0.hop h266 (.load false 1 (.v v265)) fun v267 h268 =>
 C0.hop h268 (.ixAS .any 5 (.v v267) (.v (iz x245))) fun v269 h270 =>
 C0.hop h270 (.fldA 0 (.v v269)) fun v271 h272 =>
 C0.hop h272 (.load false 1 (.v v271)) fun v273 h274 =>
 C0.cal M (pcall M d) (n0+8) false 23 [v273] h274 fun v275 h276 =>
 C0.any (some v275) fun v277 =>
 C0.hop h276 (.ixAS .any 5 (.v v263) (.v (iz x245))) fun v278 h279 =>
 C0.hop h279 (.fldA 0 (.v v278)) fun v280 h281 =>
 C0.hop h281 (.store 1 (.v v280) (.v v277)) fun v282 h283 =>
 L18_4 d n0 K0 v0 v2 x240 n (IntKind.wrap .i64 (x245+1)) h283)
 (X18_4_0 d n0 K0 v0 v2 x240 H)):=by kernel_rfl
theorem it18_4 (d:Nat) (a0:AV) (a1 a2 a3 a4 a5 a6 a7 a8:Int) (n0:Nat) (K0:AV→Heap→Ans) (v0 v2 v4 v6 v228 v230 v234 v236:AV) (x240:Int)  :∀ (n:Nat) (v244:AV) (x245:Int) (v246 v247 v248 v249 v250 v251 v252 v253 v254 v255 v256 v257 v258 v259 v260:AV) (H:Heap),C0.iter (r18R4 C0 d a0 a1 a2 a3 a4 a5 a6 a7 a8 n0 K0 v0 v2 v4 v6 v228 v230 v234 v236 x240) n ⟨[(.agg [a0,(iz a1),(iz a2),(iz a3),(iz a4),(iz a5),(iz a6),(iz a7),(iz a8)]),v0,v2,v244,v4,v6,v228,v230,v234,v236,(iz x240),(iz x245),v246,v247,v248,v249,v250,v251,v252,v253,v254,v255,v256,v257,v258,v259,v260,tz],H⟩ [0] [r18X4_0 C0 d a0 a1 a2 a3 a4 a5 a6 a7 a8 n0 K0 v0 v2 v4 v6 v228 v230 v234 v236 x240] (r18E4 C0 d a0 a1 a2 a3 a4 a5 a6 a7 a8 n0 K0 v0 v2 v4 v6 v228 v230 v234 v236 x240)=L18_4 d n0 K0 v0 v2 x240 n x245 H:=by
 generalize hR:r18R4 C0 d a0 a1 a2 a3 a4 a5 a6 a7 a8 n0 K0 v0 v2 v4 v6 v228 v230 v234 v236 x240=R
 intro n
 induction n with
 | zero=>intros; rfl
 | succ n ih =>
   intro v244 x245 v246 v247 v248 v249 v250 v251 v252 v253 v254 v255 v256 v257 v258 v259 v260 H
   simp only [it_ret] at ih
   rw [it_ret,xiter_s]
   refine Eq.trans (congrFun (congrFun hR.symm _) _) ?_
   unfold r18R4
   refine Eq.trans (pl_len (by rfl)) ?_; refine yt ySs ?_; refine yt yA ?_; refine yt ySs ?_; refine yt yI ?_; (iterate 15 (refine yt yA ?_)); refine yt yS ?_
   simp only [kIter_n,kIter_x,kIter_r,kOut_x,kOut_r,xgo_hit,xgo_miss,ih,X18_4_0_ok d a0 a1 a2 a3 a4 a5 a6 a7 a8 n0 K0 v0 v2 v4 v6 v228 v230 v234 v236 x240  ]
   exact (L18_4_s d n0 K0 v0 v2 x240 n x245 H).symm
theorem q18 (d:Nat) (a0:AV) (a1 a2 a3 a4 a5 a6 a7 a8:Int) (n0:Nat) (H0:Heap) (K0:AV→Heap→Ans):xmeth C0 M unr d (n0+8) 18 [(.agg [a0,(iz a1),(iz a2),(iz a3),(iz a4),(iz a5),(iz a6),(iz a7),(iz a8)])] H0 K0 =
 C0.hop H0 (.box E24 (.v (.agg [a0,(iz a1),(iz a2),(iz a3),(iz a4),(iz a5),(iz a6),(iz a7),(iz a8)]))) fun v0 h1 =>
 C0.hop h1 (.alloc E24) fun v2 h3 =>
 C0.hop h3 (.fldA 0 (.v v0)) fun v4 h5 =>
 C0.hop h5 (.load false 1 (.v v4)) fun v6 h7 =>
 C0.bool (clr v6) fun b8 =>
 cnd b8
  (C0.same (emptyQ (pcall M d) 32) (.lst []) <|
  C0.hop h7 (.fldA 0 (.v v0)) fun v9 h10 =>
  C0.hop h10 (.store 1 (.v v9) (.v (.lst []))) fun v11 h12 =>
  C0.hop h12 (.fldA 0 (.v v0)) fun v13 h14 =>
  C0.hop h14 (.load false 1 (.v v13)) fun v15 h16 =>
  C0.hop h16 (.bk .lenV [(.v v15)]) fun v17 h18 =>
  C0.int .i64 (some v17) fun x19 =>
  L18_0 d n0 K0 v0 v2 x19 10000000000000000000 0 h18)
  (C0.hop h7 (.eqv false 2 [] (.v v6) (.v (.zsl true))) fun v116 h117 =>
  C0.bool (some v116) fun b118 =>
  cnd b118
  (C0.hop h117 (.fldA 0 (.v v0)) fun v119 h120 =>
  C0.hop h120 (.store 1 (.v v119) (.v (.zsl true))) fun v121 h122 =>
  C0.hop h122 (.fldA 0 (.v v0)) fun v123 h124 =>
  C0.hop h124 (.load false 1 (.v v123)) fun v125 h126 =>
  C0.hop h126 (.bk .lenV [(.v v125)]) fun v127 h128 =>
  C0.int .i64 (some v127) fun x129 =>
  L18_2 d n0 K0 v0 v2 x129 10000000000000000000 0 h128)
  (C0.hop h117 (.mkrow E30 0 []) fun v226 h227 =>
  C0.hop h227 (.app E30 (.v v226) (.v v6)) fun v228 h229 =>
  C0.hop h229 (.fldA 0 (.v v0)) fun v230 h231 =>
  C0.hop h231 (.store 1 (.v v230) (.v v228)) fun v232 h233 =>
  C0.hop h233 (.fldA 0 (.v v0)) fun v234 h235 =>
  C0.hop h235 (.load false 1 (.v v234)) fun v236 h237 =>
  C0.hop h237 (.bk .lenV [(.v v236)]) fun v238 h239 =>
  C0.int .i64 (some v238) fun x240 =>
  L18_4 d n0 K0 v0 v2 x240 10000000000000000000 0 h239)):=(r18 C0 d a0 a1 a2 a3 a4 a5 a6 a7 a8 n0 H0 K0).trans (by simp only [it18_0,it18_2,it18_4])
noncomputable def X35f26_0_0 (d:Nat) (a0:List AV) :Ans :=
 some (iz (-1))
theorem X35f26_0_0_ok (d:Nat) (a0:List AV) (x30:Int) (v31:AV) (x32:Int) (v33 v34 v35 v36 v37 v38 v39 v40 v41 v42:AV):r35f26X0_0 C0 d a0 ⟨[(.lst a0),(.fn 26 [] []),tz,tz,(iz x30),v31,(.lst a0),(iz (((List.length a0):Nat):Int)),(iz x32),v33,v34,v35,v36,v37,v38,v39,v40,v41,v42],[]⟩=X35f26_0_0 d a0 :=by
 unfold r35f26X0_0; refine Eq.trans (pl_len (by rfl)) ?_; refine yt ySs ?_; refine yt yI ?_; refine yt yA ?_; refine yt ySs ?_; refine yt yI ?_; refine yt yAs ?_; refine Eq.trans (pl_sameH) ?_
 rfl
noncomputable def E35f26_0 (d:Nat) (a0:List AV) (x43:Int):Ans :=
 some (iz x43)
theorem E35f26_0_ok (d:Nat) (a0:List AV) (x43 x44 x45:Int) (v46:AV) (x47:Int) (v48 v49:AV) (x50:Int) (v51 v53:AV) (x54 x55 x56 x57:Int) (b58:Bool) (x59:Int) (v60:AV):r35f26E0 C0 d a0 ⟨[(.lst a0),(.fn 26 [] []),tz,tz,(iz x43),(iz x44),(.lst a0),(iz (((List.length a0):Nat):Int)),(iz x45),v46,(iz x47),v48,v49,(iz x50),v51,(.agg [v53,(iz x54),(iz x55),(iz x56),(iz x57)]),(.bool b58),(iz x59),v60],[]⟩=E35f26_0 d a0 x43:=by
 unfold r35f26E0; refine Eq.trans (pl_len (by rfl)) ?_; refine yt ySs ?_; (iterate 2 (refine yt yI ?_)); refine yt ySs ?_; refine yt yI ?_; refine yt yA ?_; refine yt yI ?_; refine yt yAs ?_; refine yt yI ?_; refine yt yA ?_; refine yt yG ?_; refine yt yA ?_; (iterate 4 (refine yt yI ?_)); refine yt yB ?_; refine yt yI ?_; refine yt yA ?_; refine Eq.trans (pl_sameH) ?_
 rfl
noncomputable def L35f26_0 (d:Nat) (a0:List AV):Nat→Int→Ans
 | 0,_=>none
 | n+1,x5 =>
 cnd (decide (x5 < (((List.length a0):Nat):Int)))
  (cnd (decide ((0:Int)≤x5))
  (C0.agg 5 a0[(Int.toNat x5)]? fun l16 =>
  C0.lst l16[0]? (fun l17 =>
  C0.int .i64 l16[1]? fun x19 =>
  C0.int .i64 l16[2]? fun x20 =>
  C0.int .i64 l16[3]? fun x21 =>
  C0.int .i64 l16[4]? fun x22 =>
  C0.bool (pcall M d 26 [(.agg [(.lst l17),(iz x19),(iz x20),(iz x21),(iz x22)])]) fun b23 =>
  cnd b23
  (E35f26_0 d a0 x5)
  (L35f26_0 d a0 n (IntKind.wrap .i64 (x5+1))))
    (fun z18 =>
  C0.int .i64 l16[1]? fun x24 =>
  C0.int .i64 l16[2]? fun x25 =>
  C0.int .i64 l16[3]? fun x26 =>
  C0.int .i64 l16[4]? fun x27 =>
  C0.bool (pcall M d 26 [(.agg [(.zsl z18),(iz x24),(iz x25),(iz x26),(iz x27)])]) fun b28 =>
  cnd b28
  (E35f26_0 d a0 x5)
  (L35f26_0 d a0 n (IntKind.wrap .i64 (x5+1)))))
  (none))
  (X35f26_0_0 d a0)
theorem L35f26_0_s (d:Nat) (a0:List AV) (n:Nat) (x5:Int):L35f26_0 d a0 (n+1) x5=(cnd (decide (x5 < (((List.length a0):Nat):Int)))
 (cnd (decide ((0:Int)≤x5))
 (C0.agg 5 a0[(Int.toNat x5)]? fun l16 =>
 C0.lst l16[0]? (fun l17 =>
 C0.int .i64 l16[1]? fun x19 =>
 C0.int .i64 l16[2]? fun x20 =>
 C0.int .i64 l16[3]? fun x21 =>
 C0.int .i64 l16[4]? fun x22 =>
 C0.bool (pcall M d 26 [(.agg [(.lst l17),(iz x19),(iz x20),(iz x21),(iz x22)])]) fun b23 =>
 cnd b23
 (E35f26_0 d a0 x5)
 (L35f26_0 d a0 n (IntKind.wrap .i64 (x5+1))))
   (fun z18 =>
 C0.int .i64 l16[1]? fun x24 =>
 C0.int .i64 l16[2]? fun x25 =>
 C0.int .i64 l16[3]? fun x26 =>
 C0.int .i64 l16[4]? fun x27 =>
 C0.bool (pcall M d 26 [(.agg [(.zsl z18),(iz x24),(iz x25),(iz x26),(iz x27)])]) fun b28 =>
 cnd b28
 (E35f26_0 d a0 x5)
 (L35f26_0 d a0 n (IntKind.wrap .i64 (x5+1)))))
 (none))
 (X35f26_0_0 d a0)):=by kernel_rfl
theorem it35f26_0 (d:Nat) (a0:List AV)  :∀ (n:Nat) (x3:Int) (v4:AV) (x5:Int) (v6 v7 v8 v9 v10 v11 v12 v13 v14 v15:AV),C0.iter (r35f26R0 C0 d a0) n ⟨[(.lst a0),(.fn 26 [] []),tz,tz,(iz x3),v4,(.lst a0),(iz (((List.length a0):Nat):Int)),(iz x5),v6,v7,v8,v9,v10,v11,v12,v13,v14,v15],[]⟩ [0] [r35f26X0_0 C0 d a0] (r35f26E0 C0 d a0)=L35f26_0 d a0 n x5:=by
 generalize hR:r35f26R0 C0 d a0=R
 intro n
 induction n with
 | zero=>intros; rfl
 | succ n ih =>
   intro x3 v4 x5 v6 v7 v8 v9 v10 v11 v12 v13 v14 v15
   simp only [it_ret] at ih
   rw [it_ret,xiter_s]
   refine Eq.trans (congrFun (congrFun hR.symm _) _) ?_
   unfold r35f26R0
   refine Eq.trans (pl_len (by rfl)) ?_; refine yt ySs ?_; refine yt yI ?_; refine yt yA ?_; refine yt ySs ?_; refine yt yI ?_; (iterate 10 (refine yt yA ?_)); refine Eq.trans (pl_sameH) ?_
   simp only [kIter_n,kIter_x,kIter_r,kOut_x,kOut_r,xgo_hit,xgo_miss,ih,X35f26_0_0_ok d a0  ,E35f26_0_ok d a0  ]
   exact (L35f26_0_s d a0 n x5).symm
theorem q35f26 (d:Nat) (a0:List AV) (a1:AV):xcall C0 M unr d 35 [(.lst a0),(.fn 26 [] [])] =
 L35f26_0 d a0 10000000000000000000 0:=(r35f26 C0 d a0 a1).trans (by simp only [it35f26_0])
end Go.Proofs.Ytffiilnmfmkpmaa.AE

namespace Go.Proofs.Ytffiilnmfmkpmaa.AE
set_option linter.unusedVariables false
set_option linter.unusedSimpArgs false
set_option linter.constructorNameAsVariable false
open Go Go.Proofs.Ytffiilnmfmkpmaa.Geo
attribute [local irreducible] pcall C0
set_option maxRecDepth 100000
structure Phs where
 ps:List Pt
 g:Int
 v:Int
 m:Int
 u:Int
abbrev phA (p:Phs):AV:=.agg [.lst (p.ps.map pt),.int .i64 p.g,.int .i64 p.v,.int .i64 p.m,.int .i64 p.u]
structure Rul where
 phs:List Phs
 n:Int
 d:Int
 gr:Int
 eps:Int
 st:Int
 age:Int
 lift:Int
 saf:Int
abbrev rl (r:Rul):AV:=.agg [.lst (r.phs.map phA),.int .i64 r.n,.int .i64 r.d,.int .i64 r.gr,.int .i64 r.eps,.int .i64 r.st,.int .i64 r.age,.int .i64 r.lift,.int .i64 r.saf]
theorem rows_phs:∀ l:List AV,(∀ x ∈ l,∃ cs,x=.agg cs∧CTall [(.sl true [(.i .i64),(.i .i64)]),(.i .i64),(.i .i64),(.i .i64),(.i .i64)] cs)→∃ ps:List Phs,l=ps.map phA
 | [],_=>⟨[],rfl⟩
 | x::l,h=>by
   obtain ⟨ps,rfl⟩:=rows_phs l fun y hy=>h y (List.mem_cons_of_mem _ hy)
   obtain ⟨_,rfl,_,_,rfl,⟨r,rfl,hl,hx⟩,_,_,rfl,⟨g,rfl,_⟩,_,_,rfl,⟨w,rfl,_⟩,_,_,rfl,⟨m,rfl,_⟩,_,_,rfl,⟨u,rfl,_⟩,rfl⟩:=h x (List.mem_cons_self ..)
   obtain ⟨qs,rfl⟩:=rows_pts r hx
   exact ⟨⟨qs,g,w,m,u⟩::ps,rfl⟩
theorem ty_rul {v:AV} (h:TyOK true [(.sl true [(.sl true [(.i .i64),(.i .i64)]),(.i .i64),(.i .i64),(.i .i64),(.i .i64)]),(.i .i64),(.i .i64),(.i .i64),(.i .i64),(.i .i64),(.i .i64),(.i .i64),(.i .i64)] v):∃ r,v=rl r∧r.phs.length≤9223372036854775807:=by
 obtain ⟨l,rfl,_,_,rfl,⟨r,rfl,hl,hx⟩,_,_,rfl,⟨a,rfl,_⟩,_,_,rfl,⟨b,rfl,_⟩,_,_,rfl,⟨c,rfl,_⟩,_,_,rfl,⟨d,rfl,_⟩,_,_,rfl,⟨e,rfl,_⟩,_,_,rfl,⟨f,rfl,_⟩,_,_,rfl,⟨g,rfl,_⟩,_,_,rfl,⟨i,rfl,_⟩,rfl⟩:=h
 obtain ⟨ps,rfl⟩:=rows_phs r hx
 exact ⟨⟨ps,a,b,c,d,e,f,g,i⟩,rfl,by rw [← maxLen_eq]; simpa using hl⟩
theorem phs_at {l:List Phs} {i:Nat} (h:i < l.length):(l.map phA)[i]?=some (phA l[i]):=by simp [List.getElem?_map,List.getElem?_eq_getElem h]
def fewX (l:List Phs):Bool:=l.all (fun p=>decide (p.ps.length≤12)) && decide (l.length≤8)
theorem few_go (d:Nat) (l:List Phs) (hl:l.length≤9223372036854775807):∀ (k i:Nat),i+k=l.length→∀ f,k < f →
 L9_0 d (l.map phA) f (i:Nat)=some (.bool ((l.drop i).all (fun p=>decide (p.ps.length≤12)) && decide (l.length≤8)))
 | 0,i,h,f+1,_=>by
   rw [L9_0,decide_eq_false (by simp; omega),cnd_f,List.drop_of_length_le (by omega)]
   unfold X9_0_0
   simp
   omega
 | k+1,i,h,f+1,hf=>by
   have hi:i < l.length:=by omega
   rw [L9_0,decide_eq_true (by simp; omega),cnd_t,decide_eq_true (by omega),cnd_t,show (((i:Nat):Int)).toNat=i by omega,phs_at hi]
   repeat with_reducible first | refine tt sh_ptr ?_ | refine tt sh_fptr ?_ | refine tt w2 ?_ | refine tt w3 ?_ | refine tt w8 ?_ | refine tt w9 ?_ | refine tt wf ?_ | refine tt wg ?_ | refine tt wh ?_ | refine tt wi ?_ | refine tt wj ?_ | refine tt wk ?_ | refine tt wl ?_ | refine tt wn ?_ | refine tt c_ort ?_ | refine tt c_nt ?_ | refine tt c_nf ?_ | refine tt (cnd_t _ _) ?_ | refine tt (cnd_f _ _) ?_ | refine tt w6 ?_ | refine tt w4 ?_ | refine tt w5 ?_ | refine tt w7 ?_ | refine tt wm ?_ | refine tt wo ?_ | refine tt wx ?_ | refine tt nil_ptr ?_ | refine tt len_lst ?_ | refine tt len_zsl ?_
   rw [List.drop_eq_getElem_cons hi,List.all_cons,List.length_map]
   by_cases c:l[i].ps.length≤12
   ·rw [decide_eq_false (show ¬ ((l[i].ps.length:Nat):Int) > 12 by omega),cnd_f,decide_eq_true c,Bool.true_and,show IntKind.wrap .i64 (((i:Nat):Int)+1)=((i+1:Nat):Int) by rw [i64w]; omega]
    exact few_go d l hl k (i+1) (by omega) f (by omega)
   ·rw [decide_eq_true (show ((l[i].ps.length:Nat):Int) > 12 by omega),cnd_t,decide_eq_false c]; rfl
theorem s9 (d:Nat) (r:Rul) (hl:r.phs.length≤9223372036854775807):pcall M (d+1) 9 [rl r]=some (.bool (fewX r.phs)):=told (q9 d _ _ _ _ _ _ _ _ _) (by
 have:=few_go d r.phs hl r.phs.length 0 (by omega) 10000000000000000000 (by omega)
 rw [List.drop_zero] at this
 exact this)
theorem few_t {l:List Phs} (h:fewX l=true):(∀ p ∈ l,p.ps.length≤12)∧l.length≤8:=by
 unfold fewX at h
 simp only [Bool.and_eq_true,List.all_eq_true,decide_eq_true_iff] at h
 exact h
theorem s22 (d:Nat) (n a b:Int):pcall M (d+1) 22 [.int .i64 n,.int .i64 a,.int .i64 b]=some (.bool (decide (a≤n∧n≤b))):=told (r22 C0 d _ _ _) (by
 by_cases h:n ≥ a
 ·rw [decide_eq_true h,cnd_t]; congr 2; rw [decide_eq_decide]; omega
 ·rw [decide_eq_false h,cnd_f,decide_eq_false (by omega)])
theorem s24 (d:Nat) (n a b:Int):pcall M (d+1) 24 [.int .i64 n,.int .i64 a,.int .i64 b]=some (.bool (decide (a≤n∧n≤b))):=told (r24 C0 d _ _ _) (by
 by_cases h:n ≥ a
 ·rw [decide_eq_true h,cnd_t]; congr 2; rw [decide_eq_decide]; omega
 ·rw [decide_eq_false h,cnd_f,decide_eq_false (by omega)])
theorem s28 (d:Nat) (n a b:Int):pcall M (d+1) 28 [.int .i64 n,.int .i64 a,.int .i64 b]=some (.bool (decide (a≤n∧n≤b))):=told (r28 C0 d _ _ _) (by
 by_cases h:n ≥ a
 ·rw [decide_eq_true h,cnd_t]; congr 2; rw [decide_eq_decide]; omega
 ·rw [decide_eq_false h,cnd_f,decide_eq_false (by omega)])
def RightPh (p:Phs):Prop:=rightB p.ps=true∧(1≤p.g∧p.g≤100)∧(1≤p.v∧p.v≤65536)∧(1≤p.m∧p.m≤1000000)∧(0≤p.u∧p.u≤1073741824)
instance (p:Phs):Decidable (RightPh p):=by unfold RightPh; infer_instance
theorem s17 (d:Nat) (p:Phs) (hl:p.ps.length≤140737488355328):pcall M (d+10) 17 [phA p]=some (.bool (decide (RightPh p))):=told (r17 C0 (d+9) _ _ _ _ _) (by
 refine Eq.trans (pl_bool (s31 d p.ps hl)) ?_
 by_cases h:rightB p.ps=true
 rotate_left
 ·refine Eq.trans (pl_f (Bool.eq_false_iff.mpr h)) ?_
  rw [decide_eq_false (fun k=>h k.1)]
 ·refine Eq.trans (pl_len h) ?_
  refine Eq.trans (pl_bool (s22 (d+8) _ _ _)) ?_
  by_cases h1:1≤p.g∧p.g≤100
  rotate_left
  ·rw [decide_eq_false h1,cnd_f,decide_eq_false (fun h=>h1 h.2.1)]
  rw [decide_eq_true h1,cnd_t]
  refine Eq.trans (pl_bool (s22 (d+8) _ _ _)) ?_
  by_cases h2:1≤p.v∧p.v≤65536
  rotate_left
  ·rw [decide_eq_false h2,cnd_f,decide_eq_false (fun h=>h2 h.2.2.1)]
  rw [decide_eq_true h2,cnd_t]
  refine Eq.trans (pl_bool (s22 (d+8) _ _ _)) ?_
  by_cases h3:1≤p.m∧p.m≤1000000
  rotate_left
  ·rw [decide_eq_false h3,cnd_f,decide_eq_false (fun h=>h3 h.2.2.2.1)]
  rw [decide_eq_true h3,cnd_t]
  refine Eq.trans (pl_bool (s22 (d+8) _ _ _)) ?_
  by_cases h4:0≤p.u∧p.u≤1073741824
  ·rw [decide_eq_true h4,decide_eq_true ⟨h,h1,h2,h3,h4⟩]
  ·rw [decide_eq_false h4,decide_eq_false (fun h=>h4 h.2.2.2.2)])
theorem s16 (d:Nat) (p:Phs) (hl:p.ps.length≤140737488355328):pcall M (d+13) 16 [phA p]=some (.bool (decide (RightPh p))):=told (r16 C0 (d+12) _ _ _ _ _) (by
 refine Eq.trans (pl_bool (s30 d p.ps hl)) ?_
 by_cases h:rightB p.ps=true
 rotate_left
 ·refine Eq.trans (pl_f (Bool.eq_false_iff.mpr h)) ?_
  rw [decide_eq_false (fun k=>h k.1)]
 ·refine Eq.trans (pl_len h) ?_
  refine Eq.trans (pl_bool (s28 (d+11) _ _ _)) ?_
  by_cases h1:1≤p.g∧p.g≤100
  rotate_left
  ·rw [decide_eq_false h1,cnd_f,decide_eq_false (fun h=>h1 h.2.1)]
  rw [decide_eq_true h1,cnd_t]
  refine Eq.trans (pl_bool (s28 (d+11) _ _ _)) ?_
  by_cases h2:1≤p.v∧p.v≤65536
  rotate_left
  ·rw [decide_eq_false h2,cnd_f,decide_eq_false (fun h=>h2 h.2.2.1)]
  rw [decide_eq_true h2,cnd_t]
  refine Eq.trans (pl_bool (s24 (d+11) _ _ _)) ?_
  by_cases h3:1≤p.m∧p.m≤1000000
  rotate_left
  ·rw [decide_eq_false h3,cnd_f,decide_eq_false (fun h=>h3 h.2.2.2.1)]
  rw [decide_eq_true h3,cnd_t]
  refine Eq.trans (pl_bool (s28 (d+11) _ _ _)) ?_
  by_cases h4:0≤p.u∧p.u≤1073741824
  ·rw [decide_eq_true h4,decide_eq_true ⟨h,h1,h2,h3,h4⟩]
  ·rw [decide_eq_false h4,decide_eq_false (fun h=>h4 h.2.2.2.2)])
def fiP (g:Phs→Bool):List Phs→Int→Int
 | [],_=>-1
 | p::l,i=>bif g p then i else fiP g l (i+1)
theorem fiP_any (g:Phs→Bool) (ps:List Phs):∀ i:Int,0≤i→decide (fiP g ps i ≥ 0)=ps.any g:=by
 induction ps with
 | nil=>intro i hi; simp [fiP]
 | cons p l ih =>
   intro i hi
   have h:=ih (i+1) (by omega)
   have e:∀ b:Bool,decide ((bif b then i else fiP g l (i+1)) ≥ 0)=(b || l.any g):=fun b=>by
    match b with
    | false=>exact h
    | true=>exact decide_eq_true hi
   exact e (g p)
def badX (p:Phs):Bool:=!decide (RightPh p)
theorem s26 (d:Nat) (p:Phs) (hl:p.ps.length≤140737488355328):pcall M (d+14) 26 [phA p]=some (.bool (badX p)):=told (r26 C0 (d+13) _ _ _ _ _) (by
 exact pl_bool (s16 d p hl))
theorem idx_go (d:Nat) (g:Phs→Bool) (l:List Phs) (hl:l.length≤1000) (hg:∀ p ∈ l,pcall M d 26 [phA p]=some (.bool (g p))):∀ (k i:Nat),i+k=l.length→∀ f,k < f →
 L35f26_0 d (l.map phA) f (i:Nat)=some (.int .i64 (fiP g (l.drop i) (i:Nat)))
 | 0,i,h,f+1,_=>by
   rw [L35f26_0,decide_eq_false (by simp; omega),cnd_f,List.drop_of_length_le (by omega)]; rfl
 | k+1,i,h,f+1,hf=>by
   have hi:i < l.length:=by omega
   rw [L35f26_0,decide_eq_true (by simp; omega),cnd_t,decide_eq_true (by omega),cnd_t,show (((i:Nat):Int)).toNat=i by omega,phs_at hi]
   repeat with_reducible first | refine tt sh_ptr ?_ | refine tt sh_fptr ?_ | refine tt w2 ?_ | refine tt w3 ?_ | refine tt w8 ?_ | refine tt w9 ?_ | refine tt wf ?_ | refine tt wg ?_ | refine tt wh ?_ | refine tt wi ?_ | refine tt wj ?_ | refine tt wk ?_ | refine tt wl ?_ | refine tt wn ?_ | refine tt c_ort ?_ | refine tt c_nt ?_ | refine tt c_nf ?_ | refine tt (cnd_t _ _) ?_ | refine tt (cnd_f _ _) ?_ | refine tt w6 ?_ | refine tt w4 ?_ | refine tt w5 ?_ | refine tt w7 ?_ | refine tt wm ?_ | refine tt wo ?_ | refine tt wx ?_ | refine tt nil_ptr ?_ | refine tt len_lst ?_ | refine tt len_zsl ?_
   refine Eq.trans (pl_bool (hg l[i] (List.getElem_mem _))) ?_
   rw [List.drop_eq_getElem_cons hi]
   unfold fiP
   cases g l[i]
   ·rw [cnd_f,show IntKind.wrap .i64 (((i:Nat):Int)+1)=((i+1:Nat):Int) by rw [i64w]; omega]
    exact (idx_go d g l hl hg k (i+1) (by omega) f (by omega)).trans (by simp)
   ·rfl
theorem anyI (d:Nat) (g:Phs→Bool) (l:List Phs) (hl:l.length≤1000) (hg:∀ p ∈ l,pcall M d 26 [phA p]=some (.bool (g p))) :
 pcall M (d+2) 25 [.lst (l.map phA),.fn 26 [] []]=some (.bool (l.any g)):=told (r25f26 C0 (d+1) _ .nilp) (by
 have h:pcall M (d+1) 35 [.lst (l.map phA),.fn 26 [] []]=some (.int .i64 (fiP g l 0)) :=
  told (q35f26 d (l.map phA) .nilp) (by have:=idx_go d g l hl hg l.length 0 (by omega) 10000000000000000000 (by omega); rw [List.drop_zero] at this; exact this)
 refine Eq.trans (pl_int h) ?_
 rw [fiP_any g l 0 (by decide)])
def wrongT (k n d gr eps st age lift saf:Int):Int :=
 if ¬ ((1≤n∧n≤50)∧(1≤d∧d≤50)∧(1≤gr∧gr≤50)) then 3 else if ¬ (0≤eps∧eps≤1024) then 4 else if ¬ (1≤st∧st≤65536) then 5
 else if ¬ (1≤age∧age≤50) then 6 else if ¬ (1≤lift∧lift≤1073741824) then 7 else if ¬ (0≤saf∧saf≤k) then 8 else 0
def wrongX (r:Rul):Int:=if r.phs.length < 1 ∨ r.phs.length > 4 then 1 else bif r.phs.any badX then 2 else wrongT r.phs.length r.n r.d r.gr r.eps r.st r.age r.lift r.saf
theorem ref_tail (d:Nat) (l:List AV) (n e gr eps st age lift saf:Int):X10_0_0 (d+1) l n e gr eps st age lift saf=some (.int .i64 (wrongT l.length n e gr eps st age lift saf)):=by
 unfold X10_0_0 wrongT
 have W:=s22 d
 refine Eq.trans (pl_bool (W _ _ _)) ?_
 by_cases h1:1≤n∧n≤50
 rotate_left
 ·rw [decide_eq_false h1,if_pos (fun h=>h1 h.1)]; rfl
 rw [decide_eq_true h1]
 repeat with_reducible first | refine tt sh_ptr ?_ | refine tt sh_fptr ?_ | refine tt w2 ?_ | refine tt w3 ?_ | refine tt w8 ?_ | refine tt w9 ?_ | refine tt wf ?_ | refine tt wg ?_ | refine tt wh ?_ | refine tt wi ?_ | refine tt wj ?_ | refine tt wk ?_ | refine tt wl ?_ | refine tt wn ?_ | refine tt c_ort ?_ | refine tt c_nt ?_ | refine tt c_nf ?_ | refine tt (cnd_t _ _) ?_ | refine tt (cnd_f _ _) ?_ | refine tt w6 ?_ | refine tt w4 ?_ | refine tt w5 ?_ | refine tt w7 ?_ | refine tt wm ?_ | refine tt wo ?_ | refine tt wx ?_ | refine tt nil_ptr ?_ | refine tt len_lst ?_ | refine tt len_zsl ?_
 refine Eq.trans (pl_bool (W _ _ _)) ?_
 by_cases h2:1≤e∧e≤50
 rotate_left
 ·rw [decide_eq_false h2,if_pos (fun h=>h2 h.2.1)]; rfl
 rw [decide_eq_true h2]
 repeat with_reducible first | refine tt sh_ptr ?_ | refine tt sh_fptr ?_ | refine tt w2 ?_ | refine tt w3 ?_ | refine tt w8 ?_ | refine tt w9 ?_ | refine tt wf ?_ | refine tt wg ?_ | refine tt wh ?_ | refine tt wi ?_ | refine tt wj ?_ | refine tt wk ?_ | refine tt wl ?_ | refine tt wn ?_ | refine tt c_ort ?_ | refine tt c_nt ?_ | refine tt c_nf ?_ | refine tt (cnd_t _ _) ?_ | refine tt (cnd_f _ _) ?_ | refine tt w6 ?_ | refine tt w4 ?_ | refine tt w5 ?_ | refine tt w7 ?_ | refine tt wm ?_ | refine tt wo ?_ | refine tt wx ?_ | refine tt nil_ptr ?_ | refine tt len_lst ?_ | refine tt len_zsl ?_
 refine Eq.trans (pl_bool (W _ _ _)) ?_
 by_cases h3:1≤gr∧gr≤50
 rotate_left
 ·rw [decide_eq_false h3,if_pos (fun h=>h3 h.2.2)]; rfl
 rw [decide_eq_true h3,if_neg (fun h=>h ⟨h1,h2,h3⟩)]
 repeat with_reducible first | refine tt sh_ptr ?_ | refine tt sh_fptr ?_ | refine tt w2 ?_ | refine tt w3 ?_ | refine tt w8 ?_ | refine tt w9 ?_ | refine tt wf ?_ | refine tt wg ?_ | refine tt wh ?_ | refine tt wi ?_ | refine tt wj ?_ | refine tt wk ?_ | refine tt wl ?_ | refine tt wn ?_ | refine tt c_ort ?_ | refine tt c_nt ?_ | refine tt c_nf ?_ | refine tt (cnd_t _ _) ?_ | refine tt (cnd_f _ _) ?_ | refine tt w6 ?_ | refine tt w4 ?_ | refine tt w5 ?_ | refine tt w7 ?_ | refine tt wm ?_ | refine tt wo ?_ | refine tt wx ?_ | refine tt nil_ptr ?_ | refine tt len_lst ?_ | refine tt len_zsl ?_
 refine Eq.trans (pl_bool (W _ _ _)) ?_
 by_cases h4:0≤eps∧eps≤1024
 rotate_left
 ·rw [decide_eq_false h4,if_pos h4]; rfl
 rw [decide_eq_true h4,if_neg (fun h=>h h4)]
 repeat with_reducible first | refine tt sh_ptr ?_ | refine tt sh_fptr ?_ | refine tt w2 ?_ | refine tt w3 ?_ | refine tt w8 ?_ | refine tt w9 ?_ | refine tt wf ?_ | refine tt wg ?_ | refine tt wh ?_ | refine tt wi ?_ | refine tt wj ?_ | refine tt wk ?_ | refine tt wl ?_ | refine tt wn ?_ | refine tt c_ort ?_ | refine tt c_nt ?_ | refine tt c_nf ?_ | refine tt (cnd_t _ _) ?_ | refine tt (cnd_f _ _) ?_ | refine tt w6 ?_ | refine tt w4 ?_ | refine tt w5 ?_ | refine tt w7 ?_ | refine tt wm ?_ | refine tt wo ?_ | refine tt wx ?_ | refine tt nil_ptr ?_ | refine tt len_lst ?_ | refine tt len_zsl ?_
 refine Eq.trans (pl_bool (W _ _ _)) ?_
 by_cases h5:1≤st∧st≤65536
 rotate_left
 ·rw [decide_eq_false h5,if_pos h5]; rfl
 rw [decide_eq_true h5,if_neg (fun h=>h h5)]
 repeat with_reducible first | refine tt sh_ptr ?_ | refine tt sh_fptr ?_ | refine tt w2 ?_ | refine tt w3 ?_ | refine tt w8 ?_ | refine tt w9 ?_ | refine tt wf ?_ | refine tt wg ?_ | refine tt wh ?_ | refine tt wi ?_ | refine tt wj ?_ | refine tt wk ?_ | refine tt wl ?_ | refine tt wn ?_ | refine tt c_ort ?_ | refine tt c_nt ?_ | refine tt c_nf ?_ | refine tt (cnd_t _ _) ?_ | refine tt (cnd_f _ _) ?_ | refine tt w6 ?_ | refine tt w4 ?_ | refine tt w5 ?_ | refine tt w7 ?_ | refine tt wm ?_ | refine tt wo ?_ | refine tt wx ?_ | refine tt nil_ptr ?_ | refine tt len_lst ?_ | refine tt len_zsl ?_
 refine Eq.trans (pl_bool (W _ _ _)) ?_
 by_cases h6:1≤age∧age≤50
 rotate_left
 ·rw [decide_eq_false h6,if_pos h6]; rfl
 rw [decide_eq_true h6,if_neg (fun h=>h h6)]
 repeat with_reducible first | refine tt sh_ptr ?_ | refine tt sh_fptr ?_ | refine tt w2 ?_ | refine tt w3 ?_ | refine tt w8 ?_ | refine tt w9 ?_ | refine tt wf ?_ | refine tt wg ?_ | refine tt wh ?_ | refine tt wi ?_ | refine tt wj ?_ | refine tt wk ?_ | refine tt wl ?_ | refine tt wn ?_ | refine tt c_ort ?_ | refine tt c_nt ?_ | refine tt c_nf ?_ | refine tt (cnd_t _ _) ?_ | refine tt (cnd_f _ _) ?_ | refine tt w6 ?_ | refine tt w4 ?_ | refine tt w5 ?_ | refine tt w7 ?_ | refine tt wm ?_ | refine tt wo ?_ | refine tt wx ?_ | refine tt nil_ptr ?_ | refine tt len_lst ?_ | refine tt len_zsl ?_
 refine Eq.trans (pl_bool (W _ _ _)) ?_
 by_cases h7:1≤lift∧lift≤1073741824
 rotate_left
 ·rw [decide_eq_false h7,if_pos h7]; rfl
 rw [decide_eq_true h7,if_neg (fun h=>h h7)]
 repeat with_reducible first | refine tt sh_ptr ?_ | refine tt sh_fptr ?_ | refine tt w2 ?_ | refine tt w3 ?_ | refine tt w8 ?_ | refine tt w9 ?_ | refine tt wf ?_ | refine tt wg ?_ | refine tt wh ?_ | refine tt wi ?_ | refine tt wj ?_ | refine tt wk ?_ | refine tt wl ?_ | refine tt wn ?_ | refine tt c_ort ?_ | refine tt c_nt ?_ | refine tt c_nf ?_ | refine tt (cnd_t _ _) ?_ | refine tt (cnd_f _ _) ?_ | refine tt w6 ?_ | refine tt w4 ?_ | refine tt w5 ?_ | refine tt w7 ?_ | refine tt wm ?_ | refine tt wo ?_ | refine tt wx ?_ | refine tt nil_ptr ?_ | refine tt len_lst ?_ | refine tt len_zsl ?_
 refine Eq.trans (pl_bool (W _ _ _)) ?_
 by_cases h8:0≤saf∧saf≤((l.length:Nat):Int)
 rotate_left
 ·rw [decide_eq_false h8,if_pos h8]; rfl
 rw [decide_eq_true h8,if_neg (fun h=>h h8)]
 rfl
theorem ref_go (d:Nat) (r:Rul) (hl:r.phs.length≤1000) (ha:∀ p ∈ r.phs,p.ps.length≤140737488355328):∀ (k i:Nat),i+k=r.phs.length→∀ f,k < f →
 L10_0 (d+10) (r.phs.map phA) r.n r.d r.gr r.eps r.st r.age r.lift r.saf f (i:Nat)=some (.int .i64 (bif (r.phs.drop i).any badX then 2 else wrongT r.phs.length r.n r.d r.gr r.eps r.st r.age r.lift r.saf))
 | 0,i,h,f+1,_=>by
   rw [L10_0,decide_eq_false (by simp; omega),cnd_f,List.drop_of_length_le (by omega),ref_tail,List.length_map]; rfl
 | k+1,i,h,f+1,hf=>by
   have hi:i < r.phs.length:=by omega
   rw [L10_0,decide_eq_true (by simp; omega),cnd_t,decide_eq_true (by omega),cnd_t,show (((i:Nat):Int)).toNat=i by omega,phs_at hi]
   repeat with_reducible first | refine tt sh_ptr ?_ | refine tt sh_fptr ?_ | refine tt w2 ?_ | refine tt w3 ?_ | refine tt w8 ?_ | refine tt w9 ?_ | refine tt wf ?_ | refine tt wg ?_ | refine tt wh ?_ | refine tt wi ?_ | refine tt wj ?_ | refine tt wk ?_ | refine tt wl ?_ | refine tt wn ?_ | refine tt c_ort ?_ | refine tt c_nt ?_ | refine tt c_nf ?_ | refine tt (cnd_t _ _) ?_ | refine tt (cnd_f _ _) ?_ | refine tt w6 ?_ | refine tt w4 ?_ | refine tt w5 ?_ | refine tt w7 ?_ | refine tt wm ?_ | refine tt wo ?_ | refine tt wx ?_ | refine tt nil_ptr ?_ | refine tt len_lst ?_ | refine tt len_zsl ?_
   refine Eq.trans (pl_bool (s17 d r.phs[i] (ha _ (List.getElem_mem _)))) ?_
   rw [List.drop_eq_getElem_cons hi,List.any_cons]
   change cnd (badX r.phs[i]) _ _=_
   cases badX r.phs[i]
   ·rw [cnd_f,Bool.false_or,show IntKind.wrap .i64 (((i:Nat):Int)+1)=((i+1:Nat):Int) by rw [i64w]; omega]
    exact ref_go d r hl ha k (i+1) (by omega) f (by omega)
   ·rfl
theorem s10 (d:Nat) (r:Rul) (hl:r.phs.length≤1000) (ha:∀ p ∈ r.phs,p.ps.length≤140737488355328):pcall M (d+11) 10 [rl r]=some (.int .i64 (wrongX r)):=told (q10 (d+10) _ _ _ _ _ _ _ _ _) (by
 unfold wrongX
 rw [List.length_map]
 by_cases h1:r.phs.length < 1
 ·rw [decide_eq_true (show ((r.phs.length:Nat):Int) < 1 by omega),cnd_t,if_pos (.inl h1)]
 rw [decide_eq_false (show ¬ ((r.phs.length:Nat):Int) < 1 by omega),cnd_f]
 by_cases h2:r.phs.length > 4
 ·rw [decide_eq_true (show ((r.phs.length:Nat):Int) > 4 by omega),cnd_t,if_pos (.inr h2)]
 rw [decide_eq_false (show ¬ ((r.phs.length:Nat):Int) > 4 by omega),cnd_f,if_neg (by omega)]
 have:=ref_go d r hl ha r.phs.length 0 (by omega) 10000000000000000000 (by omega)
 rw [List.drop_zero] at this
 exact this)
def limX (r:Rul):Prop:=(1≤r.n∧r.n≤50)∧(1≤r.d∧r.d≤50)∧(1≤r.gr∧r.gr≤50)
instance (r:Rul):Decidable (limX r):=by unfold limX; infer_instance
theorem limI (d:Nat) (r:Rul):pcall M (d+2) 27 [.fptr (rl r) 0]=some (.bool (decide (limX r))):=told (r27 C0 (d+1) .nilp _ _ _ _ _ _ _ _ _) (by
 refine Eq.trans (pl_bool (s24 d _ _ _)) ?_
 by_cases h1:1≤(if r.gr < (if r.d < r.n then r.d else r.n) then r.gr else (if r.d < r.n then r.d else r.n))∧(if r.gr < (if r.d < r.n then r.d else r.n) then r.gr else (if r.d < r.n then r.d else r.n))≤50
 ·rw [decide_eq_true h1,cnd_t]
  refine Eq.trans (pl_bool (s24 d _ _ _)) ?_
  congr 2; rw [decide_eq_decide]; unfold limX; omega
 ·rw [decide_eq_false h1,cnd_f,decide_eq_false (by unfold limX; omega)])
theorem s12 (d:Nat) (r:Rul) (hl:r.phs.length≤1000) (ha:∀ p ∈ r.phs,p.ps.length≤140737488355328):pcall M (d+17) 12 [rl r]=some (.int .i64 (wrongX r)):=told (r12 C0 (d+16) _ _ _ _ _ _ _ _ _) (by
 have W:=s24 (d+15)
 have V:=s28 (d+15)
 refine Eq.trans (pl_bool (W _ _ _)) ?_
 unfold wrongX
 rw [List.length_map]
 by_cases h1:(1:Int)≤((r.phs.length:Nat):Int)∧((r.phs.length:Nat):Int)≤4
 rotate_left
 ·rw [decide_eq_false h1,if_pos (by omega)]; rfl
 rw [decide_eq_true h1,if_neg (by omega)]
 repeat with_reducible first | refine tt sh_ptr ?_ | refine tt sh_fptr ?_ | refine tt w2 ?_ | refine tt w3 ?_ | refine tt w8 ?_ | refine tt w9 ?_ | refine tt wf ?_ | refine tt wg ?_ | refine tt wh ?_ | refine tt wi ?_ | refine tt wj ?_ | refine tt wk ?_ | refine tt wl ?_ | refine tt wn ?_ | refine tt c_ort ?_ | refine tt c_nt ?_ | refine tt c_nf ?_ | refine tt (cnd_t _ _) ?_ | refine tt (cnd_f _ _) ?_ | refine tt w6 ?_ | refine tt w4 ?_ | refine tt w5 ?_ | refine tt w7 ?_ | refine tt wm ?_ | refine tt wo ?_ | refine tt wx ?_ | refine tt nil_ptr ?_ | refine tt len_lst ?_ | refine tt len_zsl ?_
 refine Eq.trans (pl_bool (anyI (d+14) badX r.phs hl (fun p hp=>s26 d p (ha p hp)))) ?_
 cases r.phs.any badX
 rotate_left
 ·rfl
 rw [cnd_f,cond_false]
 refine Eq.trans (pl_bool (limI (d+14) r)) ?_
 unfold wrongT
 by_cases h2:limX r
 rotate_left
 ·rw [decide_eq_false h2,if_pos (show ¬ ((1≤r.n∧r.n≤50)∧(1≤r.d∧r.d≤50)∧(1≤r.gr∧r.gr≤50)) from h2)]; rfl
 rw [decide_eq_true h2,if_neg (fun h=>h (show ((1≤r.n∧r.n≤50)∧(1≤r.d∧r.d≤50)∧(1≤r.gr∧r.gr≤50)) from h2))]
 repeat with_reducible first | refine tt sh_ptr ?_ | refine tt sh_fptr ?_ | refine tt w2 ?_ | refine tt w3 ?_ | refine tt w8 ?_ | refine tt w9 ?_ | refine tt wf ?_ | refine tt wg ?_ | refine tt wh ?_ | refine tt wi ?_ | refine tt wj ?_ | refine tt wk ?_ | refine tt wl ?_ | refine tt wn ?_ | refine tt c_ort ?_ | refine tt c_nt ?_ | refine tt c_nf ?_ | refine tt (cnd_t _ _) ?_ | refine tt (cnd_f _ _) ?_ | refine tt w6 ?_ | refine tt w4 ?_ | refine tt w5 ?_ | refine tt w7 ?_ | refine tt wm ?_ | refine tt wo ?_ | refine tt wx ?_ | refine tt nil_ptr ?_ | refine tt len_lst ?_ | refine tt len_zsl ?_
 refine Eq.trans (pl_bool (V _ _ _)) ?_
 by_cases h4:0≤r.eps∧r.eps≤1024
 rotate_left
 ·rw [decide_eq_false h4,if_pos h4]; rfl
 rw [decide_eq_true h4,if_neg (fun h=>h h4)]
 repeat with_reducible first | refine tt sh_ptr ?_ | refine tt sh_fptr ?_ | refine tt w2 ?_ | refine tt w3 ?_ | refine tt w8 ?_ | refine tt w9 ?_ | refine tt wf ?_ | refine tt wg ?_ | refine tt wh ?_ | refine tt wi ?_ | refine tt wj ?_ | refine tt wk ?_ | refine tt wl ?_ | refine tt wn ?_ | refine tt c_ort ?_ | refine tt c_nt ?_ | refine tt c_nf ?_ | refine tt (cnd_t _ _) ?_ | refine tt (cnd_f _ _) ?_ | refine tt w6 ?_ | refine tt w4 ?_ | refine tt w5 ?_ | refine tt w7 ?_ | refine tt wm ?_ | refine tt wo ?_ | refine tt wx ?_ | refine tt nil_ptr ?_ | refine tt len_lst ?_ | refine tt len_zsl ?_
 refine Eq.trans (pl_bool (V _ _ _)) ?_
 by_cases h5:1≤r.st∧r.st≤65536
 rotate_left
 ·rw [decide_eq_false h5,if_pos h5]; rfl
 rw [decide_eq_true h5,if_neg (fun h=>h h5)]
 repeat with_reducible first | refine tt sh_ptr ?_ | refine tt sh_fptr ?_ | refine tt w2 ?_ | refine tt w3 ?_ | refine tt w8 ?_ | refine tt w9 ?_ | refine tt wf ?_ | refine tt wg ?_ | refine tt wh ?_ | refine tt wi ?_ | refine tt wj ?_ | refine tt wk ?_ | refine tt wl ?_ | refine tt wn ?_ | refine tt c_ort ?_ | refine tt c_nt ?_ | refine tt c_nf ?_ | refine tt (cnd_t _ _) ?_ | refine tt (cnd_f _ _) ?_ | refine tt w6 ?_ | refine tt w4 ?_ | refine tt w5 ?_ | refine tt w7 ?_ | refine tt wm ?_ | refine tt wo ?_ | refine tt wx ?_ | refine tt nil_ptr ?_ | refine tt len_lst ?_ | refine tt len_zsl ?_
 refine Eq.trans (pl_bool (W _ _ _)) ?_
 by_cases h6:1≤r.age∧r.age≤50
 rotate_left
 ·rw [decide_eq_false h6,if_pos h6]; rfl
 rw [decide_eq_true h6,if_neg (fun h=>h h6)]
 repeat with_reducible first | refine tt sh_ptr ?_ | refine tt sh_fptr ?_ | refine tt w2 ?_ | refine tt w3 ?_ | refine tt w8 ?_ | refine tt w9 ?_ | refine tt wf ?_ | refine tt wg ?_ | refine tt wh ?_ | refine tt wi ?_ | refine tt wj ?_ | refine tt wk ?_ | refine tt wl ?_ | refine tt wn ?_ | refine tt c_ort ?_ | refine tt c_nt ?_ | refine tt c_nf ?_ | refine tt (cnd_t _ _) ?_ | refine tt (cnd_f _ _) ?_ | refine tt w6 ?_ | refine tt w4 ?_ | refine tt w5 ?_ | refine tt w7 ?_ | refine tt wm ?_ | refine tt wo ?_ | refine tt wx ?_ | refine tt nil_ptr ?_ | refine tt len_lst ?_ | refine tt len_zsl ?_
 refine Eq.trans (pl_bool (V _ _ _)) ?_
 by_cases h7:1≤r.lift∧r.lift≤1073741824
 rotate_left
 ·rw [decide_eq_false h7,if_pos h7]; rfl
 rw [decide_eq_true h7,if_neg (fun h=>h h7)]
 repeat with_reducible first | refine tt sh_ptr ?_ | refine tt sh_fptr ?_ | refine tt w2 ?_ | refine tt w3 ?_ | refine tt w8 ?_ | refine tt w9 ?_ | refine tt wf ?_ | refine tt wg ?_ | refine tt wh ?_ | refine tt wi ?_ | refine tt wj ?_ | refine tt wk ?_ | refine tt wl ?_ | refine tt wn ?_ | refine tt c_ort ?_ | refine tt c_nt ?_ | refine tt c_nf ?_ | refine tt (cnd_t _ _) ?_ | refine tt (cnd_f _ _) ?_ | refine tt w6 ?_ | refine tt w4 ?_ | refine tt w5 ?_ | refine tt w7 ?_ | refine tt wm ?_ | refine tt wo ?_ | refine tt wx ?_ | refine tt nil_ptr ?_ | refine tt len_lst ?_ | refine tt len_zsl ?_
 refine Eq.trans (pl_bool (W _ _ _)) ?_
 by_cases h8:0≤r.saf∧r.saf≤((r.phs.length:Nat):Int)
 rotate_left
 ·rw [decide_eq_false h8,if_pos h8]; rfl
 rw [decide_eq_true h8,if_neg (fun h=>h h8)]
 rfl)
end Go.Proofs.Ytffiilnmfmkpmaa.AE

namespace Go.Proofs.Ytffiilnmfmkpmaa.AE
set_option linter.unusedVariables false
set_option linter.unusedSimpArgs false
set_option linter.constructorNameAsVariable false
open Go Go.Proofs.Ytffiilnmfmkpmaa.Geo
abbrev Bx:=Pt × Pt
abbrev bx (b:Bx):AV:=.agg [.int .i64 b.1.1,.int .i64 b.1.2,.int .i64 b.2.1,.int .i64 b.2.2]
end Go.Proofs.Ytffiilnmfmkpmaa.AE

namespace Go.Proofs.Ytffiilnmfmkpmaa.AE
set_option linter.unusedVariables false
set_option linter.unusedSimpArgs false
set_option linter.constructorNameAsVariable false
open Go Go.Proofs.Ytffiilnmfmkpmaa.Geo
attribute [local irreducible] pcall C0
set_option maxRecDepth 100000
theorem clonePQ (d:Nat):emptyQ (pcall M (d+1)) 23=some (.lst []):=by
 unfold emptyQ
 rw [show pcall M (d+1) 23 [.zsl true]=some (.lst []) by kernel_rfl,show pcall M (d+1) 23 [.emp]=some (.lst []) by kernel_rfl]
theorem cloneHQ (d:Nat):emptyQ (pcall M (d+1)) 32=some (.lst []):=by
 unfold emptyQ
 rw [show pcall M (d+1) 32 [.zsl true]=some (.lst []) by kernel_rfl,show pcall M (d+1) 32 [.emp]=some (.lst []) by kernel_rfl]
theorem xmeth_ok2 {M:Mod} {U:FuncId→XU} {d n:Nat} {g:FuncId} {args:List AV} {H H':Heap} {v:AV} (he:M.ext g=none) (hi:M.inl g=true) (hem:emptyR M (pcall M d) g args=none) (h:∀ K,xmeth C0 M U d n g args H K=K v H'):callB M (pcall M d) (n+1) true g args H=some (v,H'):=by
 classical
 have hk:=h fun v' H1=>if v'=v∧H1=H' then some .undef else none
 rw [if_pos ⟨rfl,rfl⟩] at hk
 unfold xmeth at hk
 simp only [callB,he,hi,hem,if_true]
 cases hc:M.code g args.length with
 | none=>simp [hc] at hk
 | some fn =>
   simp only [hc] at hk ⊢
   obtain ⟨v',H1,h1,h2⟩:=xrunFn_ok (xcallB_ok M U (pcall M d) n true) (xcallB_ok M U (pcall M d) n false) hk
   split at h2
   ·rename_i hh
    obtain ⟨rfl,rfl⟩:=hh
    exact h1
   ·cases h2
theorem padH_ok:∀ (n:Nat) (S:Heap),padOk n (padH n ++ S)=true
 | 0,_=>rfl
 | n+1,S=>by
   change (Nat.beq junk.e.es 0 && !junk.els.isEmpty && padOk n (padH n ++ S))=true
   rw [padH_ok n S]; rfl
theorem padH_l:∀ n,(padH n).length=n
 | 0=>rfl
 | n+1=>by change (padH n).length+1=_; rw [padH_l n]
theorem fr_of {g:FuncId} {args:List AV} {d n:Nat} {v:Nat→AV} {S:Nat→Heap} (he:M.ext g=none) (hi:M.inl g=true) (hf:M.fr g=true) (ha:args.all (noId DEPTH)=true)
 (h:∀ H,callB M (pcall M d) (n+1) true g args H=some (v H.length,H ++ S H.length)) (H:Heap):callB M (pcall M d) (n+1) false g args H=some (v H.length,H ++ S H.length):=by
 have h1:=h H
 have h2:=h (padH H.length)
 simp only [callB,he,hi,if_true] at h1 h2 ⊢
 cases hem:emptyR M (pcall M d) g args with
 | some w=>rw [hem] at h1; exact h1
 | none =>
   rw [hem] at h2
   simp only [hf,ha,Bool.and_self] at h2 ⊢
   cases hc:M.code g args.length with
   | none=>rw [hc] at h2; cases h2
   | some fn =>
     rw [hc] at h2
     simp only at h2 ⊢
     unfold freshRun
     rw [h2,padH_l]
     simp only [padH_ok]
     rw [List.drop_append_of_le_length (by rw [padH_l]; exact Nat.le_refl _),List.drop_of_length_le (by rw [padH_l]; exact Nat.le_refl _),List.nil_append]
theorem mk_n {H:Heap} {e:ETy} {K:AV→Heap→Ans}:C0.hop H (.mkrow e 0 []) K=K (.slc (H.length+0) 0 0) (H ++ [some ⟨e,[]⟩]):=hop_eq rfl
theorem mk_s {H S:Heap} {e:ETy} {K:AV→Heap→Ans}:C0.hop (H ++ S) (.mkrow e 0 []) K=K (.slc (H.length+S.length) 0 0) (H ++ (S ++ [some ⟨e,[]⟩])):=by
 refine (hop_eq (v:=.slc (H ++ S).length 0 0) (H':=(H ++ S) ++ [some ⟨e,[]⟩]) rfl).trans ?_
 rw [List.length_append,List.append_assoc]
theorem ap_s {H S:Heap} {k:Nat} {e:ETy} {xs:List AV} {K:AV→Heap→Ans} (h:S[k]?=some (some ⟨e,[]⟩)) (hx:xs.all (elOk e)=true) (hs:xs.length * e.bytes≤140737488355328) (hs2:xs.length≤9223372036854775807) :
 C0.hop (H ++ S) (.app e (.v (.slc (H.length+k) 0 0)) (.v (.lst xs))) K=K (.slc (H.length+S.length) 0 xs.length) (H ++ (S.set k none ++ [some ⟨e,xs⟩])):=by
 refine (hop_eq (v:=.slc (H ++ S).length 0 xs.length) (H':=(H ++ S).set (H.length+k) none ++ [some ⟨e,xs⟩]) ?_).trans ?_
 ·simp only [aop,evO,elsOf,aApp]
  rw [hget_s h]
  simp only
  rw [if_pos ⟨rfl,by simpa using hs,by simpa using hs2,trivial,trivial,hx⟩]
  simp
 ·rw [List.length_append,set_s,List.append_assoc]
theorem ix_s {H S:Heap} {k n es:Nat} {b:Blk} {q:Int} {K:AV→Heap→Ans} (h:S[k]?=some (some b)) (h0:0≤q) (h1:q < (n:Int)) (he:b.e.es=es) :
 C0.hop (H ++ S) (.ixAS .any es (.v (.slc (H.length+k) 0 n)) (.v (.int .i64 q))) K=K (.ptr (H.length+k) (0+q.toNat) 0) (H ++ S):=ix_slc (hget_s h) h0 h1 he
theorem ln_s {H S:Heap} {k n:Nat} {b:Blk} {K:AV→Heap→Ans} (h:S[k]?=some (some b)):C0.hop (H ++ S) (.bk .lenV [.v (.slc (H.length+k) 0 n)]) K=K (.int .i64 n) (H ++ S):=hop_eq (by simp only [aop,evO,lenOf]; rw [hget_s h])
def arV (L:Nat) (ps:List Pt):AV:=match ps with
 | []=>.lst []
 | p::l=>.slc (L+1) 0 (p::l).length
def arS (ps:List Pt):Heap:=match ps with
 | []=>[]
 | p::l=>[none,some ⟨E39,(p::l).map pt⟩]
theorem all_ptE (ps:List Pt):(ps.map pt).all (elOk E39)=true:=by
 rw [List.all_eq_true]; intro x hx; obtain ⟨p,_,rfl⟩:=List.mem_map.mp hx; rfl
theorem all_phE (ps:List Phs):(ps.map phA).all (elOk E30)=true:=by
 rw [List.all_eq_true]; intro x hx; obtain ⟨p,_,rfl⟩:=List.mem_map.mp hx; rfl
theorem cloneI (d n0:Nat) (ps:List Pt) (hl:ps.length≤1000000) (H:Heap):callB M (pcall M (d+1)) (n0+9) true 23 [.lst (ps.map pt)] H=some (arV H.length ps,H ++ arS ps):=by
 cases ps with
 | nil =>
   have he:M.ext 23=none:=rfl
   have hi:M.inl 23=true:=rfl
   have hem:emptyR M (pcall M (d+1)) 23 [.lst (List.map pt [])]=some (.lst []):=by
    have hc:M.cl 23=true:=rfl
    simp only [emptyR,hc]
    change emptyQ (pcall M (d+1)) 23=_
    exact clonePQ d
   simp only [callB,he,hi,hem,if_true]
   simp [arV,arS]
 | cons p l =>
   refine xmeth_ok2 (U:=unr) (n:=n0+8) rfl rfl (by rw [emptyR,show M.cl 23=true from rfl]; rfl) fun K=>?_
   refine (r23 C0 (d+1) _ n0 _ K).trans ?_
   refine Eq.trans (hop_eq (v:=.bool false) (H':=H) (by rfl)) ?_
   refine Eq.trans (pl_bool rfl) ?_
   rw [cnd_f]
   refine Eq.trans mk_n ?_
   refine Eq.trans (ap_s (by rfl) (all_ptE _) (by rw [List.length_map,show (E39).bytes=16 from rfl]; omega) (by rw [List.length_map]; omega)) ?_
   rw [List.length_map]; rfl
theorem cloneF (d n0:Nat) (ps:List Pt) (hl:ps.length≤1000000) (H:Heap):callB M (pcall M (d+1)) (n0+9) false 23 [.lst (ps.map pt)] H=some (arV H.length ps,H ++ arS ps) :=
 fr_of (v:=fun L=>arV L ps) (S:=fun _=>arS ps) rfl rfl rfl rfl (cloneI d n0 ps hl) H
abbrev phX (v:AV) (p:Phs):AV:=.agg [v,.int .i64 p.g,.int .i64 p.v,.int .i64 p.m,.int .i64 p.u]
abbrev rlX (v:AV) (r:Rul):AV:=.agg [v,.int .i64 r.n,.int .i64 r.d,.int .i64 r.gr,.int .i64 r.eps,.int .i64 r.st,.int .i64 r.age,.int .i64 r.lift,.int .i64 r.saf]
def arsC:List Phs→Heap
 | []=>[]
 | p::l=>arS p.ps ++ arsC l
def elsC:Nat→List Phs→List AV
 | _,[]=>[]
 | L,p::l=>phX (arV L p.ps) p::elsC (L+(arS p.ps).length) l
theorem arsC_app:∀ a b,arsC (a ++ b)=arsC a ++ arsC b
 | [],b=>rfl
 | p::l,b=>by rw [List.cons_append,arsC,arsC,arsC_app l b,List.append_assoc]
theorem elsC_snoc:∀ (l:List Phs) (L:Nat) (p:Phs),elsC L (l ++ [p])=elsC L l ++ [phX (arV (L+(arsC l).length) p.ps) p]
 | [],L,p=>rfl
 | q::l,L,p=>by
   rw [List.cons_append,elsC,elsC,elsC_snoc l,arsC,List.length_append,List.cons_append,Nat.add_assoc]
theorem elsC_len:∀ (l:List Phs) (L:Nat),(elsC L l).length=l.length
 | [],L=>rfl
 | q::l,L=>by rw [elsC,List.length_cons,elsC_len l,List.length_cons]
theorem arV_sc (L:Nat) (ps:List Pt):(arV L ps).cells=[arV L ps]∧isSc (arV L ps)=true:=by cases ps <;> exact ⟨rfl,rfl⟩
def phV (L:Nat) (r:Rul):AV:=match r.phs with
 | []=>.lst []
 | p::l=>.slc (L+3) 0 (p::l).length
def cpS (L:Nat) (r:Rul):Heap:=match r.phs with
 | []=>[some ⟨E24,[rlX (.lst []) r]⟩,some ⟨E24,[rlX (.lst []) r]⟩]
 | p::l=>[some ⟨E24,[rlX (.slc (L+3) 0 (p::l).length) r]⟩,some ⟨E24,[rlX (.slc (L+3) 0 (p::l).length) r]⟩,none,some ⟨E30,elsC (L+4) (p::l)⟩] ++ arsC (p::l)
theorem take_snoc {l:List Phs} {i:Nat} (h:i < l.length):l.take (i+1)=l.take i ++ [l[i]]:=by rw [List.take_add_one,List.getElem?_eq_getElem h]; rfl
theorem els_at {L i:Nat} {l:List Phs} (h:i < l.length):(elsC L (l.take i) ++ (l.drop i).map phA)[i]?=some (phA l[i]):=by
 rw [List.getElem?_append_right (by rw [elsC_len,List.length_take]; omega),elsC_len,List.length_take,show i - min i l.length=0 by omega,List.drop_eq_getElem_cons h]; rfl
theorem els_set {L i:Nat} {l:List Phs} (h:i < l.length):(elsC L (l.take i) ++ (l.drop i).map phA).set i (phX (arV (L+(arsC (l.take i)).length) l[i].ps) l[i])=elsC L (l.take (i+1)) ++ (l.drop (i+1)).map phA:=by
 have e:i=(elsC L (l.take i)).length:=by rw [elsC_len,List.length_take]; omega
 rw [List.set_append_right _ _ (by omega),show i - (elsC L (l.take i)).length=0 by omega,List.drop_eq_getElem_cons h,take_snoc h,elsC_snoc]
 simp only [List.map_cons,List.set_cons_zero,List.append_assoc,List.singleton_append]
theorem put_ar {x y:AV} {p:Phs} (h1:x.cells=[x]) (h2:isSc x=true):putSub 1 (0+0) x (phX y p)=some (phX x p):=by
 simp only [putSub]
 rw [if_pos ⟨by simp,by rw [h1]; rfl,by rw [h1]; simp [h2]⟩,h1]; rfl
theorem copy_go (d n0:Nat) (H:Heap) (K:AV→Heap→Ans) (r:Rul) (hl:r.phs.length≤1000000) (ha:∀ p ∈ r.phs,p.ps.length≤1000000) (B1:Blk) (hB1:∃ v,B1=⟨E24,[rlX v ⟨[],0,0,0,0,0,0,0,0⟩]⟩):∀ (k i:Nat),i+k=r.phs.length→∀ f,k < f →
 L18_4 (d+1) (n0+1) K (.ptr (H.length+0) 0 0) (.ptr (H.length+1) 0 0) (r.phs.length:Nat) f (i:Nat)
  (H ++ ([some ⟨E24,[rlX (.slc (H.length+3) 0 r.phs.length) r]⟩,some B1,none,some ⟨E30,elsC (H.length+4) (r.phs.take i) ++ (r.phs.drop i).map phA⟩] ++ arsC (r.phs.take i))) =
 K (rlX (.slc (H.length+3) 0 r.phs.length) r) (H ++ ([some ⟨E24,[rlX (.slc (H.length+3) 0 r.phs.length) r]⟩,some ⟨E24,[rlX (.slc (H.length+3) 0 r.phs.length) r]⟩,none,some ⟨E30,elsC (H.length+4) r.phs⟩] ++ arsC r.phs))
 | 0,i,h,f+1,_=>by
   obtain ⟨bv,rfl⟩:=hB1
   rw [L18_4_s,decide_eq_false (by omega),cnd_f]
   rw [List.take_of_length_le (by omega),List.drop_of_length_le (by omega),List.map_nil,List.append_nil]
   unfold X18_4_0
   refine Eq.trans (ld_s (by rfl) (by rfl) (by rfl)) ?_; refine Eq.trans (pl_agg (by rfl) (by rfl)) ?_; refine Eq.trans (pl_any (by rfl)) ?_; refine Eq.trans (pl_int (by rfl)) ?_; refine Eq.trans (pl_int (by rfl)) ?_; refine Eq.trans (pl_int (by rfl)) ?_; refine Eq.trans (pl_int (by rfl)) ?_; refine Eq.trans (pl_int (by rfl)) ?_; refine Eq.trans (pl_int (by rfl)) ?_; refine Eq.trans (pl_int (by rfl)) ?_; refine Eq.trans (pl_int (by rfl)) ?_; refine Eq.trans (st_s (by rfl) (by rfl) (by rfl)) ?_; refine Eq.trans (ld_s (by rfl) (by rfl) (by rfl)) ?_
   rfl
 | k+1,i,h,f+1,hf=>by
   have hi:i < r.phs.length:=by omega
   have hp:=ha _ (List.getElem_mem hi)
   rw [L18_4_s,decide_eq_true (by omega),cnd_t]
   refine Eq.trans sh_ptr ?_; refine Eq.trans (ld_s (by rfl) (by rfl) (by rfl)) ?_; refine Eq.trans sh_ptr ?_; refine Eq.trans (ld_s (by rfl) (by rfl) (by rfl)) ?_
   refine Eq.trans (ix_s (by rfl) (by omega) (by omega) (by rfl)) ?_
   refine Eq.trans sh_ptr ?_
   refine Eq.trans (ld_s (v:=.lst (r.phs[i].ps.map pt)) (by rfl) (show (elsC (H.length+4) (r.phs.take i) ++ (r.phs.drop i).map phA)[0+((i:Nat):Int).toNat]?=some (phA r.phs[i]) by rw [Nat.zero_add,Int.toNat_natCast]; exact els_at hi) (by rfl)) ?_
   refine Eq.trans (cal_eq (cloneF d n0 r.phs[i].ps hp _)) ?_
   refine Eq.trans (pl_any (by rfl)) ?_
   rw [List.append_assoc]
   refine Eq.trans (ix_s (by rfl) (by omega) (by omega) (by rfl)) ?_
   refine Eq.trans sh_ptr ?_
   have hsc:=arV_sc (H ++ ([some ⟨E24,[rlX (.slc (H.length+3) 0 r.phs.length) r]⟩,some B1,none,some ⟨E30,elsC (H.length+4) (r.phs.take i) ++ (r.phs.drop i).map phA⟩] ++ arsC (r.phs.take i))).length r.phs[i].ps
   refine Eq.trans (st_s (el':=phX _ r.phs[i]) (by rfl) (show (elsC (H.length+4) (r.phs.take i) ++ (r.phs.drop i).map phA)[0+((i:Nat):Int).toNat]?=some (phA r.phs[i]) by rw [Nat.zero_add,Int.toNat_natCast]; exact els_at hi) (put_ar hsc.1 hsc.2)) ?_
   rw [Nat.zero_add,Int.toNat_natCast]
   rw [show (H ++ ([some ⟨E24,[rlX (.slc (H.length+3) 0 r.phs.length) r]⟩,some B1,none,some ⟨E30,elsC (H.length+4) (r.phs.take i) ++ (r.phs.drop i).map phA⟩] ++ arsC (r.phs.take i))).length=H.length+4+(arsC (r.phs.take i)).length by simp; omega]
   have ih:=copy_go d n0 H K r hl ha B1 hB1 k (i+1) (by omega) f (by omega)
   rw [← els_set hi,take_snoc hi,arsC_app] at ih
   rw [show IntKind.wrap .i64 (((i:Nat):Int)+1)=((i+1:Nat):Int) by rw [i64w]; omega]
   refine Eq.trans (congrArg _ ?_) ih
   simp [arsC]
theorem copyI (d n0:Nat) (r:Rul) (hl:r.phs.length≤1000000) (ha:∀ p ∈ r.phs,p.ps.length≤1000000) (H:Heap):callB M (pcall M (d+1)) (n0+10) true 18 [rl r] H=some (rlX (phV H.length r) r,H ++ cpS H.length r):=by
 refine xmeth_ok (U:=unr) (n:=n0+9) rfl rfl rfl fun K=>?_
 refine (q18 (d+1) _ _ _ _ _ _ _ _ _ (n0+1) _ K).trans ?_
 refine Eq.trans (bx_n (by rfl)) ?_
 refine Eq.trans al_s ?_; refine Eq.trans sh_ptr ?_; refine Eq.trans (ld_s (by rfl) (by rfl) (by rfl)) ?_
 obtain ⟨phs,n,dd,gr,eps,st,age,lift,saf⟩:=r
 cases phs with
 | nil =>
   refine Eq.trans (pl_bool (n:=true) (by rfl)) ?_
   rw [cnd_t]
   refine Eq.trans (pl_same (cloneHQ d)) ?_
   refine Eq.trans sh_ptr ?_; refine Eq.trans (st_s (by rfl) (by rfl) (by rfl)) ?_; refine Eq.trans sh_ptr ?_; refine Eq.trans (ld_s (by rfl) (by rfl) (by rfl)) ?_
   refine Eq.trans len_lst ?_
   refine Eq.trans (pl_int (by rfl)) ?_
   rw [show 10000000000000000000=(9999999999999999999)+1 from rfl,L18_0_s,decide_eq_false (by simp),cnd_f]
   unfold X18_0_0
   refine Eq.trans (ld_s (by rfl) (by rfl) (by rfl)) ?_; refine Eq.trans (pl_agg (by rfl) (by rfl)) ?_; refine Eq.trans (pl_any (by rfl)) ?_; refine Eq.trans (pl_int (by rfl)) ?_; refine Eq.trans (pl_int (by rfl)) ?_; refine Eq.trans (pl_int (by rfl)) ?_; refine Eq.trans (pl_int (by rfl)) ?_; refine Eq.trans (pl_int (by rfl)) ?_; refine Eq.trans (pl_int (by rfl)) ?_; refine Eq.trans (pl_int (by rfl)) ?_; refine Eq.trans (pl_int (by rfl)) ?_; refine Eq.trans (st_s (by rfl) (by rfl) (by rfl)) ?_; refine Eq.trans (ld_s (by rfl) (by rfl) (by rfl)) ?_
   rfl
 | cons q l =>
   refine Eq.trans (pl_bool (n:=false) (by rfl)) ?_
   rw [cnd_f]
   refine Eq.trans (hop_eq (by rfl)) ?_; refine Eq.trans (pl_bool (by rfl)) ?_
   refine Eq.trans (pl_f (by rfl)) ?_
   refine Eq.trans mk_s ?_
   refine Eq.trans (ap_s (by rfl) (all_phE _) (by change (q::l).length≤_ at hl; rw [List.length_map,show (E30).bytes=56 from rfl]; change (q::l).length * 56≤_; omega) (by change (q::l).length≤_ at hl; rw [List.length_map]; change (q::l).length≤_; omega)) ?_
   rw [List.length_map]
   refine Eq.trans sh_ptr ?_; refine Eq.trans (st_s (by rfl) (by rfl) (by rfl)) ?_; refine Eq.trans sh_ptr ?_; refine Eq.trans (ld_s (by rfl) (by rfl) (by rfl)) ?_
   refine Eq.trans (ln_s (by rfl)) ?_
   refine Eq.trans (pl_int (by rfl)) ?_
   have:=copy_go d n0 H K ⟨q::l,n,dd,gr,eps,st,age,lift,saf⟩ hl ha ⟨E24,[(E24).zero]⟩ ⟨.zsl true,rfl⟩ (q::l).length 0 (by simp) 10000000000000000000 (by change (q::l).length≤_ at hl; omega)
   refine Eq.trans ?_ this
   rfl
def ArOf (H:Heap) (lo hi:Nat) (av:AV) (ps:List Pt):Prop:=(ps=[]∧av=.lst []) ∨ ∃ id,lo≤id∧id < hi∧av=.slc id 0 ps.length∧hget H id=some ⟨E39,ps.map pt⟩
def CpOf (H:Heap) (lo hi:Nat) (v:AV) (l:List Phs):Prop:=(l=[]∧v=.lst []) ∨ ∃ id els,lo≤id∧id < hi∧v=.slc id 0 l.length∧hget H id=some ⟨E30,els⟩∧els.length=l.length ∧
 ∀ (i:Nat) (p:Phs),l[i]?=some p→∃ av,els[i]?=some (phX av p)∧ArOf H (id+1) hi av p.ps
theorem ar_mono {H H':Heap} {lo lo' hi hi':Nat} {av:AV} {ps:List Pt} (h:ArOf H lo hi av ps) (h1:lo'≤lo) (h2:hi≤hi') (hk:∀ id b,lo≤id→id < hi→hget H id=some b→hget H' id=some b):ArOf H' lo' hi' av ps:=by
 rcases h with h | ⟨id,a,b,c,d⟩
 ·exact .inl h
 ·exact .inr ⟨id,by omega,by omega,c,hk _ _ a b d⟩
theorem els_all:∀ (l:List Phs) (pre:Heap) (i:Nat) (p:Phs),l[i]?=some p→∃ av,(elsC pre.length l)[i]?=some (phX av p)∧ArOf (pre ++ arsC l) pre.length (pre ++ arsC l).length av p.ps
 | [],_,_,_,h=>by simp at h
 | q::l,pre,0,p,h=>by
   simp only [List.getElem?_cons_zero,Option.some.injEq] at h
   subst h
   refine ⟨arV pre.length q.ps,rfl,?_⟩
   cases hq:q.ps with
   | nil=>exact .inl ⟨rfl,rfl⟩
   | cons a b =>
     refine .inr ⟨pre.length+1,by omega,?_,rfl,?_⟩
     ·rw [arsC,hq]; simp [arS]
     ·rw [arsC,hq]; exact hget_s rfl
 | q::l,pre,i+1,p,h=>by
   simp only [List.getElem?_cons_succ] at h
   obtain ⟨av,h1,h2⟩:=els_all l (pre ++ arS q.ps) i p h
   refine ⟨av,?_,?_⟩
   ·rw [elsC,List.getElem?_cons_succ,← h1,List.length_append]
   ·rw [arsC,← List.append_assoc]
    exact ar_mono h2 (by simp) (Nat.le_refl _) fun _ _ _ _ x=>x
theorem cp_copy (H:Heap) (r:Rul):CpOf (H ++ cpS H.length r) H.length (H ++ cpS H.length r).length (phV H.length r) r.phs:=by
 obtain ⟨phs,n,dd,gr,eps,st,age,lift,saf⟩:=r
 cases phs with
 | nil=>exact .inl ⟨rfl,rfl⟩
 | cons q l =>
   refine .inr ⟨H.length+3,elsC (H.length+4) (q::l),by omega,by simp [cpS],rfl,hget_s rfl,elsC_len _ _,fun i p hp=>?_⟩
   have:=els_all (q::l) (H ++ [some ⟨E24,[rlX (.slc (H.length+3) 0 (q::l).length) ⟨q::l,n,dd,gr,eps,st,age,lift,saf⟩]⟩,some ⟨E24,[rlX (.slc (H.length+3) 0 (q::l).length) ⟨q::l,n,dd,gr,eps,st,age,lift,saf⟩]⟩,none,some ⟨E30,elsC (H.length+4) (q::l)⟩]) i p hp
   rw [List.append_assoc] at this
   obtain ⟨av,h1,h2⟩:=this
   refine ⟨av,?_,ar_mono h2 (by simp) (Nat.le_refl _) fun _ _ _ _ x=>x⟩
   rw [← h1]; simp
theorem snap_slc {H:Heap} {id k:Nat} {e:ETy} {els l:List AV} (h:hget H id=some ⟨e,els⟩) (hl:els.map (snap (k+1) H)=l):snap (k+2) H (.slc id 0 els.length)=.lst l:=by
 simp only [snap,h]
 rw [if_neg (by omega),if_pos (by simp)]
 simp only [List.drop_zero,List.take_length]
 exact congrArg AV.lst hl
theorem snap_pts (k:Nat) (H:Heap) (ps:List Pt):(ps.map pt).map (snap (k+2) H)=ps.map pt:=by
 rw [List.map_map]; rfl
theorem finB {H:Heap} {b:Bool}:C0.fin H (.bool b)=some (.bool b):=by rw [C0_fin]; rfl
end Go.Proofs.Ytffiilnmfmkpmaa.AE

namespace Go.Proofs.Ytffiilnmfmkpmaa.AE
set_option linter.unusedVariables false
set_option linter.unusedSimpArgs false
set_option linter.constructorNameAsVariable false
open Go
theorem gr_eq {H Z:Heap} {K:Nat→Heap→Ans}:C0.grow H Z K=K H.length (H ++ Z):=rfl
theorem gr_nil {H:Heap} {K:Nat→Heap→Ans}:C0.grow H [] K=K H.length H:=by
 rw [gr_eq,List.append_nil]
theorem keep_ok {A B:Heap} {l:List AV} {K:Ans} (h:∀ v ∈ l,∀ id ∈ idsOf v,A[id]?=B[id]?):C0.keep A B l K=K:=by
 change (match keepL A B l with
  | true=>K
  | false=>none)=K
 have:keepL A B l=true:=by
  rw [keepL,List.all_eq_true]
  intro v hv
  rw [List.all_eq_true]
  intro id hi
  exact keepB_of (h v hv id hi)
 rw [this]
theorem keep_1 {A B:Heap} {id i j:Nat} {K:Ans} (h:A[id]?=B[id]?):C0.keep A B [.ptr id i j] K=K:=keep_ok fun v hv id' hi=>by
 simp only [List.mem_singleton] at hv
 subst hv
 simp only [idsOf,List.mem_singleton] at hi
 subst hi; exact h
theorem hget_some {H:Heap} {id:Nat} {b:Blk} (h:hget H id=some b):H[id]?=some (some b):=(hget_lt h).1
theorem keep_g {A B:Heap} {id i j:Nat} {b:Blk} {K:Ans} (h:hget A id=some b) (h':hget B id=some b):C0.keep A B [.ptr id i j] K=K:=keep_1 (by rw [hget_some h,hget_some h'])
end Go.Proofs.Ytffiilnmfmkpmaa.AE

namespace Go.Proofs.Ytffiilnmfmkpmaa.AE
set_option linter.unusedVariables false
set_option linter.unusedSimpArgs false
set_option linter.constructorNameAsVariable false
open Go Go.Proofs.Ytffiilnmfmkpmaa.Geo
attribute [local irreducible] pcall C0
set_option maxRecDepth 100000
theorem hsn {H:Heap} {id id':Nat} {x:Option Blk} {b:Blk} (h:hget H id'=some b) (hn:id ≠ id'):hget (H.set id x) id'=some b:=by rw [hget_set_ne hn]; exact h
theorem alc7 {H:Heap} {e:ETy} {K:AV→Heap→Ans}:C0.hop H (.alloc e) K=K (.ptr H.length 0 0) (H ++ [some ⟨e,[e.zero]⟩]):=hop_eq rfl
theorem stl7 {H:Heap} {e:ETy} {z x:AV} {n:Nat} {K:AV→Heap→Ans} (h:putSub n 0 x z=some x):C0.hop (H ++ [some ⟨e,[z]⟩]) (.store n (.v (.ptr H.length 0 0)) (.v x)) K=K .undef (H ++ [some ⟨e,[x]⟩]):=by
 rw [st_ptr (b:=⟨e,[z]⟩) (el:=z) (el':=x) hget_new rfl h,List.set_append_right _ _ (Nat.le_refl _),Nat.sub_self]
 rfl
theorem put7 {v w:AV} {a b c e f g h i a' b' c' e' f' g' h' i':Int} (hsc:isSc v=true):putSub 9 0 (.agg [v,.int .i64 a,.int .i64 b,.int .i64 c,.int .i64 e,.int .i64 f,.int .i64 g,.int .i64 h,.int .i64 i]) (.agg [w,.int .i64 a',.int .i64 b',.int .i64 c',.int .i64 e',.int .i64 f',.int .i64 g',.int .i64 h',.int .i64 i'])=some (.agg [v,.int .i64 a,.int .i64 b,.int .i64 c,.int .i64 e,.int .i64 f,.int .i64 g,.int .i64 h,.int .i64 i]):=by
 simp only [putSub]
 rw [if_pos ⟨by simp,rfl,by show (isSc v && _)=true; rw [hsc]; rfl⟩]; rfl
theorem put71 {v w:AV} {r:Rul} (hsc:isSc v=true) (hc:v.cells=[v]):putSub 1 (0+0) v (rlX w r)=some (rlX v r):=by
 simp only [putSub,hc]
 rw [if_pos ⟨by simp,rfl,by show (isSc v && _)=true; rw [hsc]; rfl⟩]; rfl
def DnP (H:Heap) (x:AV) (p:Phs):Prop:=∃ av,x=phX av p∧(isSc av=true∧av.cells=[av])∧((p.ps=[]∧av=.lst []) ∨ ∃ id,av=.slc id 0 p.ps.length∧hget H id=some ⟨E39,p.ps.map pt⟩)
def Dn (H:Heap):List AV→List Phs→Prop
 | [],[]=>True
 | x::xs,p::l=>DnP H x p∧Dn H xs l
 | _,_=>False
theorem dn_keep {H H':Heap} (hk:∀ id b,b.e.tid=(E39).tid→hget H id=some b→hget H' id=some b):∀ {xs:List AV} {l:List Phs},Dn H xs l→Dn H' xs l
 | [],[],_=>trivial
 | x::xs,p::l,⟨⟨av,h1,h2,h3⟩,h4⟩=>⟨⟨av,h1,h2,h3.elim .inl fun ⟨id,e,g⟩=>.inr ⟨id,e,hk _ _ rfl g⟩⟩,dn_keep hk h4⟩
 | [],_::_,h=>h.elim
 | _::_,[],h=>h.elim
theorem dn_len {H:Heap}:∀ {xs:List AV} {l:List Phs},Dn H xs l→xs.length=l.length
 | [],[],_=>rfl
 | x::xs,p::l,⟨_,h⟩=>by rw [List.length_cons,List.length_cons,dn_len h]
 | [],_::_,h=>h.elim
 | _::_,[],h=>h.elim
theorem dn_app {H:Heap}:∀ {xs ys:List AV} {l m:List Phs},Dn H xs l→Dn H ys m→Dn H (xs ++ ys) (l ++ m)
 | [],_,[],_,_,h=>h
 | x::xs,_,p::l,_,⟨h1,h2⟩,h=>⟨h1,dn_app h2 h⟩
 | [],_,_::_,_,h,_=>h.elim
 | _::_,_,[],_,h,_=>h.elim
theorem dn_take {H:Heap}:∀ (k:Nat) {xs:List AV} {l:List Phs},Dn H xs l→Dn H (xs.take k) (l.take k)
 | 0,_,_,_=>by simp [Dn]
 | k+1,[],[],_=>trivial
 | k+1,x::xs,p::l,⟨h1,h2⟩=>⟨h1,dn_take k h2⟩
 | k+1,[],_::_,h=>h.elim
 | k+1,_::_,[],h=>h.elim
theorem dn_drop {H:Heap}:∀ (k:Nat) {xs:List AV} {l:List Phs},Dn H xs l→Dn H (xs.drop k) (l.drop k)
 | 0,_,_,h=>h
 | k+1,[],[],_=>trivial
 | k+1,x::xs,p::l,⟨_,h2⟩=>dn_drop k h2
 | k+1,[],_::_,h=>h.elim
 | k+1,_::_,[],h=>h.elim
theorem dn_ok {H:Heap}:∀ {xs:List AV} {l:List Phs},Dn H xs l→xs.all (elOk E30)=true
 | [],[],_=>rfl
 | x::xs,p::l,⟨⟨av,h1,h2,_⟩,h⟩=>by
   rw [List.all_cons,dn_ok h,h1]
   show (true && (isSc av && _)) && true=true
   rw [h2.1]; rfl
 | [],_::_,h=>h.elim
 | _::_,[],h=>h.elim
theorem dn_snap {H:Heap} (k:Nat):∀ {xs:List AV} {l:List Phs},Dn H xs l→xs.map (snap (k+4) H)=l.map phA
 | [],[],_=>rfl
 | x::xs,p::l,⟨⟨av,h1,_,h2⟩,h⟩=>by
   have hs:snap (k+3) H av=.lst (p.ps.map pt):=by
    rcases h2 with ⟨e,rfl⟩ | ⟨id,rfl,g⟩
    ·rw [e]; rfl
    ·have:=snap_slc (k:=k+1) g (snap_pts k H p.ps)
     rwa [List.length_map] at this
   rw [List.map_cons,List.map_cons,dn_snap k h,h1]
   change AV.agg [snap (k+3) H av,.int .i64 p.g,.int .i64 p.v,.int .i64 p.m,.int .i64 p.u]::_=_
   rw [hs]
 | [],_::_,h=>h.elim
 | _::_,[],h=>h.elim
theorem dn_cp {H:Heap} {lo hi:Nat}:∀ (els:List AV) (l:List Phs),els.length=l.length→(∀ (i:Nat) (p:Phs),l[i]?=some p→∃ av,els[i]?=some (phX av p)∧ArOf H lo hi av p.ps)→Dn H els l
 | [],[],_,_=>trivial
 | x::xs,p::l,hl,h=>by
   obtain ⟨av,h1,h2⟩:=h 0 p rfl
   have h1:x=phX av p:=by simpa using h1
   refine ⟨⟨av,h1,?_,?_⟩,dn_cp xs l (by simpa using hl) fun i q hq=>by simpa using h (i+1) q (by simpa using hq)⟩
   ·rcases h2 with ⟨_,rfl⟩ | ⟨_,_,_,rfl,_⟩ <;> exact ⟨rfl,rfl⟩
   ·rcases h2 with h2 | ⟨id,_,_,e,g⟩
    ·exact .inl h2
    ·exact .inr ⟨id,e,g⟩
 | [],_::_,hl,_=>by cases hl
 | _::_,[],hl,_=>by cases hl
def Vw (H:Heap) (v:AV) (xs:List AV):Prop:=∃ id els o,(v=.slc id o xs.length ∨ v=.slk id o xs.length)∧hget H id=some ⟨E30,els⟩∧o+xs.length≤els.length∧(els.drop o).take xs.length=xs
theorem vw_keep {H H':Heap} {v:AV} {xs:List AV} (hk:∀ id b,b.e.tid=(E30).tid→hget H id=some b→hget H' id=some b) (h:Vw H v xs):Vw H' v xs:=by
 obtain ⟨id,els,o,h1,h2,h3⟩:=h
 exact ⟨id,els,o,h1,hk _ _ rfl h2,h3⟩
theorem vw_sc {H:Heap} {v:AV} {xs:List AV} (h:Vw H v xs):isSc v=true∧v.cells=[v]:=by
 obtain ⟨id,els,o,rfl | rfl,-⟩:=h <;> exact ⟨rfl,rfl⟩
theorem vw_len {H:Heap} {v:AV} {xs:List AV} {K:AV→Heap→Ans} (h:Vw H v xs):C0.hop H (.bk .lenV [.v v]) K=K (.int .i64 xs.length) H:=by
 obtain ⟨id,els,o,rfl | rfl,g,-⟩:=h <;> exact hop_eq (by simp only [aop,evO,lenOf,g])
theorem vw_snap {H:Heap} {v:AV} {xs:List AV} (h:Vw H v xs) (k:Nat):snap (k+2) H v=.lst (xs.map (snap (k+1) H)):=by
 obtain ⟨id,els,o,h1,g,hl,hx⟩:=h
 rcases h1 with rfl | rfl <;> (simp only [snap,g]; rw [if_neg (by omega),if_pos hl,hx])
theorem snp_vw {H:Heap} {v:AV} {xs:List AV} {r:Rul} {K:List AV→Bool→Ans} (h:Vw H v xs) (hd:Dn H xs r.phs):C0.snp H [rlX v r] K=K [rl r] false:=by
 have hn:noId 11 v=false:=by obtain ⟨id,els,o,rfl | rfl,-⟩:=h <;> rfl
 rw [snp_id (by change ((noId 11 v && _) && true)=false; rw [hn]; rfl)]
 have:[rlX v r].map (snap DEPTH H)=[rl r]:=by
  change [AV.agg [snap 11 H v,_,_,_,_,_,_,_,_]]=_
  rw [vw_snap h 9,dn_snap 6 hd]; rfl
 rw [this]
theorem vw_own {H:Heap} {id:Nat} {xs:List AV} (h:hget H id=some ⟨E30,xs⟩):Vw H (.slc id 0 xs.length) xs:=⟨id,xs,0,.inl rfl,h,by omega,by simp⟩
theorem sub_k {H:Heap} {id n k:Nat} {els:List AV} {K:AV→Heap→Ans} (hg:hget H id=some ⟨E30,els⟩) (hk:k < n):C0.hop H (.subV 5 (.v (.slc id 0 n)) none (some (.v (.int .i64 ((k:Nat):Int)))) (some (.v (.int .i64 ((k:Nat):Int))))) K=K (if k=0 then .zsl false else .slk id 0 k) H:=hop_eq (by
 have b1:bound (some (.int .i64 ((k:Nat):Int))) n n=some k:=by simp only [bound,aInt]; rw [if_pos (by omega),Int.toNat_natCast]
 have b2:bound (some (.int .i64 ((k:Nat):Int))) n k=some k:=by simp only [bound,aInt]; rw [if_pos (by omega),Int.toNat_natCast]
 have b0:bound none 0 k=some 0:=rfl
 simp only [aop,evO,aSubV,lenOf,hg,Option.map_some,Option.map_none,b1,b2,b0,Option.isSome_some,Bool.true_and]
 by_cases h:k=0
 ·subst h; rfl
 ·rw [beq_eq_false_iff_ne.mpr h,if_neg h]
  simp only [Bool.false_eq_true,if_false]
  rw [if_neg (by omega),if_pos (show (E30).es=5 from rfl)]
  simp)
theorem sub_r {H:Heap} {id n k:Nat} {els:List AV} {K:AV→Heap→Ans} (hg:hget H id=some ⟨E30,els⟩) (hk:k < n):C0.hop H (.subV 5 (.v (.slc id 0 n)) (some (.v (.int .i64 ((k+1:Nat):Int)))) none none) K=K (if k+1=n then .lst [] else .slc id (k+1) (n - (k+1))) H:=hop_eq (by
 have b1:bound (some (.int .i64 ((k+1:Nat):Int))) 0 n=some (k+1):=by simp only [bound,aInt]; rw [if_pos (by omega),Int.toNat_natCast]
 have b2:bound none n n=some n:=rfl
 simp only [aop,evO,aSubV,lenOf,hg,Option.map_some,Option.map_none,b1,b2,Option.isSome_none,Bool.false_and,Bool.false_eq_true,if_false]
 by_cases h:k+1=n
 ·rw [if_pos h,if_pos h]
 ·rw [if_neg h,if_neg h,if_pos (show (E30).es=5 from rfl),Nat.zero_add])
theorem app_k {H:Heap} {id n k:Nat} {els:List AV} (hg:hget H id=some ⟨E30,els⟩) (hn:els.length=n) (hk:k < n) (hn2:n≤1000) (hok:els.all (elOk E30)=true) :
 ∃ v' H',(∀ K:AV→Heap→Ans,C0.hop H (.app E30 (.v (if k=0 then .zsl false else .slk id 0 k)) (.v (if k+1=n then .lst [] else .slc id (k+1) (n - (k+1))))) K=K v' H')∧Vw H' v' (els.take k ++ els.drop (k+1))∧∀ id' b,hget H id'=some b→hget H' id'=some b:=by
 have hb:(E30).bytes=56:=rfl
 have hx:elsOf H (if k+1=n then .lst [] else .slc id (k+1) (n - (k+1)))=some (els.drop (k+1)):=by
  by_cases h:k+1=n
  ·rw [if_pos h,List.drop_of_length_le (by omega)]; rfl
  ·rw [if_neg h]
   simp only [elsOf,hg]
   rw [if_pos (by omega),List.take_of_length_le (by rw [List.length_drop]; omega)]
 have hdl:(els.drop (k+1)).length=n - (k+1):=by rw [List.length_drop,hn]
 have hdo:(els.drop (k+1)).all (elOk E30)=true:=by
  rw [List.all_eq_true] at hok ⊢
  exact fun x hx=>hok x (List.mem_of_mem_drop hx)
 by_cases h0:k=0
 ·subst h0
  refine ⟨.slc H.length 0 (els.drop 1).length,H ++ [some ⟨E30,els.drop 1⟩],fun K=>hop_eq ?_,?_,fun id' b h=>hget_app h⟩
  ·simp only [aop,evO,if_pos trivial]
   rw [hx]
   simp only [aApp]
   rw [if_pos ⟨by rw [hdl,hb]; omega,by rw [hdl]; omega,hdo⟩]
  ·rw [List.take_zero,List.nil_append]; exact vw_own hget_new
 ·rw [if_neg h0]
  have htl:(els.take k).length=k:=by rw [List.length_take]; omega
  by_cases h1:k+1=n
  ·refine ⟨.slk id 0 k,H,fun K=>hop_eq ?_,?_,fun id' b h=>h⟩
   ·simp only [aop,evO]
    rw [hx,List.drop_of_length_le (by omega)]
    simp only [aApp,hg,List.isEmpty_nil]
   ·rw [List.drop_of_length_le (by omega),List.append_nil]
    exact ⟨id,els,0,.inr (by rw [htl]),hg,by omega,by rw [htl,List.drop_zero]⟩
  ·refine ⟨.slc H.length 0 (k+(els.drop (k+1)).length),H ++ [some ⟨E30,els.take k ++ els.drop (k+1)⟩],fun K=>hop_eq ?_,?_,fun id' b h=>hget_app h⟩
   ·have he:(els.drop (k+1)).isEmpty=false:=by
     cases hd:els.drop (k+1) with
     | nil=>rw [hd] at hdl; simp at hdl; omega
     | cons _ _=>rfl
    simp only [aop,evO]
    rw [hx]
    simp only [aApp,hg,he]
    rw [if_pos ⟨by omega,by rw [hdl,hb]; omega,by rw [hdl]; omega,trivial,trivial,hdo⟩,List.drop_zero]
   ·have:=vw_own (H:=H ++ [some ⟨E30,els.take k ++ els.drop (k+1)⟩]) (id:=H.length) (xs:=els.take k ++ els.drop (k+1)) hget_new
    rwa [List.length_append,htl] at this
end Go.Proofs.Ytffiilnmfmkpmaa.AE

namespace Go.Proofs.Ytffiilnmfmkpmaa.AE
set_option linter.unusedVariables false
set_option linter.unusedSimpArgs false
set_option linter.constructorNameAsVariable false
open Go

noncomputable section
variable {α:Type}
def foN (m:Nat) (K:Nat→α):α:=Nat.rec (motive:=fun _=>α) (K 0) (fun p _=>K (Nat.succ p)) m
theorem foN_eq (m:Nat) (K:Nat→α):foN m K=K m:=by cases m <;> rfl
def foI (n:Int) (K:Int→α):α:=match n with
 | .ofNat m=>foN m fun m=>K (.ofNat m)
 | .negSucc m=>foN m fun m=>K (.negSucc m)
theorem foI_eq (n:Int) (K:Int→α):foI n K=K n:=by cases n <;> simp only [foI,foN_eq]
def foB (b:Bool) (K:Bool→α):α:=match b with
 | true=>K true
 | false=>K false
theorem foB_eq (b:Bool) (K:Bool→α):foB b K=K b:=by cases b <;> rfl
def foY (b:UInt8) (K:UInt8→α):α:=foN b.toNat fun n=>K (UInt8.ofNat n)
theorem foY_eq (b:UInt8) (K:UInt8→α):foY b K=K b:=by unfold foY; rw [foN_eq]; congr 1; simp
def foL {β:Type} (f:β→(β→α)→α):List β→(List β→α)→α
 | [],K=>K []
 | x::l,K=>f x fun x=>foL f l fun l=>K (x::l)
theorem foL_eq {β:Type} {f:β→(β→α)→α} (h:∀ x K,f x K=K x):∀ (l:List β) (K:List β→α),foL f l K=K l
 | [],K=>rfl
 | x::l,K=>by simp only [foL,h,foL_eq h l]
def foS {β:Type}:List β→(List β→α)→α
 | [],K=>K []
 | x::l,K=>foS l fun l=>K (x::l)
theorem foS_eq {β:Type}:∀ (l:List β) (K:List β→α),foS l K=K l
 | [],K=>rfl
 | x::l,K=>by simp only [foS,foS_eq l]
def foV:Nat→AV→(AV→α)→α
 | 0,v,K=>K v
 | d+1,v,K=>match v with
   | .int k n=>foI n fun n=>K (.int k n)
   | .bool b=>foB b fun b=>K (.bool b)
   | .str s=>foL foY s fun s=>K (.str s)
   | .zsl b=>foB b fun b=>K (.zsl b)
   | .ptr a b c=>foN a fun a=>foN b fun b=>foN c fun c=>K (.ptr a b c)
   | .slc a b c=>foN a fun a=>foN b fun b=>foN c fun c=>K (.slc a b c)
   | .lst l=>foL (foV d) l fun l=>K (.lst l)
   | .fptr v j=>foV d v fun v=>foN j fun j=>K (.fptr v j)
   | .agg l=>foL (foV d) l fun l=>K (.agg l)
   | .tup l=>foL (foV d) l fun l=>K (.tup l)
   | .fn g a b=>foN g fun g=>foL (foV d) a fun a=>foL (foV d) b fun b=>K (.fn g a b)
   | v=>K v
theorem foV_eq:∀ (d:Nat) (v:AV) (K:AV→α),foV d v K=K v
 | 0,v,K=>rfl
 | d+1,v,K=>by
   have ih:∀ (v:AV) (K:AV→α),foV d v K=K v:=foV_eq d
   cases v <;> simp only [foV,foI_eq,foB_eq,foN_eq,foL_eq foY_eq,foL_eq ih,ih]
def foBlk (b:Option Blk) (K:Option Blk→α):α:=match b with
 | none=>K none
 | some ⟨e,els⟩=>foL (foV 2) els fun els=>K (some ⟨e,els⟩)
theorem foBlk_eq (b:Option Blk) (K:Option Blk→α):foBlk b K=K b:=by
 match b with
 | none=>rfl
 | some ⟨e,els⟩=>simp only [foBlk,foL_eq (foV_eq 2)]
def foH (H:Heap) (K:Heap→α):α:=foL foBlk H K
theorem foH_eq (H:Heap) (K:Heap→α):foH H K=K H:=foL_eq foBlk_eq H K

def wrH:IOp→Bool
 | .box .. | .alloc .. | .mkrow .. | .store .. | .s2b .. | .mkslice .. | .app ..=>true
 | _=>false
def foW (o:IOp) (H:Heap) (K:Heap→α):α:=match wrH o with
 | true=>foH H K
 | false=>K H
theorem foW_eq (o:IOp) (H:Heap) (K:Heap→α):foW o H K=K H:=by unfold foW; cases wrH o <;> simp only [foH_eq]

def depV:IOp→Nat
 | .call ..=>2
 | _=>1
def foP:List AV→Nat→AV→(List AV→α)→α
 | [],_,_,K=>K []
 | x::l,0,v,K=>K (v::l)
 | x::l,n+1,v,K=>foP l n v fun l=>K (x::l)
theorem foP_eq:∀ (l:List AV) (n:Nat) (v:AV) (K:List AV→α),foP l n v K=K (l.set n v)
 | [],n,v,K=>by cases n <;> rfl
 | x::l,0,v,K=>rfl
 | x::l,n+1,v,K=>by simp only [foP,foP_eq l,List.set_cons_succ]
def foO (env:List AV) (d:Option Nat) (v:AV) (K:List AV→α):α:=match d with
 | some d=>foP env d v K
 | none=>K env
theorem foO_eq (env:List AV) (d:Option Nat) (v:AV) (K:List AV→α):foO env d v K=K (put env d v):=by cases d <;> simp only [foO,put,foP_eq]
def runOpsF (call:CallF):List IOper→List AV→Heap→Option St
 | [],env,H=>some ⟨env,H⟩
 | o::l,env,H=>match want env o.guard with
   | some true=>match aop call (evO env) H o.op with
     | some (v,H)=>foV (depV o.op) v fun v=>foW o.op H fun H=>foO env o.dst v fun env=>runOpsF call l env H
     | none=>none
   | some false=>foO env o.dst (.tup []) fun env=>runOpsF call l env H
   | none=>none
theorem runOpsF_eq (call:CallF):∀ (l:List IOper) (env:List AV) (H:Heap),runOpsF call l env H=runOps call l ⟨env,H⟩
 | [],env,H=>rfl
 | o::l,env,H=>by
   simp only [runOpsF,runOps,foV_eq,foW_eq,foO_eq,runOpsF_eq call l] <;> rfl
def runOpsDF (call callP:CallF):List (IOper × List Nat)→Nat→List (Nat × Nat)→List AV→Heap→Option St
 | [],_,_,env,H=>some ⟨env,H⟩
 | (o,chk)::l,i,log,env,H=>match want env o.guard with
   | some true =>
     foS (touch (evO env) H o.op) fun tc =>
     if log.all (fun p=>!(chk.contains p.1) || !(tc.contains p.2)) then
      match aop (bif isFull chk then call else callP) (evO env) H o.op with
      | some (v,H)=>foV (depV o.op) v fun v=>foW o.op H fun H=>foO env o.dst v fun env=>foN i fun i=>foS (log ++ tc.map fun id=>(i,id)) fun log=>runOpsDF call callP l (i+1) log env H
      | none=>none
     else none
   | some false=>foO env o.dst (.tup []) fun env=>runOpsDF call callP l (i+1) log env H
   | none=>none
theorem runOpsDF_eq (call callP:CallF):∀ (l:List (IOper × List Nat)) (i:Nat) (log:List (Nat × Nat)) (env:List AV) (H:Heap),runOpsDF call callP l i log env H=runOpsD call callP l i log ⟨env,H⟩
 | [],_,_,env,H=>rfl
 | (o,chk)::l,i,log,env,H=>by
   simp only [runOpsDF,runOpsD,foV_eq,foW_eq,foS_eq,foO_eq,foN_eq,runOpsDF_eq call callP l] <;> rfl
def runOpsSF (call:CallF) (base:Nat):List SOp→Nat→List LogE→List AV→Heap→Option St
 | [],_,_,env,H=>some ⟨env,H⟩
 | o::l,i,log,env,H=>match want env o.op.guard with
   | some true=>match stepS call base o ⟨env,H⟩ with
     | some (v,H')=>foV (depV o.op.op) v fun v=>foW o.op.op H' fun H'=>match (log.all fun e=>!(o.chk.contains e.idx) || logC e o (evO env) H H') && o.kp.all fun j=>keepB H H' (base+j) with
       | true=>foO env o.op.dst v fun env'=>foN i fun i=>runOpsSF call base l (i+1) (entS i o (evO env) H H'::log) env' H'
       | false=>none
     | none=>none
   | some false=>foO env o.op.dst (.tup []) fun env=>runOpsSF call base l (i+1) log env H
   | none=>none
theorem runOpsSF_eq (call:CallF) (base:Nat):∀ (l:List SOp) (i:Nat) (log:List LogE) (env:List AV) (H:Heap),runOpsSF call base l i log env H=runOpsS call base l i log ⟨env,H⟩
 | [],_,_,env,H=>rfl
 | o::l,i,log,env,H=>by
   simp only [runOpsSF,runOpsS,foV_eq,foW_eq,foS_eq,foO_eq,foN_eq,runOpsSF_eq call base l] <;> rfl
def execF (call callP:CallF) (fu:Nat):IC→St→Option (Ex × St)
 | .skip,s=>some (.normal,s)
 | .regD ops,s=>match s with
   | ⟨env,H⟩=>match runOpsDF call callP ops 0 [] env H with
     | some s'=>some (.normal,s')
     | none=>none
 | .regS ops,s=>match s with
   | ⟨env,H⟩=>foN H.length fun n=>foS (H ++ preH ops) fun H=>match runOpsSF call n ops 0 [] env H with
     | some s'=>some (.normal,s')
     | none=>none
 | .reg ops,s=>match s with
   | ⟨env,H⟩=>match runOpsF call ops env H with
     | some s'=>some (.normal,s')
     | none=>none
 | .seq a b,s=>match execF call callP fu a s with
   | some (.normal,s')=>execF call callP fu b s'
   | r=>r
 | .cond c a b,s=>match evO s.env c with
   | .bool t=>bif t then execF call callP fu a s else execF call callP fu b s
   | _=>none
 | .block id a,s=>match execF call callP fu a s with
   | some (.exit i,s')=>if i=id then some (.normal,s') else some (.exit i,s')
   | r=>r
 | .loop a,s=>iter (execF call callP fu a) fu s
 | .exit id,s=>some (.exit id,s)
 | .ret,s=>some (.ret,s)
theorem execF_eq (call callP:CallF) (fu:Nat):∀ c,execF call callP fu c=exec call callP fu c
 | .skip=>by funext s; rfl
 | .regD ops=>by funext ⟨env,H⟩; simp only [execF,exec,runOpsDF_eq] <;> rfl
 | .regS ops=>by funext ⟨env,H⟩; simp only [execF,exec,foN_eq,foS_eq,runOpsSF_eq] <;> rfl
 | .reg ops=>by funext ⟨env,H⟩; simp only [execF,exec,runOpsF_eq] <;> rfl
 | .seq a b=>by funext s; simp only [execF,exec,execF_eq call callP fu a,execF_eq call callP fu b] <;> rfl
 | .cond c a b=>by funext s; simp only [execF,exec,execF_eq call callP fu a,execF_eq call callP fu b] <;> rfl
 | .block id a=>by funext s; simp only [execF,exec,execF_eq call callP fu a] <;> rfl
 | .loop a=>by funext s; simp only [execF,exec,execF_eq call callP fu a]
 | .exit id=>by funext s; rfl
 | .ret=>by funext s; rfl
def runFnF (call callP:CallF) (fu:Nat) (fn:AFn) (args:List AV) (H:Heap):Option (AV × Heap) :=
 foL (foV 12) args fun args=>foS (args ++ List.replicate (fn.ntmps - args.length) (.tup [])) fun env=>match execF call callP fu fn.body ⟨env,H⟩ with
 | some (.normal,s) | some (.ret,s)=>match resAll s fn.results with
   | some vs=>some (packRes vs,s.H)
   | none=>none
 | _=>none
theorem runFnF_eq:runFnF=runFn:=by
 funext call callP fu fn args H
 simp only [runFnF,runFn,foL_eq (foV_eq 12),foS_eq,execF_eq] <;> rfl
def freshF (rf:List AV→Heap→Option (AV × Heap)) (args:List AV) (H:Heap):Option (AV × Heap) :=
 match rf args (padH H.length) with
 | some (v,H1)=>match padOk H.length H1 with
   | true=>some (v,H ++ H1.drop H.length)
   | false=>none
 | none=>none
def callBF (M:Mod) (pc:FuncId→List AV→Option AV):Nat→Bool→CallF
 | 0,_=>callZ M pc
 | n+1,b=>fun g args H =>
   match M.ext g with
   | some e=>extCall e g args H
   | none=>if M.inl g then (match emptyR M pc g args with
     | some v=>some (v,H)
     | none=>match b with
       | true=>match M.code g args.length with
         | some fn=>runFnF (callBF M pc n true) (callBF M pc n false) M.fu fn args H
         | none=>none
       | false=>match M.fr g && args.all (noId DEPTH) with
         | true=>match M.code g args.length with
           | some fn=>freshF (runFnF (callBF M pc n true) (callBF M pc n false) M.fu fn) args H
           | none=>none
         | false=>pureCall pc g args H) else pureCall pc g args H
theorem callBF_eq (M:Mod) (pc:FuncId→List AV→Option AV):∀ n b,callBF M pc n b=callB M pc n b
 | 0,_=>rfl
 | n+1,b=>by funext g args H; simp only [callBF,callB,callBF_eq M pc n,runFnF_eq] <;> rfl
def pcallF (M:Mod):Nat→FuncId→List AV→Option AV
 | 0=>fun _ _=>none
 | d+1=>fun g args=>match M.code g args.length with
   | none=>none
   | some fn=>match runFnF (callBF M (pcallF M d) IDEPTH true) (callBF M (pcallF M d) IDEPTH false) M.fu fn args [] with
     | some (v,H')=>foV 12 (snap DEPTH H' v) some
     | none=>none
theorem pcallF_eq (M:Mod):∀ d,pcallF M d=pcall M d
 | 0=>rfl
 | d+1=>by funext g args; simp only [pcallF,pcall,pcallF_eq M d,runFnF_eq,callBF_eq,foV_eq] <;> rfl
theorem ran {M:Mod} {d:Nat} {g:FuncId} {args:List AV} {r:AV} (h:pcallF M d g args=some r):pcall M d g args=some r:=by rw [← pcallF_eq]; exact h
end
end Go.Proofs.Ytffiilnmfmkpmaa.AE

namespace Go.Proofs.Ytffiilnmfmkpmaa.AE
set_option maxRecDepth 100000
theorem awake:pcall M 40 8 []=some (.bool true):=ran (by kernel_rfl)
end Go.Proofs.Ytffiilnmfmkpmaa.AE

namespace Go.Proofs.Ytffiilnmfmkpmaa.AE
set_option linter.unusedVariables false
set_option linter.unusedSimpArgs false
set_option linter.constructorNameAsVariable false
open Go
set_option maxRecDepth 100000
set_option maxHeartbeats 0
def r7R1 (C:Cb) (d:Nat) (a0:List AV) (a1 a2 a3 a4 a5 a6 a7 a8 a9:Int) (v0:AV) (b2:Bool) (v7:AV) (x8 x9 x10 x11 x12 x13 x14 x15:Int) (b18:Bool) (v23:AV) (x24 x25 x26 x27 x28 x29 x30 x31 x34:Int) (v36 v38:AV) (x42:Int) (v106 v107 v108:AV) (x109:Int) (v110 v111 v112 v113 v114 v115 v116 v117 v118 v119 v120 v121 v122 v123 v124 v125 v129:AV) (x130 x131 x132 x133 x134 x135 x136 x137:Int) (v141:AV) (x142 x143 x144 x145 x146 x147 x148 x149:Int) (v150:AV):St→(Ex→St→Ans)→Ans:=fun s154 k155 =>
 cnd ((List.length s154.env) == 113)
 (sames C s154.env 0 [(.agg [(.lst a0),(iz a1),(iz a2),(iz a3),(iz a4),(iz a5),(iz a6),(iz a7),(iz a8)]),(iz a9),v0,tz] <|
 C.bool s154.env[4]? fun b157 =>
 sames C s154.env 5 [v106,v107,v108,v150,tz,tz,tz,(.bool b2),(.bool (!b2)),bf,(.agg [v7,(iz x8),(iz x9),(iz x10),(iz x11),(iz x12),(iz x13),(iz x14),(iz x15)]),(.bool b18),(.bool (!b18)),(.bool (!b18)),bf,(.agg [v23,(iz x24),(iz x25),(iz x26),(iz x27),(iz x28),(iz x29),(iz x30),(iz x31)]),(iz x34),(.bool (x34 != 0)),bf,tz,v36,v38,(iz x42),(iz x109),v110,v111,v112,v113,v114,v115,v116,v117,v118,v119,v120,v121,v122,v123,v124,v125,(.agg [v129,(iz x130),(iz x131),(iz x132),(iz x133),(iz x134),(iz x135),(iz x136),(iz x137)]),(.agg [v141,(iz x142),(iz x143),(iz x144),(iz x145),(iz x146),(iz x147),(iz x148),(iz x149)])] <|
 anys C s154.env 47 4 <|
 C.any s154.env[51]? fun v162 =>
 C.any s154.env[52]? fun v163 =>
 C.any s154.env[53]? fun v164 =>
 C.any s154.env[54]? fun v165 =>
 C.any s154.env[55]? fun v166 =>
 C.any s154.env[56]? fun v167 =>
 C.any s154.env[57]? fun v168 =>
 C.any s154.env[58]? fun v169 =>
 C.any s154.env[59]? fun v170 =>
 C.any s154.env[60]? fun v171 =>
 C.any s154.env[61]? fun v172 =>
 C.any s154.env[62]? fun v173 =>
 C.any s154.env[63]? fun v174 =>
 sames C s154.env 64 [tz,tz,tz,tz,tz,tz,tz,tz,tz,tz,tz,tz,tz,tz,tz,tz,tz,tz,tz,tz,tz,tz,tz,tz,tz,tz,tz,tz,tz,tz,tz,tz,tz,tz,tz,tz,tz,tz,tz,tz,tz,tz,tz,tz,tz,tz,tz,tz,tz] <|
 C.hop (St.H s154) (.fldA 0 (.v v150)) fun v175 h176 =>
 C.hop h176 (.load false 1 (.v v175)) fun v177 h178 =>
 C.hop h178 (.bk .lenV [(.v v177)]) fun v179 h180 =>
 C.int .i64 (some v179) fun x181 =>
 cnd (decide (x181 < 5))
 (C.hop h180 (.fldA 0 (.v v150)) fun v182 h183 =>
 C.hop h183 (.load false 1 (.v v182)) fun v184 h185 =>
 C.hop h185 (.bk .lenV [(.v v184)]) fun v186 h187 =>
 C.int .i64 (some v186) fun x188 =>
 cnd (x188 == 0)
 (k155 .ret ⟨[(.agg [(.lst a0),(iz a1),(iz a2),(iz a3),(iz a4),(iz a5),(iz a6),(iz a7),(iz a8)]),(iz a9),v0,tz,bf,v106,v107,v108,v150,tz,tz,tz,(bz b2),(bz (!b2)),bf,(.agg [v7,(iz x8),(iz x9),(iz x10),(iz x11),(iz x12),(iz x13),(iz x14),(iz x15)]),(bz b18),(bz (!b18)),(bz (!b18)),bf,(.agg [v23,(iz x24),(iz x25),(iz x26),(iz x27),(iz x28),(iz x29),(iz x30),(iz x31)]),(iz x34),(bz (x34 != 0)),bf,tz,v36,v38,(iz x42),(iz x109),v110,v111,v112,v113,v114,v115,v116,v117,v118,v119,v120,v121,v122,v123,v124,v125,(.agg [v129,(iz x130),(iz x131),(iz x132),(iz x133),(iz x134),(iz x135),(iz x136),(iz x137)]),(.agg [v141,(iz x142),(iz x143),(iz x144),(iz x145),(iz x146),(iz x147),(iz x148),(iz x149)]),v175,v177,(iz x181),bt,v182,v184,(iz x188),bt,v166,v167,v168,v169,v170,v171,v172,v173,v174,tz,tz,tz,tz,tz,tz,tz,tz,tz,tz,tz,tz,tz,tz,tz,tz,tz,tz,tz,tz,tz,tz,tz,tz,tz,tz,tz,tz,tz,tz,tz,tz,tz,tz,tz,tz,tz,tz,tz,tz,tz,tz,tz,tz,tz,tz,tz,tz,tz],h187⟩)
 (C.grow h187 [] fun n189 h190 =>
 C.hop h190 (.fldA 0 (.v v150)) fun v191 h192 =>
 C.hop h192 (.load false 1 (.v v191)) fun v193 h194 =>
 C.hop h194 (.fldA 0 (.v v150)) fun v195 h196 =>
 C.hop h196 (.load false 1 (.v v195)) fun v197 h198 =>
 C.hop h198 (.ixAS .any 5 (.v v197) (.v (iz 0))) fun v199 h200 =>
 C.hop h200 (.load true 5 (.v v199)) fun v201 h202 =>
 C.agg 5 (some v201) fun l203 =>
 C.any l203[0]? fun v204 =>
 C.int .i64 l203[1]? fun x205 =>
 C.int .i64 l203[2]? fun x206 =>
 C.int .i64 l203[3]? fun x207 =>
 C.int .i64 l203[4]? fun x208 =>
 C.hop h202 (.mkrow E30 1 [(0,(.v (.agg [v204,(iz x205),(iz x206),(iz x207),(iz x208)])))]) fun v209 h210 =>
 C.keep h202 h210 [v191] <|
 C.hop h210 (.app E30 (.v v193) (.v v209)) fun v211 h212 =>
 C.hop h212 (.fldA 0 (.v v150)) fun v213 h214 =>
 C.hop h214 (.store 1 (.v v213) (.v v211)) fun v215 h216 =>
 k155 .normal ⟨[(.agg [(.lst a0),(iz a1),(iz a2),(iz a3),(iz a4),(iz a5),(iz a6),(iz a7),(iz a8)]),(iz a9),v0,tz,(bz b157),v106,v107,v108,v150,tz,tz,tz,(bz b2),(bz (!b2)),bf,(.agg [v7,(iz x8),(iz x9),(iz x10),(iz x11),(iz x12),(iz x13),(iz x14),(iz x15)]),(bz b18),(bz (!b18)),(bz (!b18)),bf,(.agg [v23,(iz x24),(iz x25),(iz x26),(iz x27),(iz x28),(iz x29),(iz x30),(iz x31)]),(iz x34),(bz (x34 != 0)),bf,tz,v36,v38,(iz x42),(iz x109),v110,v111,v112,v113,v114,v115,v116,v117,v118,v119,v120,v121,v122,v123,v124,v125,(.agg [v129,(iz x130),(iz x131),(iz x132),(iz x133),(iz x134),(iz x135),(iz x136),(iz x137)]),(.agg [v141,(iz x142),(iz x143),(iz x144),(iz x145),(iz x146),(iz x147),(iz x148),(iz x149)]),v175,v177,(iz x181),bt,v182,v184,(iz x188),bf,v191,v193,v195,v197,v199,(.agg [v204,(iz x205),(iz x206),(iz x207),(iz x208)]),v209,v211,v213,tz,tz,tz,tz,tz,tz,tz,tz,tz,tz,tz,tz,tz,tz,tz,tz,tz,tz,tz,tz,tz,tz,tz,tz,tz,tz,tz,tz,tz,tz,tz,tz,tz,tz,tz,tz,tz,tz,tz,tz,tz,tz,tz,tz,tz,tz,tz,tz,tz],h216⟩))
 (k155 (.exit 2) ⟨[(.agg [(.lst a0),(iz a1),(iz a2),(iz a3),(iz a4),(iz a5),(iz a6),(iz a7),(iz a8)]),(iz a9),v0,tz,(bz b157),v106,v107,v108,v150,tz,tz,tz,(bz b2),(bz (!b2)),bf,(.agg [v7,(iz x8),(iz x9),(iz x10),(iz x11),(iz x12),(iz x13),(iz x14),(iz x15)]),(bz b18),(bz (!b18)),(bz (!b18)),bf,(.agg [v23,(iz x24),(iz x25),(iz x26),(iz x27),(iz x28),(iz x29),(iz x30),(iz x31)]),(iz x34),(bz (x34 != 0)),bf,tz,v36,v38,(iz x42),(iz x109),v110,v111,v112,v113,v114,v115,v116,v117,v118,v119,v120,v121,v122,v123,v124,v125,(.agg [v129,(iz x130),(iz x131),(iz x132),(iz x133),(iz x134),(iz x135),(iz x136),(iz x137)]),(.agg [v141,(iz x142),(iz x143),(iz x144),(iz x145),(iz x146),(iz x147),(iz x148),(iz x149)]),v175,v177,(iz x181),bf,v162,v163,v164,v165,v166,v167,v168,v169,v170,v171,v172,v173,v174,tz,tz,tz,tz,tz,tz,tz,tz,tz,tz,tz,tz,tz,tz,tz,tz,tz,tz,tz,tz,tz,tz,tz,tz,tz,tz,tz,tz,tz,tz,tz,tz,tz,tz,tz,tz,tz,tz,tz,tz,tz,tz,tz,tz,tz,tz,tz,tz,tz],h180⟩))
 (none)
def r7X1_0 (C:Cb) (d:Nat) (a0:List AV) (a1 a2 a3 a4 a5 a6 a7 a8 a9:Int) (v0:AV) (b2:Bool) (v7:AV) (x8 x9 x10 x11 x12 x13 x14 x15:Int) (b18:Bool) (v23:AV) (x24 x25 x26 x27 x28 x29 x30 x31 x34:Int) (v36 v38:AV) (x42:Int) (v106 v107 v108:AV) (x109:Int) (v110 v111 v112 v113 v114 v115 v116 v117 v118 v119 v120 v121 v122 v123 v124 v125 v129:AV) (x130 x131 x132 x133 x134 x135 x136 x137:Int) (v141:AV) (x142 x143 x144 x145 x146 x147 x148 x149:Int) (v150:AV):St→Ans:=fun s217 =>
 cnd ((List.length s217.env) == 113)
 (sames C s217.env 0 [(.agg [(.lst a0),(iz a1),(iz a2),(iz a3),(iz a4),(iz a5),(iz a6),(iz a7),(iz a8)]),(iz a9),v0,tz] <|
 C.bool s217.env[4]? fun b218 =>
 sames C s217.env 5 [v106,v107,v108,v150,tz,tz,tz,(.bool b2),(.bool (!b2)),bf,(.agg [v7,(iz x8),(iz x9),(iz x10),(iz x11),(iz x12),(iz x13),(iz x14),(iz x15)]),(.bool b18),(.bool (!b18)),(.bool (!b18)),bf,(.agg [v23,(iz x24),(iz x25),(iz x26),(iz x27),(iz x28),(iz x29),(iz x30),(iz x31)]),(iz x34),(.bool (x34 != 0)),bf,tz,v36,v38,(iz x42),(iz x109),v110,v111,v112,v113,v114,v115,v116,v117,v118,v119,v120,v121,v122,v123,v124,v125,(.agg [v129,(iz x130),(iz x131),(iz x132),(iz x133),(iz x134),(iz x135),(iz x136),(iz x137)]),(.agg [v141,(iz x142),(iz x143),(iz x144),(iz x145),(iz x146),(iz x147),(iz x148),(iz x149)])] <|
 anys C s217.env 47 2 <|
 C.int .i64 s217.env[49]? fun x221 =>
 C.bool s217.env[50]? fun b222 =>
 anys C s217.env 51 13 <|
 sames C s217.env 64 [tz,tz,tz,tz,tz,tz,tz,tz,tz,tz,tz,tz,tz,tz,tz,tz,tz,tz,tz,tz,tz,tz,tz,tz,tz,tz,tz,tz,tz,tz,tz,tz,tz,tz,tz,tz,tz,tz,tz,tz,tz,tz,tz,tz,tz,tz,tz,tz,tz] <|
 C.hop (St.H s217) (.load true 9 (.v v0)) fun v236 h237 =>
 C.agg 9 (some v236) fun l238 =>
 C.any l238[0]? fun v239 =>
 C.int .i64 l238[1]? fun x240 =>
 C.int .i64 l238[2]? fun x241 =>
 C.int .i64 l238[3]? fun x242 =>
 C.int .i64 l238[4]? fun x243 =>
 C.int .i64 l238[5]? fun x244 =>
 C.int .i64 l238[6]? fun x245 =>
 C.int .i64 l238[7]? fun x246 =>
 C.int .i64 l238[8]? fun x247 =>
 C.cal M (pcall M d) 12 true 18 [(.agg [v239,(iz x240),(iz x241),(iz x242),(iz x243),(iz x244),(iz x245),(iz x246),(iz x247)])] h237 fun v248 h249 =>
 C.agg 9 (some v248) fun l250 =>
 C.any l250[0]? fun v251 =>
 C.int .i64 l250[1]? fun x252 =>
 C.int .i64 l250[2]? fun x253 =>
 C.int .i64 l250[3]? fun x254 =>
 C.int .i64 l250[4]? fun x255 =>
 C.int .i64 l250[5]? fun x256 =>
 C.int .i64 l250[6]? fun x257 =>
 C.int .i64 l250[7]? fun x258 =>
 C.int .i64 l250[8]? fun x259 =>
 C.hop h249 (.alloc E24) fun v260 h261 =>
 C.hop h261 (.store 9 (.v v260) (.v (.agg [v251,(iz x252),(iz x253),(iz x254),(iz x255),(iz x256),(iz x257),(iz x258),(iz x259)]))) fun v262 h263 =>
 C.hop h263 (.fldA 0 (.v v260)) fun v264 h265 =>
 C.hop h265 (.load false 1 (.v v264)) fun v266 h267 =>
 C.hop h267 (.bk .lenV [(.v v266)]) fun v268 h269 =>
 C.int .i64 (some v268) fun x270 =>
 C.hop h269 (.fldA 0 (.v v0)) fun v271 h272 =>
 C.hop h272 (.load false 1 (.v v271)) fun v273 h274 =>
 C.hop h274 (.bk .lenV [(.v v273)]) fun v275 h276 =>
 C.int .i64 (some v275) fun x277 =>
 cnd (x270 != x277)
 (C.fin h276 bf)
 (C.hop h276 (.fldA 0 (.v v260)) fun v278 h279 =>
 C.hop h279 (.load false 1 (.v v278)) fun v280 h281 =>
 C.hop h281 (.bk .lenV [(.v v280)]) fun v282 h283 =>
 C.int .i64 (some v282) fun x284 =>
 cnd (decide ((IntKind.wrap .u64 x284)=0))
 (none)
 (C.grow h283 [] fun n285 h286 =>
 C.hop h286 (.fldA 0 (.v v260)) fun v287 h288 =>
 C.hop h288 (.load false 1 (.v v287)) fun v289 h290 =>
 C.hop h290 (.subV 5 (.v v289) none (some (.v (iz (IntKind.wrap .i64 (Int.tmod (IntKind.wrap .u64 a9) (IntKind.wrap .u64 x284)))))) (some (.v (iz (IntKind.wrap .i64 (Int.tmod (IntKind.wrap .u64 a9) (IntKind.wrap .u64 x284))))))) fun v291 h292 =>
 C.hop h292 (.fldA 0 (.v v260)) fun v293 h294 =>
 C.hop h294 (.load false 1 (.v v293)) fun v295 h296 =>
 C.hop h296 (.subV 5 (.v v295) (some (.v (iz (IntKind.wrap .i64 ((IntKind.wrap .i64 (Int.tmod (IntKind.wrap .u64 a9) (IntKind.wrap .u64 x284)))+1))))) none none) fun v297 h298 =>
 C.hop h298 (.app E30 (.v v291) (.v v297)) fun v299 h300 =>
 C.hop h300 (.fldA 0 (.v v260)) fun v301 h302 =>
 C.hop h302 (.store 1 (.v v301) (.v v299)) fun v303 h304 =>
 C.hop h304 (.fldA 8 (.v v260)) fun v305 h306 =>
 C.hop h306 (.load false 1 (.v v305)) fun v307 h308 =>
 C.int .i64 (some v307) fun x309 =>
 C.hop h308 (.fldA 0 (.v v260)) fun v310 h311 =>
 C.hop h311 (.load false 1 (.v v310)) fun v312 h313 =>
 C.hop h313 (.bk .lenV [(.v v312)]) fun v314 h315 =>
 C.int .i64 (some v314) fun x316 =>
 C.hop h315 (.fldA 8 (.v v260)) fun v317 h318 =>
 C.hop h318 (.store 1 (.v v317) (.v (iz (if (x316 < x309) then x316 else x309)))) fun v319 h320 =>
 C.hop h320 (.fldA 0 (.v v260)) fun v321 h322 =>
 C.hop h322 (.load false 1 (.v v321)) fun v323 h324 =>
 C.hop h324 (.bk .lenV [(.v v323)]) fun v325 h326 =>
 C.int .i64 (some v325) fun x327 =>
 cnd (x327 == 0)
 (C.hop h326 (.load true 9 (.v v150)) fun v328 h329 =>
 C.agg 9 (some v328) fun l330 =>
 C.any l330[0]? fun v331 =>
 C.int .i64 l330[1]? fun x332 =>
 C.int .i64 l330[2]? fun x333 =>
 C.int .i64 l330[3]? fun x334 =>
 C.int .i64 l330[4]? fun x335 =>
 C.int .i64 l330[5]? fun x336 =>
 C.int .i64 l330[6]? fun x337 =>
 C.int .i64 l330[7]? fun x338 =>
 C.int .i64 l330[8]? fun x339 =>
 C.snp h329 [(.agg [v331,(iz x332),(iz x333),(iz x334),(iz x335),(iz x336),(iz x337),(iz x338),(iz x339)])] fun l340 b341 =>
 C.int .i64 (pcall M d 12 l340) fun x342 =>
 cnd (b341 || true)
 (cnd (x342 == 1)
 (C.hop h329 (.load true 9 (.v v260)) fun v343 h344 =>
 C.agg 9 (some v343) fun l345 =>
 C.any l345[0]? fun v346 =>
 C.int .i64 l345[1]? fun x347 =>
 C.int .i64 l345[2]? fun x348 =>
 C.int .i64 l345[3]? fun x349 =>
 C.int .i64 l345[4]? fun x350 =>
 C.int .i64 l345[5]? fun x351 =>
 C.int .i64 l345[6]? fun x352 =>
 C.int .i64 l345[7]? fun x353 =>
 C.int .i64 l345[8]? fun x354 =>
 C.snp h344 [(.agg [v346,(iz x347),(iz x348),(iz x349),(iz x350),(iz x351),(iz x352),(iz x353),(iz x354)])] fun l355 b356 =>
 C.int .i64 (pcall M d 12 l355) fun x357 =>
 cnd (b356 || true)
 (C.fin h344 (.bool (x357 == 1)))
 (none))
 (C.fin h329 bf))
 (none))
 (C.hop h326 (.load true 9 (.v v150)) fun v358 h359 =>
 C.agg 9 (some v358) fun l360 =>
 C.any l360[0]? fun v361 =>
 C.int .i64 l360[1]? fun x362 =>
 C.int .i64 l360[2]? fun x363 =>
 C.int .i64 l360[3]? fun x364 =>
 C.int .i64 l360[4]? fun x365 =>
 C.int .i64 l360[5]? fun x366 =>
 C.int .i64 l360[6]? fun x367 =>
 C.int .i64 l360[7]? fun x368 =>
 C.int .i64 l360[8]? fun x369 =>
 C.snp h359 [(.agg [v361,(iz x362),(iz x363),(iz x364),(iz x365),(iz x366),(iz x367),(iz x368),(iz x369)])] fun l370 b371 =>
 C.int .i64 (pcall M d 12 l370) fun x372 =>
 cnd (b371 || true)
 (cnd (x372 == 1)
 (C.hop h359 (.load true 9 (.v v260)) fun v373 h374 =>
 C.agg 9 (some v373) fun l375 =>
 C.any l375[0]? fun v376 =>
 C.int .i64 l375[1]? fun x377 =>
 C.int .i64 l375[2]? fun x378 =>
 C.int .i64 l375[3]? fun x379 =>
 C.int .i64 l375[4]? fun x380 =>
 C.int .i64 l375[5]? fun x381 =>
 C.int .i64 l375[6]? fun x382 =>
 C.int .i64 l375[7]? fun x383 =>
 C.int .i64 l375[8]? fun x384 =>
 C.snp h374 [(.agg [v376,(iz x377),(iz x378),(iz x379),(iz x380),(iz x381),(iz x382),(iz x383),(iz x384)])] fun l385 b386 =>
 C.int .i64 (pcall M d 12 l385) fun x387 =>
 cnd (b386 || true)
 (C.fin h374 (.bool (x387 == 0)))
 (none))
 (C.fin h359 bf))
 (none)))))
 (none)
def r7E1 (C:Cb) (d:Nat) (a0:List AV) (a1 a2 a3 a4 a5 a6 a7 a8 a9:Int) (v0:AV) (b2:Bool) (v7:AV) (x8 x9 x10 x11 x12 x13 x14 x15:Int) (b18:Bool) (v23:AV) (x24 x25 x26 x27 x28 x29 x30 x31 x34:Int) (v36 v38:AV) (x42:Int) (v106 v107 v108:AV) (x109:Int) (v110 v111 v112 v113 v114 v115 v116 v117 v118 v119 v120 v121 v122 v123 v124 v125 v129:AV) (x130 x131 x132 x133 x134 x135 x136 x137:Int) (v141:AV) (x142 x143 x144 x145 x146 x147 x148 x149:Int) (v150:AV):St→Ans:=fun s156 =>
 cnd ((List.length s156.env) == 113)
 (sames C s156.env 0 [(.agg [(.lst a0),(iz a1),(iz a2),(iz a3),(iz a4),(iz a5),(iz a6),(iz a7),(iz a8)]),(iz a9),v0,tz] <|
 C.bool s156.env[4]? fun b388 =>
 sames C s156.env 5 [v106,v107,v108,v150,tz,tz,tz,(.bool b2),(.bool (!b2)),bf,(.agg [v7,(iz x8),(iz x9),(iz x10),(iz x11),(iz x12),(iz x13),(iz x14),(iz x15)]),(.bool b18),(.bool (!b18)),(.bool (!b18)),bf,(.agg [v23,(iz x24),(iz x25),(iz x26),(iz x27),(iz x28),(iz x29),(iz x30),(iz x31)]),(iz x34),(.bool (x34 != 0)),bf,tz,v36,v38,(iz x42),(iz x109),v110,v111,v112,v113,v114,v115,v116,v117,v118,v119,v120,v121,v122,v123,v124,v125,(.agg [v129,(iz x130),(iz x131),(iz x132),(iz x133),(iz x134),(iz x135),(iz x136),(iz x137)]),(.agg [v141,(iz x142),(iz x143),(iz x144),(iz x145),(iz x146),(iz x147),(iz x148),(iz x149)])] <|
 anys C s156.env 47 2 <|
 C.int .i64 s156.env[49]? fun x391 =>
 C.bool s156.env[50]? fun b392 =>
 anys C s156.env 51 2 <|
 C.int .i64 s156.env[53]? fun x395 =>
 C.bool s156.env[54]? fun b396 =>
 anys C s156.env 55 9 <|
 sames C s156.env 64 [tz,tz,tz,tz,tz,tz,tz,tz,tz,tz,tz,tz,tz,tz,tz,tz,tz,tz,tz,tz,tz,tz,tz,tz,tz,tz,tz,tz,tz,tz,tz,tz,tz,tz,tz,tz,tz,tz,tz,tz,tz,tz,tz,tz,tz,tz,tz,tz,tz] <|
 C.fin (St.H s156) (.bool b388))
 (none)
def r7R0 (C:Cb) (d:Nat) (a0:List AV) (a1 a2 a3 a4 a5 a6 a7 a8 a9:Int) (v0:AV) (b2:Bool) (v7:AV) (x8 x9 x10 x11 x12 x13 x14 x15:Int) (b18:Bool) (v23:AV) (x24 x25 x26 x27 x28 x29 x30 x31 x34:Int) (v36 v38:AV) (x42:Int):St→(Ex→St→Ans)→Ans:=fun s43 k44 =>
 cnd ((List.length s43.env) == 113)
 (sames C s43.env 0 [(.agg [(.lst a0),(iz a1),(iz a2),(iz a3),(iz a4),(iz a5),(iz a6),(iz a7),(iz a8)]),(iz a9),v0,tz] <|
 C.bool s43.env[4]? fun b46 =>
 C.any s43.env[5]? fun v47 =>
 C.any s43.env[6]? fun v48 =>
 C.any s43.env[7]? fun v49 =>
 sames C s43.env 8 [tz,tz,tz,tz,(.bool b2),(.bool (!b2)),bf,(.agg [v7,(iz x8),(iz x9),(iz x10),(iz x11),(iz x12),(iz x13),(iz x14),(iz x15)]),(.bool b18),(.bool (!b18)),(.bool (!b18)),bf,(.agg [v23,(iz x24),(iz x25),(iz x26),(iz x27),(iz x28),(iz x29),(iz x30),(iz x31)]),(iz x34),(.bool (x34 != 0)),bf,tz,v36,v38,(iz x42)] <|
 C.int .i64 s43.env[28]? fun x50 =>
 C.any s43.env[29]? fun v51 =>
 C.any s43.env[30]? fun v52 =>
 C.any s43.env[31]? fun v53 =>
 C.any s43.env[32]? fun v54 =>
 C.any s43.env[33]? fun v55 =>
 C.any s43.env[34]? fun v56 =>
 C.any s43.env[35]? fun v57 =>
 C.any s43.env[36]? fun v58 =>
 C.any s43.env[37]? fun v59 =>
 C.any s43.env[38]? fun v60 =>
 C.any s43.env[39]? fun v61 =>
 C.any s43.env[40]? fun v62 =>
 C.any s43.env[41]? fun v63 =>
 C.any s43.env[42]? fun v64 =>
 C.any s43.env[43]? fun v65 =>
 C.any s43.env[44]? fun v66 =>
 sames C s43.env 45 [tz,tz,tz,tz,tz,tz,tz,tz,tz,tz,tz,tz,tz,tz,tz,tz,tz,tz,tz,tz,tz,tz,tz,tz,tz,tz,tz,tz,tz,tz,tz,tz,tz,tz,tz,tz,tz,tz,tz,tz,tz,tz,tz,tz,tz,tz,tz,tz,tz,tz,tz,tz,tz,tz,tz,tz,tz,tz,tz,tz,tz,tz,tz,tz,tz,tz,tz,tz] <|
 cnd (decide (x50 < x42))
 (C.hop (St.H s43) (.load true 9 (.v v0)) fun v67 h68 =>
 C.agg 9 (some v67) fun l69 =>
 C.any l69[0]? fun v70 =>
 C.int .i64 l69[1]? fun x71 =>
 C.int .i64 l69[2]? fun x72 =>
 C.int .i64 l69[3]? fun x73 =>
 C.int .i64 l69[4]? fun x74 =>
 C.int .i64 l69[5]? fun x75 =>
 C.int .i64 l69[6]? fun x76 =>
 C.int .i64 l69[7]? fun x77 =>
 C.int .i64 l69[8]? fun x78 =>
 C.snp h68 [(.agg [v70,(iz x71),(iz x72),(iz x73),(iz x74),(iz x75),(iz x76),(iz x77),(iz x78)]),(iz x50)] fun l79 b80 =>
 C.tup 2 (pcall M d 11 l79) fun l81 =>
 C.agg 5 l81[0]? fun l82 =>
 C.any l82[0]? fun v83 =>
 C.int .i64 l82[1]? fun x84 =>
 C.int .i64 l82[2]? fun x85 =>
 C.int .i64 l82[3]? fun x86 =>
 C.int .i64 l82[4]? fun x87 =>
 C.bool l81[1]? fun b88 =>
 cnd (b80 || (noMem 12 (.tup [(.agg [v83,(iz x84),(iz x85),(iz x86),(iz x87)]),(.bool b88)])))
 (C.hop h68 (.alloc E30) fun v89 h90 =>
 C.hop h90 (.store 5 (.v v89) (.v (.agg [v83,(iz x84),(iz x85),(iz x86),(iz x87)]))) fun v91 h92 =>
 cnd (!b88)
 (k44 .ret ⟨[(.agg [(.lst a0),(iz a1),(iz a2),(iz a3),(iz a4),(iz a5),(iz a6),(iz a7),(iz a8)]),(iz a9),v0,tz,bf,(iz x50),v89,(bz b88),tz,tz,tz,tz,(bz b2),(bz (!b2)),bf,(.agg [v7,(iz x8),(iz x9),(iz x10),(iz x11),(iz x12),(iz x13),(iz x14),(iz x15)]),(bz b18),(bz (!b18)),(bz (!b18)),bf,(.agg [v23,(iz x24),(iz x25),(iz x26),(iz x27),(iz x28),(iz x29),(iz x30),(iz x31)]),(iz x34),(bz (x34 != 0)),bf,tz,v36,v38,(iz x42),(iz x50),bt,(iz x50),(.tup [(.agg [v83,(iz x84),(iz x85),(iz x86),(iz x87)]),(bz b88)]),(.agg [v70,(iz x71),(iz x72),(iz x73),(iz x74),(iz x75),(iz x76),(iz x77),(iz x78)]),(iz x50),(.tup [(.agg [v83,(iz x84),(iz x85),(iz x86),(iz x87)]),(bz b88)]),(.agg [v83,(iz x84),(iz x85),(iz x86),(iz x87)]),(bz b88),(bz b88),(bz (!b88)),bt,tz,tz,tz,bt,v66,tz,tz,tz,tz,tz,tz,tz,tz,tz,tz,tz,tz,tz,tz,tz,tz,tz,tz,tz,tz,tz,tz,tz,tz,tz,tz,tz,tz,tz,tz,tz,tz,tz,tz,tz,tz,tz,tz,tz,tz,tz,tz,tz,tz,tz,tz,tz,tz,tz,tz,tz,tz,tz,tz,tz,tz,tz,tz,tz,tz,tz,tz,tz,tz,tz,tz,tz,tz],h92⟩)
 (C.hop h92 (.load true 5 (.v v89)) fun v93 h94 =>
 C.agg 5 (some v93) fun l95 =>
 C.any l95[0]? fun v96 =>
 C.int .i64 l95[1]? fun x97 =>
 C.int .i64 l95[2]? fun x98 =>
 C.int .i64 l95[3]? fun x99 =>
 C.int .i64 l95[4]? fun x100 =>
 C.snp h94 [(.agg [v96,(iz x97),(iz x98),(iz x99),(iz x100)])] fun l101 b102 =>
 C.bool (pcall M d 16 l101) fun b103 =>
 cnd (b102 || true)
 (cnd (!b103)
 (k44 .ret ⟨[(.agg [(.lst a0),(iz a1),(iz a2),(iz a3),(iz a4),(iz a5),(iz a6),(iz a7),(iz a8)]),(iz a9),v0,tz,bf,(iz x50),v89,(bz b88),tz,tz,tz,tz,(bz b2),(bz (!b2)),bf,(.agg [v7,(iz x8),(iz x9),(iz x10),(iz x11),(iz x12),(iz x13),(iz x14),(iz x15)]),(bz b18),(bz (!b18)),(bz (!b18)),bf,(.agg [v23,(iz x24),(iz x25),(iz x26),(iz x27),(iz x28),(iz x29),(iz x30),(iz x31)]),(iz x34),(bz (x34 != 0)),bf,tz,v36,v38,(iz x42),(iz x50),bt,(iz x50),(.tup [(.agg [v83,(iz x84),(iz x85),(iz x86),(iz x87)]),(bz b88)]),(.agg [v70,(iz x71),(iz x72),(iz x73),(iz x74),(iz x75),(iz x76),(iz x77),(iz x78)]),(iz x50),(.tup [(.agg [v83,(iz x84),(iz x85),(iz x86),(iz x87)]),(bz b88)]),(.agg [v83,(iz x84),(iz x85),(iz x86),(iz x87)]),(bz b88),(bz b88),(bz (!b88)),bf,(.agg [v96,(iz x97),(iz x98),(iz x99),(iz x100)]),(bz b103),(bz (!b103)),bt,v66,tz,tz,tz,tz,tz,tz,tz,tz,tz,tz,tz,tz,tz,tz,tz,tz,tz,tz,tz,tz,tz,tz,tz,tz,tz,tz,tz,tz,tz,tz,tz,tz,tz,tz,tz,tz,tz,tz,tz,tz,tz,tz,tz,tz,tz,tz,tz,tz,tz,tz,tz,tz,tz,tz,tz,tz,tz,tz,tz,tz,tz,tz,tz,tz,tz,tz,tz,tz],h94⟩)
 (k44 .normal ⟨[(.agg [(.lst a0),(iz a1),(iz a2),(iz a3),(iz a4),(iz a5),(iz a6),(iz a7),(iz a8)]),(iz a9),v0,tz,(bz b46),(iz x50),v89,(bz b88),tz,tz,tz,tz,(bz b2),(bz (!b2)),bf,(.agg [v7,(iz x8),(iz x9),(iz x10),(iz x11),(iz x12),(iz x13),(iz x14),(iz x15)]),(bz b18),(bz (!b18)),(bz (!b18)),bf,(.agg [v23,(iz x24),(iz x25),(iz x26),(iz x27),(iz x28),(iz x29),(iz x30),(iz x31)]),(iz x34),(bz (x34 != 0)),bf,tz,v36,v38,(iz x42),(iz (IntKind.wrap .i64 (x50+1))),bt,(iz x50),(.tup [(.agg [v83,(iz x84),(iz x85),(iz x86),(iz x87)]),(bz b88)]),(.agg [v70,(iz x71),(iz x72),(iz x73),(iz x74),(iz x75),(iz x76),(iz x77),(iz x78)]),(iz x50),(.tup [(.agg [v83,(iz x84),(iz x85),(iz x86),(iz x87)]),(bz b88)]),(.agg [v83,(iz x84),(iz x85),(iz x86),(iz x87)]),(bz b88),(bz b88),(bz (!b88)),bf,(.agg [v96,(iz x97),(iz x98),(iz x99),(iz x100)]),(bz b103),(bz (!b103)),bf,(iz (IntKind.wrap .i64 (x50+1))),tz,tz,tz,tz,tz,tz,tz,tz,tz,tz,tz,tz,tz,tz,tz,tz,tz,tz,tz,tz,tz,tz,tz,tz,tz,tz,tz,tz,tz,tz,tz,tz,tz,tz,tz,tz,tz,tz,tz,tz,tz,tz,tz,tz,tz,tz,tz,tz,tz,tz,tz,tz,tz,tz,tz,tz,tz,tz,tz,tz,tz,tz,tz,tz,tz,tz,tz,tz],h94⟩))
 (none)))
 (none))
 (k44 (.exit 0) ⟨[(.agg [(.lst a0),(iz a1),(iz a2),(iz a3),(iz a4),(iz a5),(iz a6),(iz a7),(iz a8)]),(iz a9),v0,tz,(bz b46),v47,v48,v49,tz,tz,tz,tz,(bz b2),(bz (!b2)),bf,(.agg [v7,(iz x8),(iz x9),(iz x10),(iz x11),(iz x12),(iz x13),(iz x14),(iz x15)]),(bz b18),(bz (!b18)),(bz (!b18)),bf,(.agg [v23,(iz x24),(iz x25),(iz x26),(iz x27),(iz x28),(iz x29),(iz x30),(iz x31)]),(iz x34),(bz (x34 != 0)),bf,tz,v36,v38,(iz x42),(iz x50),bf,v52,v53,v54,v55,v56,v57,v58,v59,v60,v61,v62,v63,v64,v65,v66,tz,tz,tz,tz,tz,tz,tz,tz,tz,tz,tz,tz,tz,tz,tz,tz,tz,tz,tz,tz,tz,tz,tz,tz,tz,tz,tz,tz,tz,tz,tz,tz,tz,tz,tz,tz,tz,tz,tz,tz,tz,tz,tz,tz,tz,tz,tz,tz,tz,tz,tz,tz,tz,tz,tz,tz,tz,tz,tz,tz,tz,tz,tz,tz,tz,tz,tz,tz],(St.H s43)⟩))
 (none)
def r7X0_0 (C:Cb) (d:Nat) (a0:List AV) (a1 a2 a3 a4 a5 a6 a7 a8 a9:Int) (v0:AV) (b2:Bool) (v7:AV) (x8 x9 x10 x11 x12 x13 x14 x15:Int) (b18:Bool) (v23:AV) (x24 x25 x26 x27 x28 x29 x30 x31 x34:Int) (v36 v38:AV) (x42:Int):St→Ans:=fun s104 =>
 cnd ((List.length s104.env) == 113)
 (sames C s104.env 0 [(.agg [(.lst a0),(iz a1),(iz a2),(iz a3),(iz a4),(iz a5),(iz a6),(iz a7),(iz a8)]),(iz a9),v0,tz] <|
 C.bool s104.env[4]? fun b105 =>
 C.any s104.env[5]? fun v106 =>
 C.any s104.env[6]? fun v107 =>
 C.any s104.env[7]? fun v108 =>
 sames C s104.env 8 [tz,tz,tz,tz,(.bool b2),(.bool (!b2)),bf,(.agg [v7,(iz x8),(iz x9),(iz x10),(iz x11),(iz x12),(iz x13),(iz x14),(iz x15)]),(.bool b18),(.bool (!b18)),(.bool (!b18)),bf,(.agg [v23,(iz x24),(iz x25),(iz x26),(iz x27),(iz x28),(iz x29),(iz x30),(iz x31)]),(iz x34),(.bool (x34 != 0)),bf,tz,v36,v38,(iz x42)] <|
 C.int .i64 s104.env[28]? fun x109 =>
 C.any s104.env[29]? fun v110 =>
 C.any s104.env[30]? fun v111 =>
 C.any s104.env[31]? fun v112 =>
 C.any s104.env[32]? fun v113 =>
 C.any s104.env[33]? fun v114 =>
 C.any s104.env[34]? fun v115 =>
 C.any s104.env[35]? fun v116 =>
 C.any s104.env[36]? fun v117 =>
 C.any s104.env[37]? fun v118 =>
 C.any s104.env[38]? fun v119 =>
 C.any s104.env[39]? fun v120 =>
 C.any s104.env[40]? fun v121 =>
 C.any s104.env[41]? fun v122 =>
 C.any s104.env[42]? fun v123 =>
 C.any s104.env[43]? fun v124 =>
 C.any s104.env[44]? fun v125 =>
 sames C s104.env 45 [tz,tz,tz,tz,tz,tz,tz,tz,tz,tz,tz,tz,tz,tz,tz,tz,tz,tz,tz,tz,tz,tz,tz,tz,tz,tz,tz,tz,tz,tz,tz,tz,tz,tz,tz,tz,tz,tz,tz,tz,tz,tz,tz,tz,tz,tz,tz,tz,tz,tz,tz,tz,tz,tz,tz,tz,tz,tz,tz,tz,tz,tz,tz,tz,tz,tz,tz,tz] <|
 C.hop (St.H s104) (.load true 9 (.v v0)) fun v126 h127 =>
 C.agg 9 (some v126) fun l128 =>
 C.any l128[0]? fun v129 =>
 C.int .i64 l128[1]? fun x130 =>
 C.int .i64 l128[2]? fun x131 =>
 C.int .i64 l128[3]? fun x132 =>
 C.int .i64 l128[4]? fun x133 =>
 C.int .i64 l128[5]? fun x134 =>
 C.int .i64 l128[6]? fun x135 =>
 C.int .i64 l128[7]? fun x136 =>
 C.int .i64 l128[8]? fun x137 =>
 C.cal M (pcall M d) 12 true 18 [(.agg [v129,(iz x130),(iz x131),(iz x132),(iz x133),(iz x134),(iz x135),(iz x136),(iz x137)])] h127 fun v138 h139 =>
 C.agg 9 (some v138) fun l140 =>
 C.any l140[0]? fun v141 =>
 C.int .i64 l140[1]? fun x142 =>
 C.int .i64 l140[2]? fun x143 =>
 C.int .i64 l140[3]? fun x144 =>
 C.int .i64 l140[4]? fun x145 =>
 C.int .i64 l140[5]? fun x146 =>
 C.int .i64 l140[6]? fun x147 =>
 C.int .i64 l140[7]? fun x148 =>
 C.int .i64 l140[8]? fun x149 =>
 C.hop h139 (.alloc E24) fun v150 h151 =>
 C.hop h151 (.store 9 (.v v150) (.v (.agg [v141,(iz x142),(iz x143),(iz x144),(iz x145),(iz x146),(iz x147),(iz x148),(iz x149)]))) fun v152 h153 =>
 C.iter (r7R1 C d a0 a1 a2 a3 a4 a5 a6 a7 a8 a9 v0 b2 v7 x8 x9 x10 x11 x12 x13 x14 x15 b18 v23 x24 x25 x26 x27 x28 x29 x30 x31 x34 v36 v38 x42 v106 v107 v108 x109 v110 v111 v112 v113 v114 v115 v116 v117 v118 v119 v120 v121 v122 v123 v124 v125 v129 x130 x131 x132 x133 x134 x135 x136 x137 v141 x142 x143 x144 x145 x146 x147 x148 x149 v150) 10000000000000000000 ⟨[(.agg [(.lst a0),(iz a1),(iz a2),(iz a3),(iz a4),(iz a5),(iz a6),(iz a7),(iz a8)]),(iz a9),v0,tz,(bz b105),v106,v107,v108,v150,tz,tz,tz,(bz b2),(bz (!b2)),bf,(.agg [v7,(iz x8),(iz x9),(iz x10),(iz x11),(iz x12),(iz x13),(iz x14),(iz x15)]),(bz b18),(bz (!b18)),(bz (!b18)),bf,(.agg [v23,(iz x24),(iz x25),(iz x26),(iz x27),(iz x28),(iz x29),(iz x30),(iz x31)]),(iz x34),(bz (x34 != 0)),bf,tz,v36,v38,(iz x42),(iz x109),v110,v111,v112,v113,v114,v115,v116,v117,v118,v119,v120,v121,v122,v123,v124,v125,(.agg [v129,(iz x130),(iz x131),(iz x132),(iz x133),(iz x134),(iz x135),(iz x136),(iz x137)]),(.agg [v141,(iz x142),(iz x143),(iz x144),(iz x145),(iz x146),(iz x147),(iz x148),(iz x149)]),tz,tz,tz,tz,tz,tz,tz,tz,tz,tz,tz,tz,tz,tz,tz,tz,tz,tz,tz,tz,tz,tz,tz,tz,tz,tz,tz,tz,tz,tz,tz,tz,tz,tz,tz,tz,tz,tz,tz,tz,tz,tz,tz,tz,tz,tz,tz,tz,tz,tz,tz,tz,tz,tz,tz,tz,tz,tz,tz,tz,tz,tz,tz,tz,tz,tz],h153⟩ [2] [r7X1_0 C d a0 a1 a2 a3 a4 a5 a6 a7 a8 a9 v0 b2 v7 x8 x9 x10 x11 x12 x13 x14 x15 b18 v23 x24 x25 x26 x27 x28 x29 x30 x31 x34 v36 v38 x42 v106 v107 v108 x109 v110 v111 v112 v113 v114 v115 v116 v117 v118 v119 v120 v121 v122 v123 v124 v125 v129 x130 x131 x132 x133 x134 x135 x136 x137 v141 x142 x143 x144 x145 x146 x147 x148 x149 v150] (r7E1 C d a0 a1 a2 a3 a4 a5 a6 a7 a8 a9 v0 b2 v7 x8 x9 x10 x11 x12 x13 x14 x15 b18 v23 x24 x25 x26 x27 x28 x29 x30 x31 x34 v36 v38 x42 v106 v107 v108 x109 v110 v111 v112 v113 v114 v115 v116 v117 v118 v119 v120 v121 v122 v123 v124 v125 v129 x130 x131 x132 x133 x134 x135 x136 x137 v141 x142 x143 x144 x145 x146 x147 x148 x149 v150))
 (none)
def r7E0 (C:Cb) (d:Nat) (a0:List AV) (a1 a2 a3 a4 a5 a6 a7 a8 a9:Int) (v0:AV) (b2:Bool) (v7:AV) (x8 x9 x10 x11 x12 x13 x14 x15:Int) (b18:Bool) (v23:AV) (x24 x25 x26 x27 x28 x29 x30 x31 x34:Int) (v36 v38:AV) (x42:Int):St→Ans:=fun s45 =>
 cnd ((List.length s45.env) == 113)
 (sames C s45.env 0 [(.agg [(.lst a0),(iz a1),(iz a2),(iz a3),(iz a4),(iz a5),(iz a6),(iz a7),(iz a8)]),(iz a9),v0,tz] <|
 C.bool s45.env[4]? fun b406 =>
 C.int .i64 s45.env[5]? fun x407 =>
 C.any s45.env[6]? fun v408 =>
 C.bool s45.env[7]? fun b409 =>
 sames C s45.env 8 [tz,tz,tz,tz,(.bool b2),(.bool (!b2)),bf,(.agg [v7,(iz x8),(iz x9),(iz x10),(iz x11),(iz x12),(iz x13),(iz x14),(iz x15)]),(.bool b18),(.bool (!b18)),(.bool (!b18)),bf,(.agg [v23,(iz x24),(iz x25),(iz x26),(iz x27),(iz x28),(iz x29),(iz x30),(iz x31)]),(iz x34),(.bool (x34 != 0)),bf,tz,v36,v38,(iz x42)] <|
 C.int .i64 s45.env[28]? fun x410 =>
 C.any s45.env[29]? fun v411 =>
 C.int .i64 s45.env[30]? fun x412 =>
 C.tup 2 s45.env[31]? fun l413 =>
 C.agg 5 l413[0]? fun l414 =>
 C.any l414[0]? fun v415 =>
 C.int .i64 l414[1]? fun x416 =>
 C.int .i64 l414[2]? fun x417 =>
 C.int .i64 l414[3]? fun x418 =>
 C.int .i64 l414[4]? fun x419 =>
 C.bool l413[1]? fun b420 =>
 C.agg 9 s45.env[32]? fun l421 =>
 C.any l421[0]? fun v422 =>
 C.int .i64 l421[1]? fun x423 =>
 C.int .i64 l421[2]? fun x424 =>
 C.int .i64 l421[3]? fun x425 =>
 C.int .i64 l421[4]? fun x426 =>
 C.int .i64 l421[5]? fun x427 =>
 C.int .i64 l421[6]? fun x428 =>
 C.int .i64 l421[7]? fun x429 =>
 C.int .i64 l421[8]? fun x430 =>
 C.int .i64 s45.env[33]? fun x431 =>
 C.tup 2 s45.env[34]? fun l432 =>
 C.agg 5 l432[0]? fun l433 =>
 C.any l433[0]? fun v434 =>
 C.int .i64 l433[1]? fun x435 =>
 C.int .i64 l433[2]? fun x436 =>
 C.int .i64 l433[3]? fun x437 =>
 C.int .i64 l433[4]? fun x438 =>
 C.bool l432[1]? fun b439 =>
 C.agg 5 s45.env[35]? fun l440 =>
 C.any l440[0]? fun v441 =>
 C.int .i64 l440[1]? fun x442 =>
 C.int .i64 l440[2]? fun x443 =>
 C.int .i64 l440[3]? fun x444 =>
 C.int .i64 l440[4]? fun x445 =>
 C.bool s45.env[36]? fun b446 =>
 C.bool s45.env[37]? fun b447 =>
 C.bool s45.env[38]? fun b448 =>
 C.bool s45.env[39]? fun b449 =>
 anys C s45.env 40 3 <|
 C.bool s45.env[43]? fun b453 =>
 C.any s45.env[44]? fun v454 =>
 sames C s45.env 45 [tz,tz,tz,tz,tz,tz,tz,tz,tz,tz,tz,tz,tz,tz,tz,tz,tz,tz,tz,tz,tz,tz,tz,tz,tz,tz,tz,tz,tz,tz,tz,tz,tz,tz,tz,tz,tz,tz,tz,tz,tz,tz,tz,tz,tz,tz,tz,tz,tz,tz,tz,tz,tz,tz,tz,tz,tz,tz,tz,tz,tz,tz,tz,tz,tz,tz,tz,tz] <|
 C.fin (St.H s45) (.bool b406))
 (none)
theorem r7 (C:Cb) (d:Nat) (a0:List AV) (a1 a2 a3 a4 a5 a6 a7 a8 a9:Int):xcall C M unr d 7 [(.agg [(.lst a0),(iz a1),(iz a2),(iz a3),(iz a4),(iz a5),(iz a6),(iz a7),(iz a8)]),(iz a9)] =
 C.hop [] (.box E24 (.v (.agg [(.lst a0),(iz a1),(iz a2),(iz a3),(iz a4),(iz a5),(iz a6),(iz a7),(iz a8)]))) fun v0 h1 =>
 C.bool (pcall M d 8 []) fun b2 =>
 cnd (!b2)
 (C.bool (pcall M d 8 []) fun b3 =>
 C.fin h1 (.bool b3))
 (C.hop h1 (.load true 9 (.v v0)) fun v4 h5 =>
 C.agg 9 (some v4) fun l6 =>
 C.any l6[0]? fun v7 =>
 C.int .i64 l6[1]? fun x8 =>
 C.int .i64 l6[2]? fun x9 =>
 C.int .i64 l6[3]? fun x10 =>
 C.int .i64 l6[4]? fun x11 =>
 C.int .i64 l6[5]? fun x12 =>
 C.int .i64 l6[6]? fun x13 =>
 C.int .i64 l6[7]? fun x14 =>
 C.int .i64 l6[8]? fun x15 =>
 C.snp h5 [(.agg [v7,(iz x8),(iz x9),(iz x10),(iz x11),(iz x12),(iz x13),(iz x14),(iz x15)])] fun l16 b17 =>
 C.bool (pcall M d 9 l16) fun b18 =>
 cnd (b17 || true)
 (cnd (!b18)
 (C.bool (pcall M d 8 []) fun b19 =>
 C.fin h5 (.bool b19))
 (C.hop h5 (.load true 9 (.v v0)) fun v20 h21 =>
 C.agg 9 (some v20) fun l22 =>
 C.any l22[0]? fun v23 =>
 C.int .i64 l22[1]? fun x24 =>
 C.int .i64 l22[2]? fun x25 =>
 C.int .i64 l22[3]? fun x26 =>
 C.int .i64 l22[4]? fun x27 =>
 C.int .i64 l22[5]? fun x28 =>
 C.int .i64 l22[6]? fun x29 =>
 C.int .i64 l22[7]? fun x30 =>
 C.int .i64 l22[8]? fun x31 =>
 C.snp h21 [(.agg [v23,(iz x24),(iz x25),(iz x26),(iz x27),(iz x28),(iz x29),(iz x30),(iz x31)])] fun l32 b33 =>
 C.int .i64 (pcall M d 10 l32) fun x34 =>
 cnd (b33 || true)
 (cnd (x34 != 0)
 (C.bool (pcall M d 8 []) fun b35 =>
 C.fin h21 (.bool b35))
 (C.hop h21 (.fldA 0 (.v v0)) fun v36 h37 =>
 C.hop h37 (.load false 1 (.v v36)) fun v38 h39 =>
 C.hop h39 (.bk .lenV [(.v v38)]) fun v40 h41 =>
 C.int .i64 (some v40) fun x42 =>
 C.iter (r7R0 C d a0 a1 a2 a3 a4 a5 a6 a7 a8 a9 v0 b2 v7 x8 x9 x10 x11 x12 x13 x14 x15 b18 v23 x24 x25 x26 x27 x28 x29 x30 x31 x34 v36 v38 x42) 10000000000000000000 ⟨[(.agg [(.lst a0),(iz a1),(iz a2),(iz a3),(iz a4),(iz a5),(iz a6),(iz a7),(iz a8)]),(iz a9),v0,tz,bf,tz,tz,tz,tz,tz,tz,tz,(bz b2),(bz (!b2)),bf,(.agg [v7,(iz x8),(iz x9),(iz x10),(iz x11),(iz x12),(iz x13),(iz x14),(iz x15)]),(bz b18),(bz (!b18)),(bz (!b18)),bf,(.agg [v23,(iz x24),(iz x25),(iz x26),(iz x27),(iz x28),(iz x29),(iz x30),(iz x31)]),(iz x34),(bz (x34 != 0)),bf,tz,v36,v38,(iz x42),(iz 0),tz,tz,tz,tz,tz,tz,tz,tz,tz,tz,tz,tz,tz,tz,tz,tz,tz,tz,tz,tz,tz,tz,tz,tz,tz,tz,tz,tz,tz,tz,tz,tz,tz,tz,tz,tz,tz,tz,tz,tz,tz,tz,tz,tz,tz,tz,tz,tz,tz,tz,tz,tz,tz,tz,tz,tz,tz,tz,tz,tz,tz,tz,tz,tz,tz,tz,tz,tz,tz,tz,tz,tz,tz,tz,tz,tz,tz,tz,tz,tz,tz,tz,tz,tz],h41⟩ [0] [r7X0_0 C d a0 a1 a2 a3 a4 a5 a6 a7 a8 a9 v0 b2 v7 x8 x9 x10 x11 x12 x13 x14 x15 b18 v23 x24 x25 x26 x27 x28 x29 x30 x31 x34 v36 v38 x42] (r7E0 C d a0 a1 a2 a3 a4 a5 a6 a7 a8 a9 v0 b2 v7 x8 x9 x10 x11 x12 x13 x14 x15 b18 v23 x24 x25 x26 x27 x28 x29 x30 x31 x34 v36 v38 x42)))
 (none)))
 (none)):=by kernel_rfl
noncomputable def X7_1_0 (d:Nat) (a9:Int) (v0 v150:AV) (H:Heap):Ans :=
 C0.hop H (.load true 9 (.v v0)) fun v236 h237 =>
  C0.agg 9 (some v236) fun l238 =>
  C0.any l238[0]? fun v239 =>
  C0.int .i64 l238[1]? fun x240 =>
  C0.int .i64 l238[2]? fun x241 =>
  C0.int .i64 l238[3]? fun x242 =>
  C0.int .i64 l238[4]? fun x243 =>
  C0.int .i64 l238[5]? fun x244 =>
  C0.int .i64 l238[6]? fun x245 =>
  C0.int .i64 l238[7]? fun x246 =>
  C0.int .i64 l238[8]? fun x247 =>
  C0.cal M (pcall M d) 12 true 18 [(.agg [v239,(iz x240),(iz x241),(iz x242),(iz x243),(iz x244),(iz x245),(iz x246),(iz x247)])] h237 fun v248 h249 =>
  C0.agg 9 (some v248) fun l250 =>
  C0.any l250[0]? fun v251 =>
  C0.int .i64 l250[1]? fun x252 =>
  C0.int .i64 l250[2]? fun x253 =>
  C0.int .i64 l250[3]? fun x254 =>
  C0.int .i64 l250[4]? fun x255 =>
  C0.int .i64 l250[5]? fun x256 =>
  C0.int .i64 l250[6]? fun x257 =>
  C0.int .i64 l250[7]? fun x258 =>
  C0.int .i64 l250[8]? fun x259 =>
  C0.hop h249 (.alloc E24) fun v260 h261 =>
  C0.hop h261 (.store 9 (.v v260) (.v (.agg [v251,(iz x252),(iz x253),(iz x254),(iz x255),(iz x256),(iz x257),(iz x258),(iz x259)]))) fun v262 h263 =>
  C0.hop h263 (.fldA 0 (.v v260)) fun v264 h265 =>
  C0.hop h265 (.load false 1 (.v v264)) fun v266 h267 =>
  C0.hop h267 (.bk .lenV [(.v v266)]) fun v268 h269 =>
  C0.int .i64 (some v268) fun x270 =>
  C0.hop h269 (.fldA 0 (.v v0)) fun v271 h272 =>
  C0.hop h272 (.load false 1 (.v v271)) fun v273 h274 =>
  C0.hop h274 (.bk .lenV [(.v v273)]) fun v275 h276 =>
  C0.int .i64 (some v275) fun x277 =>
  cnd (x270 != x277)
  (C0.fin h276 bf)
  (C0.hop h276 (.fldA 0 (.v v260)) fun v278 h279 =>
  C0.hop h279 (.load false 1 (.v v278)) fun v280 h281 =>
  C0.hop h281 (.bk .lenV [(.v v280)]) fun v282 h283 =>
  C0.int .i64 (some v282) fun x284 =>
  cnd (decide ((IntKind.wrap .u64 x284)=0))
  (none)
  (C0.grow h283 [] fun n285 h286 =>
  C0.hop h286 (.fldA 0 (.v v260)) fun v287 h288 =>
  C0.hop h288 (.load false 1 (.v v287)) fun v289 h290 =>
  C0.hop h290 (.subV 5 (.v v289) none (some (.v (iz (IntKind.wrap .i64 (Int.tmod (IntKind.wrap .u64 a9) (IntKind.wrap .u64 x284)))))) (some (.v (iz (IntKind.wrap .i64 (Int.tmod (IntKind.wrap .u64 a9) (IntKind.wrap .u64 x284))))))) fun v291 h292 =>
  C0.hop h292 (.fldA 0 (.v v260)) fun v293 h294 =>
  C0.hop h294 (.load false 1 (.v v293)) fun v295 h296 =>
  C0.hop h296 (.subV 5 (.v v295) (some (.v (iz (IntKind.wrap .i64 ((IntKind.wrap .i64 (Int.tmod (IntKind.wrap .u64 a9) (IntKind.wrap .u64 x284)))+1))))) none none) fun v297 h298 =>
  C0.hop h298 (.app E30 (.v v291) (.v v297)) fun v299 h300 =>
  C0.hop h300 (.fldA 0 (.v v260)) fun v301 h302 =>
  C0.hop h302 (.store 1 (.v v301) (.v v299)) fun v303 h304 =>
  C0.hop h304 (.fldA 8 (.v v260)) fun v305 h306 =>
  C0.hop h306 (.load false 1 (.v v305)) fun v307 h308 =>
  C0.int .i64 (some v307) fun x309 =>
  C0.hop h308 (.fldA 0 (.v v260)) fun v310 h311 =>
  C0.hop h311 (.load false 1 (.v v310)) fun v312 h313 =>
  C0.hop h313 (.bk .lenV [(.v v312)]) fun v314 h315 =>
  C0.int .i64 (some v314) fun x316 =>
  C0.hop h315 (.fldA 8 (.v v260)) fun v317 h318 =>
  C0.hop h318 (.store 1 (.v v317) (.v (iz (if (x316 < x309) then x316 else x309)))) fun v319 h320 =>
  C0.hop h320 (.fldA 0 (.v v260)) fun v321 h322 =>
  C0.hop h322 (.load false 1 (.v v321)) fun v323 h324 =>
  C0.hop h324 (.bk .lenV [(.v v323)]) fun v325 h326 =>
  C0.int .i64 (some v325) fun x327 =>
  cnd (x327 == 0)
  (C0.hop h326 (.load true 9 (.v v150)) fun v328 h329 =>
  C0.agg 9 (some v328) fun l330 =>
  C0.any l330[0]? fun v331 =>
  C0.int .i64 l330[1]? fun x332 =>
  C0.int .i64 l330[2]? fun x333 =>
  C0.int .i64 l330[3]? fun x334 =>
  C0.int .i64 l330[4]? fun x335 =>
  C0.int .i64 l330[5]? fun x336 =>
  C0.int .i64 l330[6]? fun x337 =>
  C0.int .i64 l330[7]? fun x338 =>
  C0.int .i64 l330[8]? fun x339 =>
  C0.snp h329 [(.agg [v331,(iz x332),(iz x333),(iz x334),(iz x335),(iz x336),(iz x337),(iz x338),(iz x339)])] fun l340 b341 =>
  C0.int .i64 (pcall M d 12 l340) fun x342 =>
  cnd (b341 || true)
  (cnd (x342 == 1)
  (C0.hop h329 (.load true 9 (.v v260)) fun v343 h344 =>
  C0.agg 9 (some v343) fun l345 =>
  C0.any l345[0]? fun v346 =>
  C0.int .i64 l345[1]? fun x347 =>
  C0.int .i64 l345[2]? fun x348 =>
  C0.int .i64 l345[3]? fun x349 =>
  C0.int .i64 l345[4]? fun x350 =>
  C0.int .i64 l345[5]? fun x351 =>
  C0.int .i64 l345[6]? fun x352 =>
  C0.int .i64 l345[7]? fun x353 =>
  C0.int .i64 l345[8]? fun x354 =>
  C0.snp h344 [(.agg [v346,(iz x347),(iz x348),(iz x349),(iz x350),(iz x351),(iz x352),(iz x353),(iz x354)])] fun l355 b356 =>
  C0.int .i64 (pcall M d 12 l355) fun x357 =>
  cnd (b356 || true)
  (C0.fin h344 (.bool (x357 == 1)))
  (none))
  (C0.fin h329 bf))
  (none))
  (C0.hop h326 (.load true 9 (.v v150)) fun v358 h359 =>
  C0.agg 9 (some v358) fun l360 =>
  C0.any l360[0]? fun v361 =>
  C0.int .i64 l360[1]? fun x362 =>
  C0.int .i64 l360[2]? fun x363 =>
  C0.int .i64 l360[3]? fun x364 =>
  C0.int .i64 l360[4]? fun x365 =>
  C0.int .i64 l360[5]? fun x366 =>
  C0.int .i64 l360[6]? fun x367 =>
  C0.int .i64 l360[7]? fun x368 =>
  C0.int .i64 l360[8]? fun x369 =>
  C0.snp h359 [(.agg [v361,(iz x362),(iz x363),(iz x364),(iz x365),(iz x366),(iz x367),(iz x368),(iz x369)])] fun l370 b371 =>
  C0.int .i64 (pcall M d 12 l370) fun x372 =>
  cnd (b371 || true)
  (cnd (x372 == 1)
  (C0.hop h359 (.load true 9 (.v v260)) fun v373 h374 =>
  C0.agg 9 (some v373) fun l375 =>
  C0.any l375[0]? fun v376 =>
  C0.int .i64 l375[1]? fun x377 =>
  C0.int .i64 l375[2]? fun x378 =>
  C0.int .i64 l375[3]? fun x379 =>
  C0.int .i64 l375[4]? fun x380 =>
  C0.int .i64 l375[5]? fun x381 =>
  C0.int .i64 l375[6]? fun x382 =>
  C0.int .i64 l375[7]? fun x383 =>
  C0.int .i64 l375[8]? fun x384 =>
  C0.snp h374 [(.agg [v376,(iz x377),(iz x378),(iz x379),(iz x380),(iz x381),(iz x382),(iz x383),(iz x384)])] fun l385 b386 =>
  C0.int .i64 (pcall M d 12 l385) fun x387 =>
  cnd (b386 || true)
  (C0.fin h374 (.bool (x387 == 0)))
  (none))
  (C0.fin h359 bf))
  (none))))
theorem X7_1_0_ok (d:Nat) (a0:List AV) (a1 a2 a3 a4 a5 a6 a7 a8 a9:Int) (v0:AV) (b2:Bool) (v7:AV) (x8 x9 x10 x11 x12 x13 x14 x15:Int) (b18:Bool) (v23:AV) (x24 x25 x26 x27 x28 x29 x30 x31 x34:Int) (v36 v38:AV) (x42:Int) (v106 v107 v108:AV) (x109:Int) (v110 v111 v112 v113 v114 v115 v116 v117 v118 v119 v120 v121 v122 v123 v124 v125 v129:AV) (x130 x131 x132 x133 x134 x135 x136 x137:Int) (v141:AV) (x142 x143 x144 x145 x146 x147 x148 x149:Int) (v150:AV) (b218:Bool) (v219 v220:AV) (x221:Int) (b222:Bool) (v223 v224 v225 v226 v227 v228 v229 v230 v231 v232 v233 v234 v235:AV) (H:Heap):r7X1_0 C0 d a0 a1 a2 a3 a4 a5 a6 a7 a8 a9 v0 b2 v7 x8 x9 x10 x11 x12 x13 x14 x15 b18 v23 x24 x25 x26 x27 x28 x29 x30 x31 x34 v36 v38 x42 v106 v107 v108 x109 v110 v111 v112 v113 v114 v115 v116 v117 v118 v119 v120 v121 v122 v123 v124 v125 v129 x130 x131 x132 x133 x134 x135 x136 x137 v141 x142 x143 x144 x145 x146 x147 x148 x149 v150 ⟨[(.agg [(.lst a0),(iz a1),(iz a2),(iz a3),(iz a4),(iz a5),(iz a6),(iz a7),(iz a8)]),(iz a9),v0,tz,(bz b218),v106,v107,v108,v150,tz,tz,tz,(bz b2),(bz (!b2)),bf,(.agg [v7,(iz x8),(iz x9),(iz x10),(iz x11),(iz x12),(iz x13),(iz x14),(iz x15)]),(bz b18),(bz (!b18)),(bz (!b18)),bf,(.agg [v23,(iz x24),(iz x25),(iz x26),(iz x27),(iz x28),(iz x29),(iz x30),(iz x31)]),(iz x34),(bz (x34 != 0)),bf,tz,v36,v38,(iz x42),(iz x109),v110,v111,v112,v113,v114,v115,v116,v117,v118,v119,v120,v121,v122,v123,v124,v125,(.agg [v129,(iz x130),(iz x131),(iz x132),(iz x133),(iz x134),(iz x135),(iz x136),(iz x137)]),(.agg [v141,(iz x142),(iz x143),(iz x144),(iz x145),(iz x146),(iz x147),(iz x148),(iz x149)]),v219,v220,(iz x221),(bz b222),v223,v224,v225,v226,v227,v228,v229,v230,v231,v232,v233,v234,v235,tz,tz,tz,tz,tz,tz,tz,tz,tz,tz,tz,tz,tz,tz,tz,tz,tz,tz,tz,tz,tz,tz,tz,tz,tz,tz,tz,tz,tz,tz,tz,tz,tz,tz,tz,tz,tz,tz,tz,tz,tz,tz,tz,tz,tz,tz,tz,tz,tz],H⟩=X7_1_0 d a9 v0 v150 H:=by
 unfold r7X1_0; refine Eq.trans (pl_len (by rfl)) ?_; refine yt ySs ?_; refine yt yB ?_; refine yt ySs ?_; refine yt yAs ?_; refine yt yI ?_; refine yt yB ?_; refine yt yAs ?_; refine yt ySs ?_
 rfl
noncomputable def E7_1 (d:Nat) (a9:Int) (v0 v150:AV) (b388:Bool) (H:Heap):Ans :=
 C0.fin H (.bool b388)
theorem E7_1_ok (d:Nat) (a0:List AV) (a1 a2 a3 a4 a5 a6 a7 a8 a9:Int) (v0:AV) (b2:Bool) (v7:AV) (x8 x9 x10 x11 x12 x13 x14 x15:Int) (b18:Bool) (v23:AV) (x24 x25 x26 x27 x28 x29 x30 x31 x34:Int) (v36 v38:AV) (x42:Int) (v106 v107 v108:AV) (x109:Int) (v110 v111 v112 v113 v114 v115 v116 v117 v118 v119 v120 v121 v122 v123 v124 v125 v129:AV) (x130 x131 x132 x133 x134 x135 x136 x137:Int) (v141:AV) (x142 x143 x144 x145 x146 x147 x148 x149:Int) (v150:AV) (b388:Bool) (v389 v390:AV) (x391:Int) (b392:Bool) (v393 v394:AV) (x395:Int) (b396:Bool) (v397 v398 v399 v400 v401 v402 v403 v404 v405:AV) (H:Heap):r7E1 C0 d a0 a1 a2 a3 a4 a5 a6 a7 a8 a9 v0 b2 v7 x8 x9 x10 x11 x12 x13 x14 x15 b18 v23 x24 x25 x26 x27 x28 x29 x30 x31 x34 v36 v38 x42 v106 v107 v108 x109 v110 v111 v112 v113 v114 v115 v116 v117 v118 v119 v120 v121 v122 v123 v124 v125 v129 x130 x131 x132 x133 x134 x135 x136 x137 v141 x142 x143 x144 x145 x146 x147 x148 x149 v150 ⟨[(.agg [(.lst a0),(iz a1),(iz a2),(iz a3),(iz a4),(iz a5),(iz a6),(iz a7),(iz a8)]),(iz a9),v0,tz,(bz b388),v106,v107,v108,v150,tz,tz,tz,(bz b2),(bz (!b2)),bf,(.agg [v7,(iz x8),(iz x9),(iz x10),(iz x11),(iz x12),(iz x13),(iz x14),(iz x15)]),(bz b18),(bz (!b18)),(bz (!b18)),bf,(.agg [v23,(iz x24),(iz x25),(iz x26),(iz x27),(iz x28),(iz x29),(iz x30),(iz x31)]),(iz x34),(bz (x34 != 0)),bf,tz,v36,v38,(iz x42),(iz x109),v110,v111,v112,v113,v114,v115,v116,v117,v118,v119,v120,v121,v122,v123,v124,v125,(.agg [v129,(iz x130),(iz x131),(iz x132),(iz x133),(iz x134),(iz x135),(iz x136),(iz x137)]),(.agg [v141,(iz x142),(iz x143),(iz x144),(iz x145),(iz x146),(iz x147),(iz x148),(iz x149)]),v389,v390,(iz x391),(bz b392),v393,v394,(iz x395),(bz b396),v397,v398,v399,v400,v401,v402,v403,v404,v405,tz,tz,tz,tz,tz,tz,tz,tz,tz,tz,tz,tz,tz,tz,tz,tz,tz,tz,tz,tz,tz,tz,tz,tz,tz,tz,tz,tz,tz,tz,tz,tz,tz,tz,tz,tz,tz,tz,tz,tz,tz,tz,tz,tz,tz,tz,tz,tz,tz],H⟩=E7_1 d a9 v0 v150 b388 H:=by
 unfold r7E1; refine Eq.trans (pl_len (by rfl)) ?_; refine yt ySs ?_; refine yt yB ?_; refine yt ySs ?_; refine yt yAs ?_; refine yt yI ?_; refine yt yB ?_; refine yt yAs ?_; refine yt yI ?_; refine yt yB ?_; refine yt yAs ?_; refine yt ySs ?_
 rfl
noncomputable def L7_1 (d:Nat) (a9:Int) (v0 v150:AV):Nat→Heap→Ans
 | 0,_=>none
 | n+1,H =>
 C0.hop H (.fldA 0 (.v v150)) fun v175 h176 =>
  C0.hop h176 (.load false 1 (.v v175)) fun v177 h178 =>
  C0.hop h178 (.bk .lenV [(.v v177)]) fun v179 h180 =>
  C0.int .i64 (some v179) fun x181 =>
  cnd (decide (x181 < 5))
  (C0.hop h180 (.fldA 0 (.v v150)) fun v182 h183 =>
  C0.hop h183 (.load false 1 (.v v182)) fun v184 h185 =>
  C0.hop h185 (.bk .lenV [(.v v184)]) fun v186 h187 =>
  C0.int .i64 (some v186) fun x188 =>
  cnd (x188 == 0)
  (E7_1 d a9 v0 v150 false h187)
  (C0.grow h187 [] fun n189 h190 =>
  C0.hop h190 (.fldA 0 (.v v150)) fun v191 h192 =>
  C0.hop h192 (.load false 1 (.v v191)) fun v193 h194 =>
  C0.hop h194 (.fldA 0 (.v v150)) fun v195 h196 =>
  C0.hop h196 (.load false 1 (.v v195)) fun v197 h198 =>
  C0.hop h198 (.ixAS .any 5 (.v v197) (.v (iz 0))) fun v199 h200 =>
  C0.hop h200 (.load true 5 (.v v199)) fun v201 h202 =>
  C0.agg 5 (some v201) fun l203 =>
  C0.any l203[0]? fun v204 =>
  C0.int .i64 l203[1]? fun x205 =>
  C0.int .i64 l203[2]? fun x206 =>
  C0.int .i64 l203[3]? fun x207 =>
  C0.int .i64 l203[4]? fun x208 =>
  C0.hop h202 (.mkrow E30 1 [(0,(.v (.agg [v204,(iz x205),(iz x206),(iz x207),(iz x208)])))]) fun v209 h210 =>
  C0.keep h202 h210 [v191] <|
  C0.hop h210 (.app E30 (.v v193) (.v v209)) fun v211 h212 =>
  C0.hop h212 (.fldA 0 (.v v150)) fun v213 h214 =>
  C0.hop h214 (.store 1 (.v v213) (.v v211)) fun v215 h216 =>
  L7_1 d a9 v0 v150 n h216))
  (X7_1_0 d a9 v0 v150 h180)
theorem L7_1_s (d:Nat) (a9:Int) (v0 v150:AV) (n:Nat) (H:Heap):L7_1 d a9 v0 v150 (n+1) H=(C0.hop H (.fldA 0 (.v v150)) fun v175 h176 =>
 C0.hop h176 (.load false 1 (.v v175)) fun v177 h178 =>
 C0.hop h178 (.bk .lenV [(.v v177)]) fun v179 h180 =>
 C0.int .i64 (some v179) fun x181 =>
 cnd (decide (x181 < 5))
 (C0.hop h180 (.fldA 0 (.v v150)) fun v182 h183 =>
 C0.hop h183 (.load false 1 (.v v182)) fun v184 h185 =>
 C0.hop h185 (.bk .lenV [(.v v184)]) fun v186 h187 =>
 C0.int .i64 (some v186) fun x188 =>
 cnd (x188 == 0)
 (E7_1 d a9 v0 v150 false h187)
 (C0.grow h187 [] fun n189 h190 =>
 C0.hop h190 (.fldA 0 (.v v150)) fun v191 h192 =>
 C0.hop h192 (.load false 1 (.v v191)) fun v193 h194 =>
 C0.hop h194 (.fldA 0 (.v v150)) fun v195 h196 =>
 C0.hop h196 (.load false 1 (.v v195)) fun v197 h198 =>
 C0.hop h198 (.ixAS .any 5 (.v v197) (.v (iz 0))) fun v199 h200 =>
 C0.hop h200 (.load true 5 (.v v199)) fun v201 h202 =>
 C0.agg 5 (some v201) fun l203 =>
 C0.any l203[0]? fun v204 =>
 C0.int .i64 l203[1]? fun x205 =>
 C0.int .i64 l203[2]? fun x206 =>
 C0.int .i64 l203[3]? fun x207 =>
 C0.int .i64 l203[4]? fun x208 =>
 C0.hop h202 (.mkrow E30 1 [(0,(.v (.agg [v204,(iz x205),(iz x206),(iz x207),(iz x208)])))]) fun v209 h210 =>
 C0.keep h202 h210 [v191] <|
 C0.hop h210 (.app E30 (.v v193) (.v v209)) fun v211 h212 =>
 C0.hop h212 (.fldA 0 (.v v150)) fun v213 h214 =>
 C0.hop h214 (.store 1 (.v v213) (.v v211)) fun v215 h216 =>
 L7_1 d a9 v0 v150 n h216))
 (X7_1_0 d a9 v0 v150 h180)):=by kernel_rfl
theorem it7_1 (d:Nat) (a0:List AV) (a1 a2 a3 a4 a5 a6 a7 a8 a9:Int) (v0:AV) (b2:Bool) (v7:AV) (x8 x9 x10 x11 x12 x13 x14 x15:Int) (b18:Bool) (v23:AV) (x24 x25 x26 x27 x28 x29 x30 x31 x34:Int) (v36 v38:AV) (x42:Int) (v106 v107 v108:AV) (x109:Int) (v110 v111 v112 v113 v114 v115 v116 v117 v118 v119 v120 v121 v122 v123 v124 v125 v129:AV) (x130 x131 x132 x133 x134 x135 x136 x137:Int) (v141:AV) (x142 x143 x144 x145 x146 x147 x148 x149:Int) (v150:AV)  :∀ (n:Nat) (b157:Bool) (v158 v159 v160 v161 v162 v163 v164 v165 v166 v167 v168 v169 v170 v171 v172 v173 v174:AV) (H:Heap),C0.iter (r7R1 C0 d a0 a1 a2 a3 a4 a5 a6 a7 a8 a9 v0 b2 v7 x8 x9 x10 x11 x12 x13 x14 x15 b18 v23 x24 x25 x26 x27 x28 x29 x30 x31 x34 v36 v38 x42 v106 v107 v108 x109 v110 v111 v112 v113 v114 v115 v116 v117 v118 v119 v120 v121 v122 v123 v124 v125 v129 x130 x131 x132 x133 x134 x135 x136 x137 v141 x142 x143 x144 x145 x146 x147 x148 x149 v150) n ⟨[(.agg [(.lst a0),(iz a1),(iz a2),(iz a3),(iz a4),(iz a5),(iz a6),(iz a7),(iz a8)]),(iz a9),v0,tz,(bz b157),v106,v107,v108,v150,tz,tz,tz,(bz b2),(bz (!b2)),bf,(.agg [v7,(iz x8),(iz x9),(iz x10),(iz x11),(iz x12),(iz x13),(iz x14),(iz x15)]),(bz b18),(bz (!b18)),(bz (!b18)),bf,(.agg [v23,(iz x24),(iz x25),(iz x26),(iz x27),(iz x28),(iz x29),(iz x30),(iz x31)]),(iz x34),(bz (x34 != 0)),bf,tz,v36,v38,(iz x42),(iz x109),v110,v111,v112,v113,v114,v115,v116,v117,v118,v119,v120,v121,v122,v123,v124,v125,(.agg [v129,(iz x130),(iz x131),(iz x132),(iz x133),(iz x134),(iz x135),(iz x136),(iz x137)]),(.agg [v141,(iz x142),(iz x143),(iz x144),(iz x145),(iz x146),(iz x147),(iz x148),(iz x149)]),v158,v159,v160,v161,v162,v163,v164,v165,v166,v167,v168,v169,v170,v171,v172,v173,v174,tz,tz,tz,tz,tz,tz,tz,tz,tz,tz,tz,tz,tz,tz,tz,tz,tz,tz,tz,tz,tz,tz,tz,tz,tz,tz,tz,tz,tz,tz,tz,tz,tz,tz,tz,tz,tz,tz,tz,tz,tz,tz,tz,tz,tz,tz,tz,tz,tz],H⟩ [2] [r7X1_0 C0 d a0 a1 a2 a3 a4 a5 a6 a7 a8 a9 v0 b2 v7 x8 x9 x10 x11 x12 x13 x14 x15 b18 v23 x24 x25 x26 x27 x28 x29 x30 x31 x34 v36 v38 x42 v106 v107 v108 x109 v110 v111 v112 v113 v114 v115 v116 v117 v118 v119 v120 v121 v122 v123 v124 v125 v129 x130 x131 x132 x133 x134 x135 x136 x137 v141 x142 x143 x144 x145 x146 x147 x148 x149 v150] (r7E1 C0 d a0 a1 a2 a3 a4 a5 a6 a7 a8 a9 v0 b2 v7 x8 x9 x10 x11 x12 x13 x14 x15 b18 v23 x24 x25 x26 x27 x28 x29 x30 x31 x34 v36 v38 x42 v106 v107 v108 x109 v110 v111 v112 v113 v114 v115 v116 v117 v118 v119 v120 v121 v122 v123 v124 v125 v129 x130 x131 x132 x133 x134 x135 x136 x137 v141 x142 x143 x144 x145 x146 x147 x148 x149 v150)=L7_1 d a9 v0 v150 n H:=by
 generalize hR:r7R1 C0 d a0 a1 a2 a3 a4 a5 a6 a7 a8 a9 v0 b2 v7 x8 x9 x10 x11 x12 x13 x14 x15 b18 v23 x24 x25 x26 x27 x28 x29 x30 x31 x34 v36 v38 x42 v106 v107 v108 x109 v110 v111 v112 v113 v114 v115 v116 v117 v118 v119 v120 v121 v122 v123 v124 v125 v129 x130 x131 x132 x133 x134 x135 x136 x137 v141 x142 x143 x144 x145 x146 x147 x148 x149 v150=R
 intro n
 induction n with
 | zero=>intros; rfl
 | succ n ih =>
   intro b157 v158 v159 v160 v161 v162 v163 v164 v165 v166 v167 v168 v169 v170 v171 v172 v173 v174 H
   simp only [it_ret] at ih
   rw [it_ret,xiter_s]
   refine Eq.trans (congrFun (congrFun hR.symm _) _) ?_
   unfold r7R1
   refine Eq.trans (pl_len (by rfl)) ?_; refine yt ySs ?_; refine yt yB ?_; refine yt ySs ?_; refine yt yAs ?_; (iterate 13 (refine yt yA ?_)); refine yt ySs ?_
   simp only [kIter_n,kIter_x,kIter_r,kOut_x,kOut_r,xgo_hit,xgo_miss,ih,X7_1_0_ok d a0 a1 a2 a3 a4 a5 a6 a7 a8 a9 v0 b2 v7 x8 x9 x10 x11 x12 x13 x14 x15 b18 v23 x24 x25 x26 x27 x28 x29 x30 x31 x34 v36 v38 x42 v106 v107 v108 x109 v110 v111 v112 v113 v114 v115 v116 v117 v118 v119 v120 v121 v122 v123 v124 v125 v129 x130 x131 x132 x133 x134 x135 x136 x137 v141 x142 x143 x144 x145 x146 x147 x148 x149 v150  ,E7_1_ok d a0 a1 a2 a3 a4 a5 a6 a7 a8 a9 v0 b2 v7 x8 x9 x10 x11 x12 x13 x14 x15 b18 v23 x24 x25 x26 x27 x28 x29 x30 x31 x34 v36 v38 x42 v106 v107 v108 x109 v110 v111 v112 v113 v114 v115 v116 v117 v118 v119 v120 v121 v122 v123 v124 v125 v129 x130 x131 x132 x133 x134 x135 x136 x137 v141 x142 x143 x144 x145 x146 x147 x148 x149 v150  ]
   exact (L7_1_s d a9 v0 v150 n H).symm
noncomputable def X7_0_0 (d:Nat) (a9:Int) (v0:AV) (x42:Int) (H:Heap):Ans :=
 C0.hop H (.load true 9 (.v v0)) fun v126 h127 =>
  C0.agg 9 (some v126) fun l128 =>
  C0.any l128[0]? fun v129 =>
  C0.int .i64 l128[1]? fun x130 =>
  C0.int .i64 l128[2]? fun x131 =>
  C0.int .i64 l128[3]? fun x132 =>
  C0.int .i64 l128[4]? fun x133 =>
  C0.int .i64 l128[5]? fun x134 =>
  C0.int .i64 l128[6]? fun x135 =>
  C0.int .i64 l128[7]? fun x136 =>
  C0.int .i64 l128[8]? fun x137 =>
  C0.cal M (pcall M d) 12 true 18 [(.agg [v129,(iz x130),(iz x131),(iz x132),(iz x133),(iz x134),(iz x135),(iz x136),(iz x137)])] h127 fun v138 h139 =>
  C0.agg 9 (some v138) fun l140 =>
  C0.any l140[0]? fun v141 =>
  C0.int .i64 l140[1]? fun x142 =>
  C0.int .i64 l140[2]? fun x143 =>
  C0.int .i64 l140[3]? fun x144 =>
  C0.int .i64 l140[4]? fun x145 =>
  C0.int .i64 l140[5]? fun x146 =>
  C0.int .i64 l140[6]? fun x147 =>
  C0.int .i64 l140[7]? fun x148 =>
  C0.int .i64 l140[8]? fun x149 =>
  C0.hop h139 (.alloc E24) fun v150 h151 =>
  C0.hop h151 (.store 9 (.v v150) (.v (.agg [v141,(iz x142),(iz x143),(iz x144),(iz x145),(iz x146),(iz x147),(iz x148),(iz x149)]))) fun v152 h153 =>
  L7_1 d a9 v0 v150 10000000000000000000 h153
theorem X7_0_0_ok (d:Nat) (a0:List AV) (a1 a2 a3 a4 a5 a6 a7 a8 a9:Int) (v0:AV) (b2:Bool) (v7:AV) (x8 x9 x10 x11 x12 x13 x14 x15:Int) (b18:Bool) (v23:AV) (x24 x25 x26 x27 x28 x29 x30 x31 x34:Int) (v36 v38:AV) (x42:Int) (b105:Bool) (v106 v107 v108:AV) (x109:Int) (v110 v111 v112 v113 v114 v115 v116 v117 v118 v119 v120 v121 v122 v123 v124 v125:AV) (H:Heap):r7X0_0 C0 d a0 a1 a2 a3 a4 a5 a6 a7 a8 a9 v0 b2 v7 x8 x9 x10 x11 x12 x13 x14 x15 b18 v23 x24 x25 x26 x27 x28 x29 x30 x31 x34 v36 v38 x42 ⟨[(.agg [(.lst a0),(iz a1),(iz a2),(iz a3),(iz a4),(iz a5),(iz a6),(iz a7),(iz a8)]),(iz a9),v0,tz,(bz b105),v106,v107,v108,tz,tz,tz,tz,(bz b2),(bz (!b2)),bf,(.agg [v7,(iz x8),(iz x9),(iz x10),(iz x11),(iz x12),(iz x13),(iz x14),(iz x15)]),(bz b18),(bz (!b18)),(bz (!b18)),bf,(.agg [v23,(iz x24),(iz x25),(iz x26),(iz x27),(iz x28),(iz x29),(iz x30),(iz x31)]),(iz x34),(bz (x34 != 0)),bf,tz,v36,v38,(iz x42),(iz x109),v110,v111,v112,v113,v114,v115,v116,v117,v118,v119,v120,v121,v122,v123,v124,v125,tz,tz,tz,tz,tz,tz,tz,tz,tz,tz,tz,tz,tz,tz,tz,tz,tz,tz,tz,tz,tz,tz,tz,tz,tz,tz,tz,tz,tz,tz,tz,tz,tz,tz,tz,tz,tz,tz,tz,tz,tz,tz,tz,tz,tz,tz,tz,tz,tz,tz,tz,tz,tz,tz,tz,tz,tz,tz,tz,tz,tz,tz,tz,tz,tz,tz,tz,tz],H⟩=X7_0_0 d a9 v0 x42 H:=by
 unfold r7X0_0; refine Eq.trans (pl_len (by rfl)) ?_; refine yt ySs ?_; refine yt yB ?_; (iterate 3 (refine yt yA ?_)); refine yt ySs ?_; refine yt yI ?_; (iterate 16 (refine yt yA ?_)); refine yt ySs ?_
 first | (simp only [it7_1] <;> rfl) | rfl
noncomputable def E7_0 (d:Nat) (a9:Int) (v0:AV) (x42:Int) (b406:Bool) (H:Heap):Ans :=
 C0.fin H (.bool b406)
theorem E7_0_ok (d:Nat) (a0:List AV) (a1 a2 a3 a4 a5 a6 a7 a8 a9:Int) (v0:AV) (b2:Bool) (v7:AV) (x8 x9 x10 x11 x12 x13 x14 x15:Int) (b18:Bool) (v23:AV) (x24 x25 x26 x27 x28 x29 x30 x31 x34:Int) (v36 v38:AV) (x42:Int) (b406:Bool) (x407:Int) (v408:AV) (b409:Bool) (x410:Int) (v411:AV) (x412:Int) (v415:AV) (x416 x417 x418 x419:Int) (b420:Bool) (v422:AV) (x423 x424 x425 x426 x427 x428 x429 x430 x431:Int) (v434:AV) (x435 x436 x437 x438:Int) (b439:Bool) (v441:AV) (x442 x443 x444 x445:Int) (b446 b447 b448 b449:Bool) (v450 v451 v452:AV) (b453:Bool) (v454:AV) (H:Heap):r7E0 C0 d a0 a1 a2 a3 a4 a5 a6 a7 a8 a9 v0 b2 v7 x8 x9 x10 x11 x12 x13 x14 x15 b18 v23 x24 x25 x26 x27 x28 x29 x30 x31 x34 v36 v38 x42 ⟨[(.agg [(.lst a0),(iz a1),(iz a2),(iz a3),(iz a4),(iz a5),(iz a6),(iz a7),(iz a8)]),(iz a9),v0,tz,(bz b406),(iz x407),v408,(bz b409),tz,tz,tz,tz,(bz b2),(bz (!b2)),bf,(.agg [v7,(iz x8),(iz x9),(iz x10),(iz x11),(iz x12),(iz x13),(iz x14),(iz x15)]),(bz b18),(bz (!b18)),(bz (!b18)),bf,(.agg [v23,(iz x24),(iz x25),(iz x26),(iz x27),(iz x28),(iz x29),(iz x30),(iz x31)]),(iz x34),(bz (x34 != 0)),bf,tz,v36,v38,(iz x42),(iz x410),v411,(iz x412),(.tup [(.agg [v415,(iz x416),(iz x417),(iz x418),(iz x419)]),(bz b420)]),(.agg [v422,(iz x423),(iz x424),(iz x425),(iz x426),(iz x427),(iz x428),(iz x429),(iz x430)]),(iz x431),(.tup [(.agg [v434,(iz x435),(iz x436),(iz x437),(iz x438)]),(bz b439)]),(.agg [v441,(iz x442),(iz x443),(iz x444),(iz x445)]),(bz b446),(bz b447),(bz b448),(bz b449),v450,v451,v452,(bz b453),v454,tz,tz,tz,tz,tz,tz,tz,tz,tz,tz,tz,tz,tz,tz,tz,tz,tz,tz,tz,tz,tz,tz,tz,tz,tz,tz,tz,tz,tz,tz,tz,tz,tz,tz,tz,tz,tz,tz,tz,tz,tz,tz,tz,tz,tz,tz,tz,tz,tz,tz,tz,tz,tz,tz,tz,tz,tz,tz,tz,tz,tz,tz,tz,tz,tz,tz,tz,tz],H⟩=E7_0 d a9 v0 x42 b406 H:=by
 unfold r7E0; refine Eq.trans (pl_len (by rfl)) ?_; refine yt ySs ?_; refine yt yB ?_; refine yt yI ?_; refine yt yA ?_; refine yt yB ?_; refine yt ySs ?_; refine yt yI ?_; refine yt yA ?_; refine yt yI ?_; refine yt yT ?_; refine yt yG ?_; refine yt yA ?_; (iterate 4 (refine yt yI ?_)); refine yt yB ?_; refine yt yG ?_; refine yt yA ?_; (iterate 9 (refine yt yI ?_)); refine yt yT ?_; refine yt yG ?_; refine yt yA ?_; (iterate 4 (refine yt yI ?_)); refine yt yB ?_; refine yt yG ?_; refine yt yA ?_; (iterate 4 (refine yt yI ?_)); (iterate 4 (refine yt yB ?_)); refine yt yAs ?_; refine yt yB ?_; refine yt yA ?_; refine yt ySs ?_
 rfl
noncomputable def L7_0 (d:Nat) (a9:Int) (v0:AV) (x42:Int):Nat→Int→Heap→Ans
 | 0,_,_=>none
 | n+1,x50,H =>
 cnd (decide (x50 < x42))
  (C0.hop H (.load true 9 (.v v0)) fun v67 h68 =>
  C0.agg 9 (some v67) fun l69 =>
  C0.any l69[0]? fun v70 =>
  C0.int .i64 l69[1]? fun x71 =>
  C0.int .i64 l69[2]? fun x72 =>
  C0.int .i64 l69[3]? fun x73 =>
  C0.int .i64 l69[4]? fun x74 =>
  C0.int .i64 l69[5]? fun x75 =>
  C0.int .i64 l69[6]? fun x76 =>
  C0.int .i64 l69[7]? fun x77 =>
  C0.int .i64 l69[8]? fun x78 =>
  C0.snp h68 [(.agg [v70,(iz x71),(iz x72),(iz x73),(iz x74),(iz x75),(iz x76),(iz x77),(iz x78)]),(iz x50)] fun l79 b80 =>
  C0.tup 2 (pcall M d 11 l79) fun l81 =>
  C0.agg 5 l81[0]? fun l82 =>
  C0.any l82[0]? fun v83 =>
  C0.int .i64 l82[1]? fun x84 =>
  C0.int .i64 l82[2]? fun x85 =>
  C0.int .i64 l82[3]? fun x86 =>
  C0.int .i64 l82[4]? fun x87 =>
  C0.bool l81[1]? fun b88 =>
  cnd (b80 || (noMem 12 (.tup [(.agg [v83,(iz x84),(iz x85),(iz x86),(iz x87)]),(.bool b88)])))
  (C0.hop h68 (.alloc E30) fun v89 h90 =>
  C0.hop h90 (.store 5 (.v v89) (.v (.agg [v83,(iz x84),(iz x85),(iz x86),(iz x87)]))) fun v91 h92 =>
  cnd (!b88)
  (E7_0 d a9 v0 x42 false h92)
  (C0.hop h92 (.load true 5 (.v v89)) fun v93 h94 =>
  C0.agg 5 (some v93) fun l95 =>
  C0.any l95[0]? fun v96 =>
  C0.int .i64 l95[1]? fun x97 =>
  C0.int .i64 l95[2]? fun x98 =>
  C0.int .i64 l95[3]? fun x99 =>
  C0.int .i64 l95[4]? fun x100 =>
  C0.snp h94 [(.agg [v96,(iz x97),(iz x98),(iz x99),(iz x100)])] fun l101 b102 =>
  C0.bool (pcall M d 16 l101) fun b103 =>
  cnd (b102 || true)
  (cnd (!b103)
  (E7_0 d a9 v0 x42 false h94)
  (L7_0 d a9 v0 x42 n (IntKind.wrap .i64 (x50+1)) h94))
  (none)))
  (none))
  (X7_0_0 d a9 v0 x42 H)
theorem L7_0_s (d:Nat) (a9:Int) (v0:AV) (x42:Int) (n:Nat) (x50:Int) (H:Heap):L7_0 d a9 v0 x42 (n+1) x50 H=(cnd (decide (x50 < x42))
 (C0.hop H (.load true 9 (.v v0)) fun v67 h68 =>
 C0.agg 9 (some v67) fun l69 =>
 C0.any l69[0]? fun v70 =>
 C0.int .i64 l69[1]? fun x71 =>
 C0.int .i64 l69[2]? fun x72 =>
 C0.int .i64 l69[3]? fun x73 =>
 C0.int .i64 l69[4]? fun x74 =>
 C0.int .i64 l69[5]? fun x75 =>
 C0.int .i64 l69[6]? fun x76 =>
 C0.int .i64 l69[7]? fun x77 =>
 C0.int .i64 l69[8]? fun x78 =>
 C0.snp h68 [(.agg [v70,(iz x71),(iz x72),(iz x73),(iz x74),(iz x75),(iz x76),(iz x77),(iz x78)]),(iz x50)] fun l79 b80 =>
 C0.tup 2 (pcall M d 11 l79) fun l81 =>
 C0.agg 5 l81[0]? fun l82 =>
 C0.any l82[0]? fun v83 =>
 C0.int .i64 l82[1]? fun x84 =>
 C0.int .i64 l82[2]? fun x85 =>
 C0.int .i64 l82[3]? fun x86 =>
 C0.int .i64 l82[4]? fun x87 =>
 C0.bool l81[1]? fun b88 =>
 cnd (b80 || (noMem 12 (.tup [(.agg [v83,(iz x84),(iz x85),(iz x86),(iz x87)]),(.bool b88)])))
 (C0.hop h68 (.alloc E30) fun v89 h90 =>
 C0.hop h90 (.store 5 (.v v89) (.v (.agg [v83,(iz x84),(iz x85),(iz x86),(iz x87)]))) fun v91 h92 =>
 cnd (!b88)
 (E7_0 d a9 v0 x42 false h92)
 (C0.hop h92 (.load true 5 (.v v89)) fun v93 h94 =>
 C0.agg 5 (some v93) fun l95 =>
 C0.any l95[0]? fun v96 =>
 C0.int .i64 l95[1]? fun x97 =>
 C0.int .i64 l95[2]? fun x98 =>
 C0.int .i64 l95[3]? fun x99 =>
 C0.int .i64 l95[4]? fun x100 =>
 C0.snp h94 [(.agg [v96,(iz x97),(iz x98),(iz x99),(iz x100)])] fun l101 b102 =>
 C0.bool (pcall M d 16 l101) fun b103 =>
 cnd (b102 || true)
 (cnd (!b103)
 (E7_0 d a9 v0 x42 false h94)
 (L7_0 d a9 v0 x42 n (IntKind.wrap .i64 (x50+1)) h94))
 (none)))
 (none))
 (X7_0_0 d a9 v0 x42 H)):=by kernel_rfl
theorem it7_0 (d:Nat) (a0:List AV) (a1 a2 a3 a4 a5 a6 a7 a8 a9:Int) (v0:AV) (b2:Bool) (v7:AV) (x8 x9 x10 x11 x12 x13 x14 x15:Int) (b18:Bool) (v23:AV) (x24 x25 x26 x27 x28 x29 x30 x31 x34:Int) (v36 v38:AV) (x42:Int)  :∀ (n:Nat) (b46:Bool) (v47 v48 v49:AV) (x50:Int) (v51 v52 v53 v54 v55 v56 v57 v58 v59 v60 v61 v62 v63 v64 v65 v66:AV) (H:Heap),C0.iter (r7R0 C0 d a0 a1 a2 a3 a4 a5 a6 a7 a8 a9 v0 b2 v7 x8 x9 x10 x11 x12 x13 x14 x15 b18 v23 x24 x25 x26 x27 x28 x29 x30 x31 x34 v36 v38 x42) n ⟨[(.agg [(.lst a0),(iz a1),(iz a2),(iz a3),(iz a4),(iz a5),(iz a6),(iz a7),(iz a8)]),(iz a9),v0,tz,(bz b46),v47,v48,v49,tz,tz,tz,tz,(bz b2),(bz (!b2)),bf,(.agg [v7,(iz x8),(iz x9),(iz x10),(iz x11),(iz x12),(iz x13),(iz x14),(iz x15)]),(bz b18),(bz (!b18)),(bz (!b18)),bf,(.agg [v23,(iz x24),(iz x25),(iz x26),(iz x27),(iz x28),(iz x29),(iz x30),(iz x31)]),(iz x34),(bz (x34 != 0)),bf,tz,v36,v38,(iz x42),(iz x50),v51,v52,v53,v54,v55,v56,v57,v58,v59,v60,v61,v62,v63,v64,v65,v66,tz,tz,tz,tz,tz,tz,tz,tz,tz,tz,tz,tz,tz,tz,tz,tz,tz,tz,tz,tz,tz,tz,tz,tz,tz,tz,tz,tz,tz,tz,tz,tz,tz,tz,tz,tz,tz,tz,tz,tz,tz,tz,tz,tz,tz,tz,tz,tz,tz,tz,tz,tz,tz,tz,tz,tz,tz,tz,tz,tz,tz,tz,tz,tz,tz,tz,tz,tz],H⟩ [0] [r7X0_0 C0 d a0 a1 a2 a3 a4 a5 a6 a7 a8 a9 v0 b2 v7 x8 x9 x10 x11 x12 x13 x14 x15 b18 v23 x24 x25 x26 x27 x28 x29 x30 x31 x34 v36 v38 x42] (r7E0 C0 d a0 a1 a2 a3 a4 a5 a6 a7 a8 a9 v0 b2 v7 x8 x9 x10 x11 x12 x13 x14 x15 b18 v23 x24 x25 x26 x27 x28 x29 x30 x31 x34 v36 v38 x42)=L7_0 d a9 v0 x42 n x50 H:=by
 generalize hR:r7R0 C0 d a0 a1 a2 a3 a4 a5 a6 a7 a8 a9 v0 b2 v7 x8 x9 x10 x11 x12 x13 x14 x15 b18 v23 x24 x25 x26 x27 x28 x29 x30 x31 x34 v36 v38 x42=R
 intro n
 induction n with
 | zero=>intros; rfl
 | succ n ih =>
   intro b46 v47 v48 v49 x50 v51 v52 v53 v54 v55 v56 v57 v58 v59 v60 v61 v62 v63 v64 v65 v66 H
   simp only [it_ret] at ih
   rw [it_ret,xiter_s]
   refine Eq.trans (congrFun (congrFun hR.symm _) _) ?_
   unfold r7R0
   refine Eq.trans (pl_len (by rfl)) ?_; refine yt ySs ?_; refine yt yB ?_; (iterate 3 (refine yt yA ?_)); refine yt ySs ?_; refine yt yI ?_; (iterate 16 (refine yt yA ?_)); refine yt ySs ?_
   simp only [kIter_n,kIter_x,kIter_r,kOut_x,kOut_r,xgo_hit,xgo_miss,ih,X7_0_0_ok d a0 a1 a2 a3 a4 a5 a6 a7 a8 a9 v0 b2 v7 x8 x9 x10 x11 x12 x13 x14 x15 b18 v23 x24 x25 x26 x27 x28 x29 x30 x31 x34 v36 v38 x42  ,E7_0_ok d a0 a1 a2 a3 a4 a5 a6 a7 a8 a9 v0 b2 v7 x8 x9 x10 x11 x12 x13 x14 x15 b18 v23 x24 x25 x26 x27 x28 x29 x30 x31 x34 v36 v38 x42  ]
   exact (L7_0_s d a9 v0 x42 n x50 H).symm
theorem q7 (d:Nat) (a0:List AV) (a1 a2 a3 a4 a5 a6 a7 a8 a9:Int):xcall C0 M unr d 7 [(.agg [(.lst a0),(iz a1),(iz a2),(iz a3),(iz a4),(iz a5),(iz a6),(iz a7),(iz a8)]),(iz a9)] =
 C0.hop [] (.box E24 (.v (.agg [(.lst a0),(iz a1),(iz a2),(iz a3),(iz a4),(iz a5),(iz a6),(iz a7),(iz a8)]))) fun v0 h1 =>
 C0.bool (pcall M d 8 []) fun b2 =>
 cnd (!b2)
  (C0.bool (pcall M d 8 []) fun b3 =>
  C0.fin h1 (.bool b3))
  (C0.hop h1 (.load true 9 (.v v0)) fun v4 h5 =>
  C0.agg 9 (some v4) fun l6 =>
  C0.any l6[0]? fun v7 =>
  C0.int .i64 l6[1]? fun x8 =>
  C0.int .i64 l6[2]? fun x9 =>
  C0.int .i64 l6[3]? fun x10 =>
  C0.int .i64 l6[4]? fun x11 =>
  C0.int .i64 l6[5]? fun x12 =>
  C0.int .i64 l6[6]? fun x13 =>
  C0.int .i64 l6[7]? fun x14 =>
  C0.int .i64 l6[8]? fun x15 =>
  C0.snp h5 [(.agg [v7,(iz x8),(iz x9),(iz x10),(iz x11),(iz x12),(iz x13),(iz x14),(iz x15)])] fun l16 b17 =>
  C0.bool (pcall M d 9 l16) fun b18 =>
  cnd (b17 || true)
  (cnd (!b18)
  (C0.bool (pcall M d 8 []) fun b19 =>
  C0.fin h5 (.bool b19))
  (C0.hop h5 (.load true 9 (.v v0)) fun v20 h21 =>
  C0.agg 9 (some v20) fun l22 =>
  C0.any l22[0]? fun v23 =>
  C0.int .i64 l22[1]? fun x24 =>
  C0.int .i64 l22[2]? fun x25 =>
  C0.int .i64 l22[3]? fun x26 =>
  C0.int .i64 l22[4]? fun x27 =>
  C0.int .i64 l22[5]? fun x28 =>
  C0.int .i64 l22[6]? fun x29 =>
  C0.int .i64 l22[7]? fun x30 =>
  C0.int .i64 l22[8]? fun x31 =>
  C0.snp h21 [(.agg [v23,(iz x24),(iz x25),(iz x26),(iz x27),(iz x28),(iz x29),(iz x30),(iz x31)])] fun l32 b33 =>
  C0.int .i64 (pcall M d 10 l32) fun x34 =>
  cnd (b33 || true)
  (cnd (x34 != 0)
  (C0.bool (pcall M d 8 []) fun b35 =>
  C0.fin h21 (.bool b35))
  (C0.hop h21 (.fldA 0 (.v v0)) fun v36 h37 =>
  C0.hop h37 (.load false 1 (.v v36)) fun v38 h39 =>
  C0.hop h39 (.bk .lenV [(.v v38)]) fun v40 h41 =>
  C0.int .i64 (some v40) fun x42 =>
  L7_0 d a9 v0 x42 10000000000000000000 0 h41))
  (none)))
  (none)):=(r7 C0 d a0 a1 a2 a3 a4 a5 a6 a7 a8 a9).trans (by simp only [it7_0])
end Go.Proofs.Ytffiilnmfmkpmaa.AE

namespace Go.Proofs.Ytffiilnmfmkpmaa.AE
set_option linter.unusedVariables false
set_option linter.unusedSimpArgs false
set_option linter.constructorNameAsVariable false
open Go Go.Proofs.Ytffiilnmfmkpmaa.Geo
attribute [local irreducible] pcall C0
set_option maxRecDepth 100000
theorem put57 {v w:AV} {a b c e a' b' c' e':Int} (hsc:isSc v=true):putSub 5 0 (.agg [v,.int .i64 a,.int .i64 b,.int .i64 c,.int .i64 e]) (.agg [w,.int .i64 a',.int .i64 b',.int .i64 c',.int .i64 e'])=some (.agg [v,.int .i64 a,.int .i64 b,.int .i64 c,.int .i64 e]):=by
 simp only [putSub]
 rw [if_pos ⟨by simp,rfl,by show (isSc v && _)=true; rw [hsc]; rfl⟩]; rfl
theorem phase_in (d:Nat) (r:Rul) (k:Nat) (hl:r.phs.length≤1000) (hk:k < r.phs.length) (hp:(r.phs[k]).ps.length≤1000) (hne:(r.phs[k]).ps ≠ []):pcall M (d+2) 11 [rl r,.int .i64 (k:Nat)]=some (.tup [phA r.phs[k],.bool true]):=told (r11 C0 (d+1) _ _ _ _ _ _ _ _ _ _) (by
 obtain ⟨p,hpt⟩:∃ p,p=r.phs[k]:=⟨_,rfl⟩
 rw [← hpt] at hp hne ⊢
 have e:(r.phs.map phA)[((k:Nat):Int).toNat]?=some (phA p):=by rw [Int.toNat_natCast,phs_at hk,hpt]
 refine Eq.trans (bx_n (H:=[]) (by rfl)) ?_
 rw [show ([] ++ [some (⟨E24,[rl r]⟩:Blk)]:Heap)=[some ⟨E24,[rl r]⟩] from rfl,show List.length ([]:Heap)+0=0 from rfl]
 have h0:hget [some (⟨E24,[rl r]⟩:Blk)] 0=some ⟨E24,[rl r]⟩:=rfl
 generalize ([some (⟨E24,[rl r]⟩:Blk)]:Heap)=H at h0 ⊢
 refine Eq.trans alc7 ?_
 have h1:hget (H ++ ([some ⟨E30,[(E30).zero]⟩]:Heap)) 0=some ⟨E24,[rl r]⟩:=hget_app h0
 rw [decide_eq_false (by omega),cnd_f]
 refine Eq.trans sh_ptr ?_
 refine Eq.trans (ld_ptr h1 rfl rfl) ?_
 refine Eq.trans len_lst ?_
 refine Eq.trans (pl_int rfl) ?_
 rw [List.length_map,decide_eq_false (by omega),cnd_f]
 refine Eq.trans sh_ptr ?_
 refine Eq.trans (ld_ptr h1 rfl rfl) ?_
 refine Eq.trans (ix_lst (by omega) e rfl) ?_
 refine Eq.trans (ld_fptr (v:=phA p) rfl) ?_
 refine Eq.trans (pl_agg rfl rfl) ?_
 refine Eq.trans (pl_any rfl) ?_
 iterate 4 (refine Eq.trans (pl_int rfl) ?_)
 refine Eq.trans (stl7 rfl) ?_
 have h2:hget (H ++ ([some ⟨E30,[phA p]⟩]:Heap)) H.length=some ⟨E30,[phA p]⟩:=hget_new
 refine Eq.trans sh_ptr ?_
 refine Eq.trans (ld_ptr h2 rfl rfl) ?_
 refine Eq.trans (cal_eq (cloneI d 3 p.ps (by omega) _)) ?_
 refine Eq.trans (pl_any rfl) ?_
 obtain ⟨av,id,hav,hid,hg⟩:∃ av id,arV (H ++ ([some ⟨E30,[phA p]⟩]:Heap)).length p.ps=av∧av=.slc id 0 p.ps.length∧hget ((H ++ ([some ⟨E30,[phA p]⟩]:Heap)) ++ arS p.ps) id=some ⟨E39,p.ps.map pt⟩:=by
  cases hq:p.ps with
  | nil=>exact absurd hq hne
  | cons a b=>exact ⟨_,_,rfl,rfl,hget_s rfl⟩
 rw [hav]
 have h3:hget ((H ++ ([some ⟨E30,[phA p]⟩]:Heap)) ++ arS p.ps) H.length=some ⟨E30,[phA p]⟩:=hget_app h2
 generalize ((H ++ ([some ⟨E30,[phA p]⟩]:Heap)) ++ arS p.ps)=H1 at hg h3 ⊢
 have nid:H.length ≠ id:=fun hc=>by rw [hc] at h3; rw [h3] at hg; injection hg with hg; exact absurd (congrArg (fun b:Blk=>b.e.tid) hg) (by show ¬ (E30).tid=(E39).tid; decide)
 refine Eq.trans sh_ptr ?_
 obtain ⟨H2,hH2⟩:∃ H2:Heap,H2=H1.set H.length (some ⟨E30,[phX av p]⟩):=⟨_,rfl⟩
 have hst:∀ K:AV→Heap→Ans,C0.hop H1 (.store 1 (.v (.ptr H.length 0 (0+0))) (.v av)) K=K .undef H2:=fun K=>by rw [hH2]; exact st_ptr h3 rfl (put_ar (by rw [hid]; rfl) (by rw [hid]; rfl))
 refine Eq.trans (hst _) ?_
 have h4:hget H2 H.length=some ⟨E30,[phX av p]⟩:=by rw [hH2]; exact hget_set (hg_lt h3)
 have g4:hget H2 id=some ⟨E39,p.ps.map pt⟩:=by rw [hH2]; exact hsn hg nid
 refine Eq.trans (ld_ptr h4 rfl rfl) ?_
 refine Eq.trans (pl_agg rfl rfl) ?_
 refine Eq.trans (pl_any rfl) ?_
 iterate 4 (refine Eq.trans (pl_int rfl) ?_)
 obtain ⟨H3,hH3⟩:∃ H3:Heap,H3=H2.set H.length (some ⟨E30,[phX av p]⟩):=⟨_,rfl⟩
 have hst2:∀ K:AV→Heap→Ans,C0.hop H2 (.store 5 (.v (.ptr H.length 0 0)) (.v (phX av p))) K=K .undef H3:=fun K=>by rw [hH3]; exact st_ptr h4 rfl (put57 (by rw [hid]; rfl))
 refine Eq.trans (hst2 _) ?_
 have h5:hget H3 H.length=some ⟨E30,[phX av p]⟩:=by rw [hH3]; exact hget_set (hg_lt h4)
 have g5:hget H3 id=some ⟨E39,p.ps.map pt⟩:=by rw [hH3]; exact hsn g4 nid
 refine Eq.trans (ld_ptr h5 rfl rfl) ?_
 rw [C0_fin]
 refine congrArg some ?_
 have hs:snap 10 H3 av=.lst (p.ps.map pt):=by
  rw [hid]
  have:=snap_slc (k:=8) g5 (snap_pts 7 H3 p.ps)
  rwa [List.length_map] at this
 change AV.tup [.agg [snap 10 H3 av,.int .i64 p.g,.int .i64 p.v,.int .i64 p.m,.int .i64 p.u],.bool true]=_
 rw [hs])
theorem wrong_0 {r:Rul} (h:wrongX r=0):(1≤r.phs.length∧r.phs.length≤4)∧(∀ p ∈ r.phs,RightPh p)∧wrongT r.phs.length r.n r.d r.gr r.eps r.st r.age r.lift r.saf=0:=by
 unfold wrongX at h
 split at h
 ·omega
 ·rename_i h1
  cases hb:r.phs.any badX
  ·rw [hb,cond_false] at h
   refine ⟨by omega,fun p hp=>?_,h⟩
   rw [List.any_eq_false] at hb
   have:=hb p hp
   unfold badX at this
   simpa using this
  ·rw [hb,cond_true] at h; omega
theorem wrong_more {r:Rul} (h:r.phs.length=5):wrongX r=1:=by unfold wrongX; rw [if_pos (by omega)]
def lessR (r:Rul) (k:Nat):Rul:={ r with phs:=r.phs.take k ++ r.phs.drop (k+1),saf:=if ((r.phs.length - 1:Nat):Int) < r.saf then ((r.phs.length - 1:Nat):Int) else r.saf }
theorem less_len {r:Rul} {k:Nat} (hk:k < r.phs.length):(lessR r k).phs.length=r.phs.length - 1:=by
 show (r.phs.take k ++ r.phs.drop (k+1)).length=_
 rw [List.length_append,List.length_take,List.length_drop]; omega
theorem wrong_less {r:Rul} (h:wrongX r=0) {k:Nat} (hk:k < r.phs.length):wrongX (lessR r k)=if r.phs.length=1 then 1 else 0:=by
 obtain ⟨⟨h1,h2⟩,h3,h4⟩:=wrong_0 h
 have hl:=less_len hk
 unfold wrongX
 rw [hl]
 by_cases hn:r.phs.length=1
 ·rw [if_pos (by omega),if_pos hn]
 ·rw [if_neg (by omega),if_neg hn]
  have hb:(lessR r k).phs.any badX=false:=by
   rw [List.any_eq_false]
   intro p hp
   have hp':p ∈ r.phs:=by
    rcases List.mem_append.mp hp with hp | hp
    ·exact List.mem_of_mem_take hp
    ·exact List.mem_of_mem_drop hp
   have:=h3 p hp'
   unfold badX
   simp [this]
  rw [hb,cond_false]
  show wrongT ((r.phs.length - 1:Nat):Int) r.n r.d r.gr r.eps r.st r.age r.lift (if ((r.phs.length - 1:Nat):Int) < r.saf then ((r.phs.length - 1:Nat):Int) else r.saf)=0
  unfold wrongT at h4 ⊢
  split at h4 <;> (try (cases h4; done))
  rename_i q1
  rw [if_neg q1]
  split at h4 <;> (try (cases h4; done))
  rename_i q2
  rw [if_neg q2]
  split at h4 <;> (try (cases h4; done))
  rename_i q3
  rw [if_neg q3]
  split at h4 <;> (try (cases h4; done))
  rename_i q4
  rw [if_neg q4]
  split at h4 <;> (try (cases h4; done))
  rename_i q5
  rw [if_neg q5]
  split at h4 <;> (try (cases h4; done))
  rename_i q6
  rw [if_neg]
  intro c
  split at c <;> omega
theorem mod7 (a:Int) (L:Nat) (h:1≤L) (h':L≤1000000):∃ c:Nat,c < L∧IntKind.wrap .i64 (Int.tmod (IntKind.wrap .u64 a) (IntKind.wrap .u64 ((L:Nat):Int)))=(c:Nat):=by
 have e1:IntKind.wrap .u64 a=a % 18446744073709551616:=by simp [IntKind.wrap,IntKind.bits,IntKind.signed]
 have e2:IntKind.wrap .u64 ((L:Nat):Int)=((L:Nat):Int):=by simp [IntKind.wrap,IntKind.bits,IntKind.signed]; omega
 rw [e1,e2,Int.tmod_eq_emod_of_nonneg (by omega)]
 have b1:=Int.emod_nonneg (a % 18446744073709551616) (show ((L:Nat):Int) ≠ 0 by omega)
 have b2:=Int.emod_lt_of_pos (a % 18446744073709551616) (show (0:Int) < ((L:Nat):Int) by omega)
 rw [i64_small (by omega) (by omega)]
 exact ⟨(a % 18446744073709551616 % ((L:Nat):Int)).toNat,by omega,by omega⟩
theorem end_go (r:Rul) (hw:wrongX r=0) (a9:Int) (ma:Nat) (v:AV) (xs:List AV) (l5:List Phs) (h5:l5.length=5) (hp5:∀ p ∈ l5,p.ps.length≤8) (H:Heap)
 (h0:hget H 0=some ⟨E24,[rl r]⟩) (ha:hget H ma=some ⟨E24,[rlX v r]⟩) (hv:Vw H v xs) (hd:Dn H xs l5) :
 X7_1_0 40 a9 (.ptr 0 0 0) (.ptr ma 0 0) H=some (.bool true):=by
 obtain ⟨⟨k1,k2⟩,h3,h4⟩:=wrong_0 hw
 have hr8:∀ p ∈ r.phs,p.ps.length≤8:=fun p hp=>(right_ok (h3 p hp).1).2.1
 unfold X7_1_0
 refine Eq.trans (ld_ptr h0 rfl rfl) ?_
 refine Eq.trans (pl_agg rfl rfl) ?_
 refine Eq.trans (pl_any rfl) ?_
 iterate 8 (refine Eq.trans (pl_int rfl) ?_)
 refine Eq.trans (cal_eq (copyI 39 2 r (by omega) (fun p hp=>by have:=hr8 p hp; omega) H)) ?_
 refine Eq.trans (pl_agg rfl rfl) ?_
 refine Eq.trans (pl_any rfl) ?_
 iterate 8 (refine Eq.trans (pl_int rfl) ?_)
 -- what the copy is
 obtain ⟨id2,els,hw2,hg2,hl2,hd2⟩:∃ id2 els,phV H.length r=.slc id2 0 r.phs.length∧hget (H ++ cpS H.length r) id2=some ⟨E30,els⟩∧els.length=r.phs.length∧Dn (H ++ cpS H.length r) els r.phs:=by
  rcases cp_copy H r with ⟨e,_⟩ | ⟨id,els,_,_,e1,e2,e3,e4⟩
  ·rw [e] at k1; exact absurd k1 (by decide)
  ·exact ⟨id,els,e1,e2,e3,dn_cp els r.phs e3 e4⟩
 rw [hw2]
 obtain ⟨H1,hH1⟩:∃ H1,H1=H ++ cpS H.length r:=⟨_,rfl⟩
 rw [← hH1] at hg2 hd2 ⊢
 have kp1:∀ id b,hget H id=some b→hget H1 id=some b:=fun id b h=>by rw [hH1]; exact hget_app h
 refine Eq.trans alc7 ?_
 refine Eq.trans (stl7 (put7 rfl)) ?_
 obtain ⟨H2,hH2⟩:∃ H2:Heap,H2=H1 ++ [some ⟨E24,[rlX (.slc id2 0 r.phs.length) r]⟩]:=⟨_,rfl⟩
 have kp2:∀ id b,hget H1 id=some b→hget H2 id=some b:=fun id b h=>by rw [hH2]; exact hget_app h
 have hb2:hget H2 H1.length=some ⟨E24,[rlX (.slc id2 0 r.phs.length) r]⟩:=by rw [hH2]; exact hget_new
 have hg2:=kp2 _ _ hg2
 have hd2:Dn H2 els r.phs:=dn_keep (fun id b _ h=>kp2 id b h) hd2
 have ma1:ma < H1.length:=by have:=hg_lt (kp1 _ _ ha); exact this
 have a2:hget H2 ma=some ⟨E24,[rlX v r]⟩:=kp2 _ _ (kp1 _ _ ha)
 have z2:hget H2 0=some ⟨E24,[rl r]⟩:=kp2 _ _ (kp1 _ _ h0)
 have hv2:Vw H2 v xs:=vw_keep (fun id b _ h=>kp2 _ _ (kp1 _ _ h)) hv
 have hx2:Dn H2 xs l5:=dn_keep (fun id b _ h=>kp2 _ _ (kp1 _ _ h)) hd
 rw [← hH2]
 obtain ⟨mb,hmb⟩:∃ mb,mb=H1.length:=⟨_,rfl⟩
 rw [← hmb] at hb2 ma1 ⊢
 refine Eq.trans sh_ptr ?_
 refine Eq.trans (ld_ptr hb2 rfl rfl) ?_
 refine Eq.trans (hop_eq (v:=.int .i64 ((r.phs.length:Nat):Int)) (H':=H2) (by simp only [aop,evO,lenOf,hg2])) ?_
 refine Eq.trans (pl_int rfl) ?_
 refine Eq.trans sh_ptr ?_
 refine Eq.trans (ld_ptr z2 rfl rfl) ?_
 refine Eq.trans len_lst ?_
 refine Eq.trans (pl_int rfl) ?_
 refine Eq.trans (pl_f (by rw [List.length_map,bne_self_eq_false])) ?_
 refine Eq.trans sh_ptr ?_
 refine Eq.trans (ld_ptr hb2 rfl rfl) ?_
 refine Eq.trans (hop_eq (v:=.int .i64 ((r.phs.length:Nat):Int)) (H':=H2) (by simp only [aop,evO,lenOf,hg2])) ?_
 refine Eq.trans (pl_int rfl) ?_
 have eu:IntKind.wrap .u64 ((r.phs.length:Nat):Int)=((r.phs.length:Nat):Int):=by simp [IntKind.wrap,IntKind.bits,IntKind.signed]; omega
 refine Eq.trans (pl_f (by rw [eu]; exact decide_eq_false (by omega))) ?_
 obtain ⟨k,hk,ek⟩:=mod7 a9 r.phs.length (by omega) (by omega)
 rw [ek]
 refine Eq.trans gr_nil ?_
 refine Eq.trans sh_ptr ?_
 refine Eq.trans (ld_ptr hb2 rfl rfl) ?_
 refine Eq.trans (sub_k hg2 hk) ?_
 refine Eq.trans sh_ptr ?_
 refine Eq.trans (ld_ptr hb2 rfl rfl) ?_
 rw [show IntKind.wrap .i64 (((k:Nat):Int)+1)=((k+1:Nat):Int) by rw [i64w]; omega]
 refine Eq.trans (sub_r hg2 hk) ?_
 obtain ⟨w,H3,g3,hw3,kp3⟩:=app_k hg2 hl2 hk (by omega) (dn_ok hd2)
 refine Eq.trans (g3 _) ?_
 have hb3:=kp3 _ _ hb2
 have a3:=kp3 _ _ a2
 have hv3:Vw H3 v xs:=vw_keep (fun id b _ h=>kp3 id b h) hv2
 have hx3:Dn H3 xs l5:=dn_keep (fun id b _ h=>kp3 id b h) hx2
 have hd3:Dn H3 (els.take k ++ els.drop (k+1)) (lessR r k).phs:=dn_keep (fun id b _ h=>kp3 id b h) (dn_app (dn_take k hd2) (dn_drop (k+1) hd2))
 have hxl:(els.take k ++ els.drop (k+1)).length=r.phs.length - 1:=by rw [dn_len hd3,less_len hk]
 obtain ⟨sc,cl⟩:=vw_sc hw3
 refine Eq.trans sh_ptr ?_
 obtain ⟨H4,hH4⟩:∃ H4:Heap,H4=H3.set mb (some ⟨E24,[rlX w r]⟩):=⟨_,rfl⟩
 have hst4:∀ K:AV→Heap→Ans,C0.hop H3 (.store 1 (.v (.ptr mb 0 (0+0))) (.v w)) K=K .undef H4:=fun K=>by rw [hH4]; exact st_ptr hb3 rfl (put71 sc cl)
 refine Eq.trans (hst4 _) ?_
 have hb4:hget H4 mb=some ⟨E24,[rlX w r]⟩:=by rw [hH4]; exact hget_set (hg_lt hb3)
 have kt4:∀ id b,b.e.tid ≠ (E24).tid→hget H3 id=some b→hget H4 id=some b:=fun id b hb h=>by
  rw [hH4]; refine hsn h fun hc=>?_
  subst hc
  rw [hb3] at h; injection h with h
  rw [← h] at hb; exact hb rfl
 have a4:hget H4 ma=some ⟨E24,[rlX v r]⟩:=by rw [hH4]; exact hsn a3 (by omega)
 have hw4:Vw H4 w (els.take k ++ els.drop (k+1)):=vw_keep (fun id b hb h=>kt4 id b (by rw [hb]; decide) h) hw3
 refine Eq.trans sh_ptr ?_
 refine Eq.trans (ld_ptr (v:=.int .i64 r.saf) hb4 rfl rfl) ?_
 refine Eq.trans (pl_int rfl) ?_
 refine Eq.trans sh_ptr ?_
 refine Eq.trans (ld_ptr hb4 rfl rfl) ?_
 refine Eq.trans (vw_len hw4) ?_
 refine Eq.trans (pl_int rfl) ?_
 rw [hxl]
 refine Eq.trans sh_ptr ?_
 obtain ⟨H5,hH5⟩:∃ H5:Heap,H5=H4.set mb (some ⟨E24,[rlX w (lessR r k)]⟩):=⟨_,rfl⟩
 have hst5:∀ K:AV→Heap→Ans,C0.hop H4 (.store 1 (.v (.ptr mb 0 (0+8))) (.v (.int .i64 (if ((r.phs.length - 1:Nat):Int) < r.saf then ((r.phs.length - 1:Nat):Int) else r.saf)))) K=K .undef H5:=fun K=>by rw [hH5]; exact st_ptr (el':=rlX w (lessR r k)) hb4 rfl rfl
 refine Eq.trans (hst5 _) ?_
 have hb5:hget H5 mb=some ⟨E24,[rlX w (lessR r k)]⟩:=by rw [hH5]; exact hget_set (hg_lt hb4)
 have kt5:∀ id b,b.e.tid ≠ (E24).tid→hget H4 id=some b→hget H5 id=some b:=fun id b hb h=>by
  rw [hH5]; refine hsn h fun hc=>?_
  subst hc
  rw [hb4] at h; injection h with h
  rw [← h] at hb; exact hb rfl
 have a5:hget H5 ma=some ⟨E24,[rlX v r]⟩:=by rw [hH5]; exact hsn a4 (by omega)
 have kp5:∀ id b,b.e.tid=(E30).tid→hget H3 id=some b→hget H5 id=some b:=fun id b hb h=>kt5 id b (by rw [hb]; decide) (kt4 id b (by rw [hb]; decide) h)
 have kq5:∀ id b,b.e.tid=(E39).tid→hget H3 id=some b→hget H5 id=some b:=fun id b hb h=>kt5 id b (by rw [hb]; decide) (kt4 id b (by rw [hb]; decide) h)
 have hw5:Vw H5 w (els.take k ++ els.drop (k+1)):=vw_keep kp5 hw3
 have hd5:Dn H5 (els.take k ++ els.drop (k+1)) (lessR r k).phs:=dn_keep kq5 hd3
 have hv5:Vw H5 v xs:=vw_keep kp5 hv3
 have hx5:Dn H5 xs ({ r with phs:=l5 }:Rul).phs:=dn_keep kq5 hx3
 refine Eq.trans sh_ptr ?_
 refine Eq.trans (ld_ptr hb5 rfl rfl) ?_
 refine Eq.trans (vw_len hw5) ?_
 refine Eq.trans (pl_int rfl) ?_
 rw [hxl]
 have W5:=s12 23 ({ r with phs:=l5 }:Rul) (show l5.length≤1000 by omega) (fun p hp=>by have:=hp5 p hp; omega)
 rw [wrong_more (r:={ r with phs:=l5 }) h5] at W5
 have WL:=s12 23 (lessR r k) (by rw [less_len hk]; omega) (fun p hp=>by
  have hp':p ∈ r.phs:=by
   rcases List.mem_append.mp hp with hp | hp
   ·exact List.mem_of_mem_take hp
   ·exact List.mem_of_mem_drop hp
  have:=hr8 p hp'; omega)
 rw [wrong_less hw hk] at WL
 by_cases hn:r.phs.length=1
 ·rw [if_pos hn] at WL
  refine Eq.trans (pl_len (by rw [beq_iff_eq]; omega)) ?_
  refine Eq.trans (ld_ptr a5 rfl rfl) ?_
  refine Eq.trans (pl_agg rfl rfl) ?_
  refine Eq.trans (pl_any rfl) ?_
  iterate 8 (refine Eq.trans (pl_int rfl) ?_)
  refine Eq.trans (snp_vw (r:={ r with phs:=l5 }) hv5 hx5) ?_
  refine Eq.trans (pl_int W5) ?_
  rw [c_ort]
  refine Eq.trans (pl_len rfl) ?_
  refine Eq.trans (ld_ptr hb5 rfl rfl) ?_
  refine Eq.trans (pl_agg rfl rfl) ?_
  refine Eq.trans (pl_any rfl) ?_
  iterate 8 (refine Eq.trans (pl_int rfl) ?_)
  refine Eq.trans (snp_vw (r:=lessR r k) hw5 hd5) ?_
  refine Eq.trans (pl_int WL) ?_
  rw [c_ort]
  exact finB
 ·rw [if_neg hn] at WL
  refine Eq.trans (pl_f (by rw [beq_eq_false_iff_ne]; omega)) ?_
  refine Eq.trans (ld_ptr a5 rfl rfl) ?_
  refine Eq.trans (pl_agg rfl rfl) ?_
  refine Eq.trans (pl_any rfl) ?_
  iterate 8 (refine Eq.trans (pl_int rfl) ?_)
  refine Eq.trans (snp_vw (r:={ r with phs:=l5 }) hv5 hx5) ?_
  refine Eq.trans (pl_int W5) ?_
  rw [c_ort]
  refine Eq.trans (pl_len rfl) ?_
  refine Eq.trans (ld_ptr hb5 rfl rfl) ?_
  refine Eq.trans (pl_agg rfl rfl) ?_
  refine Eq.trans (pl_any rfl) ?_
  iterate 8 (refine Eq.trans (pl_int rfl) ?_)
  refine Eq.trans (snp_vw (r:=lessR r k) hw5 hd5) ?_
  refine Eq.trans (pl_int WL) ?_
  rw [c_ort]
  exact finB
theorem more_go (r:Rul) (hw:wrongX r=0) (a9:Int) (ma:Nat):∀ (m:Nat) (f:Nat),m < f→∀ (id:Nat) (xs:List AV) (l:List Phs) (H:Heap),xs.length+m=5→1≤xs.length→(∀ p ∈ l,p.ps.length≤8) →
 hget H 0=some ⟨E24,[rl r]⟩→hget H ma=some ⟨E24,[rlX (.slc id 0 xs.length) r]⟩→hget H id=some ⟨E30,xs⟩→Dn H xs l→ma ≠ 0 →
 L7_1 40 a9 (.ptr 0 0 0) (.ptr ma 0 0) f H=some (.bool true)
 | 0,f+1,_,id,xs,l,H,hx,h1,hp,h0,ha,hg,hd,hm=>by
   have e5:xs.length=5:=by omega
   rw [L7_1_s]
   refine Eq.trans sh_ptr ?_
   refine Eq.trans (ld_ptr ha rfl rfl) ?_
   refine Eq.trans (vw_len (vw_own hg)) ?_
   refine Eq.trans (pl_int rfl) ?_
   rw [decide_eq_false (by omega),cnd_f]
   exact end_go r hw a9 ma _ xs l (by rw [← dn_len hd]; exact e5) hp H h0 ha (vw_own hg) hd
 | m+1,f+1,hf,id,xs,l,H,hx,h1,hp,h0,ha,hg,hd,hm=>by
   obtain ⟨p0,l0,rfl⟩:∃ p0 l0,l=p0::l0:=by
    cases l with
    | nil=>have:=dn_len hd; rw [List.length_nil] at this; omega
    | cons p l=>exact ⟨p,l,rfl⟩
   obtain ⟨x0,xs0,rfl⟩:∃ x0 xs0,xs=x0::xs0:=by
    cases xs with
    | nil=>cases h1
    | cons x l=>exact ⟨x,l,rfl⟩
   obtain ⟨⟨av,hx0,⟨hsc,hcl⟩,hav⟩,hd0⟩:=hd
   have hd:Dn H (x0::xs0) (p0::l0):=⟨⟨av,hx0,⟨hsc,hcl⟩,hav⟩,hd0⟩
   have hok:=dn_ok hd
   have hx0k:elOk E30 x0=true:=by rw [List.all_cons,Bool.and_eq_true] at hok; exact hok.1
   have hid:id < H.length:=hg_lt hg
   obtain ⟨w,H2,g2,o2,hv2,n2,kp2⟩:=app_own (H:=H ++ [some ⟨E30,[x0]⟩]) (e:=E30) (v:=.slc id 0 (x0::xs0).length) (l:=x0::xs0) (xs:=[x0]) (r:=.slc H.length 0 1) (.inr ⟨id,rfl,hget_app hg⟩) (by simp [elsOf,hget_new]) (by simp [hx0k]) (by rw [show (E30).bytes=56 from rfl,List.length_singleton]; omega) (by rw [List.length_singleton]; omega)
   have nn:∀ id',¬ names (.slc id 0 (x0::xs0).length) id' ∨ id'=id:=fun id'=>by
    by_cases h:id'=id
    ·exact .inr h
    ·exact .inl fun ⟨o,n,e⟩=>h (by injection e with e1 _ _; exact e1.symm)
   have ne0:(0:Nat) ≠ id:=fun hc=>by subst hc; rw [h0] at hg; injection hg with hg; exact absurd (congrArg (fun b:Blk=>b.e.tid) hg) (by show ¬ (E24).tid=(E30).tid; decide)
   have nea:ma ≠ id:=fun hc=>by subst hc; rw [ha] at hg; injection hg with hg; exact absurd (congrArg (fun b:Blk=>b.e.tid) hg) (by show ¬ (E24).tid=(E30).tid; decide)
   have h02:hget H2 0=some ⟨E24,[rl r]⟩:=kp2 _ _ ((nn 0).resolve_right ne0) (hget_app h0)
   have ha2:hget H2 ma=some ⟨E24,[rlX (.slc id 0 (x0::xs0).length) r]⟩:=kp2 _ _ ((nn ma).resolve_right nea) (hget_app ha)
   have hvw:w=.slc (H ++ ([some ⟨E30,[x0]⟩]:Heap)).length 0 (x0::xs0 ++ [x0]).length:=by rw [hv2,show (x0::xs0 ++ [x0]).length=(x0::xs0).length+[x0].length from List.length_append]
   have hgw:hget H2 (H ++ ([some ⟨E30,[x0]⟩]:Heap)).length=some ⟨E30,x0::xs0 ++ [x0]⟩:=by
    rcases o2 with ⟨e,_⟩ | ⟨id',e,g⟩
    ·cases e
    ·rw [hvw] at e; injection e with e1 _ _
     rw [e1]; exact g
   obtain ⟨H3,hH3⟩:∃ H3:Heap,H3=H2.set ma (some ⟨E24,[rlX w r]⟩):=⟨_,rfl⟩
   have hst:∀ K:AV→Heap→Ans,C0.hop H2 (.store 1 (.v (.ptr ma 0 (0+0))) (.v w)) K=K .undef H3:=fun K=>by rw [hH3]; exact st_ptr ha2 rfl (put71 (by rw [hvw]; rfl) (by rw [hvw]; rfl))
   have ha3:hget H3 ma=some ⟨E24,[rlX w r]⟩:=by rw [hH3]; exact hget_set (hg_lt ha2)
   have h03:hget H3 0=some ⟨E24,[rl r]⟩:=by rw [hH3]; exact hsn h02 hm
   have hlt:ma < (H ++ ([some ⟨E30,[x0]⟩]:Heap)).length:=by have:=hg_lt ha; simp; omega
   have hg3:hget H3 (H ++ ([some ⟨E30,[x0]⟩]:Heap)).length=some ⟨E30,x0::xs0 ++ [x0]⟩:=by rw [hH3]; exact hsn hgw (by omega)
   have kq:∀ id' b,b.e.tid=(E39).tid→hget H id'=some b→hget H3 id'=some b:=fun id' b hb h=>by
    have n1:id' ≠ id:=fun hc=>by subst hc; rw [hg] at h; injection h with h; rw [← h] at hb; exact absurd hb (by show (E30).tid ≠ (E39).tid; decide)
    have n2:ma ≠ id':=fun hc=>by subst hc; rw [ha] at h; injection h with h; rw [← h] at hb; exact absurd hb (by show (E24).tid ≠ (E39).tid; decide)
    rw [hH3]; exact hsn (kp2 _ _ ((nn id').resolve_right n1) (hget_app h)) n2
   have hd3:Dn H3 (x0::xs0 ++ [x0]) (p0::l0 ++ [p0]):=dn_keep kq (dn_app hd ⟨⟨av,hx0,⟨hsc,hcl⟩,hav⟩,trivial⟩)
   have ih:=more_go r hw a9 ma m f (by omega) (H ++ ([some ⟨E30,[x0]⟩]:Heap)).length (x0::xs0 ++ [x0]) (p0::l0 ++ [p0]) H3 (by rw [List.length_append,List.length_singleton]; omega) (by simp) (fun p hpm=>by
    rcases List.mem_append.mp hpm with h | h
    ·exact hp p h
    ·rw [List.mem_singleton] at h; subst h; exact hp _ (List.mem_cons_self ..)) h03 (by rw [ha3,hvw]) hg3 hd3 hm
   rw [L7_1_s]
   refine Eq.trans sh_ptr ?_
   refine Eq.trans (ld_ptr ha rfl rfl) ?_
   refine Eq.trans (vw_len (vw_own hg)) ?_
   refine Eq.trans (pl_int rfl) ?_
   rw [decide_eq_true (by omega),cnd_t]
   refine Eq.trans sh_ptr ?_
   refine Eq.trans (ld_ptr ha rfl rfl) ?_
   refine Eq.trans (vw_len (vw_own hg)) ?_
   refine Eq.trans (pl_int rfl) ?_
   refine Eq.trans (pl_f (by rw [beq_eq_false_iff_ne]; omega)) ?_
   refine Eq.trans gr_nil ?_
   refine Eq.trans sh_ptr ?_
   refine Eq.trans (ld_ptr ha rfl rfl) ?_
   refine Eq.trans sh_ptr ?_
   refine Eq.trans (ld_ptr ha rfl rfl) ?_
   refine Eq.trans (ix_slc hg (by omega) (by omega) rfl) ?_
   refine Eq.trans (ld_ptr (v:=x0) hg rfl (by rw [hx0]; rfl)) ?_
   refine Eq.trans (pl_agg (l:=[av,.int .i64 p0.g,.int .i64 p0.v,.int .i64 p0.m,.int .i64 p0.u]) (by rw [hx0]) rfl) ?_
   refine Eq.trans (pl_any rfl) ?_
   iterate 4 (refine Eq.trans (pl_int rfl) ?_)
   have emk:∀ K:AV→Heap→Ans,C0.hop H (.mkrow E30 1 [(0,.v (phX av p0))]) K=K (.slc H.length 0 1) (H ++ [some ⟨E30,[x0]⟩]):=fun K=>hop_eq (by rw [← hx0]; simp [aop,evO,fillR,hx0k])
   refine Eq.trans (emk _) ?_
   refine Eq.trans (keep_g ha (hget_app ha)) ?_
   refine Eq.trans (hop_eq g2) ?_
   refine Eq.trans sh_ptr ?_
   refine Eq.trans (hst _) ?_
   exact ih
theorem one_go (r:Rul) (hw:wrongX r=0) (a9:Int):∀ (k i:Nat),i+k=r.phs.length→∀ f,k < f→∀ H,hget H 0=some ⟨E24,[rl r]⟩ →
 L7_0 40 a9 (.ptr 0 0 0) (r.phs.length:Nat) f (i:Nat) H=some (.bool true)
 | 0,i,h,f+1,_,H,h0=>by
   obtain ⟨⟨k1,k2⟩,h3,h4⟩:=wrong_0 hw
   have hr8:∀ p ∈ r.phs,p.ps.length≤8:=fun p hp=>(right_ok (h3 p hp).1).2.1
   rw [L7_0_s,decide_eq_false (by omega),cnd_f]
   unfold X7_0_0
   refine Eq.trans (ld_ptr h0 rfl rfl) ?_
   refine Eq.trans (pl_agg rfl rfl) ?_
   refine Eq.trans (pl_any rfl) ?_
   iterate 8 (refine Eq.trans (pl_int rfl) ?_)
   refine Eq.trans (cal_eq (copyI 39 2 r (by omega) (fun p hp=>by have:=hr8 p hp; omega) H)) ?_
   refine Eq.trans (pl_agg rfl rfl) ?_
   refine Eq.trans (pl_any rfl) ?_
   iterate 8 (refine Eq.trans (pl_int rfl) ?_)
   obtain ⟨id2,els,hw2,hg2,hl2,hd2⟩:∃ id2 els,phV H.length r=.slc id2 0 els.length∧hget (H ++ cpS H.length r) id2=some ⟨E30,els⟩∧els.length=r.phs.length∧Dn (H ++ cpS H.length r) els r.phs:=by
    rcases cp_copy H r with ⟨e,_⟩ | ⟨id,els,_,_,e1,e2,e3,e4⟩
    ·rw [e] at k1; exact absurd k1 (by decide)
    ·exact ⟨id,els,by rw [e3]; exact e1,e2,e3,dn_cp els r.phs e3 e4⟩
   rw [hw2]
   have h1:hget (H ++ cpS H.length r) 0=some ⟨E24,[rl r]⟩:=hget_app h0
   generalize H ++ cpS H.length r=H1 at *
   refine Eq.trans alc7 ?_
   refine Eq.trans (stl7 (put7 rfl)) ?_
   exact more_go r hw a9 H1.length (5 - r.phs.length) 10000000000000000000 (by omega) id2 els r.phs _ (by omega) (by omega) hr8 (hget_app h1) hget_new (hget_app hg2) (dn_keep (fun id b _ h=>hget_app h) hd2) (by have:=hg_lt h1; omega)
 | k+1,i,h,f+1,hf,H,h0=>by
   obtain ⟨⟨k1,k2⟩,h3,h4⟩:=wrong_0 hw
   have hi:i < r.phs.length:=by omega
   have hr8:∀ p ∈ r.phs,p.ps.length≤8:=fun p hp=>(right_ok (h3 p hp).1).2.1
   have hP:=phase_in 38 r i (by omega) hi (by have:=hr8 _ (List.getElem_mem hi); omega) (fun hc=>by have:=(right_ok (h3 _ (List.getElem_mem hi)).1).1; rw [hc] at this; simp at this)
   obtain ⟨p,hpt⟩:∃ p,p=r.phs[i]:=⟨_,rfl⟩
   rw [← hpt] at hP
   have hRp:RightPh p:=by rw [hpt]; exact h3 _ (List.getElem_mem hi)
   have a1:hget (H ++ ([some ⟨E30,[phA p]⟩]:Heap)) H.length=some ⟨E30,[phA p]⟩:=hget_new
   rw [L7_0_s,decide_eq_true (by omega),cnd_t]
   refine Eq.trans (ld_ptr h0 rfl rfl) ?_
   refine Eq.trans (pl_agg rfl rfl) ?_
   refine Eq.trans (pl_any rfl) ?_
   iterate 8 (refine Eq.trans (pl_int rfl) ?_)
   refine Eq.trans (snp_free rfl) ?_
   refine Eq.trans (pl_tup hP rfl) ?_
   refine Eq.trans (pl_agg rfl rfl) ?_
   refine Eq.trans (pl_any rfl) ?_
   iterate 4 (refine Eq.trans (pl_int rfl) ?_)
   refine Eq.trans (pl_bool rfl) ?_
   refine Eq.trans (pl_len rfl) ?_
   refine Eq.trans alc7 ?_
   refine Eq.trans (stl7 rfl) ?_
   refine Eq.trans (pl_f rfl) ?_
   refine Eq.trans (ld_ptr a1 rfl rfl) ?_
   refine Eq.trans (pl_agg rfl rfl) ?_
   refine Eq.trans (pl_any rfl) ?_
   iterate 4 (refine Eq.trans (pl_int rfl) ?_)
   refine Eq.trans (snp_free rfl) ?_
   refine Eq.trans (pl_bool (s16 27 p (by have:=hr8 p (by rw [hpt]; exact List.getElem_mem hi); omega))) ?_
   rw [c_ort]
   refine Eq.trans (pl_f (by rw [decide_eq_true hRp]; rfl)) ?_
   rw [show IntKind.wrap .i64 (((i:Nat):Int)+1)=((i+1:Nat):Int) by rw [i64w]; omega]
   exact one_go r hw a9 k (i+1) (by omega) f (by omega) _ (hget_app h0)
theorem phases_law (r:Rul) (a:Int) (hl:r.phs.length≤9223372036854775807):pcall M 41 7 [rl r,.int .i64 a]=some (.bool true):=told (q7 40 _ _ _ _ _ _ _ _ _ _) (by
 refine Eq.trans (bx_n (H:=[]) (by rfl)) ?_
 rw [show ([] ++ [some (⟨E24,[rl r]⟩:Blk)]:Heap)=[some ⟨E24,[rl r]⟩] from rfl,show List.length ([]:Heap)+0=0 from rfl]
 have h0:hget [some (⟨E24,[rl r]⟩:Blk)] 0=some ⟨E24,[rl r]⟩:=rfl
 refine Eq.trans (pl_bool awake) ?_
 refine Eq.trans (pl_f rfl) ?_
 refine Eq.trans (ld_ptr h0 rfl rfl) ?_
 refine Eq.trans (pl_agg rfl rfl) ?_
 refine Eq.trans (pl_any rfl) ?_
 iterate 8 (refine Eq.trans (pl_int rfl) ?_)
 refine Eq.trans (snp_free rfl) ?_
 refine Eq.trans (pl_bool (s9 39 r hl)) ?_
 rw [c_ort]
 by_cases hf:fewX r.phs=true
 rotate_left
 ·refine Eq.trans (pl_len (by rw [Bool.eq_false_iff.mpr hf]; rfl)) ?_
  refine Eq.trans (pl_bool awake) ?_
  exact finB
 refine Eq.trans (pl_f (by rw [hf]; rfl)) ?_
 obtain ⟨f1,f2⟩:=few_t hf
 have ha:∀ p ∈ r.phs,p.ps.length≤140737488355328:=fun p hp=>by have:=f1 p hp; omega
 refine Eq.trans (ld_ptr h0 rfl rfl) ?_
 refine Eq.trans (pl_agg rfl rfl) ?_
 refine Eq.trans (pl_any rfl) ?_
 iterate 8 (refine Eq.trans (pl_int rfl) ?_)
 refine Eq.trans (snp_free rfl) ?_
 refine Eq.trans (pl_int (s10 29 r (by omega) ha)) ?_
 rw [c_ort]
 by_cases h:wrongX r=0
 rotate_left
 ·refine Eq.trans (pl_len (bne_iff_ne.mpr h)) ?_
  refine Eq.trans (pl_bool awake) ?_
  exact finB
 refine Eq.trans (pl_f (by rw [h]; rfl)) ?_
 refine Eq.trans sh_ptr ?_
 refine Eq.trans (ld_ptr h0 rfl rfl) ?_
 refine Eq.trans len_lst ?_
 refine Eq.trans (pl_int rfl) ?_
 rw [List.length_map]
 exact one_go r h a r.phs.length 0 (by omega) 10000000000000000000 (by omega) _ h0)
theorem law_RulesPhases (a0:AV) (a1:Int) (w0:TyOK true [(.sl true [(.sl true [(.i .i64),(.i .i64)]),(.i .i64),(.i .i64),(.i .i64),(.i .i64)]),(.i .i64),(.i .i64),(.i .i64),(.i .i64),(.i .i64),(.i .i64),(.i .i64),(.i .i64)] a0) (w1:(Lit.int .i64 a1).wf=true) :
 pcall M 41 7 [a0,.int .i64 a1]=some (.bool true):=by
 obtain ⟨r,rfl,hl⟩:=ty_rul w0
 exact phases_law r a1 hl
end Go.Proofs.Ytffiilnmfmkpmaa.AE

namespace Go.Proofs.Ytffiilnmfmkpmaa.AE
set_option linter.unusedVariables false
set_option linter.unusedSimpArgs false
set_option linter.constructorNameAsVariable false
open Go Go.RowKit

theorem frl_nil {w:World} {bad:Nat→Prop}:∀ (i:Nat) (c:AV) (u:Value),([]:List AV)[i]?=some c→([]:List Value)[i]?=some u→FRep w bad c u:=fun _ _ _ h=>by cases h
theorem frl_cons {w:World} {bad:Nat→Prop} {c0:AV} {u0:Value} {cs:List AV} {us:List Value} (h0:FRep w bad c0 u0) (h:∀ (i:Nat) (c:AV) (u:Value),cs[i]?=some c→us[i]?=some u→FRep w bad c u) :
 ∀ (i:Nat) (c:AV) (u:Value),(c0::cs)[i]?=some c→(u0::us)[i]?=some u→FRep w bad c u
 | 0,c,u,hc,hu=>by cases hc; cases hu; exact h0
 | i+1,c,u,hc,hu=>h i c u hc hu
theorem law_calls {d:Nat} {g:FuncId} {args:List AV} {vs:List Value} (h:pcall M d g args=some (.bool true)) (W:World) (hl:args.length=vs.length)
 (hr:∀ (i:Nat) (c:AV) (u:Value),args[i]?=some c→vs[i]?=some u→FRep W (fun _=>False) c u) (hc:(cFn Try.prog g).isSome=true:=by kernel_rfl):Calls Try.prog g vs.toArray W fun e W'=>e=.returned (.bool true)∧Below W.heap.size W W':=by
 obtain ⟨fn,hfn⟩:=Option.isSome_iff_exists.mp hc
 rcases pcall_law modOK d g args _ h W (fun _=>False) vs (fun _ h=>h.elim) hl hr with ⟨cv,w',h1,_⟩ | ⟨_,h2⟩
 ·rw [enter_run hfn] at h1; cases h1
 ·refine h2.mono ?_
  rintro e W' ⟨cv,rfl,hf,hb⟩
  cases hf
  exact ⟨rfl,hb⟩
theorem str_size {w:World} {bad:Nat→Prop} {b:List UInt8} {s:ByteArray} (h:FRep w bad (.str b) (.string s)):s.data.toList.length=b.length:=by
 cases h
 rfl
end Go.Proofs.Ytffiilnmfmkpmaa.AE
