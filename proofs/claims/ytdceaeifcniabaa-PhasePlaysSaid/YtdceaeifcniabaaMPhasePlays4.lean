/- The texts that the law PhasePlays needs, part 4. No conditions. -/
import Derived.Test.YtdceaeifcniabaaMPhasePlays3
namespace Go.Proofs.Ytdceaeifcniabaa.AE
set_option linter.unusedVariables false
set_option linter.unusedSimpArgs false
set_option linter.constructorNameAsVariable false
open Go
set_option maxRecDepth 100000
set_option maxHeartbeats 0
noncomputable def X8_0_0 (d:Nat) (a0:List AV) :Ans :=
 some (.bool (decide ((((List.length a0):Nat):Int)≤8)))
theorem X8_0_0_ok (d:Nat) (a0:List AV) (a1 a2 a3 a4 a5 a6 a7 a8:Int) (b32:Bool) (x33 x34:Int) (v35 v36:AV) (x37:Int) (b38:Bool) (v39 v40 v41 v42 v43 v44 v45 v46 v47 v48:AV):r8X0_0 C0 d a0 a1 a2 a3 a4 a5 a6 a7 a8 ⟨[(.agg [(.lst a0),(iz a1),(iz a2),(iz a3),(iz a4),(iz a5),(iz a6),(iz a7),(iz a8)]),(.ptr 0 0 0),(.bool b32),(iz x33),(iz x34),v35,v36,(iz x37),(.bool b38),v39,v40,v41,v42,v43,v44,v45,v46,v47,v48,tz,tz,tz,tz],[some ⟨E24,[(.agg [(.lst a0),(iz a1),(iz a2),(iz a3),(iz a4),(iz a5),(iz a6),(iz a7),(iz a8)])]⟩]⟩=X8_0_0 d a0 :=by
 unfold r8X0_0; refine Eq.trans (pl_len (by rfl)) ?_; refine yt ySs ?_; refine yt yB ?_; (iterate 2 (refine yt yI ?_)); refine yt yAs ?_; refine yt yI ?_; refine yt yB ?_; refine yt yAs ?_; refine yt ySs ?_; refine Eq.trans (pl_sameH) ?_
 rfl
noncomputable def E8_0 (d:Nat) (a0:List AV) (b49:Bool):Ans :=
 some (.bool b49)
theorem E8_0_ok (d:Nat) (a0:List AV) (a1 a2 a3 a4 a5 a6 a7 a8:Int) (b49:Bool) (x50 x51:Int) (v52 v53:AV) (x54:Int) (b55:Bool) (v56 v57 v58 v59:AV) (x60:Int) (v61 v62 v63:AV) (x64:Int) (b65:Bool):r8E0 C0 d a0 a1 a2 a3 a4 a5 a6 a7 a8 ⟨[(.agg [(.lst a0),(iz a1),(iz a2),(iz a3),(iz a4),(iz a5),(iz a6),(iz a7),(iz a8)]),(.ptr 0 0 0),(.bool b49),(iz x50),(iz x51),v52,v53,(iz x54),(.bool b55),v56,v57,v58,v59,(iz x60),v61,v62,v63,(iz x64),(.bool b65),tz,tz,tz,tz],[some ⟨E24,[(.agg [(.lst a0),(iz a1),(iz a2),(iz a3),(iz a4),(iz a5),(iz a6),(iz a7),(iz a8)])]⟩]⟩=E8_0 d a0 b49:=by
 unfold r8E0; refine Eq.trans (pl_len (by rfl)) ?_; refine yt ySs ?_; refine yt yB ?_; (iterate 2 (refine yt yI ?_)); refine yt yAs ?_; refine yt yI ?_; refine yt yB ?_; refine yt yAs ?_; refine yt yI ?_; refine yt yAs ?_; refine yt yI ?_; refine yt yB ?_; refine yt ySs ?_; refine Eq.trans (pl_sameH) ?_
 rfl
noncomputable def L8_0 (d:Nat) (a0:List AV):Nat→Int→Ans
 | 0,_=>none
 | n+1,x4 =>
 cnd (decide (x4 < (((List.length a0):Nat):Int)))
  (cnd (decide ((0:Int)≤x4))
  (C0.agg 5 a0[(Int.toNat x4)]? fun l20 =>
  C0.lst l20[0]? (fun l21 =>
  C0.int .i64 l20[1]? fun x23 =>
  C0.int .i64 l20[2]? fun x24 =>
  C0.int .i64 l20[3]? fun x25 =>
  C0.int .i64 l20[4]? fun x26 =>
  cnd (decide ((((List.length l21):Nat):Int) > 12))
  (E8_0 d a0 false)
  (L8_0 d a0 n (IntKind.wrap .i64 (x4+1))))
    (fun z22 =>
  C0.int .i64 l20[1]? fun x27 =>
  C0.int .i64 l20[2]? fun x28 =>
  C0.int .i64 l20[3]? fun x29 =>
  C0.int .i64 l20[4]? fun x30 =>
  L8_0 d a0 n (IntKind.wrap .i64 (x4+1))))
  (none))
  (X8_0_0 d a0)
theorem L8_0_s (d:Nat) (a0:List AV) (n:Nat) (x4:Int):L8_0 d a0 (n+1) x4=(cnd (decide (x4 < (((List.length a0):Nat):Int)))
 (cnd (decide ((0:Int)≤x4))
 (C0.agg 5 a0[(Int.toNat x4)]? fun l20 =>
 C0.lst l20[0]? (fun l21 =>
 C0.int .i64 l20[1]? fun x23 =>
 C0.int .i64 l20[2]? fun x24 =>
 C0.int .i64 l20[3]? fun x25 =>
 C0.int .i64 l20[4]? fun x26 =>
 cnd (decide ((((List.length l21):Nat):Int) > 12))
 (E8_0 d a0 false)
 (L8_0 d a0 n (IntKind.wrap .i64 (x4+1))))
   (fun z22 =>
 C0.int .i64 l20[1]? fun x27 =>
 C0.int .i64 l20[2]? fun x28 =>
 C0.int .i64 l20[3]? fun x29 =>
 C0.int .i64 l20[4]? fun x30 =>
 L8_0 d a0 n (IntKind.wrap .i64 (x4+1))))
 (none))
 (X8_0_0 d a0)):=by kernel_rfl
theorem it8_0 (d:Nat) (a0:List AV) (a1 a2 a3 a4 a5 a6 a7 a8:Int)  :∀ (n:Nat) (b3:Bool) (x4:Int) (v5 v6 v7 v8 v9 v10 v11 v12 v13 v14 v15 v16 v17 v18 v19:AV),C0.iter (r8R0 C0 d a0 a1 a2 a3 a4 a5 a6 a7 a8) n ⟨[(.agg [(.lst a0),(iz a1),(iz a2),(iz a3),(iz a4),(iz a5),(iz a6),(iz a7),(iz a8)]),(.ptr 0 0 0),(.bool b3),(iz x4),v5,v6,v7,v8,v9,v10,v11,v12,v13,v14,v15,v16,v17,v18,v19,tz,tz,tz,tz],[some ⟨E24,[(.agg [(.lst a0),(iz a1),(iz a2),(iz a3),(iz a4),(iz a5),(iz a6),(iz a7),(iz a8)])]⟩]⟩ [0] [r8X0_0 C0 d a0 a1 a2 a3 a4 a5 a6 a7 a8] (r8E0 C0 d a0 a1 a2 a3 a4 a5 a6 a7 a8)=L8_0 d a0 n x4:=by
 generalize hR:r8R0 C0 d a0 a1 a2 a3 a4 a5 a6 a7 a8=R
 intro n
 induction n with
 | zero=>intros; rfl
 | succ n ih =>
   intro b3 x4 v5 v6 v7 v8 v9 v10 v11 v12 v13 v14 v15 v16 v17 v18 v19
   simp only [it_ret] at ih
   rw [it_ret,xiter_s]
   refine Eq.trans (congrFun (congrFun hR.symm _) _) ?_
   unfold r8R0
   refine Eq.trans (pl_len (by rfl)) ?_; refine yt ySs ?_; refine yt yB ?_; refine yt yI ?_; refine yt yAs ?_; (iterate 10 (refine yt yA ?_)); refine yt ySs ?_; refine Eq.trans (pl_sameH) ?_
   simp only [kIter_n,kIter_x,kIter_r,kOut_x,kOut_r,xgo_hit,xgo_miss,ih,X8_0_0_ok d a0 a1 a2 a3 a4 a5 a6 a7 a8  ,E8_0_ok d a0 a1 a2 a3 a4 a5 a6 a7 a8  ]
   exact (L8_0_s d a0 n x4).symm
theorem q8 (d:Nat) (a0:List AV) (a1 a2 a3 a4 a5 a6 a7 a8:Int):xcall C0 M unr d 8 [(.agg [(.lst a0),(iz a1),(iz a2),(iz a3),(iz a4),(iz a5),(iz a6),(iz a7),(iz a8)])] =
 L8_0 d a0 10000000000000000000 0:=(r8 C0 d a0 a1 a2 a3 a4 a5 a6 a7 a8).trans (by simp only [it8_0])
noncomputable def X10_0_0 (d:Nat) (a0:List AV) (a1 a2 a3 a4 a5 a6 a7 a8:Int) :Ans :=
 C0.bool (pcall M d 26 [(iz a1),(iz 1),(iz 50)]) fun b49 =>
  cnd (!b49)
  (some (iz 3))
  (C0.bool (pcall M d 26 [(iz a2),(iz 1),(iz 50)]) fun b50 =>
  cnd (!b50)
  (some (iz 3))
  (C0.bool (pcall M d 26 [(iz a3),(iz 1),(iz 50)]) fun b51 =>
  cnd (!b51)
  (some (iz 3))
  (C0.bool (pcall M d 26 [(iz a4),(iz 0),(iz 1024)]) fun b52 =>
  cnd (!b52)
  (some (iz 4))
  (C0.bool (pcall M d 26 [(iz a5),(iz 1),(iz 65536)]) fun b53 =>
  cnd (!b53)
  (some (iz 5))
  (C0.bool (pcall M d 26 [(iz a6),(iz 1),(iz 50)]) fun b54 =>
  cnd (!b54)
  (some (iz 6))
  (C0.bool (pcall M d 26 [(iz a7),(iz 1),(iz 1073741824)]) fun b55 =>
  cnd (!b55)
  (some (iz 7))
  (C0.bool (pcall M d 26 [(iz a8),(iz 0),(iz (((List.length a0):Nat):Int))]) fun b56 =>
  cnd (!b56)
  (some (iz 8))
  (some (iz 0)))))))))
theorem X10_0_0_ok (d:Nat) (a0:List AV) (a1 a2 a3 a4 a5 a6 a7 a8 x33 x34 x35:Int) (v36 v37:AV) (x38:Int) (b39:Bool) (v40 v41 v42 v43 v44 v45 v46 v47 v48:AV):r10X0_0 C0 d a0 a1 a2 a3 a4 a5 a6 a7 a8 ⟨[(.agg [(.lst a0),(iz a1),(iz a2),(iz a3),(iz a4),(iz a5),(iz a6),(iz a7),(iz a8)]),(.ptr 0 0 0),(iz x33),(iz x34),(.ptr 0 0 0),(.lst a0),(iz (((List.length a0):Nat):Int)),(.bool (decide ((((List.length a0):Nat):Int) < 1))),bf,(.ptr 0 0 0),(.lst a0),(iz (((List.length a0):Nat):Int)),(.bool (decide ((((List.length a0):Nat):Int) > 4))),bf,(iz x35),v36,v37,(iz x38),(.bool b39),v40,v41,v42,v43,v44,v45,v46,v47,v48,tz,tz,tz,tz,tz,tz,tz,tz,tz,tz,tz,tz,tz,tz,tz,tz,tz,tz,tz,tz,tz,tz,tz,tz,tz,tz,tz,tz,tz,tz,tz,tz,tz,tz,tz,tz,tz,tz,tz,tz,tz,tz,tz,tz,tz],[some ⟨E24,[(.agg [(.lst a0),(iz a1),(iz a2),(iz a3),(iz a4),(iz a5),(iz a6),(iz a7),(iz a8)])]⟩]⟩=X10_0_0 d a0 a1 a2 a3 a4 a5 a6 a7 a8 :=by
 unfold r10X0_0; refine Eq.trans (pl_len (by rfl)) ?_; refine yt ySs ?_; (iterate 2 (refine yt yI ?_)); refine yt ySs ?_; refine yt yI ?_; refine yt yAs ?_; refine yt yI ?_; refine yt yB ?_; refine yt yAs ?_; refine yt ySs ?_; refine Eq.trans (pl_sameH) ?_
 rfl
noncomputable def E10_0 (d:Nat) (a0:List AV) (a1 a2 a3 a4 a5 a6 a7 a8 x57:Int):Ans :=
 some (iz x57)
theorem E10_0_ok (d:Nat) (a0:List AV) (a1 a2 a3 a4 a5 a6 a7 a8 x57 x58 x59:Int) (v60 v61:AV) (x62:Int) (b63:Bool) (v64 v65 v66 v67:AV) (x68:Int) (v69 v71:AV) (x72 x73 x74 x75:Int) (b76 b77:Bool):r10E0 C0 d a0 a1 a2 a3 a4 a5 a6 a7 a8 ⟨[(.agg [(.lst a0),(iz a1),(iz a2),(iz a3),(iz a4),(iz a5),(iz a6),(iz a7),(iz a8)]),(.ptr 0 0 0),(iz x57),(iz x58),(.ptr 0 0 0),(.lst a0),(iz (((List.length a0):Nat):Int)),(.bool (decide ((((List.length a0):Nat):Int) < 1))),bf,(.ptr 0 0 0),(.lst a0),(iz (((List.length a0):Nat):Int)),(.bool (decide ((((List.length a0):Nat):Int) > 4))),bf,(iz x59),v60,v61,(iz x62),(.bool b63),v64,v65,v66,v67,(iz x68),v69,(.agg [v71,(iz x72),(iz x73),(iz x74),(iz x75)]),(.bool b76),(.bool b77),tz,tz,tz,tz,tz,tz,tz,tz,tz,tz,tz,tz,tz,tz,tz,tz,tz,tz,tz,tz,tz,tz,tz,tz,tz,tz,tz,tz,tz,tz,tz,tz,tz,tz,tz,tz,tz,tz,tz,tz,tz,tz,tz,tz,tz],[some ⟨E24,[(.agg [(.lst a0),(iz a1),(iz a2),(iz a3),(iz a4),(iz a5),(iz a6),(iz a7),(iz a8)])]⟩]⟩=E10_0 d a0 a1 a2 a3 a4 a5 a6 a7 a8 x57:=by
 unfold r10E0; refine Eq.trans (pl_len (by rfl)) ?_; refine yt ySs ?_; (iterate 2 (refine yt yI ?_)); refine yt ySs ?_; refine yt yI ?_; refine yt yAs ?_; refine yt yI ?_; refine yt yB ?_; refine yt yAs ?_; refine yt yI ?_; refine yt yA ?_; refine yt yG ?_; refine yt yA ?_; (iterate 4 (refine yt yI ?_)); (iterate 2 (refine yt yB ?_)); refine yt ySs ?_; refine Eq.trans (pl_sameH) ?_
 rfl
noncomputable def L10_0 (d:Nat) (a0:List AV) (a1 a2 a3 a4 a5 a6 a7 a8:Int):Nat→Int→Ans
 | 0,_=>none
 | n+1,x4 =>
 cnd (decide (x4 < (((List.length a0):Nat):Int)))
  (cnd (decide ((0:Int)≤x4))
  (C0.agg 5 a0[(Int.toNat x4)]? fun l19 =>
  C0.lst l19[0]? (fun l20 =>
  C0.int .i64 l19[1]? fun x22 =>
  C0.int .i64 l19[2]? fun x23 =>
  C0.int .i64 l19[3]? fun x24 =>
  C0.int .i64 l19[4]? fun x25 =>
  C0.bool (pcall M d 25 [(.agg [(.lst l20),(iz x22),(iz x23),(iz x24),(iz x25)])]) fun b26 =>
  cnd (!b26)
  (E10_0 d a0 a1 a2 a3 a4 a5 a6 a7 a8 2)
  (L10_0 d a0 a1 a2 a3 a4 a5 a6 a7 a8 n (IntKind.wrap .i64 (x4+1))))
    (fun z21 =>
  C0.int .i64 l19[1]? fun x27 =>
  C0.int .i64 l19[2]? fun x28 =>
  C0.int .i64 l19[3]? fun x29 =>
  C0.int .i64 l19[4]? fun x30 =>
  C0.bool (pcall M d 25 [(.agg [(.zsl z21),(iz x27),(iz x28),(iz x29),(iz x30)])]) fun b31 =>
  cnd (!b31)
  (E10_0 d a0 a1 a2 a3 a4 a5 a6 a7 a8 2)
  (L10_0 d a0 a1 a2 a3 a4 a5 a6 a7 a8 n (IntKind.wrap .i64 (x4+1)))))
  (none))
  (X10_0_0 d a0 a1 a2 a3 a4 a5 a6 a7 a8)
theorem L10_0_s (d:Nat) (a0:List AV) (a1 a2 a3 a4 a5 a6 a7 a8:Int) (n:Nat) (x4:Int):L10_0 d a0 a1 a2 a3 a4 a5 a6 a7 a8 (n+1) x4=(cnd (decide (x4 < (((List.length a0):Nat):Int)))
 (cnd (decide ((0:Int)≤x4))
 (C0.agg 5 a0[(Int.toNat x4)]? fun l19 =>
 C0.lst l19[0]? (fun l20 =>
 C0.int .i64 l19[1]? fun x22 =>
 C0.int .i64 l19[2]? fun x23 =>
 C0.int .i64 l19[3]? fun x24 =>
 C0.int .i64 l19[4]? fun x25 =>
 C0.bool (pcall M d 25 [(.agg [(.lst l20),(iz x22),(iz x23),(iz x24),(iz x25)])]) fun b26 =>
 cnd (!b26)
 (E10_0 d a0 a1 a2 a3 a4 a5 a6 a7 a8 2)
 (L10_0 d a0 a1 a2 a3 a4 a5 a6 a7 a8 n (IntKind.wrap .i64 (x4+1))))
   (fun z21 =>
 C0.int .i64 l19[1]? fun x27 =>
 C0.int .i64 l19[2]? fun x28 =>
 C0.int .i64 l19[3]? fun x29 =>
 C0.int .i64 l19[4]? fun x30 =>
 C0.bool (pcall M d 25 [(.agg [(.zsl z21),(iz x27),(iz x28),(iz x29),(iz x30)])]) fun b31 =>
 cnd (!b31)
 (E10_0 d a0 a1 a2 a3 a4 a5 a6 a7 a8 2)
 (L10_0 d a0 a1 a2 a3 a4 a5 a6 a7 a8 n (IntKind.wrap .i64 (x4+1)))))
 (none))
 (X10_0_0 d a0 a1 a2 a3 a4 a5 a6 a7 a8)):=by kernel_rfl
theorem it10_0 (d:Nat) (a0:List AV) (a1 a2 a3 a4 a5 a6 a7 a8:Int)  :∀ (n:Nat) (x3 x4:Int) (v5 v6 v7 v8 v9 v10 v11 v12 v13 v14 v15 v16 v17 v18:AV),C0.iter (r10R0 C0 d a0 a1 a2 a3 a4 a5 a6 a7 a8) n ⟨[(.agg [(.lst a0),(iz a1),(iz a2),(iz a3),(iz a4),(iz a5),(iz a6),(iz a7),(iz a8)]),(.ptr 0 0 0),(iz x3),(iz x4),(.ptr 0 0 0),(.lst a0),(iz (((List.length a0):Nat):Int)),(.bool (decide ((((List.length a0):Nat):Int) < 1))),bf,(.ptr 0 0 0),(.lst a0),(iz (((List.length a0):Nat):Int)),(.bool (decide ((((List.length a0):Nat):Int) > 4))),bf,v5,v6,v7,v8,v9,v10,v11,v12,v13,v14,v15,v16,v17,v18,tz,tz,tz,tz,tz,tz,tz,tz,tz,tz,tz,tz,tz,tz,tz,tz,tz,tz,tz,tz,tz,tz,tz,tz,tz,tz,tz,tz,tz,tz,tz,tz,tz,tz,tz,tz,tz,tz,tz,tz,tz,tz,tz,tz,tz],[some ⟨E24,[(.agg [(.lst a0),(iz a1),(iz a2),(iz a3),(iz a4),(iz a5),(iz a6),(iz a7),(iz a8)])]⟩]⟩ [0] [r10X0_0 C0 d a0 a1 a2 a3 a4 a5 a6 a7 a8] (r10E0 C0 d a0 a1 a2 a3 a4 a5 a6 a7 a8)=L10_0 d a0 a1 a2 a3 a4 a5 a6 a7 a8 n x4:=by
 generalize hR:r10R0 C0 d a0 a1 a2 a3 a4 a5 a6 a7 a8=R
 intro n
 induction n with
 | zero=>intros; rfl
 | succ n ih =>
   intro x3 x4 v5 v6 v7 v8 v9 v10 v11 v12 v13 v14 v15 v16 v17 v18
   simp only [it_ret] at ih
   rw [it_ret,xiter_s]
   refine Eq.trans (congrFun (congrFun hR.symm _) _) ?_
   unfold r10R0
   refine Eq.trans (pl_len (by rfl)) ?_; refine yt ySs ?_; (iterate 2 (refine yt yI ?_)); refine yt ySs ?_; refine yt yAs ?_; (iterate 9 (refine yt yA ?_)); refine yt ySs ?_; refine Eq.trans (pl_sameH) ?_
   simp only [kIter_n,kIter_x,kIter_r,kOut_x,kOut_r,xgo_hit,xgo_miss,ih,X10_0_0_ok d a0 a1 a2 a3 a4 a5 a6 a7 a8  ,E10_0_ok d a0 a1 a2 a3 a4 a5 a6 a7 a8  ]
   exact (L10_0_s d a0 a1 a2 a3 a4 a5 a6 a7 a8 n x4).symm
theorem q10 (d:Nat) (a0:List AV) (a1 a2 a3 a4 a5 a6 a7 a8:Int):xcall C0 M unr d 10 [(.agg [(.lst a0),(iz a1),(iz a2),(iz a3),(iz a4),(iz a5),(iz a6),(iz a7),(iz a8)])] =
 cnd (decide ((((List.length a0):Nat):Int) < 1))
  (some (iz 1))
  (cnd (decide ((((List.length a0):Nat):Int) > 4))
  (some (iz 1))
  (L10_0 d a0 a1 a2 a3 a4 a5 a6 a7 a8 10000000000000000000 0)):=(r10 C0 d a0 a1 a2 a3 a4 a5 a6 a7 a8).trans (by simp only [it10_0])
noncomputable def X23_0_0 (d:Nat) (n0:Nat) (K0:AV→Heap→Ans) (v0 v2:AV) (x19:Int) (H:Heap):Ans :=
 C0.hop H (.load true 9 (.v v0)) fun v81 h82 =>
  C0.agg 9 (some v81) fun l83 =>
  C0.any l83[0]? fun v84 =>
  C0.int .i64 l83[1]? fun x85 =>
  C0.int .i64 l83[2]? fun x86 =>
  C0.int .i64 l83[3]? fun x87 =>
  C0.int .i64 l83[4]? fun x88 =>
  C0.int .i64 l83[5]? fun x89 =>
  C0.int .i64 l83[6]? fun x90 =>
  C0.int .i64 l83[7]? fun x91 =>
  C0.int .i64 l83[8]? fun x92 =>
  C0.hop h82 (.store 9 (.v v2) (.v (.agg [v84,(iz x85),(iz x86),(iz x87),(iz x88),(iz x89),(iz x90),(iz x91),(iz x92)]))) fun v93 h94 =>
  C0.hop h94 (.load true 9 (.v v2)) fun v95 h96 =>
   K0 v95 h94
theorem X23_0_0_ok (d:Nat) (a0:AV) (a1 a2 a3 a4 a5 a6 a7 a8:Int) (n0:Nat) (K0:AV→Heap→Ans) (v0 v2 v4 v6 v9 v13 v15:AV) (x19:Int) (v64:AV) (x65:Int) (v66 v67 v68 v69 v70 v71 v72 v73 v74 v75 v76 v77 v78 v79 v80:AV) (H:Heap):r23X0_0 C0 d a0 a1 a2 a3 a4 a5 a6 a7 a8 n0 K0 v0 v2 v4 v6 v9 v13 v15 x19 ⟨[(.agg [a0,(iz a1),(iz a2),(iz a3),(iz a4),(iz a5),(iz a6),(iz a7),(iz a8)]),v0,v2,v64,v4,v6,(.lst []),v9,v13,v15,(iz x19),(iz x65),v66,v67,v68,v69,v70,v71,v72,v73,v74,v75,v76,v77,v78,v79,v80,tz],H⟩=X23_0_0 d n0 K0 v0 v2 x19 H:=by
 unfold r23X0_0; refine Eq.trans (pl_len (by rfl)) ?_; refine yt ySs ?_; refine yt yA ?_; refine yt ySs ?_; refine yt yI ?_; refine yt yAs ?_; refine yt yS ?_
 rfl
noncomputable def L23_0 (d:Nat) (n0:Nat) (K0:AV→Heap→Ans) (v0 v2:AV) (x19:Int):Nat→Int→Heap→Ans
 | 0,_,_=>none
 | n+1,x24,H =>
 cnd (decide (x24 < x19))
  (C0.hop H (.fldA 0 (.v v0)) fun v40 h41 =>
  C0.hop h41 (.load false 1 (.v v40)) fun v42 h43 =>
  C0.hop h43 (.fldA 0 (.v v0)) fun v44 h45 =>
  C0.hop h45 (.load false 1 (.v v44)) fun v46 h47 =>
  C0.hop h47 (.ixAS .any 5 (.v v46) (.v (iz x24))) fun v48 h49 =>
  C0.hop h49 (.fldA 0 (.v v48)) fun v50 h51 =>
  C0.hop h51 (.load false 1 (.v v50)) fun v52 h53 =>
  C0.cal M (pcall M d) (n0+8) false 35 [v52] h53 fun v54 h55 =>
  C0.any (some v54) fun v56 =>
  C0.hop h55 (.ixAS .any 5 (.v v42) (.v (iz x24))) fun v57 h58 =>
  C0.hop h58 (.fldA 0 (.v v57)) fun v59 h60 =>
  C0.hop h60 (.store 1 (.v v59) (.v v56)) fun v61 h62 =>
  L23_0 d n0 K0 v0 v2 x19 n (IntKind.wrap .i64 (x24+1)) h62)
  (X23_0_0 d n0 K0 v0 v2 x19 H)
theorem L23_0_s (d:Nat) (n0:Nat) (K0:AV→Heap→Ans) (v0 v2:AV) (x19:Int) (n:Nat) (x24:Int) (H:Heap):L23_0 d n0 K0 v0 v2 x19 (n+1) x24 H=(cnd (decide (x24 < x19))
 (C0.hop H (.fldA 0 (.v v0)) fun v40 h41 =>
 C0.hop h41 (.load false 1 (.v v40)) fun v42 h43 =>
 C0.hop h43 (.fldA 0 (.v v0)) fun v44 h45 =>
 C0.hop h45 (.load false 1 (.v v44)) fun v46 h47 =>
 C0.hop h47 (.ixAS .any 5 (.v v46) (.v (iz x24))) fun v48 h49 =>
 C0.hop h49 (.fldA 0 (.v v48)) fun v50 h51 =>
 C0.hop h51 (.load false 1 (.v v50)) fun v52 h53 =>
 C0.cal M (pcall M d) (n0+8) false 35 [v52] h53 fun v54 h55 =>
 C0.any (some v54) fun v56 =>
 C0.hop h55 (.ixAS .any 5 (.v v42) (.v (iz x24))) fun v57 h58 =>
 C0.hop h58 (.fldA 0 (.v v57)) fun v59 h60 =>
 C0.hop h60 (.store 1 (.v v59) (.v v56)) fun v61 h62 =>
 L23_0 d n0 K0 v0 v2 x19 n (IntKind.wrap .i64 (x24+1)) h62)
 (X23_0_0 d n0 K0 v0 v2 x19 H)):=by kernel_rfl
theorem it23_0 (d:Nat) (a0:AV) (a1 a2 a3 a4 a5 a6 a7 a8:Int) (n0:Nat) (K0:AV→Heap→Ans) (v0 v2 v4 v6 v9 v13 v15:AV) (x19:Int)  :∀ (n:Nat) (v23:AV) (x24:Int) (v25 v26 v27 v28 v29 v30 v31 v32 v33 v34 v35 v36 v37 v38 v39:AV) (H:Heap),C0.iter (r23R0 C0 d a0 a1 a2 a3 a4 a5 a6 a7 a8 n0 K0 v0 v2 v4 v6 v9 v13 v15 x19) n ⟨[(.agg [a0,(iz a1),(iz a2),(iz a3),(iz a4),(iz a5),(iz a6),(iz a7),(iz a8)]),v0,v2,v23,v4,v6,(.lst []),v9,v13,v15,(iz x19),(iz x24),v25,v26,v27,v28,v29,v30,v31,v32,v33,v34,v35,v36,v37,v38,v39,tz],H⟩ [0] [r23X0_0 C0 d a0 a1 a2 a3 a4 a5 a6 a7 a8 n0 K0 v0 v2 v4 v6 v9 v13 v15 x19] (r23E0 C0 d a0 a1 a2 a3 a4 a5 a6 a7 a8 n0 K0 v0 v2 v4 v6 v9 v13 v15 x19)=L23_0 d n0 K0 v0 v2 x19 n x24 H:=by
 generalize hR:r23R0 C0 d a0 a1 a2 a3 a4 a5 a6 a7 a8 n0 K0 v0 v2 v4 v6 v9 v13 v15 x19=R
 intro n
 induction n with
 | zero=>intros; rfl
 | succ n ih =>
   intro v23 x24 v25 v26 v27 v28 v29 v30 v31 v32 v33 v34 v35 v36 v37 v38 v39 H
   simp only [it_ret] at ih
   rw [it_ret,xiter_s]
   refine Eq.trans (congrFun (congrFun hR.symm _) _) ?_
   unfold r23R0
   refine Eq.trans (pl_len (by rfl)) ?_; refine yt ySs ?_; refine yt yA ?_; refine yt ySs ?_; refine yt yI ?_; (iterate 15 (refine yt yA ?_)); refine yt yS ?_
   simp only [kIter_n,kIter_x,kIter_r,kOut_x,kOut_r,xgo_hit,xgo_miss,ih,X23_0_0_ok d a0 a1 a2 a3 a4 a5 a6 a7 a8 n0 K0 v0 v2 v4 v6 v9 v13 v15 x19  ]
   exact (L23_0_s d n0 K0 v0 v2 x19 n x24 H).symm
noncomputable def X23_2_0 (d:Nat) (n0:Nat) (K0:AV→Heap→Ans) (v0 v2:AV) (x129:Int) (H:Heap):Ans :=
 C0.hop H (.load true 9 (.v v0)) fun v191 h192 =>
  C0.agg 9 (some v191) fun l193 =>
  C0.any l193[0]? fun v194 =>
  C0.int .i64 l193[1]? fun x195 =>
  C0.int .i64 l193[2]? fun x196 =>
  C0.int .i64 l193[3]? fun x197 =>
  C0.int .i64 l193[4]? fun x198 =>
  C0.int .i64 l193[5]? fun x199 =>
  C0.int .i64 l193[6]? fun x200 =>
  C0.int .i64 l193[7]? fun x201 =>
  C0.int .i64 l193[8]? fun x202 =>
  C0.hop h192 (.store 9 (.v v2) (.v (.agg [v194,(iz x195),(iz x196),(iz x197),(iz x198),(iz x199),(iz x200),(iz x201),(iz x202)]))) fun v203 h204 =>
  C0.hop h204 (.load true 9 (.v v2)) fun v205 h206 =>
   K0 v205 h204
theorem X23_2_0_ok (d:Nat) (a0:AV) (a1 a2 a3 a4 a5 a6 a7 a8:Int) (n0:Nat) (K0:AV→Heap→Ans) (v0 v2 v4 v6 v119 v123 v125:AV) (x129:Int) (v174:AV) (x175:Int) (v176 v177 v178 v179 v180 v181 v182 v183 v184 v185 v186 v187 v188 v189 v190:AV) (H:Heap):r23X2_0 C0 d a0 a1 a2 a3 a4 a5 a6 a7 a8 n0 K0 v0 v2 v4 v6 v119 v123 v125 x129 ⟨[(.agg [a0,(iz a1),(iz a2),(iz a3),(iz a4),(iz a5),(iz a6),(iz a7),(iz a8)]),v0,v2,v174,v4,v6,(.zsl true),v119,v123,v125,(iz x129),(iz x175),v176,v177,v178,v179,v180,v181,v182,v183,v184,v185,v186,v187,v188,v189,v190,tz],H⟩=X23_2_0 d n0 K0 v0 v2 x129 H:=by
 unfold r23X2_0; refine Eq.trans (pl_len (by rfl)) ?_; refine yt ySs ?_; refine yt yA ?_; refine yt ySs ?_; refine yt yI ?_; refine yt yAs ?_; refine yt yS ?_
 rfl
noncomputable def L23_2 (d:Nat) (n0:Nat) (K0:AV→Heap→Ans) (v0 v2:AV) (x129:Int):Nat→Int→Heap→Ans
 | 0,_,_=>none
 | n+1,x134,H =>
 cnd (decide (x134 < x129))
  (C0.hop H (.fldA 0 (.v v0)) fun v150 h151 =>
  C0.hop h151 (.load false 1 (.v v150)) fun v152 h153 =>
  C0.hop h153 (.fldA 0 (.v v0)) fun v154 h155 =>
  C0.hop h155 (.load false 1 (.v v154)) fun v156 h157 =>
  C0.hop h157 (.ixAS .any 5 (.v v156) (.v (iz x134))) fun v158 h159 =>
  C0.hop h159 (.fldA 0 (.v v158)) fun v160 h161 =>
  C0.hop h161 (.load false 1 (.v v160)) fun v162 h163 =>
  C0.cal M (pcall M d) (n0+8) false 35 [v162] h163 fun v164 h165 =>
  C0.any (some v164) fun v166 =>
  C0.hop h165 (.ixAS .any 5 (.v v152) (.v (iz x134))) fun v167 h168 =>
  C0.hop h168 (.fldA 0 (.v v167)) fun v169 h170 =>
  C0.hop h170 (.store 1 (.v v169) (.v v166)) fun v171 h172 =>
  L23_2 d n0 K0 v0 v2 x129 n (IntKind.wrap .i64 (x134+1)) h172)
  (X23_2_0 d n0 K0 v0 v2 x129 H)
theorem L23_2_s (d:Nat) (n0:Nat) (K0:AV→Heap→Ans) (v0 v2:AV) (x129:Int) (n:Nat) (x134:Int) (H:Heap):L23_2 d n0 K0 v0 v2 x129 (n+1) x134 H=(cnd (decide (x134 < x129))
 (C0.hop H (.fldA 0 (.v v0)) fun v150 h151 =>
 C0.hop h151 (.load false 1 (.v v150)) fun v152 h153 =>
 C0.hop h153 (.fldA 0 (.v v0)) fun v154 h155 =>
 C0.hop h155 (.load false 1 (.v v154)) fun v156 h157 =>
 C0.hop h157 (.ixAS .any 5 (.v v156) (.v (iz x134))) fun v158 h159 =>
 C0.hop h159 (.fldA 0 (.v v158)) fun v160 h161 =>
 C0.hop h161 (.load false 1 (.v v160)) fun v162 h163 =>
 C0.cal M (pcall M d) (n0+8) false 35 [v162] h163 fun v164 h165 =>
 C0.any (some v164) fun v166 =>
 C0.hop h165 (.ixAS .any 5 (.v v152) (.v (iz x134))) fun v167 h168 =>
 C0.hop h168 (.fldA 0 (.v v167)) fun v169 h170 =>
 C0.hop h170 (.store 1 (.v v169) (.v v166)) fun v171 h172 =>
 L23_2 d n0 K0 v0 v2 x129 n (IntKind.wrap .i64 (x134+1)) h172)
 (X23_2_0 d n0 K0 v0 v2 x129 H)):=by kernel_rfl
theorem it23_2 (d:Nat) (a0:AV) (a1 a2 a3 a4 a5 a6 a7 a8:Int) (n0:Nat) (K0:AV→Heap→Ans) (v0 v2 v4 v6 v119 v123 v125:AV) (x129:Int)  :∀ (n:Nat) (v133:AV) (x134:Int) (v135 v136 v137 v138 v139 v140 v141 v142 v143 v144 v145 v146 v147 v148 v149:AV) (H:Heap),C0.iter (r23R2 C0 d a0 a1 a2 a3 a4 a5 a6 a7 a8 n0 K0 v0 v2 v4 v6 v119 v123 v125 x129) n ⟨[(.agg [a0,(iz a1),(iz a2),(iz a3),(iz a4),(iz a5),(iz a6),(iz a7),(iz a8)]),v0,v2,v133,v4,v6,(.zsl true),v119,v123,v125,(iz x129),(iz x134),v135,v136,v137,v138,v139,v140,v141,v142,v143,v144,v145,v146,v147,v148,v149,tz],H⟩ [0] [r23X2_0 C0 d a0 a1 a2 a3 a4 a5 a6 a7 a8 n0 K0 v0 v2 v4 v6 v119 v123 v125 x129] (r23E2 C0 d a0 a1 a2 a3 a4 a5 a6 a7 a8 n0 K0 v0 v2 v4 v6 v119 v123 v125 x129)=L23_2 d n0 K0 v0 v2 x129 n x134 H:=by
 generalize hR:r23R2 C0 d a0 a1 a2 a3 a4 a5 a6 a7 a8 n0 K0 v0 v2 v4 v6 v119 v123 v125 x129=R
 intro n
 induction n with
 | zero=>intros; rfl
 | succ n ih =>
   intro v133 x134 v135 v136 v137 v138 v139 v140 v141 v142 v143 v144 v145 v146 v147 v148 v149 H
   simp only [it_ret] at ih
   rw [it_ret,xiter_s]
   refine Eq.trans (congrFun (congrFun hR.symm _) _) ?_
   unfold r23R2
   refine Eq.trans (pl_len (by rfl)) ?_; refine yt ySs ?_; refine yt yA ?_; refine yt ySs ?_; refine yt yI ?_; (iterate 15 (refine yt yA ?_)); refine yt yS ?_
   simp only [kIter_n,kIter_x,kIter_r,kOut_x,kOut_r,xgo_hit,xgo_miss,ih,X23_2_0_ok d a0 a1 a2 a3 a4 a5 a6 a7 a8 n0 K0 v0 v2 v4 v6 v119 v123 v125 x129  ]
   exact (L23_2_s d n0 K0 v0 v2 x129 n x134 H).symm
noncomputable def X23_4_0 (d:Nat) (n0:Nat) (K0:AV→Heap→Ans) (v0 v2:AV) (x240:Int) (H:Heap):Ans :=
 C0.hop H (.load true 9 (.v v0)) fun v302 h303 =>
  C0.agg 9 (some v302) fun l304 =>
  C0.any l304[0]? fun v305 =>
  C0.int .i64 l304[1]? fun x306 =>
  C0.int .i64 l304[2]? fun x307 =>
  C0.int .i64 l304[3]? fun x308 =>
  C0.int .i64 l304[4]? fun x309 =>
  C0.int .i64 l304[5]? fun x310 =>
  C0.int .i64 l304[6]? fun x311 =>
  C0.int .i64 l304[7]? fun x312 =>
  C0.int .i64 l304[8]? fun x313 =>
  C0.hop h303 (.store 9 (.v v2) (.v (.agg [v305,(iz x306),(iz x307),(iz x308),(iz x309),(iz x310),(iz x311),(iz x312),(iz x313)]))) fun v314 h315 =>
  C0.hop h315 (.load true 9 (.v v2)) fun v316 h317 =>
   K0 v316 h315
theorem X23_4_0_ok (d:Nat) (a0:AV) (a1 a2 a3 a4 a5 a6 a7 a8:Int) (n0:Nat) (K0:AV→Heap→Ans) (v0 v2 v4 v6 v228 v230 v234 v236:AV) (x240:Int) (v285:AV) (x286:Int) (v287 v288 v289 v290 v291 v292 v293 v294 v295 v296 v297 v298 v299 v300 v301:AV) (H:Heap):r23X4_0 C0 d a0 a1 a2 a3 a4 a5 a6 a7 a8 n0 K0 v0 v2 v4 v6 v228 v230 v234 v236 x240 ⟨[(.agg [a0,(iz a1),(iz a2),(iz a3),(iz a4),(iz a5),(iz a6),(iz a7),(iz a8)]),v0,v2,v285,v4,v6,v228,v230,v234,v236,(iz x240),(iz x286),v287,v288,v289,v290,v291,v292,v293,v294,v295,v296,v297,v298,v299,v300,v301,tz],H⟩=X23_4_0 d n0 K0 v0 v2 x240 H:=by
 unfold r23X4_0; refine Eq.trans (pl_len (by rfl)) ?_; refine yt ySs ?_; refine yt yA ?_; refine yt ySs ?_; refine yt yI ?_; refine yt yAs ?_; refine yt yS ?_
 rfl
noncomputable def L23_4 (d:Nat) (n0:Nat) (K0:AV→Heap→Ans) (v0 v2:AV) (x240:Int):Nat→Int→Heap→Ans
 | 0,_,_=>none
 | n+1,x245,H =>
 cnd (decide (x245 < x240))
  (C0.hop H (.fldA 0 (.v v0)) fun v261 h262 =>
  C0.hop h262 (.load false 1 (.v v261)) fun v263 h264 =>
  C0.hop h264 (.fldA 0 (.v v0)) fun v265 h266 =>
  C0.hop h266 (.load false 1 (.v v265)) fun v267 h268 =>
  C0.hop h268 (.ixAS .any 5 (.v v267) (.v (iz x245))) fun v269 h270 =>
  C0.hop h270 (.fldA 0 (.v v269)) fun v271 h272 =>
  C0.hop h272 (.load false 1 (.v v271)) fun v273 h274 =>
  C0.cal M (pcall M d) (n0+8) false 35 [v273] h274 fun v275 h276 =>
  C0.any (some v275) fun v277 =>
  C0.hop h276 (.ixAS .any 5 (.v v263) (.v (iz x245))) fun v278 h279 =>
  C0.hop h279 (.fldA 0 (.v v278)) fun v280 h281 =>
  C0.hop h281 (.store 1 (.v v280) (.v v277)) fun v282 h283 =>
  L23_4 d n0 K0 v0 v2 x240 n (IntKind.wrap .i64 (x245+1)) h283)
  (X23_4_0 d n0 K0 v0 v2 x240 H)
theorem L23_4_s (d:Nat) (n0:Nat) (K0:AV→Heap→Ans) (v0 v2:AV) (x240:Int) (n:Nat) (x245:Int) (H:Heap):L23_4 d n0 K0 v0 v2 x240 (n+1) x245 H=(cnd (decide (x245 < x240))
 (C0.hop H (.fldA 0 (.v v0)) fun v261 h262 =>
 C0.hop h262 (.load false 1 (.v v261)) fun v263 h264 =>
 C0.hop h264 (.fldA 0 (.v v0)) fun v265 h266 =>
 C0.hop h266 (.load false 1 (.v v265)) fun v267 h268 =>
 C0.hop h268 (.ixAS .any 5 (.v v267) (.v (iz x245))) fun v269 h270 =>
 C0.hop h270 (.fldA 0 (.v v269)) fun v271 h272 =>
 C0.hop h272 (.load false 1 (.v v271)) fun v273 h274 =>
 C0.cal M (pcall M d) (n0+8) false 35 [v273] h274 fun v275 h276 =>
 C0.any (some v275) fun v277 =>
 C0.hop h276 (.ixAS .any 5 (.v v263) (.v (iz x245))) fun v278 h279 =>
 C0.hop h279 (.fldA 0 (.v v278)) fun v280 h281 =>
 C0.hop h281 (.store 1 (.v v280) (.v v277)) fun v282 h283 =>
 L23_4 d n0 K0 v0 v2 x240 n (IntKind.wrap .i64 (x245+1)) h283)
 (X23_4_0 d n0 K0 v0 v2 x240 H)):=by kernel_rfl
theorem it23_4 (d:Nat) (a0:AV) (a1 a2 a3 a4 a5 a6 a7 a8:Int) (n0:Nat) (K0:AV→Heap→Ans) (v0 v2 v4 v6 v228 v230 v234 v236:AV) (x240:Int)  :∀ (n:Nat) (v244:AV) (x245:Int) (v246 v247 v248 v249 v250 v251 v252 v253 v254 v255 v256 v257 v258 v259 v260:AV) (H:Heap),C0.iter (r23R4 C0 d a0 a1 a2 a3 a4 a5 a6 a7 a8 n0 K0 v0 v2 v4 v6 v228 v230 v234 v236 x240) n ⟨[(.agg [a0,(iz a1),(iz a2),(iz a3),(iz a4),(iz a5),(iz a6),(iz a7),(iz a8)]),v0,v2,v244,v4,v6,v228,v230,v234,v236,(iz x240),(iz x245),v246,v247,v248,v249,v250,v251,v252,v253,v254,v255,v256,v257,v258,v259,v260,tz],H⟩ [0] [r23X4_0 C0 d a0 a1 a2 a3 a4 a5 a6 a7 a8 n0 K0 v0 v2 v4 v6 v228 v230 v234 v236 x240] (r23E4 C0 d a0 a1 a2 a3 a4 a5 a6 a7 a8 n0 K0 v0 v2 v4 v6 v228 v230 v234 v236 x240)=L23_4 d n0 K0 v0 v2 x240 n x245 H:=by
 generalize hR:r23R4 C0 d a0 a1 a2 a3 a4 a5 a6 a7 a8 n0 K0 v0 v2 v4 v6 v228 v230 v234 v236 x240=R
 intro n
 induction n with
 | zero=>intros; rfl
 | succ n ih =>
   intro v244 x245 v246 v247 v248 v249 v250 v251 v252 v253 v254 v255 v256 v257 v258 v259 v260 H
   simp only [it_ret] at ih
   rw [it_ret,xiter_s]
   refine Eq.trans (congrFun (congrFun hR.symm _) _) ?_
   unfold r23R4
   refine Eq.trans (pl_len (by rfl)) ?_; refine yt ySs ?_; refine yt yA ?_; refine yt ySs ?_; refine yt yI ?_; (iterate 15 (refine yt yA ?_)); refine yt yS ?_
   simp only [kIter_n,kIter_x,kIter_r,kOut_x,kOut_r,xgo_hit,xgo_miss,ih,X23_4_0_ok d a0 a1 a2 a3 a4 a5 a6 a7 a8 n0 K0 v0 v2 v4 v6 v228 v230 v234 v236 x240  ]
   exact (L23_4_s d n0 K0 v0 v2 x240 n x245 H).symm
theorem q23 (d:Nat) (a0:AV) (a1 a2 a3 a4 a5 a6 a7 a8:Int) (n0:Nat) (H0:Heap) (K0:AV→Heap→Ans):xmeth C0 M unr d (n0+8) 23 [(.agg [a0,(iz a1),(iz a2),(iz a3),(iz a4),(iz a5),(iz a6),(iz a7),(iz a8)])] H0 K0 =
 C0.hop H0 (.box E24 (.v (.agg [a0,(iz a1),(iz a2),(iz a3),(iz a4),(iz a5),(iz a6),(iz a7),(iz a8)]))) fun v0 h1 =>
 C0.hop h1 (.alloc E24) fun v2 h3 =>
 C0.hop h3 (.fldA 0 (.v v0)) fun v4 h5 =>
 C0.hop h5 (.load false 1 (.v v4)) fun v6 h7 =>
 C0.bool (clr v6) fun b8 =>
 cnd b8
  (C0.same (emptyQ (pcall M d) 34) (.lst []) <|
  C0.hop h7 (.fldA 0 (.v v0)) fun v9 h10 =>
  C0.hop h10 (.store 1 (.v v9) (.v (.lst []))) fun v11 h12 =>
  C0.hop h12 (.fldA 0 (.v v0)) fun v13 h14 =>
  C0.hop h14 (.load false 1 (.v v13)) fun v15 h16 =>
  C0.hop h16 (.bk .lenV [(.v v15)]) fun v17 h18 =>
  C0.int .i64 (some v17) fun x19 =>
  L23_0 d n0 K0 v0 v2 x19 10000000000000000000 0 h18)
  (C0.hop h7 (.eqv false 2 [] (.v v6) (.v (.zsl true))) fun v116 h117 =>
  C0.bool (some v116) fun b118 =>
  cnd b118
  (C0.hop h117 (.fldA 0 (.v v0)) fun v119 h120 =>
  C0.hop h120 (.store 1 (.v v119) (.v (.zsl true))) fun v121 h122 =>
  C0.hop h122 (.fldA 0 (.v v0)) fun v123 h124 =>
  C0.hop h124 (.load false 1 (.v v123)) fun v125 h126 =>
  C0.hop h126 (.bk .lenV [(.v v125)]) fun v127 h128 =>
  C0.int .i64 (some v127) fun x129 =>
  L23_2 d n0 K0 v0 v2 x129 10000000000000000000 0 h128)
  (C0.hop h117 (.mkrow E43 0 []) fun v226 h227 =>
  C0.hop h227 (.app E43 (.v v226) (.v v6)) fun v228 h229 =>
  C0.hop h229 (.fldA 0 (.v v0)) fun v230 h231 =>
  C0.hop h231 (.store 1 (.v v230) (.v v228)) fun v232 h233 =>
  C0.hop h233 (.fldA 0 (.v v0)) fun v234 h235 =>
  C0.hop h235 (.load false 1 (.v v234)) fun v236 h237 =>
  C0.hop h237 (.bk .lenV [(.v v236)]) fun v238 h239 =>
  C0.int .i64 (some v238) fun x240 =>
  L23_4 d n0 K0 v0 v2 x240 10000000000000000000 0 h239)):=(r23 C0 d a0 a1 a2 a3 a4 a5 a6 a7 a8 n0 H0 K0).trans (by simp only [it23_0,it23_2,it23_4])
noncomputable def X50f42_0_0 (d:Nat) (a0:List AV) :Ans :=
 some (iz (-1))
theorem X50f42_0_0_ok (d:Nat) (a0:List AV) (x30:Int) (v31:AV) (x32:Int) (v33 v34 v35 v36 v37 v38 v39 v40 v41 v42:AV):r50f42X0_0 C0 d a0 ⟨[(.lst a0),(.fn 42 [] []),tz,tz,(iz x30),v31,(.lst a0),(iz (((List.length a0):Nat):Int)),(iz x32),v33,v34,v35,v36,v37,v38,v39,v40,v41,v42],[]⟩=X50f42_0_0 d a0 :=by
 unfold r50f42X0_0; refine Eq.trans (pl_len (by rfl)) ?_; refine yt ySs ?_; refine yt yI ?_; refine yt yA ?_; refine yt ySs ?_; refine yt yI ?_; refine yt yAs ?_; refine Eq.trans (pl_sameH) ?_
 rfl
noncomputable def E50f42_0 (d:Nat) (a0:List AV) (x43:Int):Ans :=
 some (iz x43)
theorem E50f42_0_ok (d:Nat) (a0:List AV) (x43 x44 x45:Int) (v46:AV) (x47:Int) (v48 v49:AV) (x50:Int) (v51 v53:AV) (x54 x55 x56 x57:Int) (b58:Bool) (x59:Int) (v60:AV):r50f42E0 C0 d a0 ⟨[(.lst a0),(.fn 42 [] []),tz,tz,(iz x43),(iz x44),(.lst a0),(iz (((List.length a0):Nat):Int)),(iz x45),v46,(iz x47),v48,v49,(iz x50),v51,(.agg [v53,(iz x54),(iz x55),(iz x56),(iz x57)]),(.bool b58),(iz x59),v60],[]⟩=E50f42_0 d a0 x43:=by
 unfold r50f42E0; refine Eq.trans (pl_len (by rfl)) ?_; refine yt ySs ?_; (iterate 2 (refine yt yI ?_)); refine yt ySs ?_; refine yt yI ?_; refine yt yA ?_; refine yt yI ?_; refine yt yAs ?_; refine yt yI ?_; refine yt yA ?_; refine yt yG ?_; refine yt yA ?_; (iterate 4 (refine yt yI ?_)); refine yt yB ?_; refine yt yI ?_; refine yt yA ?_; refine Eq.trans (pl_sameH) ?_
 rfl
noncomputable def L50f42_0 (d:Nat) (a0:List AV):Nat→Int→Ans
 | 0,_=>none
 | n+1,x5 =>
 cnd (decide (x5 < (((List.length a0):Nat):Int)))
  (cnd (decide ((0:Int)≤x5))
  (C0.agg 5 a0[(Int.toNat x5)]? fun l16 =>
  C0.lst l16[0]? (fun l17 =>
  C0.int .i64 l16[1]? fun x19 =>
  C0.int .i64 l16[2]? fun x20 =>
  C0.int .i64 l16[3]? fun x21 =>
  C0.int .i64 l16[4]? fun x22 =>
  C0.bool (pcall M d 42 [(.agg [(.lst l17),(iz x19),(iz x20),(iz x21),(iz x22)])]) fun b23 =>
  cnd b23
  (E50f42_0 d a0 x5)
  (L50f42_0 d a0 n (IntKind.wrap .i64 (x5+1))))
    (fun z18 =>
  C0.int .i64 l16[1]? fun x24 =>
  C0.int .i64 l16[2]? fun x25 =>
  C0.int .i64 l16[3]? fun x26 =>
  C0.int .i64 l16[4]? fun x27 =>
  C0.bool (pcall M d 42 [(.agg [(.zsl z18),(iz x24),(iz x25),(iz x26),(iz x27)])]) fun b28 =>
  cnd b28
  (E50f42_0 d a0 x5)
  (L50f42_0 d a0 n (IntKind.wrap .i64 (x5+1)))))
  (none))
  (X50f42_0_0 d a0)
theorem L50f42_0_s (d:Nat) (a0:List AV) (n:Nat) (x5:Int):L50f42_0 d a0 (n+1) x5=(cnd (decide (x5 < (((List.length a0):Nat):Int)))
 (cnd (decide ((0:Int)≤x5))
 (C0.agg 5 a0[(Int.toNat x5)]? fun l16 =>
 C0.lst l16[0]? (fun l17 =>
 C0.int .i64 l16[1]? fun x19 =>
 C0.int .i64 l16[2]? fun x20 =>
 C0.int .i64 l16[3]? fun x21 =>
 C0.int .i64 l16[4]? fun x22 =>
 C0.bool (pcall M d 42 [(.agg [(.lst l17),(iz x19),(iz x20),(iz x21),(iz x22)])]) fun b23 =>
 cnd b23
 (E50f42_0 d a0 x5)
 (L50f42_0 d a0 n (IntKind.wrap .i64 (x5+1))))
   (fun z18 =>
 C0.int .i64 l16[1]? fun x24 =>
 C0.int .i64 l16[2]? fun x25 =>
 C0.int .i64 l16[3]? fun x26 =>
 C0.int .i64 l16[4]? fun x27 =>
 C0.bool (pcall M d 42 [(.agg [(.zsl z18),(iz x24),(iz x25),(iz x26),(iz x27)])]) fun b28 =>
 cnd b28
 (E50f42_0 d a0 x5)
 (L50f42_0 d a0 n (IntKind.wrap .i64 (x5+1)))))
 (none))
 (X50f42_0_0 d a0)):=by kernel_rfl
theorem it50f42_0 (d:Nat) (a0:List AV)  :∀ (n:Nat) (x3:Int) (v4:AV) (x5:Int) (v6 v7 v8 v9 v10 v11 v12 v13 v14 v15:AV),C0.iter (r50f42R0 C0 d a0) n ⟨[(.lst a0),(.fn 42 [] []),tz,tz,(iz x3),v4,(.lst a0),(iz (((List.length a0):Nat):Int)),(iz x5),v6,v7,v8,v9,v10,v11,v12,v13,v14,v15],[]⟩ [0] [r50f42X0_0 C0 d a0] (r50f42E0 C0 d a0)=L50f42_0 d a0 n x5:=by
 generalize hR:r50f42R0 C0 d a0=R
 intro n
 induction n with
 | zero=>intros; rfl
 | succ n ih =>
   intro x3 v4 x5 v6 v7 v8 v9 v10 v11 v12 v13 v14 v15
   simp only [it_ret] at ih
   rw [it_ret,xiter_s]
   refine Eq.trans (congrFun (congrFun hR.symm _) _) ?_
   unfold r50f42R0
   refine Eq.trans (pl_len (by rfl)) ?_; refine yt ySs ?_; refine yt yI ?_; refine yt yA ?_; refine yt ySs ?_; refine yt yI ?_; (iterate 10 (refine yt yA ?_)); refine Eq.trans (pl_sameH) ?_
   simp only [kIter_n,kIter_x,kIter_r,kOut_x,kOut_r,xgo_hit,xgo_miss,ih,X50f42_0_0_ok d a0  ,E50f42_0_ok d a0  ]
   exact (L50f42_0_s d a0 n x5).symm
theorem q50f42 (d:Nat) (a0:List AV) (a1:AV):xcall C0 M unr d 50 [(.lst a0),(.fn 42 [] [])] =
 L50f42_0 d a0 10000000000000000000 0:=(r50f42 C0 d a0 a1).trans (by simp only [it50f42_0])
end Go.Proofs.Ytdceaeifcniabaa.AE

namespace Go.Proofs.Ytdceaeifcniabaa.AE
set_option linter.unusedVariables false
set_option linter.unusedSimpArgs false
set_option linter.constructorNameAsVariable false
open Go Go.Proofs.Ytdceaeifcniabaa.Geo
attribute [local irreducible] pcall C0
set_option maxRecDepth 100000
structure Phs where
 ps:List Pt
 g:Int
 v:Int
 m:Int
 u:Int
abbrev phA (p:Phs):AV:=.agg [.lst (p.ps.map pt),.int .i64 p.g,.int .i64 p.v,.int .i64 p.m,.int .i64 p.u]
structure Rul where
 phs:List Phs
 n:Int
 d:Int
 gr:Int
 eps:Int
 st:Int
 age:Int
 lift:Int
 saf:Int
abbrev rl (r:Rul):AV:=.agg [.lst (r.phs.map phA),.int .i64 r.n,.int .i64 r.d,.int .i64 r.gr,.int .i64 r.eps,.int .i64 r.st,.int .i64 r.age,.int .i64 r.lift,.int .i64 r.saf]
theorem rows_phs:∀ l:List AV,(∀ x ∈ l,∃ cs,x=.agg cs∧CTall [(.sl true [(.i .i64),(.i .i64)]),(.i .i64),(.i .i64),(.i .i64),(.i .i64)] cs)→∃ ps:List Phs,l=ps.map phA
 | [],_=>⟨[],rfl⟩
 | x::l,h=>by
   obtain ⟨ps,rfl⟩:=rows_phs l fun y hy=>h y (List.mem_cons_of_mem _ hy)
   obtain ⟨_,rfl,_,_,rfl,⟨r,rfl,hl,hx⟩,_,_,rfl,⟨g,rfl,_⟩,_,_,rfl,⟨w,rfl,_⟩,_,_,rfl,⟨m,rfl,_⟩,_,_,rfl,⟨u,rfl,_⟩,rfl⟩:=h x (List.mem_cons_self ..)
   obtain ⟨qs,rfl⟩:=rows_pts r hx
   exact ⟨⟨qs,g,w,m,u⟩::ps,rfl⟩
theorem ty_rul {v:AV} (h:TyOK true [(.sl true [(.sl true [(.i .i64),(.i .i64)]),(.i .i64),(.i .i64),(.i .i64),(.i .i64)]),(.i .i64),(.i .i64),(.i .i64),(.i .i64),(.i .i64),(.i .i64),(.i .i64),(.i .i64)] v):∃ r,v=rl r∧r.phs.length≤9223372036854775807:=by
 obtain ⟨l,rfl,_,_,rfl,⟨r,rfl,hl,hx⟩,_,_,rfl,⟨a,rfl,_⟩,_,_,rfl,⟨b,rfl,_⟩,_,_,rfl,⟨c,rfl,_⟩,_,_,rfl,⟨d,rfl,_⟩,_,_,rfl,⟨e,rfl,_⟩,_,_,rfl,⟨f,rfl,_⟩,_,_,rfl,⟨g,rfl,_⟩,_,_,rfl,⟨i,rfl,_⟩,rfl⟩:=h
 obtain ⟨ps,rfl⟩:=rows_phs r hx
 exact ⟨⟨ps,a,b,c,d,e,f,g,i⟩,rfl,by rw [← maxLen_eq]; simpa using hl⟩
theorem phs_at {l:List Phs} {i:Nat} (h:i < l.length):(l.map phA)[i]?=some (phA l[i]):=by simp [List.getElem?_map,List.getElem?_eq_getElem h]
def fewX (l:List Phs):Bool:=l.all (fun p=>decide (p.ps.length≤12)) && decide (l.length≤8)
theorem few_go (d:Nat) (l:List Phs) (hl:l.length≤9223372036854775807):∀ (k i:Nat),i+k=l.length→∀ f,k < f →
 L8_0 d (l.map phA) f (i:Nat)=some (.bool ((l.drop i).all (fun p=>decide (p.ps.length≤12)) && decide (l.length≤8)))
 | 0,i,h,f+1,_=>by
   rw [L8_0,decide_eq_false (by simp; omega),cnd_f,List.drop_of_length_le (by omega)]
   unfold X8_0_0
   simp
   omega
 | k+1,i,h,f+1,hf=>by
   have hi:i < l.length:=by omega
   rw [L8_0,decide_eq_true (by simp; omega),cnd_t,decide_eq_true (by omega),cnd_t,show (((i:Nat):Int)).toNat=i by omega,phs_at hi]
   repeat with_reducible first | refine tt sh_ptr ?_ | refine tt sh_fptr ?_ | refine tt w2 ?_ | refine tt w3 ?_ | refine tt w8 ?_ | refine tt w9 ?_ | refine tt wf ?_ | refine tt wg ?_ | refine tt wh ?_ | refine tt wi ?_ | refine tt wj ?_ | refine tt wk ?_ | refine tt wl ?_ | refine tt wn ?_ | refine tt c_ort ?_ | refine tt c_nt ?_ | refine tt c_nf ?_ | refine tt (cnd_t _ _) ?_ | refine tt (cnd_f _ _) ?_ | refine tt w6 ?_ | refine tt w4 ?_ | refine tt w5 ?_ | refine tt w7 ?_ | refine tt wm ?_ | refine tt wo ?_ | refine tt wx ?_ | refine tt nil_ptr ?_ | refine tt len_lst ?_ | refine tt len_zsl ?_
   rw [List.drop_eq_getElem_cons hi,List.all_cons,List.length_map]
   by_cases c:l[i].ps.length≤12
   ·rw [decide_eq_false (show ¬ ((l[i].ps.length:Nat):Int) > 12 by omega),cnd_f,decide_eq_true c,Bool.true_and,show IntKind.wrap .i64 (((i:Nat):Int)+1)=((i+1:Nat):Int) by rw [i64w]; omega]
    exact few_go d l hl k (i+1) (by omega) f (by omega)
   ·rw [decide_eq_true (show ((l[i].ps.length:Nat):Int) > 12 by omega),cnd_t,decide_eq_false c]; rfl
theorem s8 (d:Nat) (r:Rul) (hl:r.phs.length≤9223372036854775807):pcall M (d+1) 8 [rl r]=some (.bool (fewX r.phs)):=told (q8 d _ _ _ _ _ _ _ _ _) (by
 have:=few_go d r.phs hl r.phs.length 0 (by omega) 10000000000000000000 (by omega)
 rw [List.drop_zero] at this
 exact this)
theorem few_t {l:List Phs} (h:fewX l=true):(∀ p ∈ l,p.ps.length≤12)∧l.length≤8:=by
 unfold fewX at h
 simp only [Bool.and_eq_true,List.all_eq_true,decide_eq_true_iff] at h
 exact h
theorem s26 (d:Nat) (n a b:Int):pcall M (d+1) 26 [.int .i64 n,.int .i64 a,.int .i64 b]=some (.bool (decide (a≤n∧n≤b))):=told (r26 C0 d _ _ _) (by
 by_cases h:n ≥ a
 ·rw [decide_eq_true h,cnd_t]; congr 2; rw [decide_eq_decide]; omega
 ·rw [decide_eq_false h,cnd_f,decide_eq_false (by omega)])
theorem s40 (d:Nat) (n a b:Int):pcall M (d+1) 40 [.int .i64 n,.int .i64 a,.int .i64 b]=some (.bool (decide (a≤n∧n≤b))):=told (r40 C0 d _ _ _) (by
 by_cases h:n ≥ a
 ·rw [decide_eq_true h,cnd_t]; congr 2; rw [decide_eq_decide]; omega
 ·rw [decide_eq_false h,cnd_f,decide_eq_false (by omega)])
theorem s45 (d:Nat) (n a b:Int):pcall M (d+1) 45 [.int .i64 n,.int .i64 a,.int .i64 b]=some (.bool (decide (a≤n∧n≤b))):=told (r45 C0 d _ _ _) (by
 by_cases h:n ≥ a
 ·rw [decide_eq_true h,cnd_t]; congr 2; rw [decide_eq_decide]; omega
 ·rw [decide_eq_false h,cnd_f,decide_eq_false (by omega)])
def RightPh (p:Phs):Prop:=rightB p.ps=true∧(1≤p.g∧p.g≤100)∧(1≤p.v∧p.v≤65536)∧(1≤p.m∧p.m≤1000000)∧(0≤p.u∧p.u≤1073741824)
instance (p:Phs):Decidable (RightPh p):=by unfold RightPh; infer_instance
theorem s25 (d:Nat) (p:Phs) (hl:p.ps.length≤140737488355328):pcall M (d+10) 25 [phA p]=some (.bool (decide (RightPh p))):=told (r25 C0 (d+9) _ _ _ _ _) (by
 refine Eq.trans (pl_bool (s36 d p.ps hl)) ?_
 by_cases h:rightB p.ps=true
 rotate_left
 ·refine Eq.trans (pl_f (Bool.eq_false_iff.mpr h)) ?_
  rw [decide_eq_false (fun k=>h k.1)]
 ·refine Eq.trans (pl_len h) ?_
  refine Eq.trans (pl_bool (s26 (d+8) _ _ _)) ?_
  by_cases h1:1≤p.g∧p.g≤100
  rotate_left
  ·rw [decide_eq_false h1,cnd_f,decide_eq_false (fun h=>h1 h.2.1)]
  rw [decide_eq_true h1,cnd_t]
  refine Eq.trans (pl_bool (s26 (d+8) _ _ _)) ?_
  by_cases h2:1≤p.v∧p.v≤65536
  rotate_left
  ·rw [decide_eq_false h2,cnd_f,decide_eq_false (fun h=>h2 h.2.2.1)]
  rw [decide_eq_true h2,cnd_t]
  refine Eq.trans (pl_bool (s26 (d+8) _ _ _)) ?_
  by_cases h3:1≤p.m∧p.m≤1000000
  rotate_left
  ·rw [decide_eq_false h3,cnd_f,decide_eq_false (fun h=>h3 h.2.2.2.1)]
  rw [decide_eq_true h3,cnd_t]
  refine Eq.trans (pl_bool (s26 (d+8) _ _ _)) ?_
  by_cases h4:0≤p.u∧p.u≤1073741824
  ·rw [decide_eq_true h4,decide_eq_true ⟨h,h1,h2,h3,h4⟩]
  ·rw [decide_eq_false h4,decide_eq_false (fun h=>h4 h.2.2.2.2)])
theorem s43 (d:Nat) (p:Phs) (hl:p.ps.length≤140737488355328):pcall M (d+13) 43 [phA p]=some (.bool (decide (RightPh p))):=told (r43 C0 (d+12) _ _ _ _ _) (by
 refine Eq.trans (pl_bool (s51 d p.ps hl)) ?_
 by_cases h:rightB p.ps=true
 rotate_left
 ·refine Eq.trans (pl_f (Bool.eq_false_iff.mpr h)) ?_
  rw [decide_eq_false (fun k=>h k.1)]
 ·refine Eq.trans (pl_len h) ?_
  refine Eq.trans (pl_bool (s45 (d+11) _ _ _)) ?_
  by_cases h1:1≤p.g∧p.g≤100
  rotate_left
  ·rw [decide_eq_false h1,cnd_f,decide_eq_false (fun h=>h1 h.2.1)]
  rw [decide_eq_true h1,cnd_t]
  refine Eq.trans (pl_bool (s45 (d+11) _ _ _)) ?_
  by_cases h2:1≤p.v∧p.v≤65536
  rotate_left
  ·rw [decide_eq_false h2,cnd_f,decide_eq_false (fun h=>h2 h.2.2.1)]
  rw [decide_eq_true h2,cnd_t]
  refine Eq.trans (pl_bool (s40 (d+11) _ _ _)) ?_
  by_cases h3:1≤p.m∧p.m≤1000000
  rotate_left
  ·rw [decide_eq_false h3,cnd_f,decide_eq_false (fun h=>h3 h.2.2.2.1)]
  rw [decide_eq_true h3,cnd_t]
  refine Eq.trans (pl_bool (s45 (d+11) _ _ _)) ?_
  by_cases h4:0≤p.u∧p.u≤1073741824
  ·rw [decide_eq_true h4,decide_eq_true ⟨h,h1,h2,h3,h4⟩]
  ·rw [decide_eq_false h4,decide_eq_false (fun h=>h4 h.2.2.2.2)])
def fiP (g:Phs→Bool):List Phs→Int→Int
 | [],_=>-1
 | p::l,i=>bif g p then i else fiP g l (i+1)
theorem fiP_any (g:Phs→Bool) (ps:List Phs):∀ i:Int,0≤i→decide (fiP g ps i ≥ 0)=ps.any g:=by
 induction ps with
 | nil=>intro i hi; simp [fiP]
 | cons p l ih =>
   intro i hi
   have h:=ih (i+1) (by omega)
   have e:∀ b:Bool,decide ((bif b then i else fiP g l (i+1)) ≥ 0)=(b || l.any g):=fun b=>by
    match b with
    | false=>exact h
    | true=>exact decide_eq_true hi
   exact e (g p)
def badX (p:Phs):Bool:=!decide (RightPh p)
theorem s42 (d:Nat) (p:Phs) (hl:p.ps.length≤140737488355328):pcall M (d+14) 42 [phA p]=some (.bool (badX p)):=told (r42 C0 (d+13) _ _ _ _ _) (by
 exact pl_bool (s43 d p hl))
theorem idx_go (d:Nat) (g:Phs→Bool) (l:List Phs) (hl:l.length≤1000) (hg:∀ p ∈ l,pcall M d 42 [phA p]=some (.bool (g p))):∀ (k i:Nat),i+k=l.length→∀ f,k < f →
 L50f42_0 d (l.map phA) f (i:Nat)=some (.int .i64 (fiP g (l.drop i) (i:Nat)))
 | 0,i,h,f+1,_=>by
   rw [L50f42_0,decide_eq_false (by simp; omega),cnd_f,List.drop_of_length_le (by omega)]; rfl
 | k+1,i,h,f+1,hf=>by
   have hi:i < l.length:=by omega
   rw [L50f42_0,decide_eq_true (by simp; omega),cnd_t,decide_eq_true (by omega),cnd_t,show (((i:Nat):Int)).toNat=i by omega,phs_at hi]
   repeat with_reducible first | refine tt sh_ptr ?_ | refine tt sh_fptr ?_ | refine tt w2 ?_ | refine tt w3 ?_ | refine tt w8 ?_ | refine tt w9 ?_ | refine tt wf ?_ | refine tt wg ?_ | refine tt wh ?_ | refine tt wi ?_ | refine tt wj ?_ | refine tt wk ?_ | refine tt wl ?_ | refine tt wn ?_ | refine tt c_ort ?_ | refine tt c_nt ?_ | refine tt c_nf ?_ | refine tt (cnd_t _ _) ?_ | refine tt (cnd_f _ _) ?_ | refine tt w6 ?_ | refine tt w4 ?_ | refine tt w5 ?_ | refine tt w7 ?_ | refine tt wm ?_ | refine tt wo ?_ | refine tt wx ?_ | refine tt nil_ptr ?_ | refine tt len_lst ?_ | refine tt len_zsl ?_
   refine Eq.trans (pl_bool (hg l[i] (List.getElem_mem _))) ?_
   rw [List.drop_eq_getElem_cons hi]
   unfold fiP
   cases g l[i]
   ·rw [cnd_f,show IntKind.wrap .i64 (((i:Nat):Int)+1)=((i+1:Nat):Int) by rw [i64w]; omega]
    exact (idx_go d g l hl hg k (i+1) (by omega) f (by omega)).trans (by simp)
   ·rfl
theorem anyI (d:Nat) (g:Phs→Bool) (l:List Phs) (hl:l.length≤1000) (hg:∀ p ∈ l,pcall M d 42 [phA p]=some (.bool (g p))) :
 pcall M (d+2) 41 [.lst (l.map phA),.fn 42 [] []]=some (.bool (l.any g)):=told (r41f42 C0 (d+1) _ .nilp) (by
 have h:pcall M (d+1) 50 [.lst (l.map phA),.fn 42 [] []]=some (.int .i64 (fiP g l 0)) :=
  told (q50f42 d (l.map phA) .nilp) (by have:=idx_go d g l hl hg l.length 0 (by omega) 10000000000000000000 (by omega); rw [List.drop_zero] at this; exact this)
 refine Eq.trans (pl_int h) ?_
 rw [fiP_any g l 0 (by decide)])
def wrongT (k n d gr eps st age lift saf:Int):Int :=
 if ¬ ((1≤n∧n≤50)∧(1≤d∧d≤50)∧(1≤gr∧gr≤50)) then 3 else if ¬ (0≤eps∧eps≤1024) then 4 else if ¬ (1≤st∧st≤65536) then 5
 else if ¬ (1≤age∧age≤50) then 6 else if ¬ (1≤lift∧lift≤1073741824) then 7 else if ¬ (0≤saf∧saf≤k) then 8 else 0
def wrongX (r:Rul):Int:=if r.phs.length < 1 ∨ r.phs.length > 4 then 1 else bif r.phs.any badX then 2 else wrongT r.phs.length r.n r.d r.gr r.eps r.st r.age r.lift r.saf
theorem ref_tail (d:Nat) (l:List AV) (n e gr eps st age lift saf:Int):X10_0_0 (d+1) l n e gr eps st age lift saf=some (.int .i64 (wrongT l.length n e gr eps st age lift saf)):=by
 unfold X10_0_0 wrongT
 have W:=s26 d
 refine Eq.trans (pl_bool (W _ _ _)) ?_
 by_cases h1:1≤n∧n≤50
 rotate_left
 ·rw [decide_eq_false h1,if_pos (fun h=>h1 h.1)]; rfl
 rw [decide_eq_true h1]
 repeat with_reducible first | refine tt sh_ptr ?_ | refine tt sh_fptr ?_ | refine tt w2 ?_ | refine tt w3 ?_ | refine tt w8 ?_ | refine tt w9 ?_ | refine tt wf ?_ | refine tt wg ?_ | refine tt wh ?_ | refine tt wi ?_ | refine tt wj ?_ | refine tt wk ?_ | refine tt wl ?_ | refine tt wn ?_ | refine tt c_ort ?_ | refine tt c_nt ?_ | refine tt c_nf ?_ | refine tt (cnd_t _ _) ?_ | refine tt (cnd_f _ _) ?_ | refine tt w6 ?_ | refine tt w4 ?_ | refine tt w5 ?_ | refine tt w7 ?_ | refine tt wm ?_ | refine tt wo ?_ | refine tt wx ?_ | refine tt nil_ptr ?_ | refine tt len_lst ?_ | refine tt len_zsl ?_
 refine Eq.trans (pl_bool (W _ _ _)) ?_
 by_cases h2:1≤e∧e≤50
 rotate_left
 ·rw [decide_eq_false h2,if_pos (fun h=>h2 h.2.1)]; rfl
 rw [decide_eq_true h2]
 repeat with_reducible first | refine tt sh_ptr ?_ | refine tt sh_fptr ?_ | refine tt w2 ?_ | refine tt w3 ?_ | refine tt w8 ?_ | refine tt w9 ?_ | refine tt wf ?_ | refine tt wg ?_ | refine tt wh ?_ | refine tt wi ?_ | refine tt wj ?_ | refine tt wk ?_ | refine tt wl ?_ | refine tt wn ?_ | refine tt c_ort ?_ | refine tt c_nt ?_ | refine tt c_nf ?_ | refine tt (cnd_t _ _) ?_ | refine tt (cnd_f _ _) ?_ | refine tt w6 ?_ | refine tt w4 ?_ | refine tt w5 ?_ | refine tt w7 ?_ | refine tt wm ?_ | refine tt wo ?_ | refine tt wx ?_ | refine tt nil_ptr ?_ | refine tt len_lst ?_ | refine tt len_zsl ?_
 refine Eq.trans (pl_bool (W _ _ _)) ?_
 by_cases h3:1≤gr∧gr≤50
 rotate_left
 ·rw [decide_eq_false h3,if_pos (fun h=>h3 h.2.2)]; rfl
 rw [decide_eq_true h3,if_neg (fun h=>h ⟨h1,h2,h3⟩)]
 repeat with_reducible first | refine tt sh_ptr ?_ | refine tt sh_fptr ?_ | refine tt w2 ?_ | refine tt w3 ?_ | refine tt w8 ?_ | refine tt w9 ?_ | refine tt wf ?_ | refine tt wg ?_ | refine tt wh ?_ | refine tt wi ?_ | refine tt wj ?_ | refine tt wk ?_ | refine tt wl ?_ | refine tt wn ?_ | refine tt c_ort ?_ | refine tt c_nt ?_ | refine tt c_nf ?_ | refine tt (cnd_t _ _) ?_ | refine tt (cnd_f _ _) ?_ | refine tt w6 ?_ | refine tt w4 ?_ | refine tt w5 ?_ | refine tt w7 ?_ | refine tt wm ?_ | refine tt wo ?_ | refine tt wx ?_ | refine tt nil_ptr ?_ | refine tt len_lst ?_ | refine tt len_zsl ?_
 refine Eq.trans (pl_bool (W _ _ _)) ?_
 by_cases h4:0≤eps∧eps≤1024
 rotate_left
 ·rw [decide_eq_false h4,if_pos h4]; rfl
 rw [decide_eq_true h4,if_neg (fun h=>h h4)]
 repeat with_reducible first | refine tt sh_ptr ?_ | refine tt sh_fptr ?_ | refine tt w2 ?_ | refine tt w3 ?_ | refine tt w8 ?_ | refine tt w9 ?_ | refine tt wf ?_ | refine tt wg ?_ | refine tt wh ?_ | refine tt wi ?_ | refine tt wj ?_ | refine tt wk ?_ | refine tt wl ?_ | refine tt wn ?_ | refine tt c_ort ?_ | refine tt c_nt ?_ | refine tt c_nf ?_ | refine tt (cnd_t _ _) ?_ | refine tt (cnd_f _ _) ?_ | refine tt w6 ?_ | refine tt w4 ?_ | refine tt w5 ?_ | refine tt w7 ?_ | refine tt wm ?_ | refine tt wo ?_ | refine tt wx ?_ | refine tt nil_ptr ?_ | refine tt len_lst ?_ | refine tt len_zsl ?_
 refine Eq.trans (pl_bool (W _ _ _)) ?_
 by_cases h5:1≤st∧st≤65536
 rotate_left
 ·rw [decide_eq_false h5,if_pos h5]; rfl
 rw [decide_eq_true h5,if_neg (fun h=>h h5)]
 repeat with_reducible first | refine tt sh_ptr ?_ | refine tt sh_fptr ?_ | refine tt w2 ?_ | refine tt w3 ?_ | refine tt w8 ?_ | refine tt w9 ?_ | refine tt wf ?_ | refine tt wg ?_ | refine tt wh ?_ | refine tt wi ?_ | refine tt wj ?_ | refine tt wk ?_ | refine tt wl ?_ | refine tt wn ?_ | refine tt c_ort ?_ | refine tt c_nt ?_ | refine tt c_nf ?_ | refine tt (cnd_t _ _) ?_ | refine tt (cnd_f _ _) ?_ | refine tt w6 ?_ | refine tt w4 ?_ | refine tt w5 ?_ | refine tt w7 ?_ | refine tt wm ?_ | refine tt wo ?_ | refine tt wx ?_ | refine tt nil_ptr ?_ | refine tt len_lst ?_ | refine tt len_zsl ?_
 refine Eq.trans (pl_bool (W _ _ _)) ?_
 by_cases h6:1≤age∧age≤50
 rotate_left
 ·rw [decide_eq_false h6,if_pos h6]; rfl
 rw [decide_eq_true h6,if_neg (fun h=>h h6)]
 repeat with_reducible first | refine tt sh_ptr ?_ | refine tt sh_fptr ?_ | refine tt w2 ?_ | refine tt w3 ?_ | refine tt w8 ?_ | refine tt w9 ?_ | refine tt wf ?_ | refine tt wg ?_ | refine tt wh ?_ | refine tt wi ?_ | refine tt wj ?_ | refine tt wk ?_ | refine tt wl ?_ | refine tt wn ?_ | refine tt c_ort ?_ | refine tt c_nt ?_ | refine tt c_nf ?_ | refine tt (cnd_t _ _) ?_ | refine tt (cnd_f _ _) ?_ | refine tt w6 ?_ | refine tt w4 ?_ | refine tt w5 ?_ | refine tt w7 ?_ | refine tt wm ?_ | refine tt wo ?_ | refine tt wx ?_ | refine tt nil_ptr ?_ | refine tt len_lst ?_ | refine tt len_zsl ?_
 refine Eq.trans (pl_bool (W _ _ _)) ?_
 by_cases h7:1≤lift∧lift≤1073741824
 rotate_left
 ·rw [decide_eq_false h7,if_pos h7]; rfl
 rw [decide_eq_true h7,if_neg (fun h=>h h7)]
 repeat with_reducible first | refine tt sh_ptr ?_ | refine tt sh_fptr ?_ | refine tt w2 ?_ | refine tt w3 ?_ | refine tt w8 ?_ | refine tt w9 ?_ | refine tt wf ?_ | refine tt wg ?_ | refine tt wh ?_ | refine tt wi ?_ | refine tt wj ?_ | refine tt wk ?_ | refine tt wl ?_ | refine tt wn ?_ | refine tt c_ort ?_ | refine tt c_nt ?_ | refine tt c_nf ?_ | refine tt (cnd_t _ _) ?_ | refine tt (cnd_f _ _) ?_ | refine tt w6 ?_ | refine tt w4 ?_ | refine tt w5 ?_ | refine tt w7 ?_ | refine tt wm ?_ | refine tt wo ?_ | refine tt wx ?_ | refine tt nil_ptr ?_ | refine tt len_lst ?_ | refine tt len_zsl ?_
 refine Eq.trans (pl_bool (W _ _ _)) ?_
 by_cases h8:0≤saf∧saf≤((l.length:Nat):Int)
 rotate_left
 ·rw [decide_eq_false h8,if_pos h8]; rfl
 rw [decide_eq_true h8,if_neg (fun h=>h h8)]
 rfl
theorem ref_go (d:Nat) (r:Rul) (hl:r.phs.length≤1000) (ha:∀ p ∈ r.phs,p.ps.length≤140737488355328):∀ (k i:Nat),i+k=r.phs.length→∀ f,k < f →
 L10_0 (d+10) (r.phs.map phA) r.n r.d r.gr r.eps r.st r.age r.lift r.saf f (i:Nat)=some (.int .i64 (bif (r.phs.drop i).any badX then 2 else wrongT r.phs.length r.n r.d r.gr r.eps r.st r.age r.lift r.saf))
 | 0,i,h,f+1,_=>by
   rw [L10_0,decide_eq_false (by simp; omega),cnd_f,List.drop_of_length_le (by omega),ref_tail,List.length_map]; rfl
 | k+1,i,h,f+1,hf=>by
   have hi:i < r.phs.length:=by omega
   rw [L10_0,decide_eq_true (by simp; omega),cnd_t,decide_eq_true (by omega),cnd_t,show (((i:Nat):Int)).toNat=i by omega,phs_at hi]
   repeat with_reducible first | refine tt sh_ptr ?_ | refine tt sh_fptr ?_ | refine tt w2 ?_ | refine tt w3 ?_ | refine tt w8 ?_ | refine tt w9 ?_ | refine tt wf ?_ | refine tt wg ?_ | refine tt wh ?_ | refine tt wi ?_ | refine tt wj ?_ | refine tt wk ?_ | refine tt wl ?_ | refine tt wn ?_ | refine tt c_ort ?_ | refine tt c_nt ?_ | refine tt c_nf ?_ | refine tt (cnd_t _ _) ?_ | refine tt (cnd_f _ _) ?_ | refine tt w6 ?_ | refine tt w4 ?_ | refine tt w5 ?_ | refine tt w7 ?_ | refine tt wm ?_ | refine tt wo ?_ | refine tt wx ?_ | refine tt nil_ptr ?_ | refine tt len_lst ?_ | refine tt len_zsl ?_
   refine Eq.trans (pl_bool (s25 d r.phs[i] (ha _ (List.getElem_mem _)))) ?_
   rw [List.drop_eq_getElem_cons hi,List.any_cons]
   change cnd (badX r.phs[i]) _ _=_
   cases badX r.phs[i]
   ·rw [cnd_f,Bool.false_or,show IntKind.wrap .i64 (((i:Nat):Int)+1)=((i+1:Nat):Int) by rw [i64w]; omega]
    exact ref_go d r hl ha k (i+1) (by omega) f (by omega)
   ·rfl
theorem s10 (d:Nat) (r:Rul) (hl:r.phs.length≤1000) (ha:∀ p ∈ r.phs,p.ps.length≤140737488355328):pcall M (d+11) 10 [rl r]=some (.int .i64 (wrongX r)):=told (q10 (d+10) _ _ _ _ _ _ _ _ _) (by
 unfold wrongX
 rw [List.length_map]
 by_cases h1:r.phs.length < 1
 ·rw [decide_eq_true (show ((r.phs.length:Nat):Int) < 1 by omega),cnd_t,if_pos (.inl h1)]
 rw [decide_eq_false (show ¬ ((r.phs.length:Nat):Int) < 1 by omega),cnd_f]
 by_cases h2:r.phs.length > 4
 ·rw [decide_eq_true (show ((r.phs.length:Nat):Int) > 4 by omega),cnd_t,if_pos (.inr h2)]
 rw [decide_eq_false (show ¬ ((r.phs.length:Nat):Int) > 4 by omega),cnd_f,if_neg (by omega)]
 have:=ref_go d r hl ha r.phs.length 0 (by omega) 10000000000000000000 (by omega)
 rw [List.drop_zero] at this
 exact this)
def limX (r:Rul):Prop:=(1≤r.n∧r.n≤50)∧(1≤r.d∧r.d≤50)∧(1≤r.gr∧r.gr≤50)
instance (r:Rul):Decidable (limX r):=by unfold limX; infer_instance
theorem limI (d:Nat) (r:Rul):pcall M (d+2) 44 [.fptr (rl r) 0]=some (.bool (decide (limX r))):=told (r44 C0 (d+1) .nilp _ _ _ _ _ _ _ _ _) (by
 refine Eq.trans (pl_bool (s40 d _ _ _)) ?_
 by_cases h1:1≤(if r.gr < (if r.d < r.n then r.d else r.n) then r.gr else (if r.d < r.n then r.d else r.n))∧(if r.gr < (if r.d < r.n then r.d else r.n) then r.gr else (if r.d < r.n then r.d else r.n))≤50
 ·rw [decide_eq_true h1,cnd_t]
  refine Eq.trans (pl_bool (s40 d _ _ _)) ?_
  congr 2; rw [decide_eq_decide]; unfold limX; omega
 ·rw [decide_eq_false h1,cnd_f,decide_eq_false (by unfold limX; omega)])
theorem s33 (d:Nat) (r:Rul) (hl:r.phs.length≤1000) (ha:∀ p ∈ r.phs,p.ps.length≤140737488355328):pcall M (d+17) 33 [rl r]=some (.int .i64 (wrongX r)):=told (r33 C0 (d+16) _ _ _ _ _ _ _ _ _) (by
 have W:=s40 (d+15)
 have V:=s45 (d+15)
 refine Eq.trans (pl_bool (W _ _ _)) ?_
 unfold wrongX
 rw [List.length_map]
 by_cases h1:(1:Int)≤((r.phs.length:Nat):Int)∧((r.phs.length:Nat):Int)≤4
 rotate_left
 ·rw [decide_eq_false h1,if_pos (by omega)]; rfl
 rw [decide_eq_true h1,if_neg (by omega)]
 repeat with_reducible first | refine tt sh_ptr ?_ | refine tt sh_fptr ?_ | refine tt w2 ?_ | refine tt w3 ?_ | refine tt w8 ?_ | refine tt w9 ?_ | refine tt wf ?_ | refine tt wg ?_ | refine tt wh ?_ | refine tt wi ?_ | refine tt wj ?_ | refine tt wk ?_ | refine tt wl ?_ | refine tt wn ?_ | refine tt c_ort ?_ | refine tt c_nt ?_ | refine tt c_nf ?_ | refine tt (cnd_t _ _) ?_ | refine tt (cnd_f _ _) ?_ | refine tt w6 ?_ | refine tt w4 ?_ | refine tt w5 ?_ | refine tt w7 ?_ | refine tt wm ?_ | refine tt wo ?_ | refine tt wx ?_ | refine tt nil_ptr ?_ | refine tt len_lst ?_ | refine tt len_zsl ?_
 refine Eq.trans (pl_bool (anyI (d+14) badX r.phs hl (fun p hp=>s42 d p (ha p hp)))) ?_
 cases r.phs.any badX
 rotate_left
 ·rfl
 rw [cnd_f,cond_false]
 refine Eq.trans (pl_bool (limI (d+14) r)) ?_
 unfold wrongT
 by_cases h2:limX r
 rotate_left
 ·rw [decide_eq_false h2,if_pos (show ¬ ((1≤r.n∧r.n≤50)∧(1≤r.d∧r.d≤50)∧(1≤r.gr∧r.gr≤50)) from h2)]; rfl
 rw [decide_eq_true h2,if_neg (fun h=>h (show ((1≤r.n∧r.n≤50)∧(1≤r.d∧r.d≤50)∧(1≤r.gr∧r.gr≤50)) from h2))]
 repeat with_reducible first | refine tt sh_ptr ?_ | refine tt sh_fptr ?_ | refine tt w2 ?_ | refine tt w3 ?_ | refine tt w8 ?_ | refine tt w9 ?_ | refine tt wf ?_ | refine tt wg ?_ | refine tt wh ?_ | refine tt wi ?_ | refine tt wj ?_ | refine tt wk ?_ | refine tt wl ?_ | refine tt wn ?_ | refine tt c_ort ?_ | refine tt c_nt ?_ | refine tt c_nf ?_ | refine tt (cnd_t _ _) ?_ | refine tt (cnd_f _ _) ?_ | refine tt w6 ?_ | refine tt w4 ?_ | refine tt w5 ?_ | refine tt w7 ?_ | refine tt wm ?_ | refine tt wo ?_ | refine tt wx ?_ | refine tt nil_ptr ?_ | refine tt len_lst ?_ | refine tt len_zsl ?_
 refine Eq.trans (pl_bool (V _ _ _)) ?_
 by_cases h4:0≤r.eps∧r.eps≤1024
 rotate_left
 ·rw [decide_eq_false h4,if_pos h4]; rfl
 rw [decide_eq_true h4,if_neg (fun h=>h h4)]
 repeat with_reducible first | refine tt sh_ptr ?_ | refine tt sh_fptr ?_ | refine tt w2 ?_ | refine tt w3 ?_ | refine tt w8 ?_ | refine tt w9 ?_ | refine tt wf ?_ | refine tt wg ?_ | refine tt wh ?_ | refine tt wi ?_ | refine tt wj ?_ | refine tt wk ?_ | refine tt wl ?_ | refine tt wn ?_ | refine tt c_ort ?_ | refine tt c_nt ?_ | refine tt c_nf ?_ | refine tt (cnd_t _ _) ?_ | refine tt (cnd_f _ _) ?_ | refine tt w6 ?_ | refine tt w4 ?_ | refine tt w5 ?_ | refine tt w7 ?_ | refine tt wm ?_ | refine tt wo ?_ | refine tt wx ?_ | refine tt nil_ptr ?_ | refine tt len_lst ?_ | refine tt len_zsl ?_
 refine Eq.trans (pl_bool (V _ _ _)) ?_
 by_cases h5:1≤r.st∧r.st≤65536
 rotate_left
 ·rw [decide_eq_false h5,if_pos h5]; rfl
 rw [decide_eq_true h5,if_neg (fun h=>h h5)]
 repeat with_reducible first | refine tt sh_ptr ?_ | refine tt sh_fptr ?_ | refine tt w2 ?_ | refine tt w3 ?_ | refine tt w8 ?_ | refine tt w9 ?_ | refine tt wf ?_ | refine tt wg ?_ | refine tt wh ?_ | refine tt wi ?_ | refine tt wj ?_ | refine tt wk ?_ | refine tt wl ?_ | refine tt wn ?_ | refine tt c_ort ?_ | refine tt c_nt ?_ | refine tt c_nf ?_ | refine tt (cnd_t _ _) ?_ | refine tt (cnd_f _ _) ?_ | refine tt w6 ?_ | refine tt w4 ?_ | refine tt w5 ?_ | refine tt w7 ?_ | refine tt wm ?_ | refine tt wo ?_ | refine tt wx ?_ | refine tt nil_ptr ?_ | refine tt len_lst ?_ | refine tt len_zsl ?_
 refine Eq.trans (pl_bool (W _ _ _)) ?_
 by_cases h6:1≤r.age∧r.age≤50
 rotate_left
 ·rw [decide_eq_false h6,if_pos h6]; rfl
 rw [decide_eq_true h6,if_neg (fun h=>h h6)]
 repeat with_reducible first | refine tt sh_ptr ?_ | refine tt sh_fptr ?_ | refine tt w2 ?_ | refine tt w3 ?_ | refine tt w8 ?_ | refine tt w9 ?_ | refine tt wf ?_ | refine tt wg ?_ | refine tt wh ?_ | refine tt wi ?_ | refine tt wj ?_ | refine tt wk ?_ | refine tt wl ?_ | refine tt wn ?_ | refine tt c_ort ?_ | refine tt c_nt ?_ | refine tt c_nf ?_ | refine tt (cnd_t _ _) ?_ | refine tt (cnd_f _ _) ?_ | refine tt w6 ?_ | refine tt w4 ?_ | refine tt w5 ?_ | refine tt w7 ?_ | refine tt wm ?_ | refine tt wo ?_ | refine tt wx ?_ | refine tt nil_ptr ?_ | refine tt len_lst ?_ | refine tt len_zsl ?_
 refine Eq.trans (pl_bool (V _ _ _)) ?_
 by_cases h7:1≤r.lift∧r.lift≤1073741824
 rotate_left
 ·rw [decide_eq_false h7,if_pos h7]; rfl
 rw [decide_eq_true h7,if_neg (fun h=>h h7)]
 repeat with_reducible first | refine tt sh_ptr ?_ | refine tt sh_fptr ?_ | refine tt w2 ?_ | refine tt w3 ?_ | refine tt w8 ?_ | refine tt w9 ?_ | refine tt wf ?_ | refine tt wg ?_ | refine tt wh ?_ | refine tt wi ?_ | refine tt wj ?_ | refine tt wk ?_ | refine tt wl ?_ | refine tt wn ?_ | refine tt c_ort ?_ | refine tt c_nt ?_ | refine tt c_nf ?_ | refine tt (cnd_t _ _) ?_ | refine tt (cnd_f _ _) ?_ | refine tt w6 ?_ | refine tt w4 ?_ | refine tt w5 ?_ | refine tt w7 ?_ | refine tt wm ?_ | refine tt wo ?_ | refine tt wx ?_ | refine tt nil_ptr ?_ | refine tt len_lst ?_ | refine tt len_zsl ?_
 refine Eq.trans (pl_bool (W _ _ _)) ?_
 by_cases h8:0≤r.saf∧r.saf≤((r.phs.length:Nat):Int)
 rotate_left
 ·rw [decide_eq_false h8,if_pos h8]; rfl
 rw [decide_eq_true h8,if_neg (fun h=>h h8)]
 rfl)
theorem s22 (d:Nat) (r:Rul) (hl:r.phs.length≤1000) (ha:∀ p ∈ r.phs,p.ps.length≤140737488355328):pcall M (d+18) 22 [rl r]=some (.bool (wrongX r == 0)):=told (r22 C0 (d+17) _ _ _ _ _ _ _ _ _) (by
 exact pl_int (s33 d r hl ha))
end Go.Proofs.Ytdceaeifcniabaa.AE

namespace Go.Proofs.Ytdceaeifcniabaa.AE
set_option linter.unusedVariables false
set_option linter.unusedSimpArgs false
set_option linter.constructorNameAsVariable false
open Go Go.Proofs.Ytdceaeifcniabaa.Geo
abbrev Bx:=Pt × Pt
abbrev bx (b:Bx):AV:=.agg [.int .i64 b.1.1,.int .i64 b.1.2,.int .i64 b.2.1,.int .i64 b.2.2]
theorem drop_vv {ps:List Pt} {i:Nat} (h:i < ps.length):ps.drop i=vv ps i::ps.drop (i+1):=by
 rw [List.drop_eq_getElem_cons h]; unfold vv; rw [List.getD_eq_getElem?_getD,List.getElem?_eq_getElem h]; rfl
theorem pt_bne (p q:Pt):(xor true ((p.1 == q.1) && ((p.2 == q.2) && true)))=!decide (p=q):=by
 have:=pt_beq p q
 rw [← this]; cases ((p.1 == q.1) && ((p.2 == q.2) && true)) <;> rfl
theorem same0 (d:Nat) (ps qs:List Pt) (hl:ps.length≤140737488355328) (he:ps.length=qs.length):∀ (m i f:Nat),i+m=ps.length→m < f →
 L31_0 d (ps.map pt) (qs.map pt) f (i:Nat)=some (.bool (decide (ps.drop i=qs.drop i))):=by
 intro m
 induction m with
 | zero =>
   intro i f hi hf
   obtain ⟨f,rfl⟩:∃ g,f=g+1:=⟨f - 1,by omega⟩
   rw [L31_0,decide_eq_false (by rw [pmap_len]; omega),cnd_f,List.drop_eq_nil_of_le (by omega),List.drop_eq_nil_of_le (by omega)]; rfl
 | succ m ih =>
   intro i f hi hf
   obtain ⟨f,rfl⟩:∃ g,f=g+1:=⟨f - 1,by omega⟩
   rw [L31_0,decide_eq_true (by rw [pmap_len]; omega),cnd_t,decide_eq_true (by omega),cnd_t,vv_at (by omega)]
   refine Eq.trans (pl_agg (by rfl) (by rfl)) ?_; refine Eq.trans (pl_int (by rfl)) ?_; refine Eq.trans (pl_int (by rfl)) ?_
   rw [cnd_t,vv_at (show i < qs.length by omega)]
   refine Eq.trans (pl_agg (by rfl) (by rfl)) ?_; refine Eq.trans (pl_int (by rfl)) ?_; refine Eq.trans (pl_int (by rfl)) ?_
   rw [pt_bne,drop_vv (show i < ps.length by omega),drop_vv (show i < qs.length by omega)]
   by_cases h:vv ps i=vv qs i
   ·rw [decide_eq_true h]
    refine Eq.trans (pl_f (by rfl)) ?_
    rw [show IntKind.wrap .i64 ((i:Int)+1)=((i+1:Nat):Int) by rw [IntKind.wrap_i64]; omega,ih (i+1) f (by omega) (by omega),h]
    simp
   ·rw [decide_eq_false h]
    refine Eq.trans (pl_len (by rfl)) ?_
    rw [decide_eq_false (by simp [h])]; rfl
theorem s31 (d:Nat) (ps qs:List Pt) (hl:ps.length≤140737488355328) (hq:qs.length≤140737488355328):pcall M (d+1) 31 [.lst (ps.map pt),.lst (qs.map pt)]=some (.bool (decide (ps=qs))):=told (q31 d _ _) (by
 rw [pmap_len,pmap_len]
 by_cases h:ps.length=qs.length
 ·rw [h,show (((qs.length:Nat):Int) != ((qs.length:Nat):Int))=false by simp,cnd_f]
  exact same0 d ps qs hl h ps.length 0 10000000000000000000 (by omega) (by omega)
 ·rw [show (((ps.length:Nat):Int) != ((qs.length:Nat):Int))=true by simp; omega,cnd_t,decide_eq_false (fun e=>h (by rw [e]))])
end Go.Proofs.Ytdceaeifcniabaa.AE

namespace Go.Proofs.Ytdceaeifcniabaa.AE
set_option linter.unusedVariables false
set_option linter.unusedSimpArgs false
set_option linter.constructorNameAsVariable false
open Go Go.Proofs.Ytdceaeifcniabaa.Geo
attribute [local irreducible] pcall C0
set_option maxRecDepth 100000
theorem clonePQ (d:Nat):emptyQ (pcall M (d+1)) 35=some (.lst []):=by
 unfold emptyQ
 rw [show pcall M (d+1) 35 [.zsl true]=some (.lst []) by kernel_rfl,show pcall M (d+1) 35 [.emp]=some (.lst []) by kernel_rfl]
theorem cloneHQ (d:Nat):emptyQ (pcall M (d+1)) 34=some (.lst []):=by
 unfold emptyQ
 rw [show pcall M (d+1) 34 [.zsl true]=some (.lst []) by kernel_rfl,show pcall M (d+1) 34 [.emp]=some (.lst []) by kernel_rfl]
theorem xmeth_ok2 {M:Mod} {U:FuncId→XU} {d n:Nat} {g:FuncId} {args:List AV} {H H':Heap} {v:AV} (he:M.ext g=none) (hi:M.inl g=true) (hem:emptyR M (pcall M d) g args=none) (h:∀ K,xmeth C0 M U d n g args H K=K v H'):callB M (pcall M d) (n+1) true g args H=some (v,H'):=by
 classical
 have hk:=h fun v' H1=>if v'=v∧H1=H' then some .undef else none
 rw [if_pos ⟨rfl,rfl⟩] at hk
 unfold xmeth at hk
 simp only [callB,he,hi,hem,if_true]
 cases hc:M.code g args.length with
 | none=>simp [hc] at hk
 | some fn =>
   simp only [hc] at hk ⊢
   obtain ⟨v',H1,h1,h2⟩:=xrunFn_ok (xcallB_ok M U (pcall M d) n true) (xcallB_ok M U (pcall M d) n false) hk
   split at h2
   ·rename_i hh
    obtain ⟨rfl,rfl⟩:=hh
    exact h1
   ·cases h2
theorem padH_ok:∀ (n:Nat) (S:Heap),padOk n (padH n ++ S)=true
 | 0,_=>rfl
 | n+1,S=>by
   change (Nat.beq junk.e.es 0 && !junk.els.isEmpty && padOk n (padH n ++ S))=true
   rw [padH_ok n S]; rfl
theorem padH_l:∀ n,(padH n).length=n
 | 0=>rfl
 | n+1=>by change (padH n).length+1=_; rw [padH_l n]
theorem fr_of {g:FuncId} {args:List AV} {d n:Nat} {v:Nat→AV} {S:Nat→Heap} (he:M.ext g=none) (hi:M.inl g=true) (hf:M.fr g=true) (ha:args.all (noId DEPTH)=true)
 (h:∀ H,callB M (pcall M d) (n+1) true g args H=some (v H.length,H ++ S H.length)) (H:Heap):callB M (pcall M d) (n+1) false g args H=some (v H.length,H ++ S H.length):=by
 have h1:=h H
 have h2:=h (padH H.length)
 simp only [callB,he,hi,if_true] at h1 h2 ⊢
 cases hem:emptyR M (pcall M d) g args with
 | some w=>rw [hem] at h1; exact h1
 | none =>
   rw [hem] at h2
   simp only [hf,ha,Bool.and_self] at h2 ⊢
   cases hc:M.code g args.length with
   | none=>rw [hc] at h2; cases h2
   | some fn =>
     rw [hc] at h2
     simp only at h2 ⊢
     unfold freshRun
     rw [h2,padH_l]
     simp only [padH_ok]
     rw [List.drop_append_of_le_length (by rw [padH_l]; exact Nat.le_refl _),List.drop_of_length_le (by rw [padH_l]; exact Nat.le_refl _),List.nil_append]
theorem mk_n {H:Heap} {e:ETy} {K:AV→Heap→Ans}:C0.hop H (.mkrow e 0 []) K=K (.slc (H.length+0) 0 0) (H ++ [some ⟨e,[]⟩]):=hop_eq rfl
theorem mk_s {H S:Heap} {e:ETy} {K:AV→Heap→Ans}:C0.hop (H ++ S) (.mkrow e 0 []) K=K (.slc (H.length+S.length) 0 0) (H ++ (S ++ [some ⟨e,[]⟩])):=by
 refine (hop_eq (v:=.slc (H ++ S).length 0 0) (H':=(H ++ S) ++ [some ⟨e,[]⟩]) rfl).trans ?_
 rw [List.length_append,List.append_assoc]
theorem ap_s {H S:Heap} {k:Nat} {e:ETy} {xs:List AV} {K:AV→Heap→Ans} (h:S[k]?=some (some ⟨e,[]⟩)) (hx:xs.all (elOk e)=true) (hs:xs.length * e.bytes≤140737488355328) (hs2:xs.length≤9223372036854775807) :
 C0.hop (H ++ S) (.app e (.v (.slc (H.length+k) 0 0)) (.v (.lst xs))) K=K (.slc (H.length+S.length) 0 xs.length) (H ++ (S.set k none ++ [some ⟨e,xs⟩])):=by
 refine (hop_eq (v:=.slc (H ++ S).length 0 xs.length) (H':=(H ++ S).set (H.length+k) none ++ [some ⟨e,xs⟩]) ?_).trans ?_
 ·simp only [aop,evO,elsOf,aApp]
  rw [hget_s h]
  simp only
  rw [if_pos ⟨rfl,by simpa using hs,by simpa using hs2,trivial,trivial,hx⟩]
  simp
 ·rw [List.length_append,set_s,List.append_assoc]
theorem ix_s {H S:Heap} {k n es:Nat} {b:Blk} {q:Int} {K:AV→Heap→Ans} (h:S[k]?=some (some b)) (h0:0≤q) (h1:q < (n:Int)) (he:b.e.es=es) :
 C0.hop (H ++ S) (.ixAS .any es (.v (.slc (H.length+k) 0 n)) (.v (.int .i64 q))) K=K (.ptr (H.length+k) (0+q.toNat) 0) (H ++ S):=ix_slc (hget_s h) h0 h1 he
theorem ln_s {H S:Heap} {k n:Nat} {b:Blk} {K:AV→Heap→Ans} (h:S[k]?=some (some b)):C0.hop (H ++ S) (.bk .lenV [.v (.slc (H.length+k) 0 n)]) K=K (.int .i64 n) (H ++ S):=hop_eq (by simp only [aop,evO,lenOf]; rw [hget_s h])
def arV (L:Nat) (ps:List Pt):AV:=match ps with
 | []=>.lst []
 | p::l=>.slc (L+1) 0 (p::l).length
def arS (ps:List Pt):Heap:=match ps with
 | []=>[]
 | p::l=>[none,some ⟨E62,(p::l).map pt⟩]
theorem all_ptE (ps:List Pt):(ps.map pt).all (elOk E62)=true:=by
 rw [List.all_eq_true]; intro x hx; obtain ⟨p,_,rfl⟩:=List.mem_map.mp hx; rfl
theorem all_phE (ps:List Phs):(ps.map phA).all (elOk E43)=true:=by
 rw [List.all_eq_true]; intro x hx; obtain ⟨p,_,rfl⟩:=List.mem_map.mp hx; rfl
theorem cloneI (d n0:Nat) (ps:List Pt) (hl:ps.length≤1000000) (H:Heap):callB M (pcall M (d+1)) (n0+9) true 35 [.lst (ps.map pt)] H=some (arV H.length ps,H ++ arS ps):=by
 cases ps with
 | nil =>
   have he:M.ext 35=none:=rfl
   have hi:M.inl 35=true:=rfl
   have hem:emptyR M (pcall M (d+1)) 35 [.lst (List.map pt [])]=some (.lst []):=by
    have hc:M.cl 35=true:=rfl
    simp only [emptyR,hc]
    change emptyQ (pcall M (d+1)) 35=_
    exact clonePQ d
   simp only [callB,he,hi,hem,if_true]
   simp [arV,arS]
 | cons p l =>
   refine xmeth_ok2 (U:=unr) (n:=n0+8) rfl rfl (by rw [emptyR,show M.cl 35=true from rfl]; rfl) fun K=>?_
   refine (r35 C0 (d+1) _ n0 _ K).trans ?_
   refine Eq.trans (hop_eq (v:=.bool false) (H':=H) (by rfl)) ?_
   refine Eq.trans (pl_bool rfl) ?_
   rw [cnd_f]
   refine Eq.trans mk_n ?_
   refine Eq.trans (ap_s (by rfl) (all_ptE _) (by rw [List.length_map,show (E62).bytes=16 from rfl]; omega) (by rw [List.length_map]; omega)) ?_
   rw [List.length_map]; rfl
theorem cloneF (d n0:Nat) (ps:List Pt) (hl:ps.length≤1000000) (H:Heap):callB M (pcall M (d+1)) (n0+9) false 35 [.lst (ps.map pt)] H=some (arV H.length ps,H ++ arS ps) :=
 fr_of (v:=fun L=>arV L ps) (S:=fun _=>arS ps) rfl rfl rfl rfl (cloneI d n0 ps hl) H
abbrev phX (v:AV) (p:Phs):AV:=.agg [v,.int .i64 p.g,.int .i64 p.v,.int .i64 p.m,.int .i64 p.u]
abbrev rlX (v:AV) (r:Rul):AV:=.agg [v,.int .i64 r.n,.int .i64 r.d,.int .i64 r.gr,.int .i64 r.eps,.int .i64 r.st,.int .i64 r.age,.int .i64 r.lift,.int .i64 r.saf]
def arsC:List Phs→Heap
 | []=>[]
 | p::l=>arS p.ps ++ arsC l
def elsC:Nat→List Phs→List AV
 | _,[]=>[]
 | L,p::l=>phX (arV L p.ps) p::elsC (L+(arS p.ps).length) l
theorem arsC_app:∀ a b,arsC (a ++ b)=arsC a ++ arsC b
 | [],b=>rfl
 | p::l,b=>by rw [List.cons_append,arsC,arsC,arsC_app l b,List.append_assoc]
theorem elsC_snoc:∀ (l:List Phs) (L:Nat) (p:Phs),elsC L (l ++ [p])=elsC L l ++ [phX (arV (L+(arsC l).length) p.ps) p]
 | [],L,p=>rfl
 | q::l,L,p=>by
   rw [List.cons_append,elsC,elsC,elsC_snoc l,arsC,List.length_append,List.cons_append,Nat.add_assoc]
theorem elsC_len:∀ (l:List Phs) (L:Nat),(elsC L l).length=l.length
 | [],L=>rfl
 | q::l,L=>by rw [elsC,List.length_cons,elsC_len l,List.length_cons]
theorem arV_sc (L:Nat) (ps:List Pt):(arV L ps).cells=[arV L ps]∧isSc (arV L ps)=true:=by cases ps <;> exact ⟨rfl,rfl⟩
def phV (L:Nat) (r:Rul):AV:=match r.phs with
 | []=>.lst []
 | p::l=>.slc (L+3) 0 (p::l).length
def cpS (L:Nat) (r:Rul):Heap:=match r.phs with
 | []=>[some ⟨E24,[rlX (.lst []) r]⟩,some ⟨E24,[rlX (.lst []) r]⟩]
 | p::l=>[some ⟨E24,[rlX (.slc (L+3) 0 (p::l).length) r]⟩,some ⟨E24,[rlX (.slc (L+3) 0 (p::l).length) r]⟩,none,some ⟨E43,elsC (L+4) (p::l)⟩] ++ arsC (p::l)
theorem take_snoc {l:List Phs} {i:Nat} (h:i < l.length):l.take (i+1)=l.take i ++ [l[i]]:=by rw [List.take_add_one,List.getElem?_eq_getElem h]; rfl
theorem els_at {L i:Nat} {l:List Phs} (h:i < l.length):(elsC L (l.take i) ++ (l.drop i).map phA)[i]?=some (phA l[i]):=by
 rw [List.getElem?_append_right (by rw [elsC_len,List.length_take]; omega),elsC_len,List.length_take,show i - min i l.length=0 by omega,List.drop_eq_getElem_cons h]; rfl
theorem els_set {L i:Nat} {l:List Phs} (h:i < l.length):(elsC L (l.take i) ++ (l.drop i).map phA).set i (phX (arV (L+(arsC (l.take i)).length) l[i].ps) l[i])=elsC L (l.take (i+1)) ++ (l.drop (i+1)).map phA:=by
 have e:i=(elsC L (l.take i)).length:=by rw [elsC_len,List.length_take]; omega
 rw [List.set_append_right _ _ (by omega),show i - (elsC L (l.take i)).length=0 by omega,List.drop_eq_getElem_cons h,take_snoc h,elsC_snoc]
 simp only [List.map_cons,List.set_cons_zero,List.append_assoc,List.singleton_append]
theorem put_ar {x y:AV} {p:Phs} (h1:x.cells=[x]) (h2:isSc x=true):putSub 1 (0+0) x (phX y p)=some (phX x p):=by
 simp only [putSub]
 rw [if_pos ⟨by simp,by rw [h1]; rfl,by rw [h1]; simp [h2]⟩,h1]; rfl
theorem copy_go (d n0:Nat) (H:Heap) (K:AV→Heap→Ans) (r:Rul) (hl:r.phs.length≤1000000) (ha:∀ p ∈ r.phs,p.ps.length≤1000000) (B1:Blk) (hB1:∃ v,B1=⟨E24,[rlX v ⟨[],0,0,0,0,0,0,0,0⟩]⟩):∀ (k i:Nat),i+k=r.phs.length→∀ f,k < f →
 L23_4 (d+1) (n0+1) K (.ptr (H.length+0) 0 0) (.ptr (H.length+1) 0 0) (r.phs.length:Nat) f (i:Nat)
  (H ++ ([some ⟨E24,[rlX (.slc (H.length+3) 0 r.phs.length) r]⟩,some B1,none,some ⟨E43,elsC (H.length+4) (r.phs.take i) ++ (r.phs.drop i).map phA⟩] ++ arsC (r.phs.take i))) =
 K (rlX (.slc (H.length+3) 0 r.phs.length) r) (H ++ ([some ⟨E24,[rlX (.slc (H.length+3) 0 r.phs.length) r]⟩,some ⟨E24,[rlX (.slc (H.length+3) 0 r.phs.length) r]⟩,none,some ⟨E43,elsC (H.length+4) r.phs⟩] ++ arsC r.phs))
 | 0,i,h,f+1,_=>by
   obtain ⟨bv,rfl⟩:=hB1
   rw [L23_4_s,decide_eq_false (by omega),cnd_f]
   rw [List.take_of_length_le (by omega),List.drop_of_length_le (by omega),List.map_nil,List.append_nil]
   unfold X23_4_0
   refine Eq.trans (ld_s (by rfl) (by rfl) (by rfl)) ?_; refine Eq.trans (pl_agg (by rfl) (by rfl)) ?_; refine Eq.trans (pl_any (by rfl)) ?_; refine Eq.trans (pl_int (by rfl)) ?_; refine Eq.trans (pl_int (by rfl)) ?_; refine Eq.trans (pl_int (by rfl)) ?_; refine Eq.trans (pl_int (by rfl)) ?_; refine Eq.trans (pl_int (by rfl)) ?_; refine Eq.trans (pl_int (by rfl)) ?_; refine Eq.trans (pl_int (by rfl)) ?_; refine Eq.trans (pl_int (by rfl)) ?_; refine Eq.trans (st_s (by rfl) (by rfl) (by rfl)) ?_; refine Eq.trans (ld_s (by rfl) (by rfl) (by rfl)) ?_
   rfl
 | k+1,i,h,f+1,hf=>by
   have hi:i < r.phs.length:=by omega
   have hp:=ha _ (List.getElem_mem hi)
   rw [L23_4_s,decide_eq_true (by omega),cnd_t]
   refine Eq.trans sh_ptr ?_; refine Eq.trans (ld_s (by rfl) (by rfl) (by rfl)) ?_; refine Eq.trans sh_ptr ?_; refine Eq.trans (ld_s (by rfl) (by rfl) (by rfl)) ?_
   refine Eq.trans (ix_s (by rfl) (by omega) (by omega) (by rfl)) ?_
   refine Eq.trans sh_ptr ?_
   refine Eq.trans (ld_s (v:=.lst (r.phs[i].ps.map pt)) (by rfl) (show (elsC (H.length+4) (r.phs.take i) ++ (r.phs.drop i).map phA)[0+((i:Nat):Int).toNat]?=some (phA r.phs[i]) by rw [Nat.zero_add,Int.toNat_natCast]; exact els_at hi) (by rfl)) ?_
   refine Eq.trans (cal_eq (cloneF d n0 r.phs[i].ps hp _)) ?_
   refine Eq.trans (pl_any (by rfl)) ?_
   rw [List.append_assoc]
   refine Eq.trans (ix_s (by rfl) (by omega) (by omega) (by rfl)) ?_
   refine Eq.trans sh_ptr ?_
   have hsc:=arV_sc (H ++ ([some ⟨E24,[rlX (.slc (H.length+3) 0 r.phs.length) r]⟩,some B1,none,some ⟨E43,elsC (H.length+4) (r.phs.take i) ++ (r.phs.drop i).map phA⟩] ++ arsC (r.phs.take i))).length r.phs[i].ps
   refine Eq.trans (st_s (el':=phX _ r.phs[i]) (by rfl) (show (elsC (H.length+4) (r.phs.take i) ++ (r.phs.drop i).map phA)[0+((i:Nat):Int).toNat]?=some (phA r.phs[i]) by rw [Nat.zero_add,Int.toNat_natCast]; exact els_at hi) (put_ar hsc.1 hsc.2)) ?_
   rw [Nat.zero_add,Int.toNat_natCast]
   rw [show (H ++ ([some ⟨E24,[rlX (.slc (H.length+3) 0 r.phs.length) r]⟩,some B1,none,some ⟨E43,elsC (H.length+4) (r.phs.take i) ++ (r.phs.drop i).map phA⟩] ++ arsC (r.phs.take i))).length=H.length+4+(arsC (r.phs.take i)).length by simp; omega]
   have ih:=copy_go d n0 H K r hl ha B1 hB1 k (i+1) (by omega) f (by omega)
   rw [← els_set hi,take_snoc hi,arsC_app] at ih
   rw [show IntKind.wrap .i64 (((i:Nat):Int)+1)=((i+1:Nat):Int) by rw [i64w]; omega]
   refine Eq.trans (congrArg _ ?_) ih
   simp [arsC]
theorem copyI (d n0:Nat) (r:Rul) (hl:r.phs.length≤1000000) (ha:∀ p ∈ r.phs,p.ps.length≤1000000) (H:Heap):callB M (pcall M (d+1)) (n0+10) true 23 [rl r] H=some (rlX (phV H.length r) r,H ++ cpS H.length r):=by
 refine xmeth_ok (U:=unr) (n:=n0+9) rfl rfl rfl fun K=>?_
 refine (q23 (d+1) _ _ _ _ _ _ _ _ _ (n0+1) _ K).trans ?_
 refine Eq.trans (bx_n (by rfl)) ?_
 refine Eq.trans al_s ?_; refine Eq.trans sh_ptr ?_; refine Eq.trans (ld_s (by rfl) (by rfl) (by rfl)) ?_
 obtain ⟨phs,n,dd,gr,eps,st,age,lift,saf⟩:=r
 cases phs with
 | nil =>
   refine Eq.trans (pl_bool (n:=true) (by rfl)) ?_
   rw [cnd_t]
   refine Eq.trans (pl_same (cloneHQ d)) ?_
   refine Eq.trans sh_ptr ?_; refine Eq.trans (st_s (by rfl) (by rfl) (by rfl)) ?_; refine Eq.trans sh_ptr ?_; refine Eq.trans (ld_s (by rfl) (by rfl) (by rfl)) ?_
   refine Eq.trans len_lst ?_
   refine Eq.trans (pl_int (by rfl)) ?_
   rw [show 10000000000000000000=(9999999999999999999)+1 from rfl,L23_0_s,decide_eq_false (by simp),cnd_f]
   unfold X23_0_0
   refine Eq.trans (ld_s (by rfl) (by rfl) (by rfl)) ?_; refine Eq.trans (pl_agg (by rfl) (by rfl)) ?_; refine Eq.trans (pl_any (by rfl)) ?_; refine Eq.trans (pl_int (by rfl)) ?_; refine Eq.trans (pl_int (by rfl)) ?_; refine Eq.trans (pl_int (by rfl)) ?_; refine Eq.trans (pl_int (by rfl)) ?_; refine Eq.trans (pl_int (by rfl)) ?_; refine Eq.trans (pl_int (by rfl)) ?_; refine Eq.trans (pl_int (by rfl)) ?_; refine Eq.trans (pl_int (by rfl)) ?_; refine Eq.trans (st_s (by rfl) (by rfl) (by rfl)) ?_; refine Eq.trans (ld_s (by rfl) (by rfl) (by rfl)) ?_
   rfl
 | cons q l =>
   refine Eq.trans (pl_bool (n:=false) (by rfl)) ?_
   rw [cnd_f]
   refine Eq.trans (hop_eq (by rfl)) ?_; refine Eq.trans (pl_bool (by rfl)) ?_
   refine Eq.trans (pl_f (by rfl)) ?_
   refine Eq.trans mk_s ?_
   refine Eq.trans (ap_s (by rfl) (all_phE _) (by change (q::l).length≤_ at hl; rw [List.length_map,show (E43).bytes=56 from rfl]; change (q::l).length * 56≤_; omega) (by change (q::l).length≤_ at hl; rw [List.length_map]; change (q::l).length≤_; omega)) ?_
   rw [List.length_map]
   refine Eq.trans sh_ptr ?_; refine Eq.trans (st_s (by rfl) (by rfl) (by rfl)) ?_; refine Eq.trans sh_ptr ?_; refine Eq.trans (ld_s (by rfl) (by rfl) (by rfl)) ?_
   refine Eq.trans (ln_s (by rfl)) ?_
   refine Eq.trans (pl_int (by rfl)) ?_
   have:=copy_go d n0 H K ⟨q::l,n,dd,gr,eps,st,age,lift,saf⟩ hl ha ⟨E24,[(E24).zero]⟩ ⟨.zsl true,rfl⟩ (q::l).length 0 (by simp) 10000000000000000000 (by change (q::l).length≤_ at hl; omega)
   refine Eq.trans ?_ this
   rfl
def ArOf (H:Heap) (lo hi:Nat) (av:AV) (ps:List Pt):Prop:=(ps=[]∧av=.lst []) ∨ ∃ id,lo≤id∧id < hi∧av=.slc id 0 ps.length∧hget H id=some ⟨E62,ps.map pt⟩
def CpOf (H:Heap) (lo hi:Nat) (v:AV) (l:List Phs):Prop:=(l=[]∧v=.lst []) ∨ ∃ id els,lo≤id∧id < hi∧v=.slc id 0 l.length∧hget H id=some ⟨E43,els⟩∧els.length=l.length ∧
 ∀ (i:Nat) (p:Phs),l[i]?=some p→∃ av,els[i]?=some (phX av p)∧ArOf H (id+1) hi av p.ps
theorem ar_mono {H H':Heap} {lo lo' hi hi':Nat} {av:AV} {ps:List Pt} (h:ArOf H lo hi av ps) (h1:lo'≤lo) (h2:hi≤hi') (hk:∀ id b,lo≤id→id < hi→hget H id=some b→hget H' id=some b):ArOf H' lo' hi' av ps:=by
 rcases h with h | ⟨id,a,b,c,d⟩
 ·exact .inl h
 ·exact .inr ⟨id,by omega,by omega,c,hk _ _ a b d⟩
theorem cp_mono {H H':Heap} {lo lo' hi hi':Nat} {v:AV} {l:List Phs} (h:CpOf H lo hi v l) (h1:lo'≤lo) (h2:hi≤hi') (hk:∀ id b,lo≤id→id < hi→hget H id=some b→hget H' id=some b):CpOf H' lo' hi' v l:=by
 rcases h with h | ⟨id,els,a,b,c,d,e,f⟩
 ·exact .inl h
 ·refine .inr ⟨id,els,by omega,by omega,c,hk _ _ a b d,e,fun i p hp=>?_⟩
  obtain ⟨av,g1,g2⟩:=f i p hp
  exact ⟨av,g1,ar_mono g2 (Nat.le_refl _) h2 fun id' b' x y z=>hk id' b' (by omega) y z⟩
theorem els_all:∀ (l:List Phs) (pre:Heap) (i:Nat) (p:Phs),l[i]?=some p→∃ av,(elsC pre.length l)[i]?=some (phX av p)∧ArOf (pre ++ arsC l) pre.length (pre ++ arsC l).length av p.ps
 | [],_,_,_,h=>by simp at h
 | q::l,pre,0,p,h=>by
   simp only [List.getElem?_cons_zero,Option.some.injEq] at h
   subst h
   refine ⟨arV pre.length q.ps,rfl,?_⟩
   cases hq:q.ps with
   | nil=>exact .inl ⟨rfl,rfl⟩
   | cons a b =>
     refine .inr ⟨pre.length+1,by omega,?_,rfl,?_⟩
     ·rw [arsC,hq]; simp [arS]
     ·rw [arsC,hq]; exact hget_s rfl
 | q::l,pre,i+1,p,h=>by
   simp only [List.getElem?_cons_succ] at h
   obtain ⟨av,h1,h2⟩:=els_all l (pre ++ arS q.ps) i p h
   refine ⟨av,?_,?_⟩
   ·rw [elsC,List.getElem?_cons_succ,← h1,List.length_append]
   ·rw [arsC,← List.append_assoc]
    exact ar_mono h2 (by simp) (Nat.le_refl _) fun _ _ _ _ x=>x
theorem cp_copy (H:Heap) (r:Rul):CpOf (H ++ cpS H.length r) H.length (H ++ cpS H.length r).length (phV H.length r) r.phs:=by
 obtain ⟨phs,n,dd,gr,eps,st,age,lift,saf⟩:=r
 cases phs with
 | nil=>exact .inl ⟨rfl,rfl⟩
 | cons q l =>
   refine .inr ⟨H.length+3,elsC (H.length+4) (q::l),by omega,by simp [cpS],rfl,hget_s rfl,elsC_len _ _,fun i p hp=>?_⟩
   have:=els_all (q::l) (H ++ [some ⟨E24,[rlX (.slc (H.length+3) 0 (q::l).length) ⟨q::l,n,dd,gr,eps,st,age,lift,saf⟩]⟩,some ⟨E24,[rlX (.slc (H.length+3) 0 (q::l).length) ⟨q::l,n,dd,gr,eps,st,age,lift,saf⟩]⟩,none,some ⟨E43,elsC (H.length+4) (q::l)⟩]) i p hp
   rw [List.append_assoc] at this
   obtain ⟨av,h1,h2⟩:=this
   refine ⟨av,?_,ar_mono h2 (by simp) (Nat.le_refl _) fun _ _ _ _ x=>x⟩
   rw [← h1]; simp
theorem snap_slc {H:Heap} {id k:Nat} {e:ETy} {els l:List AV} (h:hget H id=some ⟨e,els⟩) (hl:els.map (snap (k+1) H)=l):snap (k+2) H (.slc id 0 els.length)=.lst l:=by
 simp only [snap,h]
 rw [if_neg (by omega),if_pos (by simp)]
 simp only [List.drop_zero,List.take_length]
 exact congrArg AV.lst hl
theorem snap_pts (k:Nat) (H:Heap) (ps:List Pt):(ps.map pt).map (snap (k+2) H)=ps.map pt:=by
 rw [List.map_map]; rfl
theorem snap_ar {H:Heap} {lo hi k:Nat} {av:AV} {ps:List Pt} (h:ArOf H lo hi av ps):snap (k+3) H av=.lst (ps.map pt):=by
 rcases h with ⟨rfl,rfl⟩ | ⟨id,_,_,rfl,h⟩
 ·rfl
 ·have:=snap_slc (k:=k+1) h (snap_pts k H ps)
  rwa [List.length_map] at this
theorem al_st {G:Heap} {e:ETy} {n:Nat} {x:AV} {K:AV→AV→Heap→Ans} (h:putSub n 0 x e.zero=some x):(C0.hop G (.alloc e) fun p h=>C0.hop h (.store n (.v p) (.v x)) fun u h'=>K p u h')=K (.ptr G.length 0 0) .undef (G ++ [some ⟨e,[x]⟩]):=by
 refine Eq.trans (hop_eq rfl) ?_
 refine Eq.trans (st_ptr hget_new rfl h) ?_
 rw [List.set_append_right _ _ (Nat.le_refl _)]
 simp
theorem len_cp {H:Heap} {lo hi:Nat} {v:AV} {l:List Phs} {K:AV→Heap→Ans} (h:CpOf H lo hi v l):C0.hop H (.bk .lenV [.v v]) K=K (.int .i64 l.length) H:=by
 rcases h with ⟨rfl,rfl⟩ | ⟨id,els,_,_,rfl,h,_⟩
 ·exact len_lst
 ·exact hop_eq (by simp only [aop,evO,lenOf]; rw [h])
end Go.Proofs.Ytdceaeifcniabaa.AE

namespace Go.Proofs.Ytdceaeifcniabaa.AE
set_option linter.unusedVariables false
set_option linter.unusedSimpArgs false
set_option linter.constructorNameAsVariable false
open Go
theorem gr_eq {H Z:Heap} {K:Nat→Heap→Ans}:C0.grow H Z K=K H.length (H ++ Z):=rfl
theorem gr_nil {H:Heap} {K:Nat→Heap→Ans}:C0.grow H [] K=K H.length H:=by
 rw [gr_eq,List.append_nil]
theorem keep_ok {A B:Heap} {l:List AV} {K:Ans} (h:∀ v ∈ l,∀ id ∈ idsOf v,A[id]?=B[id]?):C0.keep A B l K=K:=by
 change (match keepL A B l with
  | true=>K
  | false=>none)=K
 have:keepL A B l=true:=by
  rw [keepL,List.all_eq_true]
  intro v hv
  rw [List.all_eq_true]
  intro id hi
  exact keepB_of (h v hv id hi)
 rw [this]
theorem keep_1 {A B:Heap} {id i j:Nat} {K:Ans} (h:A[id]?=B[id]?):C0.keep A B [.ptr id i j] K=K:=keep_ok fun v hv id' hi=>by
 simp only [List.mem_singleton] at hv
 subst hv
 simp only [idsOf,List.mem_singleton] at hi
 subst hi; exact h
theorem hget_some {H:Heap} {id:Nat} {b:Blk} (h:hget H id=some b):H[id]?=some (some b):=(hget_lt h).1
theorem keep_g {A B:Heap} {id i j:Nat} {b:Blk} {K:Ans} (h:hget A id=some b) (h':hget B id=some b):C0.keep A B [.ptr id i j] K=K:=keep_1 (by rw [hget_some h,hget_some h'])
theorem fin_bl {H:Heap} {b:Bool}:C0.fin H (.bool b)=some (.bool b):=by rw [C0_fin]; rfl
end Go.Proofs.Ytdceaeifcniabaa.AE

namespace Go.Proofs.Ytdceaeifcniabaa.AE
set_option linter.unusedVariables false
set_option linter.unusedSimpArgs false
set_option linter.constructorNameAsVariable false
open Go
set_option maxRecDepth 100000
set_option maxHeartbeats 0
theorem r9 (C:Cb) (d:Nat) (a0:AV) (a1 a2 a3 a4 a5 a6 a7 a8:Int) (n0:Nat) (H0:Heap) (K0:AV→Heap→Ans):xmeth C M unr d (n0+8) 9 [(.agg [a0,(iz a1),(iz a2),(iz a3),(iz a4),(iz a5),(iz a6),(iz a7),(iz a8)])] H0 K0 =
 C.hop H0 (.box E24 (.v (.agg [a0,(iz a1),(iz a2),(iz a3),(iz a4),(iz a5),(iz a6),(iz a7),(iz a8)]))) fun v0 h1 =>
 C.hop h1 (.load true 9 (.v v0)) fun v2 h3 =>
 C.agg 9 (some v2) fun l4 =>
 C.any l4[0]? fun v5 =>
 C.int .i64 l4[1]? fun x6 =>
 C.int .i64 l4[2]? fun x7 =>
 C.int .i64 l4[3]? fun x8 =>
 C.int .i64 l4[4]? fun x9 =>
 C.int .i64 l4[5]? fun x10 =>
 C.int .i64 l4[6]? fun x11 =>
 C.int .i64 l4[7]? fun x12 =>
 C.int .i64 l4[8]? fun x13 =>
 C.snp h3 [(.agg [v5,(iz x6),(iz x7),(iz x8),(iz x9),(iz x10),(iz x11),(iz x12),(iz x13)])] fun l14 b15 =>
 C.bool (pcall M d 22 l14) fun b16 =>
 cnd (b15 || true)
 (cnd (!b16)
 (K0 .nilp h3)
 (C.hop h3 (.load true 9 (.v v0)) fun v17 h18 =>
 C.agg 9 (some v17) fun l19 =>
 C.any l19[0]? fun v20 =>
 C.int .i64 l19[1]? fun x21 =>
 C.int .i64 l19[2]? fun x22 =>
 C.int .i64 l19[3]? fun x23 =>
 C.int .i64 l19[4]? fun x24 =>
 C.int .i64 l19[5]? fun x25 =>
 C.int .i64 l19[6]? fun x26 =>
 C.int .i64 l19[7]? fun x27 =>
 C.int .i64 l19[8]? fun x28 =>
 C.cal M (pcall M d) (n0+8) true 23 [(.agg [v20,(iz x21),(iz x22),(iz x23),(iz x24),(iz x25),(iz x26),(iz x27),(iz x28)])] h18 fun v29 h30 =>
 C.agg 9 (some v29) fun l31 =>
 C.any l31[0]? fun v32 =>
 C.int .i64 l31[1]? fun x33 =>
 C.int .i64 l31[2]? fun x34 =>
 C.int .i64 l31[3]? fun x35 =>
 C.int .i64 l31[4]? fun x36 =>
 C.int .i64 l31[5]? fun x37 =>
 C.int .i64 l31[6]? fun x38 =>
 C.int .i64 l31[7]? fun x39 =>
 C.int .i64 l31[8]? fun x40 =>
 C.cal M (pcall M d) (n0+8) true 24 [(iz 1000000)] h30 fun v41 h42 =>
 C.any (some v41) fun v43 =>
 C.hop h42 (.build [(.zsl true),(iz 0),(iz 0),(iz 0),(iz 0),(iz 0),(iz 0),(iz 0),(iz 0),(iz 0),.nilp] [(0,9,(.v (.agg [v32,(iz x33),(iz x34),(iz x35),(iz x36),(iz x37),(iz x38),(iz x39),(iz x40)]))),(10,1,(.v v43))]) fun v44 h45 =>
 C.agg 11 (some v44) fun l46 =>
 C.any l46[0]? fun v47 =>
 C.int .i64 l46[1]? fun x48 =>
 C.int .i64 l46[2]? fun x49 =>
 C.int .i64 l46[3]? fun x50 =>
 C.int .i64 l46[4]? fun x51 =>
 C.int .i64 l46[5]? fun x52 =>
 C.int .i64 l46[6]? fun x53 =>
 C.int .i64 l46[7]? fun x54 =>
 C.int .i64 l46[8]? fun x55 =>
 C.int .i64 l46[9]? fun x56 =>
 C.any l46[10]? fun v57 =>
 C.hop h45 (.box E54 (.v (.agg [v47,(iz x48),(iz x49),(iz x50),(iz x51),(iz x52),(iz x53),(iz x54),(iz x55),(iz x56),v57]))) fun v58 h59 =>
 K0 v58 h59))
 (none):=by kernel_rfl
theorem r11 (C:Cb) (d:Nat) (a0:AV) (a1:Int) (a2:Bool) (n0:Nat) (H0:Heap) (K0:AV→Heap→Ans):xmeth C M unr d (n0+8) 11 [a0,(iz a1),(.bool a2)] H0 K0 =
 C.cal M (pcall M d) (n0+8) true 20 [a0] H0 fun v0 h1 =>
 C.agg 5 (some v0) fun l2 =>
 C.any l2[0]? fun v3 =>
 C.int .i64 l2[1]? fun x4 =>
 C.int .i64 l2[2]? fun x5 =>
 C.int .i64 l2[3]? fun x6 =>
 C.int .i64 l2[4]? fun x7 =>
 C.hop h1 (.alloc E43) fun v8 h9 =>
 C.hop h9 (.store 5 (.v v8) (.v (.agg [v3,(iz x4),(iz x5),(iz x6),(iz x7)]))) fun v10 h11 =>
 C.grow h11 [] fun n12 h13 =>
 cnd a2
 (C.cal M (pcall M d) (n0+8) true 18 [a0] h13 fun v14 h15 =>
 C.bool (some v14) fun b16 =>
 cnd (!b16)
 (C.cal M (pcall M d) (n0+8) true 17 [a0] h15 fun v17 h18 =>
 C.int .i64 (some v17) fun x19 =>
 C.hop h18 (.fldA 3 (.v v8)) fun v20 h21 =>
 C.hop h21 (.load false 1 (.v v20)) fun v22 h23 =>
 C.int .i64 (some v22) fun x24 =>
 C.keep h15 h18 [v20] <|
 cnd (decide (x19 ≥ x24))
 (C.hop h23 (.fldA 4 (.v v8)) fun v25 h26 =>
 C.hop h26 (.load false 1 (.v v25)) fun v27 h28 =>
 C.int .i64 (some v27) fun x29 =>
 K0 (.bool (decide (a1 ≥ x29))) h28)
 (K0 bf h23))
 (K0 bf h15))
 (K0 bf h13):=by kernel_rfl
theorem r12 (C:Cb) (d:Nat) (a0:AV) (a1:Int) (a2:Bool) (n0:Nat) (H0:Heap) (K0:AV→Heap→Ans):xmeth C M unr d (n0+8) 12 [a0,(iz a1),(.bool a2)] H0 K0 =
 C.hop H0 (.nilck (.v a0)) fun v0 h1 =>
 C.hop h1 (.fldA 0 (.v v0)) fun v2 h3 =>
 C.hop h3 (.fldA 0 (.v v2)) fun v4 h5 =>
 C.hop h5 (.load false 1 (.v v4)) fun v6 h7 =>
 C.hop h7 (.nilck (.v a0)) fun v8 h9 =>
 C.hop h9 (.fldA 9 (.v v8)) fun v10 h11 =>
 C.hop h11 (.load false 1 (.v v10)) fun v12 h13 =>
 C.int .i64 (some v12) fun x14 =>
 C.hop h13 (.ixAS .any 5 (.v v6) (.v (iz x14))) fun v15 h16 =>
 C.hop h16 (.load true 5 (.v v15)) fun v17 h18 =>
 C.agg 5 (some v17) fun l19 =>
 C.any l19[0]? fun v20 =>
 C.int .i64 l19[1]? fun x21 =>
 C.int .i64 l19[2]? fun x22 =>
 C.int .i64 l19[3]? fun x23 =>
 C.int .i64 l19[4]? fun x24 =>
 C.hop h18 (.alloc E43) fun v25 h26 =>
 C.hop h26 (.store 5 (.v v25) (.v (.agg [v20,(iz x21),(iz x22),(iz x23),(iz x24)]))) fun v27 h28 =>
 cnd a2
 (C.hop h28 (.nilck (.v a0)) fun v29 h30 =>
 C.hop h30 (.fldA 9 (.v v29)) fun v31 h32 =>
 C.hop h32 (.load false 1 (.v v31)) fun v33 h34 =>
 C.int .i64 (some v33) fun x35 =>
 C.hop h34 (.nilck (.v a0)) fun v36 h37 =>
 C.hop h37 (.fldA 0 (.v v36)) fun v38 h39 =>
 C.hop h39 (.fldA 0 (.v v38)) fun v40 h41 =>
 C.hop h41 (.load false 1 (.v v40)) fun v42 h43 =>
 C.hop h43 (.bk .lenV [(.v v42)]) fun v44 h45 =>
 C.int .i64 (some v44) fun x46 =>
 cnd (decide ((IntKind.wrap .i64 (x35+1)) < x46))
 (C.hop h45 (.nilck (.v a0)) fun v47 h48 =>
 C.hop h48 (.fldA 10 (.v v47)) fun v49 h50 =>
 C.hop h50 (.load false 1 (.v v49)) fun v51 h52 =>
 C.int .i64 (some v51) fun x53 =>
 C.hop h52 (.fldA 3 (.v v25)) fun v54 h55 =>
 C.hop h55 (.load false 1 (.v v54)) fun v56 h57 =>
 C.int .i64 (some v56) fun x58 =>
 cnd (decide (x53 ≥ x58))
 (C.hop h57 (.fldA 4 (.v v25)) fun v59 h60 =>
 C.hop h60 (.load false 1 (.v v59)) fun v61 h62 =>
 C.int .i64 (some v61) fun x63 =>
 K0 (.bool (decide (a1 ≥ x63))) h62)
 (K0 bf h57))
 (K0 bf h45))
 (K0 bf h28):=by kernel_rfl
theorem r13 (C:Cb) (d:Nat) (a0:AV) (a1 a2:Bool) (n0:Nat) (H0:Heap) (K0:AV→Heap→Ans):xmeth C M unr d (n0+8) 13 [a0,(.bool a1),(.bool a2)] H0 K0 =
 C.hop H0 (.eqv false 1 [] (.v a0) (.v .nilp)) fun v0 h1 =>
 C.bool (some v0) fun b2 =>
 cnd b2
 (K0 bf h1)
 (cnd (!a1)
 (C.hop h1 (.nilck (.v a0)) fun v3 h4 =>
 C.hop h4 (.fldA 10 (.v v3)) fun v5 h6 =>
 C.hop h6 (.load false 1 (.v v5)) fun v7 h8 =>
 C.cal M (pcall M d) (n0+8) true 27 [v7] h8 fun v9 h10 =>
 C.int .i64 (some v9) fun x11 =>
 K0 bf h10)
 (cnd (!a2)
 (C.hop h1 (.nilck (.v a0)) fun v12 h13 =>
 C.hop h13 (.fldA 10 (.v v12)) fun v14 h15 =>
 C.hop h15 (.load false 1 (.v v14)) fun v16 h17 =>
 C.cal M (pcall M d) (n0+8) true 27 [v16] h17 fun v18 h19 =>
 C.int .i64 (some v18) fun x20 =>
 K0 bf h19)
 (C.cal M (pcall M d) (n0+8) true 18 [a0] h1 fun v21 h22 =>
 C.bool (some v21) fun b23 =>
 cnd b23
 (C.hop h22 (.nilck (.v a0)) fun v24 h25 =>
 C.hop h25 (.fldA 10 (.v v24)) fun v26 h27 =>
 C.hop h27 (.load false 1 (.v v26)) fun v28 h29 =>
 C.cal M (pcall M d) (n0+8) true 27 [v28] h29 fun v30 h31 =>
 C.int .i64 (some v30) fun x32 =>
 K0 bf h31)
 (C.hop h22 (.nilck (.v a0)) fun v33 h34 =>
 C.hop h34 (.fldA 9 (.v v33)) fun v35 h36 =>
 C.hop h36 (.load false 1 (.v v35)) fun v37 h38 =>
 C.int .i64 (some v37) fun x39 =>
 C.hop h38 (.nilck (.v a0)) fun v40 h41 =>
 C.hop h41 (.fldA 9 (.v v40)) fun v42 h43 =>
 C.hop h43 (.store 1 (.v v42) (.v (iz (IntKind.wrap .i64 (x39+1))))) fun v44 h45 =>
 C.hop h45 (.nilck (.v a0)) fun v46 h47 =>
 C.hop h47 (.fldA 10 (.v v46)) fun v48 h49 =>
 C.hop h49 (.load false 1 (.v v48)) fun v50 h51 =>
 C.cal M (pcall M d) (n0+8) true 28 [v50] h51 fun v52 h53 =>
 C.tup 0 (some v52) fun l54 =>
 K0 bt h53)))):=by kernel_rfl
theorem r14 (C:Cb) (d:Nat) (a0:AV) (a1 a2:Bool) (n0:Nat) (H0:Heap) (K0:AV→Heap→Ans):xmeth C M unr d (n0+8) 14 [a0,(.bool a1),(.bool a2)] H0 K0 =
 cnd a1
 (cnd a2
 (C.hop H0 (.nilck (.v a0)) fun v0 h1 =>
 C.hop h1 (.fldA 9 (.v v0)) fun v2 h3 =>
 C.hop h3 (.load false 1 (.v v2)) fun v4 h5 =>
 C.int .i64 (some v4) fun x6 =>
 C.hop h5 (.nilck (.v a0)) fun v7 h8 =>
 C.hop h8 (.fldA 0 (.v v7)) fun v9 h10 =>
 C.hop h10 (.fldA 0 (.v v9)) fun v11 h12 =>
 C.hop h12 (.load false 1 (.v v11)) fun v13 h14 =>
 C.hop h14 (.bk .lenV [(.v v13)]) fun v15 h16 =>
 C.int .i64 (some v15) fun x17 =>
 cnd (decide ((IntKind.wrap .i64 (x6+1)) < x17))
 (C.hop h16 (.nilck (.v a0)) fun v18 h19 =>
 C.hop h19 (.fldA 9 (.v v18)) fun v20 h21 =>
 C.hop h21 (.load false 1 (.v v20)) fun v22 h23 =>
 C.int .i64 (some v22) fun x24 =>
 C.hop h23 (.nilck (.v a0)) fun v25 h26 =>
 C.hop h26 (.fldA 9 (.v v25)) fun v27 h28 =>
 C.hop h28 (.store 1 (.v v27) (.v (iz (IntKind.wrap .i64 (x24+1))))) fun v29 h30 =>
 C.hop h30 (.nilck (.v a0)) fun v31 h32 =>
 C.hop h32 (.fldA 10 (.v v31)) fun v33 h34 =>
 C.hop h34 (.store 1 (.v v33) (.v (iz 0))) fun v35 h36 =>
 K0 bt h36)
 (C.hop h16 (.nilck (.v a0)) fun v37 h38 =>
 C.hop h38 (.fldA 10 (.v v37)) fun v39 h40 =>
 C.hop h40 (.load false 1 (.v v39)) fun v41 h42 =>
 C.int .i64 (some v41) fun x43 =>
 C.hop h42 (.nilck (.v a0)) fun v44 h45 =>
 C.hop h45 (.fldA 10 (.v v44)) fun v46 h47 =>
 C.hop h47 (.store 1 (.v v46) (.v (iz (if ((1000000:Int) < (IntKind.wrap .i64 (x43+1))) then 1000000 else (IntKind.wrap .i64 (x43+1)))))) fun v48 h49 =>
 K0 bf h49))
 (C.hop H0 (.nilck (.v a0)) fun v50 h51 =>
 C.hop h51 (.fldA 10 (.v v50)) fun v52 h53 =>
 C.hop h53 (.load false 1 (.v v52)) fun v54 h55 =>
 C.int .i64 (some v54) fun x56 =>
 C.hop h55 (.nilck (.v a0)) fun v57 h58 =>
 C.hop h58 (.fldA 10 (.v v57)) fun v59 h60 =>
 C.hop h60 (.store 1 (.v v59) (.v (iz (if ((1000000:Int) < (IntKind.wrap .i64 (x56+1))) then 1000000 else (IntKind.wrap .i64 (x56+1)))))) fun v61 h62 =>
 K0 bf h62))
 (C.hop H0 (.nilck (.v a0)) fun v63 h64 =>
 C.hop h64 (.fldA 10 (.v v63)) fun v65 h66 =>
 C.hop h66 (.load false 1 (.v v65)) fun v67 h68 =>
 C.int .i64 (some v67) fun x69 =>
 C.hop h68 (.nilck (.v a0)) fun v70 h71 =>
 C.hop h71 (.fldA 10 (.v v70)) fun v72 h73 =>
 C.hop h73 (.store 1 (.v v72) (.v (iz (if ((1000000:Int) < (IntKind.wrap .i64 (x69+1))) then 1000000 else (IntKind.wrap .i64 (x69+1)))))) fun v74 h75 =>
 K0 bf h75):=by kernel_rfl
theorem r15 (C:Cb) (d:Nat) (a0:AV) (a1 a2:Int) (n0:Nat) (H0:Heap) (K0:AV→Heap→Ans):xmeth C M unr d (n0+8) 15 [a0,(iz a1),(iz a2)] H0 K0 =
 C.hop H0 (.eqv false 1 [] (.v a0) (.v .nilp)) fun v0 h1 =>
 C.bool (some v0) fun b2 =>
 cnd b2
 (K0 bf h1)
 (cnd (decide (a1 < 0))
 (K0 bf h1)
 (C.hop h1 (.nilck (.v a0)) fun v3 h4 =>
 C.hop h4 (.fldA 0 (.v v3)) fun v5 h6 =>
 C.hop h6 (.fldA 0 (.v v5)) fun v7 h8 =>
 C.hop h8 (.load false 1 (.v v7)) fun v9 h10 =>
 C.hop h10 (.bk .lenV [(.v v9)]) fun v11 h12 =>
 C.int .i64 (some v11) fun x13 =>
 cnd (decide (a1 ≥ x13))
 (K0 bf h12)
 (cnd (decide (a2 < 0))
 (K0 bf h12)
 (cnd (decide (a2 > 1000000))
 (K0 bf h12)
 (C.hop h12 (.nilck (.v a0)) fun v14 h15 =>
 C.hop h15 (.fldA 9 (.v v14)) fun v16 h17 =>
 C.hop h17 (.store 1 (.v v16) (.v (iz a1))) fun v18 h19 =>
 C.hop h19 (.nilck (.v a0)) fun v20 h21 =>
 C.hop h21 (.fldA 10 (.v v20)) fun v22 h23 =>
 C.hop h23 (.load false 1 (.v v22)) fun v24 h25 =>
 C.cal M (pcall M d) (n0+8) true 29 [v24,(iz a2)] h25 fun v26 h27 =>
 C.tup 0 (some v26) fun l28 =>
 K0 bt h27))))):=by kernel_rfl
theorem r16 (C:Cb) (d:Nat) (a0:AV) (n0:Nat) (H0:Heap) (K0:AV→Heap→Ans):xmeth C M unr d (n0+8) 16 [a0] H0 K0 =
 C.hop H0 (.eqv false 1 [] (.v a0) (.v .nilp)) fun v0 h1 =>
 C.bool (some v0) fun b2 =>
 cnd b2
 (K0 (iz 0) h1)
 (C.hop h1 (.nilck (.v a0)) fun v3 h4 =>
 C.hop h4 (.fldA 9 (.v v3)) fun v5 h6 =>
 C.hop h6 (.load false 1 (.v v5)) fun v7 h8 =>
 C.int .i64 (some v7) fun x9 =>
 K0 (iz x9) h8):=by kernel_rfl
theorem r17 (C:Cb) (d:Nat) (a0:AV) (n0:Nat) (H0:Heap) (K0:AV→Heap→Ans):xmeth C M unr d (n0+8) 17 [a0] H0 K0 =
 C.hop H0 (.eqv false 1 [] (.v a0) (.v .nilp)) fun v0 h1 =>
 C.bool (some v0) fun b2 =>
 cnd b2
 (K0 (iz 0) h1)
 (C.hop h1 (.nilck (.v a0)) fun v3 h4 =>
 C.hop h4 (.fldA 10 (.v v3)) fun v5 h6 =>
 C.hop h6 (.load false 1 (.v v5)) fun v7 h8 =>
 C.cal M (pcall M d) (n0+8) true 30 [v7] h8 fun v9 h10 =>
 C.int .i64 (some v9) fun x11 =>
 K0 (iz x11) h10):=by kernel_rfl
theorem r18 (C:Cb) (d:Nat) (a0:AV) (n0:Nat) (H0:Heap) (K0:AV→Heap→Ans):xmeth C M unr d (n0+8) 18 [a0] H0 K0 =
 C.hop H0 (.eqv false 1 [] (.v a0) (.v .nilp)) fun v0 h1 =>
 C.bool (some v0) fun b2 =>
 cnd b2
 (K0 bt h1)
 (C.hop h1 (.nilck (.v a0)) fun v3 h4 =>
 C.hop h4 (.fldA 9 (.v v3)) fun v5 h6 =>
 C.hop h6 (.load false 1 (.v v5)) fun v7 h8 =>
 C.int .i64 (some v7) fun x9 =>
 C.hop h8 (.nilck (.v a0)) fun v10 h11 =>
 C.hop h11 (.fldA 0 (.v v10)) fun v12 h13 =>
 C.hop h13 (.fldA 0 (.v v12)) fun v14 h15 =>
 C.hop h15 (.load false 1 (.v v14)) fun v16 h17 =>
 C.hop h17 (.bk .lenV [(.v v16)]) fun v18 h19 =>
 C.int .i64 (some v18) fun x20 =>
 K0 (.bool ((IntKind.wrap .i64 (x9+1)) == x20)) h19):=by kernel_rfl
theorem r20 (C:Cb) (d:Nat) (a0:AV) (n0:Nat) (H0:Heap) (K0:AV→Heap→Ans):xmeth C M unr d (n0+8) 20 [a0] H0 K0 =
 C.hop H0 (.alloc E43) fun v0 h1 =>
 C.hop h1 (.eqv false 1 [] (.v a0) (.v .nilp)) fun v2 h3 =>
 C.bool (some v2) fun b4 =>
 cnd b4
 (C.hop h3 (.store 5 (.v v0) (.v (.agg [(.zsl true),(iz 0),(iz 0),(iz 0),(iz 0)]))) fun v5 h6 =>
 C.hop h6 (.load true 5 (.v v0)) fun v7 h8 =>
 K0 v7 h6)
 (C.grow h3 [some ⟨E43,[(.agg [(.zsl true),(iz 0),(iz 0),(iz 0),(iz 0)])]⟩] fun n9 h10 =>
 C.hop h10 (.nilck (.v a0)) fun v11 h12 =>
 C.hop h12 (.fldA 0 (.v v11)) fun v13 h14 =>
 C.hop h14 (.load true 9 (.v v13)) fun v15 h16 =>
 C.agg 9 (some v15) fun l17 =>
 C.any l17[0]? fun v18 =>
 C.int .i64 l17[1]? fun x19 =>
 C.int .i64 l17[2]? fun x20 =>
 C.int .i64 l17[3]? fun x21 =>
 C.int .i64 l17[4]? fun x22 =>
 C.int .i64 l17[5]? fun x23 =>
 C.int .i64 l17[6]? fun x24 =>
 C.int .i64 l17[7]? fun x25 =>
 C.int .i64 l17[8]? fun x26 =>
 C.hop h16 (.nilck (.v a0)) fun v27 h28 =>
 C.hop h28 (.fldA 9 (.v v27)) fun v29 h30 =>
 C.hop h30 (.load false 1 (.v v29)) fun v31 h32 =>
 C.int .i64 (some v31) fun x33 =>
 C.cal M (pcall M d) (n0+8) true 32 [(.agg [v18,(iz x19),(iz x20),(iz x21),(iz x22),(iz x23),(iz x24),(iz x25),(iz x26)]),(iz x33)] h32 fun v34 h35 =>
 C.tup 2 (some v34) fun l36 =>
 C.agg 5 l36[0]? fun l37 =>
 C.any l37[0]? fun v38 =>
 C.int .i64 l37[1]? fun x39 =>
 C.int .i64 l37[2]? fun x40 =>
 C.int .i64 l37[3]? fun x41 =>
 C.int .i64 l37[4]? fun x42 =>
 C.bool l36[1]? fun b43 =>
 C.keep h32 h35 [(.ptr (n9+0) 0 0)] <|
 C.hop h35 (.store 5 (.v (.ptr (n9+0) 0 0)) (.v (.agg [v38,(iz x39),(iz x40),(iz x41),(iz x42)]))) fun v44 h45 =>
 C.hop h45 (.load true 5 (.v (.ptr (n9+0) 0 0))) fun v46 h47 =>
 C.agg 5 (some v46) fun l48 =>
 C.any l48[0]? fun v49 =>
 C.int .i64 l48[1]? fun x50 =>
 C.int .i64 l48[2]? fun x51 =>
 C.int .i64 l48[3]? fun x52 =>
 C.int .i64 l48[4]? fun x53 =>
 C.hop h47 (.store 5 (.v v0) (.v (.agg [v49,(iz x50),(iz x51),(iz x52),(iz x53)]))) fun v54 h55 =>
 C.hop h55 (.load true 5 (.v v0)) fun v56 h57 =>
 K0 v56 h55):=by kernel_rfl
theorem r24 (C:Cb) (d:Nat) (a0:Int) (n0:Nat) (H0:Heap) (K0:AV→Heap→Ans):xmeth C M unr d (n0+8) 24 [(iz a0)] H0 K0 =
 C.hop H0 (.box E71 (.v (.agg [(iz 0),(iz (if ((1000000:Int) < (if ((0:Int) > a0) then 0 else a0)) then 1000000 else (if ((0:Int) > a0) then 0 else a0)))]))) fun v0 h1 =>
 K0 v0 h1:=by kernel_rfl
theorem r27 (C:Cb) (d:Nat) (a0:AV) (n0:Nat) (H0:Heap) (K0:AV→Heap→Ans):xmeth C M unr d (n0+8) 27 [a0] H0 K0 =
 C.cal M (pcall M d) (n0+8) true 37 [a0,(iz 1)] H0 fun v0 h1 =>
 C.int .i64 (some v0) fun x2 =>
 K0 (iz x2) h1:=by kernel_rfl
theorem r28 (C:Cb) (d:Nat) (a0:AV) (n0:Nat) (H0:Heap) (K0:AV→Heap→Ans):xmeth C M unr d (n0+8) 28 [a0] H0 K0 =
 C.cal M (pcall M d) (n0+8) true 29 [a0,(iz 0)] H0 fun v0 h1 =>
 C.tup 0 (some v0) fun l2 =>
 K0 tz h1:=by kernel_rfl
theorem r29 (C:Cb) (d:Nat) (a0:AV) (a1:Int) (n0:Nat) (H0:Heap) (K0:AV→Heap→Ans):xmeth C M unr d (n0+8) 29 [a0,(iz a1)] H0 K0 =
 C.hop H0 (.eqv true 1 [] (.v a0) (.v .nilp)) fun v0 h1 =>
 C.bool (some v0) fun b2 =>
 cnd b2
 (C.hop h1 (.nilck (.v a0)) fun v3 h4 =>
 C.hop h4 (.fldA 0 (.v v3)) fun v5 h6 =>
 C.hop h6 (.nilck (.v a0)) fun v7 h8 =>
 C.hop h8 (.fldA 1 (.v v7)) fun v9 h10 =>
 C.hop h10 (.load false 1 (.v v9)) fun v11 h12 =>
 C.int .i64 (some v11) fun x13 =>
 C.hop h12 (.nilck (.v v5)) fun v14 h15 =>
 C.hop h15 (.fldA 0 (.v v14)) fun v16 h17 =>
 C.hop h17 (.store 1 (.v v16) (.v (iz (if (x13 < (if ((0:Int) > a1) then 0 else a1)) then x13 else (if ((0:Int) > a1) then 0 else a1))))) fun v18 h19 =>
 K0 tz h19)
 (K0 tz h1):=by kernel_rfl
theorem r30 (C:Cb) (d:Nat) (a0:AV) (n0:Nat) (H0:Heap) (K0:AV→Heap→Ans):xmeth C M unr d (n0+8) 30 [a0] H0 K0 =
 C.hop H0 (.eqv false 1 [] (.v a0) (.v .nilp)) fun v0 h1 =>
 C.bool (some v0) fun b2 =>
 cnd b2
 (K0 (iz 0) h1)
 (C.hop h1 (.nilck (.v a0)) fun v3 h4 =>
 C.hop h4 (.fldA 0 (.v v3)) fun v5 h6 =>
 C.hop h6 (.nilck (.v v5)) fun v7 h8 =>
 C.hop h8 (.fldA 0 (.v v7)) fun v9 h10 =>
 C.hop h10 (.load false 1 (.v v9)) fun v11 h12 =>
 C.int .i64 (some v11) fun x13 =>
 K0 (iz x13) h12):=by kernel_rfl
def r37R0 (C:Cb) (d:Nat) (a0:AV) (a1:Int) (K0:AV→Heap→Ans):St→(Ex→St→Ans)→Ans:=fun s3 k4 =>
 cnd ((List.length s3.env) == 31)
 (sames C s3.env 0 [a0,(iz a1),tz,tz] <|
 C.int .i64 s3.env[4]? fun x6 =>
 anys C s3.env 5 2 <|
 sames C s3.env 7 [a0,bf] <|
 anys C s3.env 9 21 <|
 C.any s3.env[30]? fun v30 =>
 C.hop (St.H s3) (.nilck (.v a0)) fun v31 h32 =>
 C.hop h32 (.fldA 0 (.v v31)) fun v33 h34 =>
 C.hop h34 (.nilck (.v v33)) fun v35 h36 =>
 C.hop h36 (.fldA 0 (.v v35)) fun v37 h38 =>
 C.hop h38 (.load false 1 (.v v37)) fun v39 h40 =>
 C.int .i64 (some v39) fun x41 =>
 C.hop h40 (.nilck (.v a0)) fun v42 h43 =>
 C.hop h43 (.fldA 1 (.v v42)) fun v44 h45 =>
 C.hop h45 (.load false 1 (.v v44)) fun v46 h47 =>
 C.int .i64 (some v46) fun x48 =>
 C.hop h47 (.nilck (.v a0)) fun v49 h50 =>
 C.hop h50 (.fldA 0 (.v v49)) fun v51 h52 =>
 C.hop h52 (.nilck (.v v51)) fun v53 h54 =>
 C.hop h54 (.fldA 0 (.v v53)) fun v55 h56 =>
 C.hop h56 (.load false 1 (.v v55)) fun v57 h58 =>
 C.int .i64 (some v57) fun x59 =>
 cnd (x59 == x41)
 (C.hop h58 (.store 1 (.v v55) (.v (iz (IntKind.wrap .i64 (x41+(if ((IntKind.wrap .i64 (x48 - x41)) < (if ((0:Int) > a1) then 0 else a1)) then (IntKind.wrap .i64 (x48 - x41)) else (if ((0:Int) > a1) then 0 else a1))))))) fun v60 h61 =>
 k4 .ret ⟨[a0,(iz a1),tz,tz,(iz (IntKind.wrap .i64 (x41+(if ((IntKind.wrap .i64 (x48 - x41)) < (if ((0:Int) > a1) then 0 else a1)) then (IntKind.wrap .i64 (x48 - x41)) else (if ((0:Int) > a1) then 0 else a1))))),(iz x41),(iz (IntKind.wrap .i64 (x41+(if ((IntKind.wrap .i64 (x48 - x41)) < (if ((0:Int) > a1) then 0 else a1)) then (IntKind.wrap .i64 (x48 - x41)) else (if ((0:Int) > a1) then 0 else a1))))),a0,bf,a0,v31,v33,(iz x41),(iz x41),(iz a1),(iz (if ((0:Int) > a1) then 0 else a1)),a0,v42,v44,(iz x48),(iz x41),(iz (IntKind.wrap .i64 (x48 - x41))),(iz (if ((IntKind.wrap .i64 (x48 - x41)) < (if ((0:Int) > a1) then 0 else a1)) then (IntKind.wrap .i64 (x48 - x41)) else (if ((0:Int) > a1) then 0 else a1))),(iz (IntKind.wrap .i64 (x41+(if ((IntKind.wrap .i64 (x48 - x41)) < (if ((0:Int) > a1) then 0 else a1)) then (IntKind.wrap .i64 (x48 - x41)) else (if ((0:Int) > a1) then 0 else a1))))),a0,v49,v51,(iz x41),(iz (IntKind.wrap .i64 (x41+(if ((IntKind.wrap .i64 (x48 - x41)) < (if ((0:Int) > a1) then 0 else a1)) then (IntKind.wrap .i64 (x48 - x41)) else (if ((0:Int) > a1) then 0 else a1))))),bt,(iz (IntKind.wrap .i64 (x41+(if ((IntKind.wrap .i64 (x48 - x41)) < (if ((0:Int) > a1) then 0 else a1)) then (IntKind.wrap .i64 (x48 - x41)) else (if ((0:Int) > a1) then 0 else a1)))))],h61⟩)
 (C.hop h58 (.nilck (.v .nilp)) fun v62 h63 =>
 k4 .normal ⟨[a0,(iz a1),tz,tz,(iz x6),(iz x41),(iz (IntKind.wrap .i64 (x41+(if ((IntKind.wrap .i64 (x48 - x41)) < (if ((0:Int) > a1) then 0 else a1)) then (IntKind.wrap .i64 (x48 - x41)) else (if ((0:Int) > a1) then 0 else a1))))),a0,bf,a0,v31,v33,(iz x41),(iz x41),(iz a1),(iz (if ((0:Int) > a1) then 0 else a1)),a0,v42,v44,(iz x48),(iz x41),(iz (IntKind.wrap .i64 (x48 - x41))),(iz (if ((IntKind.wrap .i64 (x48 - x41)) < (if ((0:Int) > a1) then 0 else a1)) then (IntKind.wrap .i64 (x48 - x41)) else (if ((0:Int) > a1) then 0 else a1))),(iz (IntKind.wrap .i64 (x41+(if ((IntKind.wrap .i64 (x48 - x41)) < (if ((0:Int) > a1) then 0 else a1)) then (IntKind.wrap .i64 (x48 - x41)) else (if ((0:Int) > a1) then 0 else a1))))),a0,v49,v51,(iz x41),(iz (IntKind.wrap .i64 (x41+(if ((IntKind.wrap .i64 (x48 - x41)) < (if ((0:Int) > a1) then 0 else a1)) then (IntKind.wrap .i64 (x48 - x41)) else (if ((0:Int) > a1) then 0 else a1))))),bf,v30],h63⟩))
 (none)
def r37E0 (C:Cb) (d:Nat) (a0:AV) (a1:Int) (K0:AV→Heap→Ans):St→Ans:=fun s5 =>
 cnd ((List.length s5.env) == 31)
 (sames C s5.env 0 [a0,(iz a1),tz,tz] <|
 C.int .i64 s5.env[4]? fun x64 =>
 C.int .i64 s5.env[5]? fun x65 =>
 C.int .i64 s5.env[6]? fun x66 =>
 sames C s5.env 7 [a0,bf] <|
 anys C s5.env 9 3 <|
 C.int .i64 s5.env[12]? fun x70 =>
 C.int .i64 s5.env[13]? fun x71 =>
 C.int .i64 s5.env[14]? fun x72 =>
 C.int .i64 s5.env[15]? fun x73 =>
 anys C s5.env 16 3 <|
 C.int .i64 s5.env[19]? fun x77 =>
 C.int .i64 s5.env[20]? fun x78 =>
 C.int .i64 s5.env[21]? fun x79 =>
 C.int .i64 s5.env[22]? fun x80 =>
 C.int .i64 s5.env[23]? fun x81 =>
 anys C s5.env 24 3 <|
 C.int .i64 s5.env[27]? fun x85 =>
 C.int .i64 s5.env[28]? fun x86 =>
 C.bool s5.env[29]? fun b87 =>
 C.int .i64 s5.env[30]? fun x88 =>
 K0 (iz x64) (St.H s5))
 (none)
theorem r37 (C:Cb) (d:Nat) (a0:AV) (a1:Int) (n0:Nat) (H0:Heap) (K0:AV→Heap→Ans):xmeth C M unr d (n0+8) 37 [a0,(iz a1)] H0 K0 =
 C.hop H0 (.eqv false 1 [] (.v a0) (.v .nilp)) fun v0 h1 =>
 C.bool (some v0) fun b2 =>
 cnd b2
 (K0 (iz 0) h1)
 (C.iter (r37R0 C d a0 a1 K0) 10000000000000000000 ⟨[a0,(iz a1),tz,tz,(iz 0),tz,tz,a0,bf,tz,tz,tz,tz,tz,tz,tz,tz,tz,tz,tz,tz,tz,tz,tz,tz,tz,tz,tz,tz,tz,tz],h1⟩ [] [] (r37E0 C d a0 a1 K0)):=by kernel_rfl
end Go.Proofs.Ytdceaeifcniabaa.AE

namespace Go.Proofs.Ytdceaeifcniabaa.AE
set_option linter.unusedVariables false
set_option linter.unusedSimpArgs false
set_option linter.constructorNameAsVariable false
open Go Go.Proofs.Ytdceaeifcniabaa.Geo
attribute [local irreducible] pcall C0 callB
set_option maxRecDepth 100000
def Ext (H H':Heap):Prop:=∀ id b,hget H id=some b→hget H' id=some b
theorem Ext.refl (H:Heap):Ext H H:=fun _ _ h=>h
theorem Ext.trans {A B C:Heap} (h:Ext A B) (k:Ext B C):Ext A C:=fun id b x=>k id b (h id b x)
theorem Ext.app (H l:Heap):Ext H (H ++ l):=fun _ _ h=>hget_app h
def Ext2 (a b:Nat) (H H':Heap):Prop:=∀ id x,id ≠ a→id ≠ b→hget H id=some x→hget H' id=some x
theorem Ext.two {H H':Heap} (h:Ext H H') (a b:Nat):Ext2 a b H H':=fun id x _ _ y=>h id x y
theorem Ext2.trans {a b:Nat} {A B C:Heap} (h:Ext2 a b A B) (k:Ext2 a b B C):Ext2 a b A C:=fun id x h1 h2 y=>k id x h1 h2 (h id x h1 h2 y)
theorem nil_f {H:Heap} {id i j:Nat} {K:AV→Heap→Ans}:C0.hop H (.eqv false 1 [] (.v (.ptr id i j)) (.v .nilp)) K=K (.bool false) H:=hop_eq rfl
theorem nil_tf {H:Heap} {id i j:Nat} {K:AV→Heap→Ans}:C0.hop H (.eqv true 1 [] (.v (.ptr id i j)) (.v .nilp)) K=K (.bool true) H:=hop_eq rfl
def Cnt (H:Heap) (id:Nat) (c:Int):Prop:=hget H id=some ⟨E71,[.agg [.int .i64 c,.int .i64 1000000]]⟩
theorem cnt_new (d n0:Nat) (H:Heap):callB M (pcall M d) (n0+9) true 24 [.int .i64 1000000] H=some (.ptr H.length 0 0,H ++ [some ⟨E71,[.agg [.int .i64 0,.int .i64 1000000]]⟩]):=by
 refine xmeth_ok (U:=unr) (n:=n0+8) rfl rfl rfl fun K=>?_
 refine (r24 C0 d _ n0 _ K).trans ?_
 refine Eq.trans (bx_n (by rfl)) ?_
 rfl
theorem cnt_value (d n0:Nat) {H:Heap} {id:Nat} {c:Int} (h:Cnt H id c):callB M (pcall M d) (n0+9) true 30 [.ptr id 0 0] H=some (.int .i64 c,H):=by
 refine xmeth_ok (U:=unr) (n:=n0+8) rfl rfl rfl fun K=>?_
 refine (r30 C0 d _ n0 _ K).trans ?_
 refine Eq.trans nil_f ?_
 refine Eq.trans (pl_bool (by rfl)) ?_
 refine Eq.trans (pl_f rfl) ?_
 refine Eq.trans nil_ptr ?_
 refine Eq.trans sh_ptr ?_
 refine Eq.trans nil_ptr ?_
 refine Eq.trans sh_ptr ?_
 refine Eq.trans (ld_ptr h rfl rfl) ?_
 exact pl_int rfl
def clampC (n:Int):Int:=if 1000000 < (if 0 > n then 0 else n) then 1000000 else (if 0 > n then 0 else n)
theorem cnt_set (d n0:Nat) {H:Heap} {id:Nat} {c n:Int} (h:Cnt H id c):∃ H',callB M (pcall M d) (n0+9) true 29 [.ptr id 0 0,.int .i64 n] H=some (.tup [],H')∧Cnt H' id (clampC n)∧∀ id' b,id' ≠ id→hget H id'=some b→hget H' id'=some b:=by
 refine ⟨H.set id (some ⟨E71,[.agg [.int .i64 (clampC n),.int .i64 1000000]]⟩),xmeth_ok (U:=unr) (n:=n0+8) rfl rfl rfl fun K=>?_,hget_set (hg_lt h),fun id' b h1 h2=>by rw [hget_set_ne (Ne.symm h1)]; exact h2⟩
 refine (r29 C0 d _ _ n0 _ K).trans ?_
 refine Eq.trans nil_tf ?_
 refine Eq.trans (pl_bool (by rfl)) ?_
 refine Eq.trans (pl_len rfl) ?_
 refine Eq.trans nil_ptr ?_
 refine Eq.trans sh_ptr ?_
 refine Eq.trans nil_ptr ?_
 refine Eq.trans sh_ptr ?_
 refine Eq.trans (ld_ptr h rfl rfl) ?_
 refine Eq.trans (pl_int (by rfl)) ?_
 refine Eq.trans nil_ptr ?_
 refine Eq.trans sh_ptr ?_
 refine Eq.trans (st_ptr h rfl rfl) ?_
 rfl
end Go.Proofs.Ytdceaeifcniabaa.AE

namespace Go.Proofs.Ytdceaeifcniabaa.AE
set_option linter.unusedVariables false
set_option linter.unusedSimpArgs false
set_option linter.constructorNameAsVariable false
open Go
set_option maxRecDepth 100000
set_option maxHeartbeats 0
noncomputable def E37_0 (d:Nat) (a0:AV) (a1:Int) (K0:AV→Heap→Ans) (x64:Int) (H:Heap):Ans :=
 K0 (iz x64) H
theorem E37_0_ok (d:Nat) (a0:AV) (a1:Int) (K0:AV→Heap→Ans)   (x64 x65 x66:Int) (v67 v68 v69:AV) (x70 x71 x72 x73:Int) (v74 v75 v76:AV) (x77 x78 x79 x80 x81:Int) (v82 v83 v84:AV) (x85 x86:Int) (b87:Bool) (x88:Int) (H:Heap):r37E0 C0 d a0 a1 K0 ⟨[a0,(iz a1),tz,tz,(iz x64),(iz x65),(iz x66),a0,bf,v67,v68,v69,(iz x70),(iz x71),(iz x72),(iz x73),v74,v75,v76,(iz x77),(iz x78),(iz x79),(iz x80),(iz x81),v82,v83,v84,(iz x85),(iz x86),(bz b87),(iz x88)],H⟩=E37_0 d a0 a1 K0 x64 H:=by
 unfold r37E0; refine Eq.trans (pl_len (by rfl)) ?_; refine yt ySs ?_; (iterate 3 (refine yt yI ?_)); refine yt ySs ?_; refine yt yAs ?_; (iterate 4 (refine yt yI ?_)); refine yt yAs ?_; (iterate 5 (refine yt yI ?_)); refine yt yAs ?_; (iterate 2 (refine yt yI ?_)); refine yt yB ?_; refine yt yI ?_
 rfl
noncomputable def L37_0 (d:Nat) (a0:AV) (a1:Int) (K0:AV→Heap→Ans):Nat→Heap→Ans
 | 0,_=>none
 | n+1,H =>
 C0.hop H (.nilck (.v a0)) fun v31 h32 =>
  C0.hop h32 (.fldA 0 (.v v31)) fun v33 h34 =>
  C0.hop h34 (.nilck (.v v33)) fun v35 h36 =>
  C0.hop h36 (.fldA 0 (.v v35)) fun v37 h38 =>
  C0.hop h38 (.load false 1 (.v v37)) fun v39 h40 =>
  C0.int .i64 (some v39) fun x41 =>
  C0.hop h40 (.nilck (.v a0)) fun v42 h43 =>
  C0.hop h43 (.fldA 1 (.v v42)) fun v44 h45 =>
  C0.hop h45 (.load false 1 (.v v44)) fun v46 h47 =>
  C0.int .i64 (some v46) fun x48 =>
  C0.hop h47 (.nilck (.v a0)) fun v49 h50 =>
  C0.hop h50 (.fldA 0 (.v v49)) fun v51 h52 =>
  C0.hop h52 (.nilck (.v v51)) fun v53 h54 =>
  C0.hop h54 (.fldA 0 (.v v53)) fun v55 h56 =>
  C0.hop h56 (.load false 1 (.v v55)) fun v57 h58 =>
  C0.int .i64 (some v57) fun x59 =>
  cnd (x59 == x41)
  (C0.hop h58 (.store 1 (.v v55) (.v (iz (IntKind.wrap .i64 (x41+(if ((IntKind.wrap .i64 (x48 - x41)) < (if ((0:Int) > a1) then 0 else a1)) then (IntKind.wrap .i64 (x48 - x41)) else (if ((0:Int) > a1) then 0 else a1))))))) fun v60 h61 =>
  E37_0 d a0 a1 K0 (IntKind.wrap .i64 (x41+(if ((IntKind.wrap .i64 (x48 - x41)) < (if ((0:Int) > a1) then 0 else a1)) then (IntKind.wrap .i64 (x48 - x41)) else (if ((0:Int) > a1) then 0 else a1)))) h61)
  (C0.hop h58 (.nilck (.v .nilp)) fun v62 h63 =>
  L37_0 d a0 a1 K0 n h63)
theorem L37_0_s (d:Nat) (a0:AV) (a1:Int) (K0:AV→Heap→Ans) (n:Nat) (H:Heap):L37_0 d a0 a1 K0 (n+1) H=(C0.hop H (.nilck (.v a0)) fun v31 h32 =>
 C0.hop h32 (.fldA 0 (.v v31)) fun v33 h34 =>
 C0.hop h34 (.nilck (.v v33)) fun v35 h36 =>
 C0.hop h36 (.fldA 0 (.v v35)) fun v37 h38 =>
 C0.hop h38 (.load false 1 (.v v37)) fun v39 h40 =>
 C0.int .i64 (some v39) fun x41 =>
 C0.hop h40 (.nilck (.v a0)) fun v42 h43 =>
 C0.hop h43 (.fldA 1 (.v v42)) fun v44 h45 =>
 C0.hop h45 (.load false 1 (.v v44)) fun v46 h47 =>
 C0.int .i64 (some v46) fun x48 =>
 C0.hop h47 (.nilck (.v a0)) fun v49 h50 =>
 C0.hop h50 (.fldA 0 (.v v49)) fun v51 h52 =>
 C0.hop h52 (.nilck (.v v51)) fun v53 h54 =>
 C0.hop h54 (.fldA 0 (.v v53)) fun v55 h56 =>
 C0.hop h56 (.load false 1 (.v v55)) fun v57 h58 =>
 C0.int .i64 (some v57) fun x59 =>
 cnd (x59 == x41)
 (C0.hop h58 (.store 1 (.v v55) (.v (iz (IntKind.wrap .i64 (x41+(if ((IntKind.wrap .i64 (x48 - x41)) < (if ((0:Int) > a1) then 0 else a1)) then (IntKind.wrap .i64 (x48 - x41)) else (if ((0:Int) > a1) then 0 else a1))))))) fun v60 h61 =>
 E37_0 d a0 a1 K0 (IntKind.wrap .i64 (x41+(if ((IntKind.wrap .i64 (x48 - x41)) < (if ((0:Int) > a1) then 0 else a1)) then (IntKind.wrap .i64 (x48 - x41)) else (if ((0:Int) > a1) then 0 else a1)))) h61)
 (C0.hop h58 (.nilck (.v .nilp)) fun v62 h63 =>
 L37_0 d a0 a1 K0 n h63)):=by kernel_rfl
theorem it37_0 (d:Nat) (a0:AV) (a1:Int) (K0:AV→Heap→Ans)  :∀ (n:Nat) (x6:Int) (v7 v8 v9 v10 v11 v12 v13 v14 v15 v16 v17 v18 v19 v20 v21 v22 v23 v24 v25 v26 v27 v28 v29 v30:AV) (H:Heap),C0.iter (r37R0 C0 d a0 a1 K0) n ⟨[a0,(iz a1),tz,tz,(iz x6),v7,v8,a0,bf,v9,v10,v11,v12,v13,v14,v15,v16,v17,v18,v19,v20,v21,v22,v23,v24,v25,v26,v27,v28,v29,v30],H⟩ [] [] (r37E0 C0 d a0 a1 K0)=L37_0 d a0 a1 K0 n H:=by
 generalize hR:r37R0 C0 d a0 a1 K0=R
 intro n
 induction n with
 | zero=>intros; rfl
 | succ n ih =>
   intro x6 v7 v8 v9 v10 v11 v12 v13 v14 v15 v16 v17 v18 v19 v20 v21 v22 v23 v24 v25 v26 v27 v28 v29 v30 H
   simp only [it_ret] at ih
   rw [it_ret,xiter_s]
   refine Eq.trans (congrFun (congrFun hR.symm _) _) ?_
   unfold r37R0
   refine Eq.trans (pl_len (by rfl)) ?_; refine yt ySs ?_; refine yt yI ?_; refine yt yAs ?_; refine yt ySs ?_; refine yt yAs ?_; refine yt yA ?_
   simp only [kIter_n,kIter_x,kIter_r,kOut_x,kOut_r,xgo_hit,xgo_miss,ih,E37_0_ok d a0 a1 K0  ]
   exact (L37_0_s d a0 a1 K0 n H).symm
theorem q37 (d:Nat) (a0:AV) (a1:Int) (n0:Nat) (H0:Heap) (K0:AV→Heap→Ans):xmeth C0 M unr d (n0+8) 37 [a0,(iz a1)] H0 K0 =
 C0.hop H0 (.eqv false 1 [] (.v a0) (.v .nilp)) fun v0 h1 =>
 C0.bool (some v0) fun b2 =>
 cnd b2
  (K0 (iz 0) h1)
  (L37_0 d a0 a1 K0 10000000000000000000 h1):=(r37 C0 d a0 a1 n0 H0 K0).trans (by simp only [it37_0])
end Go.Proofs.Ytdceaeifcniabaa.AE

namespace Go.Proofs.Ytdceaeifcniabaa.AE
set_option linter.unusedVariables false
set_option linter.unusedSimpArgs false
set_option linter.constructorNameAsVariable false
open Go Go.Proofs.Ytdceaeifcniabaa.Geo
attribute [local irreducible] pcall C0 callB
set_option maxRecDepth 100000
theorem cnt_up (d n0:Nat) {H:Heap} {id:Nat} {c:Int} (h:Cnt H id c) (hc:0≤c∧c≤1000000):∃ H',callB M (pcall M d) (n0+10) true 27 [.ptr id 0 0] H=some (.int .i64 (if 1000000 < c+1 then 1000000 else c+1),H')∧Cnt H' id (if 1000000 < c+1 then 1000000 else c+1)∧∀ id' b,id' ≠ id→hget H id'=some b→hget H' id'=some b:=by
 have hadd:∃ H',callB M (pcall M d) (n0+9) true 37 [.ptr id 0 0,.int .i64 1] H=some (.int .i64 (if 1000000 < c+1 then 1000000 else c+1),H')∧Cnt H' id (if 1000000 < c+1 then 1000000 else c+1)∧∀ id' b,id' ≠ id→hget H id'=some b→hget H' id'=some b:=by
  refine ⟨H.set id (some ⟨E71,[.agg [.int .i64 (if 1000000 < c+1 then 1000000 else c+1),.int .i64 1000000]]⟩),xmeth_ok (U:=unr) (n:=n0+8) rfl rfl rfl fun K=>?_,hget_set (hg_lt h),fun id' b h1 h2=>by rw [hget_set_ne (Ne.symm h1)]; exact h2⟩
  refine (q37 d _ _ n0 _ K).trans ?_
  refine Eq.trans nil_f ?_
  refine Eq.trans (pl_bool (by rfl)) ?_
  refine Eq.trans (pl_f rfl) ?_
  rw [show 10000000000000000000=(9999999999999999999)+1 from rfl,L37_0_s]
  refine Eq.trans nil_ptr ?_
  refine Eq.trans sh_ptr ?_
  refine Eq.trans nil_ptr ?_
  refine Eq.trans sh_ptr ?_
  refine Eq.trans (ld_ptr h rfl rfl) ?_
  refine Eq.trans (pl_int (by rfl)) ?_
  refine Eq.trans nil_ptr ?_
  refine Eq.trans sh_ptr ?_
  refine Eq.trans (ld_ptr h rfl rfl) ?_
  refine Eq.trans (pl_int (by rfl)) ?_
  refine Eq.trans nil_ptr ?_
  refine Eq.trans sh_ptr ?_
  refine Eq.trans nil_ptr ?_
  refine Eq.trans sh_ptr ?_
  refine Eq.trans (ld_ptr h rfl rfl) ?_
  refine Eq.trans (pl_int (by rfl)) ?_
  rw [beq_self_eq_true,cnd_t]
  have e:IntKind.wrap .i64 (c+(if (IntKind.wrap .i64 (1000000 - c)) < (if ((0:Int) > 1) then 0 else 1) then (IntKind.wrap .i64 (1000000 - c)) else (if ((0:Int) > 1) then 0 else 1)))=(if 1000000 < c+1 then 1000000 else c+1):=by
   rw [i64_small (n:=1000000 - c) (by omega) (by omega)]
   rw [if_neg (show ¬ (0:Int) > 1 by decide)]
   split <;> split <;> rw [i64_small (by omega) (by omega)] <;> omega
  rw [e]
  refine Eq.trans (st_ptr h rfl rfl) ?_
  rfl
 obtain ⟨H',h1,h2,h3⟩:=hadd
 refine ⟨H',xmeth_ok (U:=unr) (n:=n0+9) rfl rfl rfl fun K=>?_,h2,h3⟩
 refine (r27 C0 d _ (n0+1) _ K).trans ?_
 refine Eq.trans (cal_eq h1) ?_
 exact pl_int rfl
theorem cnt_reset (d n0:Nat) {H:Heap} {id:Nat} {c:Int} (h:Cnt H id c):∃ H',callB M (pcall M d) (n0+10) true 28 [.ptr id 0 0] H=some (.tup [],H')∧Cnt H' id 0∧∀ id' b,id' ≠ id→hget H id'=some b→hget H' id'=some b:=by
 obtain ⟨H',h1,h2,h3⟩:=cnt_set d n0 (n:=0) h
 refine ⟨H',xmeth_ok (U:=unr) (n:=n0+9) rfl rfl rfl fun K=>?_,h2,h3⟩
 refine (r28 C0 d _ (n0+1) _ K).trans ?_
 refine Eq.trans (cal_eq h1) ?_
 exact pl_tup rfl rfl
/-! The machine -/
structure Mach (H:Heap) (id cid lo hi:Nat) (v:AV) (r:Rul) (ph:Nat) (c:Int):Prop where
 m:hget H id=some ⟨E54,[.agg [v,.int .i64 r.n,.int .i64 r.d,.int .i64 r.gr,.int .i64 r.eps,.int .i64 r.st,.int .i64 r.age,.int .i64 r.lift,.int .i64 r.saf,.int .i64 (ph:Int),.ptr cid 0 0]]⟩
 k:Cnt H cid c
 cp:CpOf H lo hi v r.phs
 ne:id ≠ cid
 h1:hi≤id
 h2:hi≤cid
 p:ph < r.phs.length
 c0:0≤c∧c≤1000000
 len:r.phs.length≤100
theorem mach_ext {H H':Heap} {id cid lo hi:Nat} {v:AV} {r:Rul} {ph:Nat} {c:Int} (h:Mach H id cid lo hi v r ph c) (e:Ext H H'):Mach H' id cid lo hi v r ph c :=
 ⟨e _ _ h.m,e _ _ h.k,cp_mono h.cp (Nat.le_refl _) (Nat.le_refl _) fun _ _ _ _ x=>e _ _ x,h.ne,h.h1,h.h2,h.p,h.c0,h.len⟩
theorem mach_keep {H H':Heap} {id cid lo hi a b:Nat} {v:AV} {r:Rul} {ph:Nat} {c:Int} (h:Mach H id cid lo hi v r ph c) (e:Ext2 a b H H') (ha:hi≤a∧a ≠ id∧a ≠ cid) (hb:hi≤b∧b ≠ id∧b ≠ cid):Mach H' id cid lo hi v r ph c :=
 ⟨e _ _ (Ne.symm ha.2.1) (Ne.symm hb.2.1) h.m,e _ _ (Ne.symm ha.2.2) (Ne.symm hb.2.2) h.k,cp_mono h.cp (Nat.le_refl _) (Nat.le_refl _) fun _ _ _ _ x=>e _ _ (by omega) (by omega) x,h.ne,h.h1,h.h2,h.p,h.c0,h.len⟩
section
variable {H:Heap} {id cid lo hi:Nat} {v:AV} {r:Rul} {ph:Nat} {c:Int}
theorem m_phase (d n0:Nat) (h:Mach H id cid lo hi v r ph c):callB M (pcall M d) (n0+9) true 16 [.ptr id 0 0] H=some (.int .i64 (ph:Int),H):=by
 refine xmeth_ok (U:=unr) (n:=n0+8) rfl rfl rfl fun K=>?_
 refine (r16 C0 d _ n0 _ K).trans ?_
 refine Eq.trans nil_f ?_
 refine Eq.trans (pl_bool (by rfl)) ?_
 refine Eq.trans (pl_f rfl) ?_
 refine Eq.trans nil_ptr ?_
 refine Eq.trans sh_ptr ?_
 refine Eq.trans (ld_ptr h.m rfl rfl) ?_
 exact pl_int rfl
theorem m_in (d n0:Nat) (h:Mach H id cid lo hi v r ph c):callB M (pcall M d) (n0+10) true 17 [.ptr id 0 0] H=some (.int .i64 c,H):=by
 refine xmeth_ok (U:=unr) (n:=n0+9) rfl rfl rfl fun K=>?_
 refine (r17 C0 d _ (n0+1) _ K).trans ?_
 refine Eq.trans nil_f ?_
 refine Eq.trans (pl_bool (by rfl)) ?_
 refine Eq.trans (pl_f rfl) ?_
 refine Eq.trans nil_ptr ?_
 refine Eq.trans sh_ptr ?_
 refine Eq.trans (ld_ptr h.m rfl rfl) ?_
 refine Eq.trans (cal_eq (cnt_value d n0 h.k)) ?_
 exact pl_int rfl
theorem m_last (d n0:Nat) (h:Mach H id cid lo hi v r ph c):callB M (pcall M d) (n0+9) true 18 [.ptr id 0 0] H=some (.bool (decide (ph+1=r.phs.length)),H):=by
 refine xmeth_ok (U:=unr) (n:=n0+8) rfl rfl rfl fun K=>?_
 refine (r18 C0 d _ n0 _ K).trans ?_
 refine Eq.trans nil_f ?_
 refine Eq.trans (pl_bool (by rfl)) ?_
 refine Eq.trans (pl_f rfl) ?_
 refine Eq.trans nil_ptr ?_
 refine Eq.trans sh_ptr ?_
 refine Eq.trans (ld_ptr h.m rfl rfl) ?_
 refine Eq.trans (pl_int (by rfl)) ?_
 refine Eq.trans nil_ptr ?_
 refine Eq.trans sh_ptr ?_
 refine Eq.trans sh_ptr ?_
 refine Eq.trans (ld_ptr (v:=v) h.m rfl rfl) ?_
 refine Eq.trans (len_cp h.cp) ?_
 refine Eq.trans (pl_int (by rfl)) ?_
 have:=h.p
 have:=h.len
 rw [i64_small (by omega) (by omega)]
 congr 2
 rw [Bool.eq_iff_iff]
 simp only [beq_iff_eq,decide_eq_true_eq]
 omega
end
end Go.Proofs.Ytdceaeifcniabaa.AE

namespace Go.Proofs.Ytdceaeifcniabaa.AE
set_option linter.unusedVariables false
set_option linter.unusedSimpArgs false
set_option linter.constructorNameAsVariable false
open Go Go.Proofs.Ytdceaeifcniabaa.Geo
attribute [local irreducible] pcall C0 callB
set_option maxRecDepth 100000
theorem put5 {x y:AV} {p q:Phs} (h:isSc x=true):putSub 5 0 (phX x p) (phX y q)=some (phX x p):=by
 have h1:(AV.cells (phX x p)).all isSc=true:=by
  change ([x,AV.int .i64 p.g,AV.int .i64 p.v,AV.int .i64 p.m,AV.int .i64 p.u].all isSc)=true
  rw [List.all_cons,h]; rfl
 simp only [putSub]
 rw [if_pos ⟨by simp,rfl,h1⟩]; rfl
theorem cloneS (d n0:Nat) {H:Heap} {lo hi:Nat} {av:AV} {ps:List Pt} (h:ArOf H lo hi av ps) (h0:ps ≠ []) (hl:ps.length≤1000000):∃ av' H',callB M (pcall M d) (n0+9) true 35 [av] H=some (av',H')∧Ext H H'∧ArOf H' H.length H'.length av' ps∧av'.cells=[av']∧isSc av'=true:=by
 rcases h with ⟨h,_⟩ | ⟨id,a,b,rfl,hg⟩
 ·exact absurd h h0
 obtain ⟨n,hn⟩:∃ n,ps.length=n+1:=⟨ps.length - 1,by have:=List.length_pos_iff.mpr h0; omega⟩
 refine ⟨.slc (H.length+1) 0 ps.length,H ++ [none,some ⟨E62,ps.map pt⟩],xmeth_ok2 (U:=unr) (n:=n0+8) rfl rfl (by rw [emptyR,show M.cl 35=true from rfl]; rfl) fun K=>?_,Ext.app _ _,.inr ⟨H.length+1,by omega,by simp,rfl,hget_s rfl⟩,rfl,rfl⟩
 refine (r35 C0 d _ n0 _ K).trans ?_
 refine Eq.trans (hop_eq (v:=.bool false) (H':=H) (by rw [hn]; rfl)) ?_
 refine Eq.trans (pl_bool rfl) ?_
 rw [cnd_f]
 refine Eq.trans mk_n ?_
 have hb:(E62).bytes=16:=rfl
 refine Eq.trans (hop_eq (v:=.slc (H.length+1) 0 ps.length) (H':=H ++ [none,some ⟨E62,ps.map pt⟩]) ?_) rfl
 have e1:elsOf (H ++ [some ⟨E62,[]⟩]) (.slc id 0 ps.length)=some (ps.map pt):=by
  simp only [elsOf]
  rw [hget_app hg]
  simp only
  rw [if_pos (by rw [List.length_map]; omega),List.drop_zero,List.take_of_length_le (by rw [List.length_map]; exact Nat.le_refl _)]
 simp only [aop,evO]
 rw [e1]
 simp only [aApp]
 rw [hget_s (k:=0) rfl]
 simp only
 rw [if_pos ⟨rfl,by rw [List.length_map,hb]; omega,by rw [List.length_map]; omega,trivial,trivial,all_ptE _⟩]
 rw [List.length_append,List.length_map,List.set_append_right _ _ (by omega)]
 simp
section
variable {H:Heap} {lo hi:Nat} {v:AV} {r:Rul} {ph:Nat}
theorem phase_own (d n0:Nat) (h:CpOf H lo hi v r.phs) (hp:ph < r.phs.length) (hl:r.phs.length≤100) (h0:(r.phs[ph]).ps ≠ []) (hs:(r.phs[ph]).ps.length≤1000000):∃ av H',callB M (pcall M d) (n0+10) true 32 [rlX v r,.int .i64 (ph:Int)] H=some (.tup [phX av r.phs[ph],.bool true],H')∧Ext H H'∧ArOf H' H.length H'.length av (r.phs[ph]).ps∧av.cells=[av]∧isSc av=true:=by
 have hv:elOk E24 (rlX v r)=true:=by rcases h with ⟨_,h⟩ | ⟨id,els,_,_,h,_⟩ <;> rw [h] <;> rfl
 rcases h with ⟨h,_⟩ | ⟨id,els,q1,q2,q3,q4,q5,q6⟩
 ·rw [h] at hp; exact absurd hp (Nat.not_lt_zero _)
 have hq:r.phs[ph]?=some r.phs[ph]:=List.getElem?_eq_getElem hp
 obtain ⟨av,g1,g2⟩:=q6 ph _ hq
 generalize r.phs[ph]=p at *
 subst q3
 have avs:av.cells=[av]∧isSc av=true:=by rcases g2 with ⟨_,h⟩ | ⟨id',_,_,h,_⟩ <;> rw [h] <;> exact ⟨rfl,rfl⟩
 -- the memory ahead of the copying
 have hA:∀ (X:Heap),Ext H (H ++ X):=fun X=>Ext.app H X
 let S:Heap:=[some ⟨E24,[rlX (.slc id 0 r.phs.length) r]⟩,some ⟨E43,[phX av p]⟩]
 have g2':ArOf (H ++ S) (id+1) hi av p.ps:=ar_mono g2 (Nat.le_refl _) (Nat.le_refl _) fun _ _ _ _ x=>hget_app x
 obtain ⟨av',H1,c1,c2,c3,c4,c5⟩:=cloneS d n0 g2' h0 hs
 have hv1:hget H1 (H.length+1)=some ⟨E43,[phX av p]⟩:=c2 _ _ (hget_s rfl)
 have hlen:(H ++ S).length=H.length+2:=by simp [S]
 refine ⟨av',H1.set (H.length+1) (some ⟨E43,[phX av' p]⟩),xmeth_ok (U:=unr) (n:=n0+9) rfl rfl rfl fun K=>?_,?_,?_,c4,c5⟩
 ·refine (r32 C0 d _ _ _ _ _ _ _ _ _ _ (n0+1) _ K).trans ?_
  refine Eq.trans (bx_n hv) ?_
  refine Eq.trans al_s ?_
  rw [decide_eq_false (by omega),cnd_f]
  refine Eq.trans sh_ptr ?_
  refine Eq.trans (ld_s (v:=.slc id 0 r.phs.length) rfl rfl rfl) ?_
  refine Eq.trans (hop_eq (v:=.int .i64 (r.phs.length:Nat)) (by simp only [aop,evO,lenOf]; rw [hget_app q4])) ?_
  refine Eq.trans (pl_int (by rfl)) ?_
  rw [decide_eq_false (by omega),cnd_f]
  refine Eq.trans sh_ptr ?_
  refine Eq.trans (ld_s (v:=.slc id 0 r.phs.length) rfl rfl rfl) ?_
  refine Eq.trans (ix_slc (hget_app q4) (by omega) (by omega) rfl) ?_
  refine Eq.trans (ld_ptr (v:=phX av p) (hget_app q4) (by rw [show 0+((ph:Nat):Int).toNat=ph by omega]; exact g1) rfl) ?_
  refine Eq.trans (pl_agg (by rfl) (by rfl)) ?_; refine Eq.trans (pl_any (by rfl)) ?_; refine Eq.trans (pl_int (by rfl)) ?_; refine Eq.trans (pl_int (by rfl)) ?_; refine Eq.trans (pl_int (by rfl)) ?_; refine Eq.trans (pl_int (by rfl)) ?_
  refine Eq.trans (st_s rfl rfl (show putSub 5 0 (phX av p) (E43).zero=some (phX av p) by rcases g2 with ⟨_,h⟩ | ⟨id',_,_,h,_⟩ <;> rw [h] <;> rfl)) ?_
  refine Eq.trans sh_ptr ?_
  refine Eq.trans (ld_s (v:=av) rfl rfl rfl) ?_
  refine Eq.trans (cal_eq c1) ?_
  refine Eq.trans (pl_any (by rfl)) ?_
  refine Eq.trans sh_ptr ?_
  refine Eq.trans (st_ptr (el':=phX av' p) hv1 rfl (put_ar c4 c5)) ?_
  have hv2:hget (H1.set (H.length+1) (some ⟨E43,[phX av' p]⟩)) (H.length+1)=some ⟨E43,[phX av' p]⟩:=hget_set (hg_lt hv1)
  refine Eq.trans (ld_ptr hv2 rfl rfl) ?_
  refine Eq.trans (pl_agg (by rfl) (by rfl)) ?_; refine Eq.trans (pl_any (by rfl)) ?_; refine Eq.trans (pl_int (by rfl)) ?_; refine Eq.trans (pl_int (by rfl)) ?_; refine Eq.trans (pl_int (by rfl)) ?_; refine Eq.trans (pl_int (by rfl)) ?_
  refine Eq.trans (st_ptr (el':=phX av' p) hv2 rfl (put5 c5)) ?_
  refine Eq.trans (ld_ptr (v:=phX av' p) (hget_set (by simp [hg_lt hv1])) rfl rfl) ?_
  change K _ ((H1.set (H.length+1) (some ⟨E43,[phX av' p]⟩)).set (H.length+1) (some ⟨E43,[phX av' p]⟩))=_
  rw [List.set_set]
 ·intro i b hb
  have:=hg_lt hb
  rw [hget_set_ne (by omega)]
  exact c2 _ _ (hget_app hb)
 ·rw [List.length_set]
  exact ar_mono c3 (by omega) (Nat.le_refl _) fun i b x _ hb=>by rw [hget_set_ne (by omega)]; exact hb
theorem m_now (d n0:Nat) {id cid:Nat} {c:Int} (h:Mach H id cid lo hi v r ph c) (h0:(r.phs[ph]'h.p).ps ≠ []) (hs:(r.phs[ph]'h.p).ps.length≤1000000):∃ av H',callB M (pcall M d) (n0+11) true 20 [.ptr id 0 0] H=some (phX av (r.phs[ph]'h.p),H')∧Ext H H'∧ArOf H' H.length H'.length av (r.phs[ph]'h.p).ps∧av.cells=[av]∧isSc av=true:=by
 let S:Heap:=[some ⟨E43,[(E43).zero]⟩]
 have hc:CpOf ((H ++ S) ++ S) lo hi v r.phs:=cp_mono h.cp (Nat.le_refl _) (Nat.le_refl _) fun _ _ _ _ x=>hget_app (hget_app x)
 obtain ⟨av,H1,c1,c2,c3,c4,c5⟩:=phase_own d n0 hc h.p h.len h0 hs
 have hm:∀ X:Heap,hget ((H ++ S) ++ X) id=_:=fun X=>hget_app (hget_app h.m)
 generalize hpp:r.phs[ph]'h.p=p at *
 have e1:hget H1 (H.length+0)=some ⟨E43,[(E43).zero]⟩:=c2 _ _ (hget_app (hget_s rfl))
 have e2:hget H1 ((H ++ S).length+0)=some ⟨E43,[(E43).zero]⟩:=c2 _ _ (hget_s rfl)
 have lS:(H ++ S).length=H.length+1:=by simp [S]
 let H2:=H1.set ((H ++ S).length+0) (some ⟨E43,[phX av p]⟩)
 let H3:=H2.set (H.length+0) (some ⟨E43,[phX av p]⟩)
 have k2:hget H2 ((H ++ S).length+0)=some ⟨E43,[phX av p]⟩:=hget_set (hg_lt e2)
 have k1:hget H2 (H.length+0)=some ⟨E43,[(E43).zero]⟩:=by rw [hget_set_ne (by omega)]; exact e1
 refine ⟨av,H3,xmeth_ok (U:=unr) (n:=n0+10) rfl rfl rfl fun K=>?_,?_,?_,c4,c5⟩
 ·refine (r20 C0 d _ (n0+2) _ K).trans ?_
  refine Eq.trans al_n ?_
  refine Eq.trans nil_f ?_
  refine Eq.trans (pl_bool (by rfl)) ?_
  refine Eq.trans (pl_f rfl) ?_
  refine Eq.trans gr_eq ?_
  refine Eq.trans nil_ptr ?_
  refine Eq.trans sh_ptr ?_
  refine Eq.trans (ld_ptr (v:=rlX v r) (hm S) rfl rfl) ?_
  refine Eq.trans (pl_agg (by rfl) (by rfl)) ?_; refine Eq.trans (pl_any (by rfl)) ?_; refine Eq.trans (pl_int (by rfl)) ?_; refine Eq.trans (pl_int (by rfl)) ?_; refine Eq.trans (pl_int (by rfl)) ?_; refine Eq.trans (pl_int (by rfl)) ?_; refine Eq.trans (pl_int (by rfl)) ?_; refine Eq.trans (pl_int (by rfl)) ?_; refine Eq.trans (pl_int (by rfl)) ?_; refine Eq.trans (pl_int (by rfl)) ?_
  refine Eq.trans nil_ptr ?_
  refine Eq.trans sh_ptr ?_
  refine Eq.trans (ld_ptr (v:=.int .i64 (ph:Int)) (hm S) rfl rfl) ?_
  refine Eq.trans (pl_int (by rfl)) ?_
  refine Eq.trans (cal_eq c1) ?_
  refine Eq.trans (pl_tup (by rfl) (by rfl)) ?_; refine Eq.trans (pl_agg (by rfl) (by rfl)) ?_; refine Eq.trans (pl_any (by rfl)) ?_; refine Eq.trans (pl_int (by rfl)) ?_; refine Eq.trans (pl_int (by rfl)) ?_; refine Eq.trans (pl_int (by rfl)) ?_; refine Eq.trans (pl_int (by rfl)) ?_; refine Eq.trans (pl_bool (by rfl)) ?_
  refine Eq.trans (keep_g (hget_s rfl) e2) ?_
  refine Eq.trans (st_ptr (el':=phX av p) e2 rfl (put5 (y:=.zsl true) (q:=⟨[],0,0,0,0⟩) c5)) ?_
  refine Eq.trans (ld_ptr (v:=phX av p) k2 rfl rfl) ?_
  refine Eq.trans (pl_agg (by rfl) (by rfl)) ?_; refine Eq.trans (pl_any (by rfl)) ?_; refine Eq.trans (pl_int (by rfl)) ?_; refine Eq.trans (pl_int (by rfl)) ?_; refine Eq.trans (pl_int (by rfl)) ?_; refine Eq.trans (pl_int (by rfl)) ?_
  refine Eq.trans (st_ptr (el':=phX av p) k1 rfl (put5 (y:=.zsl true) (q:=⟨[],0,0,0,0⟩) c5)) ?_
  refine Eq.trans (ld_ptr (v:=phX av p) (hget_set (hg_lt k1)) rfl rfl) ?_
  rfl
 ·intro i b hb
  have:=hg_lt hb
  rw [hget_set_ne (by omega),hget_set_ne (by omega)]
  exact c2 _ _ (hget_app (hget_app hb))
 ·have hl3:H3.length=H1.length:=by simp [H3,H2]
  rw [hl3]
  exact ar_mono c3 (by simp) (Nat.le_refl _) fun i b x _ hb=>by
   simp only [List.length_append] at x
   have:S.length=1:=rfl
   rw [hget_set_ne (by omega),hget_set_ne (by omega)]; exact hb
end
end Go.Proofs.Ytdceaeifcniabaa.AE

namespace Go.Proofs.Ytdceaeifcniabaa.AE
set_option linter.unusedVariables false
set_option linter.unusedSimpArgs false
set_option linter.constructorNameAsVariable false
open Go Go.Proofs.Ytdceaeifcniabaa.Geo
attribute [local irreducible] pcall C0 callB
set_option maxRecDepth 100000
theorem al_stA {G:Heap} {e:ETy} {n:Nat} {x:AV} {K:AV→Heap→Ans} (h:putSub n 0 x e.zero=some x):(C0.hop G (.alloc e) fun p h=>C0.hop h (.store n (.v p) (.v x)) fun u h'=>K p h')=K (.ptr G.length 0 0) (G ++ [some ⟨e,[x]⟩]):=al_st (K:=fun p _ h=>K p h) h
def wishX (r:Rul) (ph:Nat) (hp:ph < r.phs.length) (c h:Int) (known:Bool):Bool:=known && (!decide (ph+1=r.phs.length) && (decide (c ≥ (r.phs[ph]).m) && decide (h ≥ (r.phs[ph]).u)))
section
variable {H:Heap} {lo hi id cid:Nat} {v:AV} {r:Rul} {ph:Nat} {c:Int}
theorem m_wish (d n0:Nat) (hgt:Int) (known:Bool) (h:Mach H id cid lo hi v r ph c) (h0:(r.phs[ph]'h.p).ps ≠ []) (hs:(r.phs[ph]'h.p).ps.length≤1000000):∃ H',callB M (pcall M d) (n0+12) true 11 [.ptr id 0 0,.int .i64 hgt,.bool known] H=some (.bool (wishX r ph h.p c hgt known),H')∧Ext H H':=by
 obtain ⟨av,H1,c1,c2,c3,c4,c5⟩:=m_now d n0 h h0 hs
 generalize hpp:r.phs[ph]'h.p=p at *
 let H2:=H1 ++ [some ⟨E43,[phX av p]⟩]
 have e2:Ext H H2:=c2.trans (Ext.app _ _)
 have hm:=mach_ext h e2
 have hv:hget H2 H1.length=some ⟨E43,[phX av p]⟩:=hget_new
 refine ⟨H2,xmeth_ok (U:=unr) (n:=n0+11) rfl rfl rfl fun K=>?_,e2⟩
 refine (r11 C0 d _ _ _ (n0+3) _ K).trans ?_
 refine Eq.trans (cal_eq c1) ?_
 refine Eq.trans (pl_agg (by rfl) (by rfl)) ?_; refine Eq.trans (pl_any (by rfl)) ?_; refine Eq.trans (pl_int (by rfl)) ?_; refine Eq.trans (pl_int (by rfl)) ?_; refine Eq.trans (pl_int (by rfl)) ?_; refine Eq.trans (pl_int (by rfl)) ?_
 refine Eq.trans (al_stA (put5 (y:=.zsl true) (q:=⟨[],0,0,0,0⟩) c5)) ?_
 refine Eq.trans gr_nil ?_
 unfold wishX
 rw [hpp]
 cases known
 ·rfl
 rw [cnd_t,Bool.true_and]
 refine Eq.trans (cal_eq (m_last d (n0+2) hm)) ?_
 refine Eq.trans (pl_bool (by rfl)) ?_
 cases hla:decide (ph+1=r.phs.length)
 rotate_left
 ·rfl
 refine Eq.trans (pl_len rfl) ?_
 refine Eq.trans (cal_eq (m_in d (n0+1) hm)) ?_
 refine Eq.trans (pl_int (by rfl)) ?_
 refine Eq.trans sh_ptr ?_
 refine Eq.trans (ld_ptr (v:=.int .i64 p.m) hv rfl rfl) ?_
 refine Eq.trans (pl_int (by rfl)) ?_
 refine Eq.trans (keep_1 rfl) ?_
 cases hcm:decide (c ≥ p.m)
 ·rfl
 rw [cnd_t]
 refine Eq.trans sh_ptr ?_
 refine Eq.trans (ld_ptr (v:=.int .i64 p.u) hv rfl rfl) ?_
 refine Eq.trans (pl_int (by rfl)) ?_
 rfl
def stepP (r:Rul) (ph:Nat) (c:Int) (a b:Bool):Bool × Nat × Int:=bif a && (b && !decide (ph+1=r.phs.length)) then (true,ph+1,0) else (false,ph,if 1000000 < c+1 then 1000000 else c+1)
theorem m_cycle (d n0:Nat) (a b:Bool) (h:Mach H id cid lo hi v r ph c):∃ H',callB M (pcall M d) (n0+11) true 13 [.ptr id 0 0,.bool a,.bool b] H=some (.bool (stepP r ph c a b).1,H')∧Mach H' id cid lo hi v r (stepP r ph c a b).2.1 (stepP r ph c a b).2.2∧Ext2 id cid H H':=by
 obtain ⟨H1,u1,u2,u3⟩:=cnt_up d n0 h.k h.c0
 have mU:Mach H1 id cid lo hi v r ph (if 1000000 < c+1 then 1000000 else c+1):=by
  have:=h.c0
  exact ⟨u3 _ _ h.ne h.m,u2,cp_mono h.cp (Nat.le_refl _) (Nat.le_refl _) fun i b x y z=>u3 _ _ (by have:=h.h2; omega) z,h.ne,h.h1,h.h2,h.p,by split <;> omega,h.len⟩
 have eU:Ext2 id cid H H1:=fun i x _ h2 y=>u3 i x h2 y
 have up:∀ K:AV→Heap→Ans,(C0.hop H (.nilck (.v (.ptr id 0 0))) fun v3 h4 =>
  C0.hop h4 (.fldA 10 (.v v3)) fun v5 h6 =>
  C0.hop h6 (.load false 1 (.v v5)) fun v7 h8 =>
  C0.cal M (pcall M d) (n0+10) true 27 [v7] h8 fun v9 h10 =>
  C0.int .i64 (some v9) fun x11=>K (.bool false) h10)=K (.bool false) H1:=by
  intro K
  refine Eq.trans nil_ptr ?_
  refine Eq.trans sh_ptr ?_
  refine Eq.trans (ld_ptr (v:=.ptr cid 0 0) h.m rfl rfl) ?_
  refine Eq.trans (cal_eq u1) ?_
  exact pl_int rfl
 have stay:stepP r ph c a b=(false,ph,if 1000000 < c+1 then 1000000 else c+1)→(∀ K:AV→Heap→Ans,xmeth C0 M unr d (n0+10) 13 [.ptr id 0 0,.bool a,.bool b] H K=K (.bool false) H1)→∃ H',callB M (pcall M d) (n0+11) true 13 [.ptr id 0 0,.bool a,.bool b] H=some (.bool (stepP r ph c a b).1,H')∧Mach H' id cid lo hi v r (stepP r ph c a b).2.1 (stepP r ph c a b).2.2∧Ext2 id cid H H':=by
  intro e k
  rw [e]
  exact ⟨H1,xmeth_ok (U:=unr) (n:=n0+10) rfl rfl rfl k,mU,eU⟩
 cases a
 ·refine stay rfl fun K=>?_
  refine (r13 C0 d _ _ _ (n0+2) _ K).trans ?_
  refine Eq.trans nil_f ?_
  refine Eq.trans (pl_bool (by rfl)) ?_
  refine Eq.trans (pl_f rfl) ?_
  refine Eq.trans (pl_len rfl) ?_
  exact up K
 cases b
 ·refine stay rfl fun K=>?_
  refine (r13 C0 d _ _ _ (n0+2) _ K).trans ?_
  refine Eq.trans nil_f ?_
  refine Eq.trans (pl_bool (by rfl)) ?_
  refine Eq.trans (pl_f rfl) ?_
  refine Eq.trans (pl_f rfl) ?_
  refine Eq.trans (pl_len rfl) ?_
  exact up K
 by_cases hla:ph+1=r.phs.length
 ·refine stay (by unfold stepP; rw [decide_eq_true hla]; rfl) fun K=>?_
  refine (r13 C0 d _ _ _ (n0+2) _ K).trans ?_
  refine Eq.trans nil_f ?_
  refine Eq.trans (pl_bool (by rfl)) ?_
  refine Eq.trans (pl_f rfl) ?_
  refine Eq.trans (pl_f rfl) ?_
  refine Eq.trans (pl_f rfl) ?_
  refine Eq.trans (cal_eq (m_last d (n0+1) h)) ?_
  refine Eq.trans (pl_bool (by rfl)) ?_
  refine Eq.trans (pl_len (decide_eq_true hla)) ?_
  exact up K
 have hp:=h.p
 have hl:=h.len
 let MB:Blk:=⟨E54,[.agg [v,.int .i64 r.n,.int .i64 r.d,.int .i64 r.gr,.int .i64 r.eps,.int .i64 r.st,.int .i64 r.age,.int .i64 r.lift,.int .i64 r.saf,.int .i64 ((ph+1:Nat):Int),.ptr cid 0 0]]⟩
 let H2:=H.set id (some MB)
 have hm2:hget H2 id=some MB:=hget_set (hg_lt h.m)
 have hk2:Cnt H2 cid c:=by unfold Cnt; rw [hget_set_ne h.ne]; exact h.k
 obtain ⟨H3,w1,w2,w3⟩:=cnt_reset d n0 hk2
 have e:stepP r ph c true true=(true,ph+1,0):=by unfold stepP; rw [decide_eq_false hla]; rfl
 rw [e]
 refine ⟨H3,xmeth_ok (U:=unr) (n:=n0+10) rfl rfl rfl fun K=>?_,⟨w3 _ _ h.ne hm2,w2,cp_mono h.cp (Nat.le_refl _) (Nat.le_refl _) fun i b x y z=>w3 _ _ (by have:=h.h2; omega) (by rw [hget_set_ne (by have:=h.h1; omega)]; exact z),h.ne,h.h1,h.h2,by simp only; omega,by simp,h.len⟩,fun i x h1 h2 y=>w3 i x h2 (by rw [hget_set_ne (Ne.symm h1)]; exact y)⟩
 refine (r13 C0 d _ _ _ (n0+2) _ K).trans ?_
 refine Eq.trans nil_f ?_
 refine Eq.trans (pl_bool (by rfl)) ?_
 refine Eq.trans (pl_f rfl) ?_
 refine Eq.trans (pl_f rfl) ?_
 refine Eq.trans (pl_f rfl) ?_
 refine Eq.trans (cal_eq (m_last d (n0+1) h)) ?_
 refine Eq.trans (pl_bool (by rfl)) ?_
 refine Eq.trans (pl_f (decide_eq_false hla)) ?_
 refine Eq.trans nil_ptr ?_
 refine Eq.trans sh_ptr ?_
 refine Eq.trans (ld_ptr (v:=.int .i64 (ph:Int)) h.m rfl rfl) ?_
 refine Eq.trans (pl_int (by rfl)) ?_
 refine Eq.trans nil_ptr ?_
 refine Eq.trans sh_ptr ?_
 rw [show IntKind.wrap .i64 (((ph:Nat):Int)+1)=((ph+1:Nat):Int) by rw [i64w]; omega]
 refine Eq.trans (st_ptr h.m rfl rfl) ?_
 refine Eq.trans nil_ptr ?_
 refine Eq.trans sh_ptr ?_
 refine Eq.trans (ld_ptr (v:=.ptr cid 0 0) hm2 rfl rfl) ?_
 refine Eq.trans (cal_eq w1) ?_
 exact pl_tup rfl rfl
theorem m_set (d n0:Nat) (p i:Int) (h:Mach H id cid lo hi v r ph c):∃ H',callB M (pcall M d) (n0+10) true 15 [.ptr id 0 0,.int .i64 p,.int .i64 i] H=some (.bool (decide ((0≤p∧p < (r.phs.length:Nat))∧0≤i∧i≤1000000)),H')∧Ext2 id cid H H' ∧
 (if (0≤p∧p < (r.phs.length:Nat))∧0≤i∧i≤1000000 then Mach H' id cid lo hi v r p.toNat i else Mach H' id cid lo hi v r ph c):=by
 by_cases hok:(0≤p∧p < (r.phs.length:Nat))∧0≤i∧i≤1000000
 rotate_left
 ·refine ⟨H,xmeth_ok (U:=unr) (n:=n0+9) rfl rfl rfl fun K=>?_,(Ext.refl H).two _ _,by rw [if_neg hok]; exact h⟩
  refine (r15 C0 d _ _ _ (n0+1) _ K).trans ?_
  rw [decide_eq_false hok]
  refine Eq.trans nil_f ?_
  refine Eq.trans (pl_bool (by rfl)) ?_
  refine Eq.trans (pl_f rfl) ?_
  by_cases h1:p < 0
  ·rw [decide_eq_true h1]; rfl
  rw [decide_eq_false h1,cnd_f]
  refine Eq.trans nil_ptr ?_
  refine Eq.trans sh_ptr ?_
  refine Eq.trans sh_ptr ?_
  refine Eq.trans (ld_ptr (v:=v) h.m rfl rfl) ?_
  refine Eq.trans (len_cp h.cp) ?_
  refine Eq.trans (pl_int (by rfl)) ?_
  by_cases h2:p ≥ (r.phs.length:Nat)
  ·rw [decide_eq_true h2]; rfl
  rw [decide_eq_false h2,cnd_f]
  by_cases h3:i < 0
  ·rw [decide_eq_true h3]; rfl
  rw [decide_eq_false h3,cnd_f,decide_eq_true (by omega)]; rfl
 obtain ⟨q,rfl⟩:∃ q:Nat,p=(q:Nat):=⟨p.toNat,by omega⟩
 let MB:Blk:=⟨E54,[.agg [v,.int .i64 r.n,.int .i64 r.d,.int .i64 r.gr,.int .i64 r.eps,.int .i64 r.st,.int .i64 r.age,.int .i64 r.lift,.int .i64 r.saf,.int .i64 ((q:Nat):Int),.ptr cid 0 0]]⟩
 let H2:=H.set id (some MB)
 have hm2:hget H2 id=some MB:=hget_set (hg_lt h.m)
 have hk2:Cnt H2 cid c:=by unfold Cnt; rw [hget_set_ne h.ne]; exact h.k
 obtain ⟨H3,w1,w2,w3⟩:=cnt_set d n0 (n:=i) hk2
 have ec:clampC i=i:=by unfold clampC; rw [if_neg (show ¬ (0:Int) > i by omega),if_neg (by omega)]
 rw [ec] at w2
 refine ⟨H3,xmeth_ok (U:=unr) (n:=n0+9) rfl rfl rfl fun K=>?_,fun i x h1 h2 y=>w3 i x h2 (by rw [hget_set_ne (Ne.symm h1)]; exact y),?_⟩
 ·refine (r15 C0 d _ _ _ (n0+1) _ K).trans ?_
  rw [decide_eq_true hok]
  refine Eq.trans nil_f ?_
  refine Eq.trans (pl_bool (by rfl)) ?_
  refine Eq.trans (pl_f rfl) ?_
  rw [decide_eq_false (by omega),cnd_f]
  refine Eq.trans nil_ptr ?_
  refine Eq.trans sh_ptr ?_
  refine Eq.trans sh_ptr ?_
  refine Eq.trans (ld_ptr (v:=v) h.m rfl rfl) ?_
  refine Eq.trans (len_cp h.cp) ?_
  refine Eq.trans (pl_int (by rfl)) ?_
  rw [decide_eq_false (by omega),cnd_f,decide_eq_false (by omega),cnd_f,decide_eq_false (by omega),cnd_f]
  refine Eq.trans nil_ptr ?_
  refine Eq.trans sh_ptr ?_
  refine Eq.trans (st_ptr h.m rfl rfl) ?_
  refine Eq.trans nil_ptr ?_
  refine Eq.trans sh_ptr ?_
  refine Eq.trans (ld_ptr (v:=.ptr cid 0 0) hm2 rfl rfl) ?_
  refine Eq.trans (cal_eq w1) ?_
  exact pl_tup rfl rfl
 ·rw [if_pos hok]
  exact ⟨w3 _ _ h.ne hm2,w2,cp_mono h.cp (Nat.le_refl _) (Nat.le_refl _) fun i b x y z=>w3 _ _ (by have:=h.h2; omega) (by rw [hget_set_ne (by have:=h.h1; omega)]; exact z),h.ne,h.h1,h.h2,by omega,by omega,h.len⟩
end
end Go.Proofs.Ytdceaeifcniabaa.AE

namespace Go.Proofs.Ytdceaeifcniabaa.AE
set_option linter.unusedVariables false
set_option linter.unusedSimpArgs false
set_option linter.constructorNameAsVariable false
open Go Go.Proofs.Ytdceaeifcniabaa.Geo
attribute [local irreducible] pcall C0 callB
set_option maxRecDepth 100000
theorem or_t1 (b:Bool):(b || true)=true:=by cases b <;> rfl
theorem new_bad (r:Rul) (H:Heap) (hl:r.phs.length≤100) (ha:∀ p ∈ r.phs,p.ps.length≤140737488355328) (hw:wrongX r ≠ 0):∃ H',callB M (pcall M 40) 12 true 9 [rl r] H=some (.nilp,H')∧Ext H H':=by
 refine ⟨H ++ [some ⟨E24,[rl r]⟩],xmeth_ok (U:=unr) (n:=11) rfl rfl rfl fun K=>?_,Ext.app _ _⟩
 refine (r9 C0 40 _ _ _ _ _ _ _ _ _ 3 _ K).trans ?_
 refine Eq.trans (bx_n (by rfl)) ?_
 refine Eq.trans (ld_s (v:=rl r) rfl rfl rfl) ?_
 refine Eq.trans (pl_agg (by rfl) (by rfl)) ?_; refine Eq.trans (pl_any (by rfl)) ?_; refine Eq.trans (pl_int (by rfl)) ?_; refine Eq.trans (pl_int (by rfl)) ?_; refine Eq.trans (pl_int (by rfl)) ?_; refine Eq.trans (pl_int (by rfl)) ?_; refine Eq.trans (pl_int (by rfl)) ?_; refine Eq.trans (pl_int (by rfl)) ?_; refine Eq.trans (pl_int (by rfl)) ?_; refine Eq.trans (pl_int (by rfl)) ?_
 refine Eq.trans (snp_free (by rfl)) ?_
 refine Eq.trans (pl_bool (s22 22 r (show r.phs.length≤1000 by omega) ha)) ?_
 rw [or_t1,cnd_t,beq_eq_false_iff_ne.mpr hw]
 rfl
theorem build_m {H:Heap} {x:AV} {r:Rul} {q:Nat} (h:x=.lst [] ∨ ∃ i n,x=.slc i 0 n):aop noCall (evO []) H (.build [(.zsl true),(.int .i64 0),(.int .i64 0),(.int .i64 0),(.int .i64 0),(.int .i64 0),(.int .i64 0),(.int .i64 0),(.int .i64 0),(.int .i64 0),.nilp] [(0,9,.v (rlX x r)),(10,1,.v (.ptr q 0 0))]) =
 some (.agg [x,.int .i64 r.n,.int .i64 r.d,.int .i64 r.gr,.int .i64 r.eps,.int .i64 r.st,.int .i64 r.age,.int .i64 r.lift,.int .i64 r.saf,.int .i64 ((0:Nat):Int),.ptr q 0 0],H):=by
 rcases h with rfl | ⟨i,n,rfl⟩ <;> rfl
theorem el_m {x:AV} {r:Rul} {q:Nat} (h:x=.lst [] ∨ ∃ i n,x=.slc i 0 n):elOk E54 (.agg [x,.int .i64 r.n,.int .i64 r.d,.int .i64 r.gr,.int .i64 r.eps,.int .i64 r.st,.int .i64 r.age,.int .i64 r.lift,.int .i64 r.saf,.int .i64 ((0:Nat):Int),.ptr q 0 0])=true:=by
 rcases h with rfl | ⟨i,n,rfl⟩ <;> rfl
theorem new_ok (r:Rul) (H:Heap) (hl:r.phs.length≤100) (ha:∀ p ∈ r.phs,p.ps.length≤1000000) (hp:0 < r.phs.length) (hw:wrongX r=0):∃ id cid lo hi v H',callB M (pcall M 40) 12 true 9 [rl r] H=some (.ptr id 0 0,H')∧Ext H H'∧Mach H' id cid lo hi v r 0 0∧H.length < lo∧H.length < id∧H.length < cid:=by
 let H1:=H ++ [some ⟨E24,[rl r]⟩]
 have hc:=cp_copy H1 r
 let H2:=H1 ++ cpS H1.length r
 let CB:Blk:=⟨E71,[.agg [.int .i64 0,.int .i64 1000000]]⟩
 let H3:=H2 ++ [some CB]
 let MB:AV:=.agg [phV H1.length r,.int .i64 r.n,.int .i64 r.d,.int .i64 r.gr,.int .i64 r.eps,.int .i64 r.st,.int .i64 r.age,.int .i64 r.lift,.int .i64 r.saf,.int .i64 ((0:Nat):Int),.ptr H2.length 0 0]
 let H4:=H3 ++ [some ⟨E54,[MB]⟩]
 have hv:phV H1.length r=.lst [] ∨ ∃ i n,phV H1.length r=.slc i 0 n:=by
  rcases hc with ⟨_,h⟩ | ⟨id,els,_,_,h,_⟩
  ·exact .inl h
  ·exact .inr ⟨_,_,h⟩
 have l1:H1.length=H.length+1:=by simp [H1]
 have l2:H2.length=H1.length+(cpS H1.length r).length:=by simp [H2]
 have l3:H3.length=H2.length+1:=by simp [H3]
 refine ⟨H3.length,H2.length,H1.length,H2.length,phV H1.length r,H4,xmeth_ok (U:=unr) (n:=11) rfl rfl rfl fun K=>?_,(((Ext.app _ _).trans (Ext.app _ _)).trans (Ext.app _ _)).trans (Ext.app _ _),⟨hget_new,hget_app hget_new,?_,by omega,by omega,Nat.le_refl _,hp,by decide,hl⟩,by omega,by omega,by omega⟩
 ·refine (r9 C0 40 _ _ _ _ _ _ _ _ _ 3 _ K).trans ?_
  refine Eq.trans (bx_n (by rfl)) ?_
  refine Eq.trans (ld_s (v:=rl r) rfl rfl rfl) ?_
  refine Eq.trans (pl_agg (by rfl) (by rfl)) ?_; refine Eq.trans (pl_any (by rfl)) ?_; refine Eq.trans (pl_int (by rfl)) ?_; refine Eq.trans (pl_int (by rfl)) ?_; refine Eq.trans (pl_int (by rfl)) ?_; refine Eq.trans (pl_int (by rfl)) ?_; refine Eq.trans (pl_int (by rfl)) ?_; refine Eq.trans (pl_int (by rfl)) ?_; refine Eq.trans (pl_int (by rfl)) ?_; refine Eq.trans (pl_int (by rfl)) ?_
  refine Eq.trans (snp_free (by rfl)) ?_
  refine Eq.trans (pl_bool (s22 22 r (show r.phs.length≤1000 by omega) (fun p hp=>by have:=ha p hp; omega))) ?_
  rw [or_t1,cnd_t,beq_iff_eq.mpr hw]
  refine Eq.trans (pl_f rfl) ?_
  refine Eq.trans (ld_s (v:=rl r) rfl rfl rfl) ?_
  refine Eq.trans (pl_agg (by rfl) (by rfl)) ?_; refine Eq.trans (pl_any (by rfl)) ?_; refine Eq.trans (pl_int (by rfl)) ?_; refine Eq.trans (pl_int (by rfl)) ?_; refine Eq.trans (pl_int (by rfl)) ?_; refine Eq.trans (pl_int (by rfl)) ?_; refine Eq.trans (pl_int (by rfl)) ?_; refine Eq.trans (pl_int (by rfl)) ?_; refine Eq.trans (pl_int (by rfl)) ?_; refine Eq.trans (pl_int (by rfl)) ?_
  refine Eq.trans (cal_eq (copyI 39 1 r (by omega) ha H1)) ?_
  refine Eq.trans (pl_agg (by rfl) (by rfl)) ?_; refine Eq.trans (pl_any (by rfl)) ?_; refine Eq.trans (pl_int (by rfl)) ?_; refine Eq.trans (pl_int (by rfl)) ?_; refine Eq.trans (pl_int (by rfl)) ?_; refine Eq.trans (pl_int (by rfl)) ?_; refine Eq.trans (pl_int (by rfl)) ?_; refine Eq.trans (pl_int (by rfl)) ?_; refine Eq.trans (pl_int (by rfl)) ?_; refine Eq.trans (pl_int (by rfl)) ?_
  refine Eq.trans (cal_eq (cnt_new 40 2 H2)) ?_
  refine Eq.trans (pl_any (by rfl)) ?_
  refine Eq.trans (hop_eq (v:=MB) (H':=H3) (build_m hv)) ?_
  refine Eq.trans (pl_agg (by rfl) (by rfl)) ?_; refine Eq.trans (pl_any (by rfl)) ?_; refine Eq.trans (pl_int (by rfl)) ?_; refine Eq.trans (pl_int (by rfl)) ?_; refine Eq.trans (pl_int (by rfl)) ?_; refine Eq.trans (pl_int (by rfl)) ?_; refine Eq.trans (pl_int (by rfl)) ?_; refine Eq.trans (pl_int (by rfl)) ?_; refine Eq.trans (pl_int (by rfl)) ?_; refine Eq.trans (pl_int (by rfl)) ?_; refine Eq.trans (pl_int (by rfl)) ?_; refine Eq.trans (pl_any (by rfl)) ?_
  refine Eq.trans (hop_eq (v:=.ptr H3.length 0 0) (H':=H4) ?_) rfl
  have:elOk E54 MB=true:=el_m hv
  simp only [aop,evO]
  exact if_pos this
 ·exact cp_mono hc (Nat.le_refl _) (Nat.le_refl _) fun _ _ _ _ x=>hget_app (hget_app x)
structure Op21 where
 k:Int
 p:Int
 i:Int
 m:Bool
 t:Bool
 w:Bool
 h:Int
abbrev opA (o:Op21):AV:=.agg [.int .i64 o.k,.int .i64 o.p,.int .i64 o.i,.bool o.m,.bool o.t,.bool o.w,.int .i64 o.h]
theorem rows_op:∀ l:List AV,(∀ x ∈ l,∃ cs,x=.agg cs∧CTall [(.i .i64),(.i .i64),(.i .i64),.b,.b,.b,(.i .i64)] cs)→∃ ps:List Op21,l=ps.map opA
 | [],_=>⟨[],rfl⟩
 | x::l,h=>by
   obtain ⟨ps,rfl⟩:=rows_op l fun y hy=>h y (List.mem_cons_of_mem _ hy)
   obtain ⟨_,rfl,_,_,rfl,⟨a,rfl,_⟩,_,_,rfl,⟨b,rfl,_⟩,_,_,rfl,⟨c,rfl,_⟩,_,_,rfl,⟨d,rfl⟩,_,_,rfl,⟨e,rfl⟩,_,_,rfl,⟨f,rfl⟩,_,_,rfl,⟨g,rfl,_⟩,rfl⟩:=h x (List.mem_cons_self ..)
   exact ⟨⟨a,b,c,d,e,f,g⟩::ps,rfl⟩
theorem ops_at {l:List Op21} {i:Nat} (h:i < l.length):(l.map opA)[i]?=some (opA l[i]):=by simp [List.getElem?_map,List.getElem?_eq_getElem h]
theorem wrong_ph {r:Rul} (h:wrongX r=0):(1≤r.phs.length∧r.phs.length≤4)∧∀ p ∈ r.phs,p.ps ≠ []:=by
 unfold wrongX at h
 split at h
 ·omega
 ·rename_i h1
  refine ⟨by omega,fun p hp he=>?_⟩
  cases hb:r.phs.any badX
  ·rw [List.any_eq_false] at hb
   have:=hb p hp
   unfold badX at this
   simp only [Bool.not_eq_true',decide_eq_false_iff_not,Decidable.not_not] at this
   have:=this.1
   rw [he] at this
   cases this
  ·rw [hb,cond_true] at h; omega
abbrev rmA (r:Rul) (ph:Nat) (c:Int):AV:=.agg [.lst (r.phs.map phA),.int .i64 r.n,.int .i64 r.d,.int .i64 r.gr,.int .i64 r.eps,.int .i64 r.st,.int .i64 r.age,.int .i64 r.lift,.int .i64 r.saf,.int .i64 ((ph:Nat):Int),.int .i64 c]
def RefM (H:Heap) (wid:Nat) (r:Rul) (ph:Nat) (c:Int):Prop:=hget H wid=some ⟨E33,[rmA r ph c]⟩
theorem rw_wish (d n0:Nat) {H:Heap} {wid:Nat} {r:Rul} {ph:Nat} {c:Int} (hgt:Int) (known:Bool) (h:RefM H wid r ph c) (hp:ph < r.phs.length) (hl:r.phs.length≤100):∃ H',callB M (pcall M d) (n0+9) true 12 [.ptr wid 0 0,.int .i64 hgt,.bool known] H=some (.bool (wishX r ph hp c hgt known),H')∧Ext H H':=by
 have e:(r.phs.map phA)[((ph:Nat):Int).toNat]?=some (phA r.phs[ph]):=by rw [Int.toNat_natCast]; exact phs_at hp
 obtain ⟨p,hpt⟩:∃ p,p=r.phs[ph]:=⟨_,rfl⟩
 have h1:hget (H ++ ([some ⟨E43,[phA p]⟩]:Heap)) wid=some ⟨E33,[rmA r ph c]⟩:=hget_app h
 have g1:hget (H ++ ([some ⟨E43,[phA p]⟩]:Heap)) H.length=some ⟨E43,[phA p]⟩:=hget_new
 refine ⟨H ++ ([some ⟨E43,[phA p]⟩]:Heap),?_,Ext.app _ _⟩
 refine xmeth_ok (U:=unr) (n:=n0+8) rfl rfl rfl fun K=>?_
 refine (r12 C0 d _ _ _ n0 H K).trans ?_
 refine Eq.trans nil_ptr ?_
 refine Eq.trans sh_ptr ?_
 refine Eq.trans sh_ptr ?_
 refine Eq.trans (ld_ptr (v:=.lst (r.phs.map phA)) h rfl rfl) ?_
 refine Eq.trans nil_ptr ?_
 refine Eq.trans sh_ptr ?_
 refine Eq.trans (ld_ptr (v:=.int .i64 ((ph:Nat):Int)) h rfl rfl) ?_
 refine Eq.trans (pl_int rfl) ?_
 refine Eq.trans (ix_lst (by omega) e rfl) ?_
 rw [← hpt]
 refine Eq.trans (ld_fptr (v:=phA p) rfl) ?_
 refine Eq.trans (pl_agg rfl rfl) ?_
 refine Eq.trans (pl_any rfl) ?_
 iterate 4 (refine Eq.trans (pl_int rfl) ?_)
 refine Eq.trans (al_stA rfl) ?_
 unfold wishX
 rw [← hpt]
 cases known
 ·rw [cnd_f]; rfl
 rw [cnd_t,Bool.true_and]
 refine Eq.trans nil_ptr ?_
 refine Eq.trans sh_ptr ?_
 refine Eq.trans (ld_ptr (v:=.int .i64 ((ph:Nat):Int)) h1 rfl rfl) ?_
 refine Eq.trans (pl_int rfl) ?_
 refine Eq.trans nil_ptr ?_
 refine Eq.trans sh_ptr ?_
 refine Eq.trans sh_ptr ?_
 refine Eq.trans (ld_ptr (v:=.lst (r.phs.map phA)) h1 rfl rfl) ?_
 refine Eq.trans len_lst ?_
 refine Eq.trans (pl_int rfl) ?_
 rw [List.length_map,show IntKind.wrap .i64 (((ph:Nat):Int)+1)=((ph+1:Nat):Int) by rw [i64w]; omega]
 by_cases c1:ph+1=r.phs.length
 ·rw [decide_eq_false (by omega),cnd_f,decide_eq_true c1]; rfl
 rw [decide_eq_true (by omega),cnd_t,decide_eq_false c1,Bool.not_false,Bool.true_and]
 refine Eq.trans nil_ptr ?_
 refine Eq.trans sh_ptr ?_
 refine Eq.trans (ld_ptr (v:=.int .i64 c) h1 rfl rfl) ?_
 refine Eq.trans (pl_int rfl) ?_
 refine Eq.trans sh_ptr ?_
 refine Eq.trans (ld_ptr (v:=.int .i64 p.m) g1 rfl rfl) ?_
 refine Eq.trans (pl_int rfl) ?_
 by_cases c2:c ≥ p.m
 rotate_left
 ·rw [decide_eq_false c2,cnd_f]; rfl
 rw [decide_eq_true c2,cnd_t,Bool.true_and]
 refine Eq.trans sh_ptr ?_
 refine Eq.trans (ld_ptr (v:=.int .i64 p.u) g1 rfl rfl) ?_
 refine Eq.trans (pl_int rfl) ?_
 rfl
theorem rm_keep {H:Heap} {wid:Nat} {x:Option Blk}:∀ id b,id ≠ wid→hget H id=some b→hget (H.set wid x) id=some b:=fun id b hn h=>by rw [hget_set_ne (Ne.symm hn)]; exact h
theorem rw_up (d n0:Nat) {H:Heap} {wid:Nat} {r:Rul} {ph:Nat} {c:Int} (h:RefM H wid r ph c) (hc:0≤c∧c≤1000000) (K:AV→Heap→Ans):(C0.hop H (.nilck (.v (.ptr wid 0 0))) fun v50 h51 =>
 C0.hop h51 (.fldA 10 (.v v50)) fun v52 h53 =>
 C0.hop h53 (.load false 1 (.v v52)) fun v54 h55 =>
 C0.int .i64 (some v54) fun x56 =>
 C0.hop h55 (.nilck (.v (.ptr wid 0 0))) fun v57 h58 =>
 C0.hop h58 (.fldA 10 (.v v57)) fun v59 h60 =>
 C0.hop h60 (.store 1 (.v v59) (.v (.int .i64 (if ((1000000:Int) < (IntKind.wrap .i64 (x56+1))) then 1000000 else (IntKind.wrap .i64 (x56+1)))))) fun v61 h62 =>
 K bf h62)=K bf (H.set wid (some ⟨E33,[rmA r ph (if 1000000 < c+1 then 1000000 else c+1)]⟩)):=by
 refine Eq.trans nil_ptr ?_
 refine Eq.trans sh_ptr ?_
 refine Eq.trans (ld_ptr (v:=.int .i64 c) h rfl rfl) ?_
 refine Eq.trans (pl_int rfl) ?_
 refine Eq.trans nil_ptr ?_
 refine Eq.trans sh_ptr ?_
 rw [i64_small (by omega) (by omega)]
 exact st_ptr (el':=rmA r ph (if 1000000 < c+1 then 1000000 else c+1)) h rfl rfl
theorem rw_cycle (d n0:Nat) {H:Heap} {wid:Nat} {r:Rul} {ph:Nat} {c:Int} (a b:Bool) (h:RefM H wid r ph c) (hp:ph < r.phs.length) (hl:r.phs.length≤100) (hc:0≤c∧c≤1000000) :
 ∃ H',callB M (pcall M d) (n0+9) true 14 [.ptr wid 0 0,.bool a,.bool b] H=some (.bool (stepP r ph c a b).1,H')∧RefM H' wid r (stepP r ph c a b).2.1 (stepP r ph c a b).2.2∧∀ id b,id ≠ wid→hget H id=some b→hget H' id=some b:=by
 have hid:=hg_lt h
 by_cases hs:a=true∧b=true∧¬ ph+1=r.phs.length
 ·obtain ⟨rfl,rfl,c1⟩:=hs
  have es:stepP r ph c true true=(true,ph+1,0):=by unfold stepP; rw [decide_eq_false c1]; rfl
  rw [es]
  obtain ⟨H1,hH1⟩:∃ H1:Heap,H1=H.set wid (some ⟨E33,[rmA r (ph+1) c]⟩):=⟨_,rfl⟩
  have h1:hget H1 wid=some ⟨E33,[rmA r (ph+1) c]⟩:=by rw [hH1]; exact hget_set hid
  refine ⟨H1.set wid (some ⟨E33,[rmA r (ph+1) 0]⟩),?_,hget_set (hg_lt h1),fun id b hn hb=>rm_keep id b hn (by rw [hH1]; exact rm_keep id b hn hb)⟩
  refine xmeth_ok (U:=unr) (n:=n0+8) rfl rfl rfl fun K=>?_
  refine (r14 C0 d _ _ _ n0 H K).trans ?_
  rw [cnd_t,cnd_t]
  refine Eq.trans nil_ptr ?_
  refine Eq.trans sh_ptr ?_
  refine Eq.trans (ld_ptr (v:=.int .i64 ((ph:Nat):Int)) h rfl rfl) ?_
  refine Eq.trans (pl_int rfl) ?_
  refine Eq.trans nil_ptr ?_
  refine Eq.trans sh_ptr ?_
  refine Eq.trans sh_ptr ?_
  refine Eq.trans (ld_ptr (v:=.lst (r.phs.map phA)) h rfl rfl) ?_
  refine Eq.trans len_lst ?_
  refine Eq.trans (pl_int rfl) ?_
  have ew:IntKind.wrap .i64 (((ph:Nat):Int)+1)=((ph+1:Nat):Int):=by rw [i64w]; omega
  rw [List.length_map,ew,decide_eq_true (by omega),cnd_t]
  refine Eq.trans nil_ptr ?_
  refine Eq.trans sh_ptr ?_
  refine Eq.trans (ld_ptr (v:=.int .i64 ((ph:Nat):Int)) h rfl rfl) ?_
  refine Eq.trans (pl_int rfl) ?_
  refine Eq.trans nil_ptr ?_
  refine Eq.trans sh_ptr ?_
  rw [ew]
  have hst:∀ K:AV→Heap→Ans,C0.hop H (.store 1 (.v (.ptr wid 0 (0+9))) (.v (.int .i64 ((ph+1:Nat):Int)))) K=K .undef H1:=fun K=>by rw [hH1]; exact st_ptr (el':=rmA r (ph+1) c) h rfl rfl
  refine Eq.trans (hst _) ?_
  refine Eq.trans nil_ptr ?_
  refine Eq.trans sh_ptr ?_
  exact st_ptr (el':=rmA r (ph+1) 0) h1 rfl rfl
 ·have es:stepP r ph c a b=(false,ph,if 1000000 < c+1 then 1000000 else c+1):=by
   unfold stepP
   have:(a && (b && !decide (ph+1=r.phs.length)))=false:=by
    cases hx:(a && (b && !decide (ph+1=r.phs.length))) with
    | false=>rfl
    | true =>
      simp only [Bool.and_eq_true,Bool.not_eq_true',decide_eq_false_iff_not] at hx
      exact absurd hx hs
   rw [this]; rfl
  rw [es]
  refine ⟨H.set wid (some ⟨E33,[rmA r ph (if 1000000 < c+1 then 1000000 else c+1)]⟩),?_,hget_set hid,rm_keep⟩
  refine xmeth_ok (U:=unr) (n:=n0+8) rfl rfl rfl fun K=>?_
  refine (r14 C0 d _ _ _ n0 H K).trans ?_
  cases a
  ·rw [cnd_f]; exact rw_up d n0 h hc K
  rw [cnd_t]
  cases b
  ·rw [cnd_f]; exact rw_up d n0 h hc K
  have c1:ph+1=r.phs.length:=Classical.byContradiction fun k=>hs ⟨rfl,rfl,k⟩
  rw [cnd_t]
  refine Eq.trans nil_ptr ?_
  refine Eq.trans sh_ptr ?_
  refine Eq.trans (ld_ptr (v:=.int .i64 ((ph:Nat):Int)) h rfl rfl) ?_
  refine Eq.trans (pl_int rfl) ?_
  refine Eq.trans nil_ptr ?_
  refine Eq.trans sh_ptr ?_
  refine Eq.trans sh_ptr ?_
  refine Eq.trans (ld_ptr (v:=.lst (r.phs.map phA)) h rfl rfl) ?_
  refine Eq.trans len_lst ?_
  refine Eq.trans (pl_int rfl) ?_
  have ew:IntKind.wrap .i64 (((ph:Nat):Int)+1)=((ph+1:Nat):Int):=by rw [i64w]; omega
  rw [List.length_map,ew,decide_eq_false (by omega),cnd_f]
  exact rw_up d n0 h hc K
end Go.Proofs.Ytdceaeifcniabaa.AE

namespace Go.Proofs.Ytdceaeifcniabaa.AE
set_option linter.unusedVariables false
set_option linter.unusedSimpArgs false
set_option linter.constructorNameAsVariable false
open Go Go.Proofs.Ytdceaeifcniabaa.Geo
attribute [local irreducible] pcall C0
set_option maxRecDepth 100000
def sameP (p q:Phs):Bool:=decide (p.ps=q.ps) && (p.g == q.g && (p.v == q.v && (p.m == q.m && p.u == q.u)))
theorem sameP_r (p:Phs):sameP p p=true:=by simp [sameP]
theorem samePR (d:Nat) (p q:Phs) (hp:p.ps.length≤140737488355328) (hq:q.ps.length≤140737488355328):pcall M (d+2) 19 [phA p,phA q]=some (.bool (sameP p q)):=told (r19 C0 (d+1) _ _ _ _ _ _ _ _ _ _) (by
 refine Eq.trans (pl_bool (s31 d p.ps q.ps hp hq)) ?_
 unfold sameP
 cases decide (p.ps=q.ps)
 ·rfl
 ·rw [cnd_t,Bool.true_and]
  cases p.g == q.g
  ·rfl
  ·rw [cnd_t,Bool.true_and]
   cases p.v == q.v
   ·rfl
   ·rw [cnd_t,Bool.true_and]
    cases p.m == q.m
    ·rfl
    ·rfl)
end Go.Proofs.Ytdceaeifcniabaa.AE

namespace Go.Proofs.Ytdceaeifcniabaa.AE
set_option linter.unusedVariables false
set_option linter.unusedSimpArgs false
set_option linter.constructorNameAsVariable false
open Go

noncomputable section
variable {α:Type}
def foN (m:Nat) (K:Nat→α):α:=Nat.rec (motive:=fun _=>α) (K 0) (fun p _=>K (Nat.succ p)) m
theorem foN_eq (m:Nat) (K:Nat→α):foN m K=K m:=by cases m <;> rfl
def foI (n:Int) (K:Int→α):α:=match n with
 | .ofNat m=>foN m fun m=>K (.ofNat m)
 | .negSucc m=>foN m fun m=>K (.negSucc m)
theorem foI_eq (n:Int) (K:Int→α):foI n K=K n:=by cases n <;> simp only [foI,foN_eq]
def foB (b:Bool) (K:Bool→α):α:=match b with
 | true=>K true
 | false=>K false
theorem foB_eq (b:Bool) (K:Bool→α):foB b K=K b:=by cases b <;> rfl
def foY (b:UInt8) (K:UInt8→α):α:=foN b.toNat fun n=>K (UInt8.ofNat n)
theorem foY_eq (b:UInt8) (K:UInt8→α):foY b K=K b:=by unfold foY; rw [foN_eq]; congr 1; simp
def foL {β:Type} (f:β→(β→α)→α):List β→(List β→α)→α
 | [],K=>K []
 | x::l,K=>f x fun x=>foL f l fun l=>K (x::l)
theorem foL_eq {β:Type} {f:β→(β→α)→α} (h:∀ x K,f x K=K x):∀ (l:List β) (K:List β→α),foL f l K=K l
 | [],K=>rfl
 | x::l,K=>by simp only [foL,h,foL_eq h l]
def foS {β:Type}:List β→(List β→α)→α
 | [],K=>K []
 | x::l,K=>foS l fun l=>K (x::l)
theorem foS_eq {β:Type}:∀ (l:List β) (K:List β→α),foS l K=K l
 | [],K=>rfl
 | x::l,K=>by simp only [foS,foS_eq l]
def foV:Nat→AV→(AV→α)→α
 | 0,v,K=>K v
 | d+1,v,K=>match v with
   | .int k n=>foI n fun n=>K (.int k n)
   | .bool b=>foB b fun b=>K (.bool b)
   | .str s=>foL foY s fun s=>K (.str s)
   | .zsl b=>foB b fun b=>K (.zsl b)
   | .ptr a b c=>foN a fun a=>foN b fun b=>foN c fun c=>K (.ptr a b c)
   | .slc a b c=>foN a fun a=>foN b fun b=>foN c fun c=>K (.slc a b c)
   | .lst l=>foL (foV d) l fun l=>K (.lst l)
   | .fptr v j=>foV d v fun v=>foN j fun j=>K (.fptr v j)
   | .agg l=>foL (foV d) l fun l=>K (.agg l)
   | .tup l=>foL (foV d) l fun l=>K (.tup l)
   | .fn g a b=>foN g fun g=>foL (foV d) a fun a=>foL (foV d) b fun b=>K (.fn g a b)
   | v=>K v
theorem foV_eq:∀ (d:Nat) (v:AV) (K:AV→α),foV d v K=K v
 | 0,v,K=>rfl
 | d+1,v,K=>by
   have ih:∀ (v:AV) (K:AV→α),foV d v K=K v:=foV_eq d
   cases v <;> simp only [foV,foI_eq,foB_eq,foN_eq,foL_eq foY_eq,foL_eq ih,ih]
def foBlk (b:Option Blk) (K:Option Blk→α):α:=match b with
 | none=>K none
 | some ⟨e,els⟩=>foL (foV 2) els fun els=>K (some ⟨e,els⟩)
theorem foBlk_eq (b:Option Blk) (K:Option Blk→α):foBlk b K=K b:=by
 match b with
 | none=>rfl
 | some ⟨e,els⟩=>simp only [foBlk,foL_eq (foV_eq 2)]
def foH (H:Heap) (K:Heap→α):α:=foL foBlk H K
theorem foH_eq (H:Heap) (K:Heap→α):foH H K=K H:=foL_eq foBlk_eq H K

def wrH:IOp→Bool
 | .box .. | .alloc .. | .mkrow .. | .store .. | .s2b .. | .mkslice .. | .app ..=>true
 | _=>false
def foW (o:IOp) (H:Heap) (K:Heap→α):α:=match wrH o with
 | true=>foH H K
 | false=>K H
theorem foW_eq (o:IOp) (H:Heap) (K:Heap→α):foW o H K=K H:=by unfold foW; cases wrH o <;> simp only [foH_eq]

def depV:IOp→Nat
 | .call ..=>2
 | _=>1
def foP:List AV→Nat→AV→(List AV→α)→α
 | [],_,_,K=>K []
 | x::l,0,v,K=>K (v::l)
 | x::l,n+1,v,K=>foP l n v fun l=>K (x::l)
theorem foP_eq:∀ (l:List AV) (n:Nat) (v:AV) (K:List AV→α),foP l n v K=K (l.set n v)
 | [],n,v,K=>by cases n <;> rfl
 | x::l,0,v,K=>rfl
 | x::l,n+1,v,K=>by simp only [foP,foP_eq l,List.set_cons_succ]
def foO (env:List AV) (d:Option Nat) (v:AV) (K:List AV→α):α:=match d with
 | some d=>foP env d v K
 | none=>K env
theorem foO_eq (env:List AV) (d:Option Nat) (v:AV) (K:List AV→α):foO env d v K=K (put env d v):=by cases d <;> simp only [foO,put,foP_eq]
def runOpsF (call:CallF):List IOper→List AV→Heap→Option St
 | [],env,H=>some ⟨env,H⟩
 | o::l,env,H=>match want env o.guard with
   | some true=>match aop call (evO env) H o.op with
     | some (v,H)=>foV (depV o.op) v fun v=>foW o.op H fun H=>foO env o.dst v fun env=>runOpsF call l env H
     | none=>none
   | some false=>foO env o.dst (.tup []) fun env=>runOpsF call l env H
   | none=>none
theorem runOpsF_eq (call:CallF):∀ (l:List IOper) (env:List AV) (H:Heap),runOpsF call l env H=runOps call l ⟨env,H⟩
 | [],env,H=>rfl
 | o::l,env,H=>by
   simp only [runOpsF,runOps,foV_eq,foW_eq,foO_eq,runOpsF_eq call l] <;> rfl
def runOpsDF (call callP:CallF):List (IOper × List Nat)→Nat→List (Nat × Nat)→List AV→Heap→Option St
 | [],_,_,env,H=>some ⟨env,H⟩
 | (o,chk)::l,i,log,env,H=>match want env o.guard with
   | some true =>
     foS (touch (evO env) H o.op) fun tc =>
     if log.all (fun p=>!(chk.contains p.1) || !(tc.contains p.2)) then
      match aop (bif isFull chk then call else callP) (evO env) H o.op with
      | some (v,H)=>foV (depV o.op) v fun v=>foW o.op H fun H=>foO env o.dst v fun env=>foN i fun i=>foS (log ++ tc.map fun id=>(i,id)) fun log=>runOpsDF call callP l (i+1) log env H
      | none=>none
     else none
   | some false=>foO env o.dst (.tup []) fun env=>runOpsDF call callP l (i+1) log env H
   | none=>none
theorem runOpsDF_eq (call callP:CallF):∀ (l:List (IOper × List Nat)) (i:Nat) (log:List (Nat × Nat)) (env:List AV) (H:Heap),runOpsDF call callP l i log env H=runOpsD call callP l i log ⟨env,H⟩
 | [],_,_,env,H=>rfl
 | (o,chk)::l,i,log,env,H=>by
   simp only [runOpsDF,runOpsD,foV_eq,foW_eq,foS_eq,foO_eq,foN_eq,runOpsDF_eq call callP l] <;> rfl
def runOpsSF (call:CallF) (base:Nat):List SOp→Nat→List LogE→List AV→Heap→Option St
 | [],_,_,env,H=>some ⟨env,H⟩
 | o::l,i,log,env,H=>match want env o.op.guard with
   | some true=>match stepS call base o ⟨env,H⟩ with
     | some (v,H')=>foV (depV o.op.op) v fun v=>foW o.op.op H' fun H'=>match (log.all fun e=>!(o.chk.contains e.idx) || logC e o (evO env) H H') && o.kp.all fun j=>keepB H H' (base+j) with
       | true=>foO env o.op.dst v fun env'=>foN i fun i=>runOpsSF call base l (i+1) (entS i o (evO env) H H'::log) env' H'
       | false=>none
     | none=>none
   | some false=>foO env o.op.dst (.tup []) fun env=>runOpsSF call base l (i+1) log env H
   | none=>none
theorem runOpsSF_eq (call:CallF) (base:Nat):∀ (l:List SOp) (i:Nat) (log:List LogE) (env:List AV) (H:Heap),runOpsSF call base l i log env H=runOpsS call base l i log ⟨env,H⟩
 | [],_,_,env,H=>rfl
 | o::l,i,log,env,H=>by
   simp only [runOpsSF,runOpsS,foV_eq,foW_eq,foS_eq,foO_eq,foN_eq,runOpsSF_eq call base l] <;> rfl
def execF (call callP:CallF) (fu:Nat):IC→St→Option (Ex × St)
 | .skip,s=>some (.normal,s)
 | .regD ops,s=>match s with
   | ⟨env,H⟩=>match runOpsDF call callP ops 0 [] env H with
     | some s'=>some (.normal,s')
     | none=>none
 | .regS ops,s=>match s with
   | ⟨env,H⟩=>foN H.length fun n=>foS (H ++ preH ops) fun H=>match runOpsSF call n ops 0 [] env H with
     | some s'=>some (.normal,s')
     | none=>none
 | .reg ops,s=>match s with
   | ⟨env,H⟩=>match runOpsF call ops env H with
     | some s'=>some (.normal,s')
     | none=>none
 | .seq a b,s=>match execF call callP fu a s with
   | some (.normal,s')=>execF call callP fu b s'
   | r=>r
 | .cond c a b,s=>match evO s.env c with
   | .bool t=>bif t then execF call callP fu a s else execF call callP fu b s
   | _=>none
 | .block id a,s=>match execF call callP fu a s with
   | some (.exit i,s')=>if i=id then some (.normal,s') else some (.exit i,s')
   | r=>r
 | .loop a,s=>iter (execF call callP fu a) fu s
 | .exit id,s=>some (.exit id,s)
 | .ret,s=>some (.ret,s)
theorem execF_eq (call callP:CallF) (fu:Nat):∀ c,execF call callP fu c=exec call callP fu c
 | .skip=>by funext s; rfl
 | .regD ops=>by funext ⟨env,H⟩; simp only [execF,exec,runOpsDF_eq] <;> rfl
 | .regS ops=>by funext ⟨env,H⟩; simp only [execF,exec,foN_eq,foS_eq,runOpsSF_eq] <;> rfl
 | .reg ops=>by funext ⟨env,H⟩; simp only [execF,exec,runOpsF_eq] <;> rfl
 | .seq a b=>by funext s; simp only [execF,exec,execF_eq call callP fu a,execF_eq call callP fu b] <;> rfl
 | .cond c a b=>by funext s; simp only [execF,exec,execF_eq call callP fu a,execF_eq call callP fu b] <;> rfl
 | .block id a=>by funext s; simp only [execF,exec,execF_eq call callP fu a] <;> rfl
 | .loop a=>by funext s; simp only [execF,exec,execF_eq call callP fu a]
 | .exit id=>by funext s; rfl
 | .ret=>by funext s; rfl
def runFnF (call callP:CallF) (fu:Nat) (fn:AFn) (args:List AV) (H:Heap):Option (AV × Heap) :=
 foL (foV 12) args fun args=>foS (args ++ List.replicate (fn.ntmps - args.length) (.tup [])) fun env=>match execF call callP fu fn.body ⟨env,H⟩ with
 | some (.normal,s) | some (.ret,s)=>match resAll s fn.results with
   | some vs=>some (packRes vs,s.H)
   | none=>none
 | _=>none
theorem runFnF_eq:runFnF=runFn:=by
 funext call callP fu fn args H
 simp only [runFnF,runFn,foL_eq (foV_eq 12),foS_eq,execF_eq] <;> rfl
def freshF (rf:List AV→Heap→Option (AV × Heap)) (args:List AV) (H:Heap):Option (AV × Heap) :=
 match rf args (padH H.length) with
 | some (v,H1)=>match padOk H.length H1 with
   | true=>some (v,H ++ H1.drop H.length)
   | false=>none
 | none=>none
def callBF (M:Mod) (pc:FuncId→List AV→Option AV):Nat→Bool→CallF
 | 0,_=>callZ M pc
 | n+1,b=>fun g args H =>
   match M.ext g with
   | some e=>extCall e g args H
   | none=>if M.inl g then (match emptyR M pc g args with
     | some v=>some (v,H)
     | none=>match b with
       | true=>match M.code g args.length with
         | some fn=>runFnF (callBF M pc n true) (callBF M pc n false) M.fu fn args H
         | none=>none
       | false=>match M.fr g && args.all (noId DEPTH) with
         | true=>match M.code g args.length with
           | some fn=>freshF (runFnF (callBF M pc n true) (callBF M pc n false) M.fu fn) args H
           | none=>none
         | false=>pureCall pc g args H) else pureCall pc g args H
theorem callBF_eq (M:Mod) (pc:FuncId→List AV→Option AV):∀ n b,callBF M pc n b=callB M pc n b
 | 0,_=>rfl
 | n+1,b=>by funext g args H; simp only [callBF,callB,callBF_eq M pc n,runFnF_eq] <;> rfl
def pcallF (M:Mod):Nat→FuncId→List AV→Option AV
 | 0=>fun _ _=>none
 | d+1=>fun g args=>match M.code g args.length with
   | none=>none
   | some fn=>match runFnF (callBF M (pcallF M d) IDEPTH true) (callBF M (pcallF M d) IDEPTH false) M.fu fn args [] with
     | some (v,H')=>foV 12 (snap DEPTH H' v) some
     | none=>none
theorem pcallF_eq (M:Mod):∀ d,pcallF M d=pcall M d
 | 0=>rfl
 | d+1=>by funext g args; simp only [pcallF,pcall,pcallF_eq M d,runFnF_eq,callBF_eq,foV_eq] <;> rfl
theorem ran {M:Mod} {d:Nat} {g:FuncId} {args:List AV} {r:AV} (h:pcallF M d g args=some r):pcall M d g args=some r:=by rw [← pcallF_eq]; exact h
end
end Go.Proofs.Ytdceaeifcniabaa.AE

namespace Go.Proofs.Ytdceaeifcniabaa.AE
open Go
set_option maxRecDepth 100000
theorem awake:pcall M 40 7 []=some (.bool true):=ran (by kernel_rfl)
end Go.Proofs.Ytdceaeifcniabaa.AE

namespace Go.Proofs.Ytdceaeifcniabaa.AE
set_option linter.unusedVariables false
set_option linter.unusedSimpArgs false
set_option linter.constructorNameAsVariable false
open Go
set_option maxRecDepth 100000
set_option maxHeartbeats 0
def r3R3 (C:Cb) (d:Nat) (a0:List AV) (a1 a2 a3 a4 a5 a6 a7 a8:Int) (a9:List AV) (v0:AV) (b37 b38 b39:Bool) (v40 v41 v42:AV) (b43 b44:Bool) (v45 v46 v47 v53:AV) (x54 x55 x56 x57 x58 x59 x60 x61:Int) (v64 v68:AV) (x69 x70 x71 x72 x73 x74 x75 x76 x79:Int) (v89:AV) (x90 x91 x92 x93 x94 x95 x96 x97:Int) (v101:AV) (x102 x103 x104 x105 x106 x107 x108 x109 x110 x111:Int) (v112:AV) (x116 x123:Int) (v220 v221 v222 v223 v224 v225 v226 v227 v228 v229 v230 v231 v232 v233 v234 v235 v236 v237 v238 v239 v240 v241 v242 v243 v244 v245 v246 v247 v248 v249 v250 v251 v252 v253 v254 v255 v256 v257 v258 v259 v260 v261 v262 v263 v264 v265:AV) (x270 x271 x272:Int) (b273 b274 b275:Bool) (x276:Int) (v277 v283:AV) (x287:Int) (v288:AV) (b292 b295:Bool) (v296:AV) (x300:Int) (v301:AV) (b305 b308:Bool) (k310:Ex→St→Ans) (b312:Bool) (v337 v338 v339 v340 v341 v342 v343 v344 v345 v346 v347 v348 v349 v350 v351 v352 v353 v354 v355 v358 v359 v360 v361 v362 v363 v364 v365 v366 v367 v368 v369 v370 v373 v374 v375 v376 v377 v378 v379 v380 v381 v382 v383 v384 v385 v386 v387 v388 v389 v390 v391 v392 v393 v394:AV) (x398:Int):St→(Ex→St→Ans)→Ans:=fun s471 k472 =>
 cnd ((List.length s471.env) == 179)
 (sames C s471.env 0 [(.agg [(.lst a0),(iz a1),(iz a2),(iz a3),(iz a4),(iz a5),(iz a6),(iz a7),(iz a8)]),(.lst a9),v0,tz,(.bool b312),v64,v112,tz,v277] <|
 C.any s471.env[9]? fun v474 =>
 sames C s471.env 10 [(.bool b37),(.bool b38),(.bool b39),v40,v41,v42,(.bool b43),(.bool b44),v45,v46,v47,bf,tz,(.agg [v53,(iz x54),(iz x55),(iz x56),(iz x57),(iz x58),(iz x59),(iz x60),(iz x61)]),v64,(.agg [v68,(iz x69),(iz x70),(iz x71),(iz x72),(iz x73),(iz x74),(iz x75),(iz x76)]),(iz x79),bf,tz,tz,v64,bf,(.agg [v89,(iz x90),(iz x91),(iz x92),(iz x93),(iz x94),(iz x95),(iz x96),(iz x97)]),(.agg [v101,(iz x102),(iz x103),(iz x104),(iz x105),(iz x106),(iz x107),(iz x108),(iz x109),(iz x110),(iz x111)]),v112,(.lst a9),(iz x116),(iz x123),bt,v265,(.agg [(iz x270),(iz x271),(iz x272),(.bool b273),(.bool b274),(.bool b275),(iz x276)]),v64,v283,(iz x287),v288,(.bool b292),(.bool b295),v112,v296,(iz x300),v301,(.bool b305),(.bool b308),bf,v394,(iz x398)] <|
 anys C s471.env 56 21 <|
 sames C s471.env 77 [v337,v338,v339,v340,v341,v342,v343,v344,v345,v346,v347,v348,v349,v350,v351,v352,v353,v354,v355,bf,(.bool (x398 == 1)),v358,v359,v360,v361,v362,v363,v364,v365,v366,v367,v368,v369,v370,bf,(.bool (x398 == 2)),v373,v374,v375,v376,v377,v378,v379,v380,v381,v382,v383,v384,v385,v386,v387,v388,v389,v390,v391,v392,v393,v220,v221,v222,v223,v224,v225,v226,v227,v228,v229,v230,v231,v232,v233,v234,v235,v236,v237,v238,v239,v240,v241,v242,v243,v244,v245,v246,v247,v248,v249,v250,v251,v252,v253,v254,v255,v256,v257,v258,v259,v260,v261,v262,v263,v264] <|
 C.hop (St.H s471) (.fldA 1 (.v v277)) fun v496 h497 =>
 C.hop h497 (.load false 1 (.v v496)) fun v498 h499 =>
 C.int .i64 (some v498) fun x500 =>
 cnd (decide (x500 ≥ 0))
 (C.hop h499 (.fldA 1 (.v v277)) fun v501 h502 =>
 C.hop h502 (.load false 1 (.v v501)) fun v503 h504 =>
 C.int .i64 (some v503) fun x505 =>
 C.hop h504 (.fldA 0 (.v v0)) fun v506 h507 =>
 C.hop h507 (.load false 1 (.v v506)) fun v508 h509 =>
 C.hop h509 (.bk .lenV [(.v v508)]) fun v510 h511 =>
 C.int .i64 (some v510) fun x512 =>
 cnd (decide (x505 < x512))
 (C.hop h511 (.fldA 2 (.v v277)) fun v513 h514 =>
 C.hop h514 (.load false 1 (.v v513)) fun v515 h516 =>
 C.int .i64 (some v515) fun x517 =>
 cnd (decide (x517 ≥ 0))
 (C.hop h516 (.fldA 2 (.v v277)) fun v518 h519 =>
 C.hop h519 (.load false 1 (.v v518)) fun v520 h521 =>
 C.int .i64 (some v520) fun x522 =>
 k472 (.exit 2000000) ⟨[(.agg [(.lst a0),(iz a1),(iz a2),(iz a3),(iz a4),(iz a5),(iz a6),(iz a7),(iz a8)]),(.lst a9),v0,tz,(bz b312),v64,v112,tz,v277,(bz (decide (x522≤1000000))),(bz b37),(bz b38),(bz b39),v40,v41,v42,(bz b43),(bz b44),v45,v46,v47,bf,tz,(.agg [v53,(iz x54),(iz x55),(iz x56),(iz x57),(iz x58),(iz x59),(iz x60),(iz x61)]),v64,(.agg [v68,(iz x69),(iz x70),(iz x71),(iz x72),(iz x73),(iz x74),(iz x75),(iz x76)]),(iz x79),bf,tz,tz,v64,bf,(.agg [v89,(iz x90),(iz x91),(iz x92),(iz x93),(iz x94),(iz x95),(iz x96),(iz x97)]),(.agg [v101,(iz x102),(iz x103),(iz x104),(iz x105),(iz x106),(iz x107),(iz x108),(iz x109),(iz x110),(iz x111)]),v112,(.lst a9),(iz x116),(iz x123),bt,v265,(.agg [(iz x270),(iz x271),(iz x272),(bz b273),(bz b274),(bz b275),(iz x276)]),v64,v283,(iz x287),v288,(bz b292),(bz b295),v112,v296,(iz x300),v301,(bz b305),(bz b308),bf,v394,(iz x398),v496,(iz x500),(bz (decide (x500 ≥ 0))),bt,v501,(iz x505),v506,v508,(iz x512),(bz (decide (x505 < x512))),(bz (decide (x505 < x512))),bt,v513,(iz x517),(bz (decide (x517 ≥ 0))),(bz (decide (x517 ≥ 0))),bt,v518,(iz x522),(bz (decide (x522≤1000000))),(bz (decide (x522≤1000000))),v337,v338,v339,v340,v341,v342,v343,v344,v345,v346,v347,v348,v349,v350,v351,v352,v353,v354,v355,bf,(bz (x398 == 1)),v358,v359,v360,v361,v362,v363,v364,v365,v366,v367,v368,v369,v370,bf,(bz (x398 == 2)),v373,v374,v375,v376,v377,v378,v379,v380,v381,v382,v383,v384,v385,v386,v387,v388,v389,v390,v391,v392,v393,v220,v221,v222,v223,v224,v225,v226,v227,v228,v229,v230,v231,v232,v233,v234,v235,v236,v237,v238,v239,v240,v241,v242,v243,v244,v245,v246,v247,v248,v249,v250,v251,v252,v253,v254,v255,v256,v257,v258,v259,v260,v261,v262,v263,v264],h521⟩)
 (k472 (.exit 2000000) ⟨[(.agg [(.lst a0),(iz a1),(iz a2),(iz a3),(iz a4),(iz a5),(iz a6),(iz a7),(iz a8)]),(.lst a9),v0,tz,(bz b312),v64,v112,tz,v277,bf,(bz b37),(bz b38),(bz b39),v40,v41,v42,(bz b43),(bz b44),v45,v46,v47,bf,tz,(.agg [v53,(iz x54),(iz x55),(iz x56),(iz x57),(iz x58),(iz x59),(iz x60),(iz x61)]),v64,(.agg [v68,(iz x69),(iz x70),(iz x71),(iz x72),(iz x73),(iz x74),(iz x75),(iz x76)]),(iz x79),bf,tz,tz,v64,bf,(.agg [v89,(iz x90),(iz x91),(iz x92),(iz x93),(iz x94),(iz x95),(iz x96),(iz x97)]),(.agg [v101,(iz x102),(iz x103),(iz x104),(iz x105),(iz x106),(iz x107),(iz x108),(iz x109),(iz x110),(iz x111)]),v112,(.lst a9),(iz x116),(iz x123),bt,v265,(.agg [(iz x270),(iz x271),(iz x272),(bz b273),(bz b274),(bz b275),(iz x276)]),v64,v283,(iz x287),v288,(bz b292),(bz b295),v112,v296,(iz x300),v301,(bz b305),(bz b308),bf,v394,(iz x398),v496,(iz x500),(bz (decide (x500 ≥ 0))),bt,v501,(iz x505),v506,v508,(iz x512),(bz (decide (x505 < x512))),(bz (decide (x505 < x512))),bt,v513,(iz x517),(bz (decide (x517 ≥ 0))),(bz (decide (x517 ≥ 0))),bf,tz,tz,tz,bf,v337,v338,v339,v340,v341,v342,v343,v344,v345,v346,v347,v348,v349,v350,v351,v352,v353,v354,v355,bf,(bz (x398 == 1)),v358,v359,v360,v361,v362,v363,v364,v365,v366,v367,v368,v369,v370,bf,(bz (x398 == 2)),v373,v374,v375,v376,v377,v378,v379,v380,v381,v382,v383,v384,v385,v386,v387,v388,v389,v390,v391,v392,v393,v220,v221,v222,v223,v224,v225,v226,v227,v228,v229,v230,v231,v232,v233,v234,v235,v236,v237,v238,v239,v240,v241,v242,v243,v244,v245,v246,v247,v248,v249,v250,v251,v252,v253,v254,v255,v256,v257,v258,v259,v260,v261,v262,v263,v264],h516⟩))
 (k472 (.exit 2000000) ⟨[(.agg [(.lst a0),(iz a1),(iz a2),(iz a3),(iz a4),(iz a5),(iz a6),(iz a7),(iz a8)]),(.lst a9),v0,tz,(bz b312),v64,v112,tz,v277,bf,(bz b37),(bz b38),(bz b39),v40,v41,v42,(bz b43),(bz b44),v45,v46,v47,bf,tz,(.agg [v53,(iz x54),(iz x55),(iz x56),(iz x57),(iz x58),(iz x59),(iz x60),(iz x61)]),v64,(.agg [v68,(iz x69),(iz x70),(iz x71),(iz x72),(iz x73),(iz x74),(iz x75),(iz x76)]),(iz x79),bf,tz,tz,v64,bf,(.agg [v89,(iz x90),(iz x91),(iz x92),(iz x93),(iz x94),(iz x95),(iz x96),(iz x97)]),(.agg [v101,(iz x102),(iz x103),(iz x104),(iz x105),(iz x106),(iz x107),(iz x108),(iz x109),(iz x110),(iz x111)]),v112,(.lst a9),(iz x116),(iz x123),bt,v265,(.agg [(iz x270),(iz x271),(iz x272),(bz b273),(bz b274),(bz b275),(iz x276)]),v64,v283,(iz x287),v288,(bz b292),(bz b295),v112,v296,(iz x300),v301,(bz b305),(bz b308),bf,v394,(iz x398),v496,(iz x500),(bz (decide (x500 ≥ 0))),bt,v501,(iz x505),v506,v508,(iz x512),(bz (decide (x505 < x512))),(bz (decide (x505 < x512))),bf,tz,tz,tz,bf,bf,tz,tz,tz,bf,v337,v338,v339,v340,v341,v342,v343,v344,v345,v346,v347,v348,v349,v350,v351,v352,v353,v354,v355,bf,(bz (x398 == 1)),v358,v359,v360,v361,v362,v363,v364,v365,v366,v367,v368,v369,v370,bf,(bz (x398 == 2)),v373,v374,v375,v376,v377,v378,v379,v380,v381,v382,v383,v384,v385,v386,v387,v388,v389,v390,v391,v392,v393,v220,v221,v222,v223,v224,v225,v226,v227,v228,v229,v230,v231,v232,v233,v234,v235,v236,v237,v238,v239,v240,v241,v242,v243,v244,v245,v246,v247,v248,v249,v250,v251,v252,v253,v254,v255,v256,v257,v258,v259,v260,v261,v262,v263,v264],h511⟩))
 (k472 (.exit 2000000) ⟨[(.agg [(.lst a0),(iz a1),(iz a2),(iz a3),(iz a4),(iz a5),(iz a6),(iz a7),(iz a8)]),(.lst a9),v0,tz,(bz b312),v64,v112,tz,v277,bf,(bz b37),(bz b38),(bz b39),v40,v41,v42,(bz b43),(bz b44),v45,v46,v47,bf,tz,(.agg [v53,(iz x54),(iz x55),(iz x56),(iz x57),(iz x58),(iz x59),(iz x60),(iz x61)]),v64,(.agg [v68,(iz x69),(iz x70),(iz x71),(iz x72),(iz x73),(iz x74),(iz x75),(iz x76)]),(iz x79),bf,tz,tz,v64,bf,(.agg [v89,(iz x90),(iz x91),(iz x92),(iz x93),(iz x94),(iz x95),(iz x96),(iz x97)]),(.agg [v101,(iz x102),(iz x103),(iz x104),(iz x105),(iz x106),(iz x107),(iz x108),(iz x109),(iz x110),(iz x111)]),v112,(.lst a9),(iz x116),(iz x123),bt,v265,(.agg [(iz x270),(iz x271),(iz x272),(bz b273),(bz b274),(bz b275),(iz x276)]),v64,v283,(iz x287),v288,(bz b292),(bz b295),v112,v296,(iz x300),v301,(bz b305),(bz b308),bf,v394,(iz x398),v496,(iz x500),(bz (decide (x500 ≥ 0))),bf,tz,tz,tz,tz,tz,tz,bf,bf,tz,tz,tz,bf,bf,tz,tz,tz,bf,v337,v338,v339,v340,v341,v342,v343,v344,v345,v346,v347,v348,v349,v350,v351,v352,v353,v354,v355,bf,(bz (x398 == 1)),v358,v359,v360,v361,v362,v363,v364,v365,v366,v367,v368,v369,v370,bf,(bz (x398 == 2)),v373,v374,v375,v376,v377,v378,v379,v380,v381,v382,v383,v384,v385,v386,v387,v388,v389,v390,v391,v392,v393,v220,v221,v222,v223,v224,v225,v226,v227,v228,v229,v230,v231,v232,v233,v234,v235,v236,v237,v238,v239,v240,v241,v242,v243,v244,v245,v246,v247,v248,v249,v250,v251,v252,v253,v254,v255,v256,v257,v258,v259,v260,v261,v262,v263,v264],h499⟩))
 (none)
def r3X3_0 (C:Cb) (d:Nat) (a0:List AV) (a1 a2 a3 a4 a5 a6 a7 a8:Int) (a9:List AV) (v0:AV) (b37 b38 b39:Bool) (v40 v41 v42:AV) (b43 b44:Bool) (v45 v46 v47 v53:AV) (x54 x55 x56 x57 x58 x59 x60 x61:Int) (v64 v68:AV) (x69 x70 x71 x72 x73 x74 x75 x76 x79:Int) (v89:AV) (x90 x91 x92 x93 x94 x95 x96 x97:Int) (v101:AV) (x102 x103 x104 x105 x106 x107 x108 x109 x110 x111:Int) (v112:AV) (x116 x123:Int) (v220 v221 v222 v223 v224 v225 v226 v227 v228 v229 v230 v231 v232 v233 v234 v235 v236 v237 v238 v239 v240 v241 v242 v243 v244 v245 v246 v247 v248 v249 v250 v251 v252 v253 v254 v255 v256 v257 v258 v259 v260 v261 v262 v263 v264 v265:AV) (x270 x271 x272:Int) (b273 b274 b275:Bool) (x276:Int) (v277 v283:AV) (x287:Int) (v288:AV) (b292 b295:Bool) (v296:AV) (x300:Int) (v301:AV) (b305 b308:Bool) (k310:Ex→St→Ans) (b312:Bool) (v337 v338 v339 v340 v341 v342 v343 v344 v345 v346 v347 v348 v349 v350 v351 v352 v353 v354 v355 v358 v359 v360 v361 v362 v363 v364 v365 v366 v367 v368 v369 v370 v373 v374 v375 v376 v377 v378 v379 v380 v381 v382 v383 v384 v385 v386 v387 v388 v389 v390 v391 v392 v393 v394:AV) (x398:Int):St→Ans:=fun s523 =>
 cnd ((List.length s523.env) == 179)
 (sames C s523.env 0 [(.agg [(.lst a0),(iz a1),(iz a2),(iz a3),(iz a4),(iz a5),(iz a6),(iz a7),(iz a8)]),(.lst a9),v0,tz,(.bool b312),v64,v112,tz,v277] <|
 C.bool s523.env[9]? fun b524 =>
 sames C s523.env 10 [(.bool b37),(.bool b38),(.bool b39),v40,v41,v42,(.bool b43),(.bool b44),v45,v46,v47,bf,tz,(.agg [v53,(iz x54),(iz x55),(iz x56),(iz x57),(iz x58),(iz x59),(iz x60),(iz x61)]),v64,(.agg [v68,(iz x69),(iz x70),(iz x71),(iz x72),(iz x73),(iz x74),(iz x75),(iz x76)]),(iz x79),bf,tz,tz,v64,bf,(.agg [v89,(iz x90),(iz x91),(iz x92),(iz x93),(iz x94),(iz x95),(iz x96),(iz x97)]),(.agg [v101,(iz x102),(iz x103),(iz x104),(iz x105),(iz x106),(iz x107),(iz x108),(iz x109),(iz x110),(iz x111)]),v112,(.lst a9),(iz x116),(iz x123),bt,v265,(.agg [(iz x270),(iz x271),(iz x272),(.bool b273),(.bool b274),(.bool b275),(iz x276)]),v64,v283,(iz x287),v288,(.bool b292),(.bool b295),v112,v296,(iz x300),v301,(.bool b305),(.bool b308),bf,v394,(iz x398)] <|
 C.any s523.env[56]? fun v525 =>
 C.int .i64 s523.env[57]? fun x526 =>
 C.bool s523.env[58]? fun b527 =>
 C.bool s523.env[59]? fun b528 =>
 C.any s523.env[60]? fun v529 =>
 C.any s523.env[61]? fun v530 =>
 C.any s523.env[62]? fun v531 =>
 C.any s523.env[63]? fun v532 =>
 C.any s523.env[64]? fun v533 =>
 C.any s523.env[65]? fun v534 =>
 C.bool s523.env[66]? fun b535 =>
 C.bool s523.env[67]? fun b536 =>
 C.any s523.env[68]? fun v537 =>
 C.any s523.env[69]? fun v538 =>
 C.any s523.env[70]? fun v539 =>
 C.bool s523.env[71]? fun b540 =>
 C.bool s523.env[72]? fun b541 =>
 C.any s523.env[73]? fun v542 =>
 C.any s523.env[74]? fun v543 =>
 C.any s523.env[75]? fun v544 =>
 C.bool s523.env[76]? fun b545 =>
 sames C s523.env 77 [v337,v338,v339,v340,v341,v342,v343,v344,v345,v346,v347,v348,v349,v350,v351,v352,v353,v354,v355,bf,(.bool (x398 == 1)),v358,v359,v360,v361,v362,v363,v364,v365,v366,v367,v368,v369,v370,bf,(.bool (x398 == 2)),v373,v374,v375,v376,v377,v378,v379,v380,v381,v382,v383,v384,v385,v386,v387,v388,v389,v390,v391,v392,v393,v220,v221,v222,v223,v224,v225,v226,v227,v228,v229,v230,v231,v232,v233,v234,v235,v236,v237,v238,v239,v240,v241,v242,v243,v244,v245,v246,v247,v248,v249,v250,v251,v252,v253,v254,v255,v256,v257,v258,v259,v260,v261,v262,v263,v264] <|
 C.hop (St.H s523) (.fldA 1 (.v v277)) fun v546 h547 =>
 C.hop h547 (.load false 1 (.v v546)) fun v548 h549 =>
 C.int .i64 (some v548) fun x550 =>
 C.hop h549 (.fldA 2 (.v v277)) fun v551 h552 =>
 C.hop h552 (.load false 1 (.v v551)) fun v553 h554 =>
 C.int .i64 (some v553) fun x555 =>
 C.cal M (pcall M d) 12 true 15 [v64,(iz x550),(iz x555)] h554 fun v556 h557 =>
 C.bool (some v556) fun b558 =>
 cnd (xor true (b558 == b524))
 (k310 .ret ⟨[(.agg [(.lst a0),(iz a1),(iz a2),(iz a3),(iz a4),(iz a5),(iz a6),(iz a7),(iz a8)]),(.lst a9),v0,tz,bf,v64,v112,tz,v277,(bz b524),(bz b37),(bz b38),(bz b39),v40,v41,v42,(bz b43),(bz b44),v45,v46,v47,bf,tz,(.agg [v53,(iz x54),(iz x55),(iz x56),(iz x57),(iz x58),(iz x59),(iz x60),(iz x61)]),v64,(.agg [v68,(iz x69),(iz x70),(iz x71),(iz x72),(iz x73),(iz x74),(iz x75),(iz x76)]),(iz x79),bf,tz,tz,v64,bf,(.agg [v89,(iz x90),(iz x91),(iz x92),(iz x93),(iz x94),(iz x95),(iz x96),(iz x97)]),(.agg [v101,(iz x102),(iz x103),(iz x104),(iz x105),(iz x106),(iz x107),(iz x108),(iz x109),(iz x110),(iz x111)]),v112,(.lst a9),(iz x116),(iz x123),bt,v265,(.agg [(iz x270),(iz x271),(iz x272),(bz b273),(bz b274),(bz b275),(iz x276)]),v64,v283,(iz x287),v288,(bz b292),(bz b295),v112,v296,(iz x300),v301,(bz b305),(bz b308),bf,v394,(iz x398),v525,(iz x526),(bz b527),(bz b528),v529,v530,v531,v532,v533,v534,(bz b535),(bz b536),v537,v538,v539,(bz b540),(bz b541),v542,v543,v544,(bz b545),v64,v546,(iz x550),v551,(iz x555),(bz b558),(bz b524),bt,v345,v346,v347,v348,v349,v350,v351,v352,v353,v354,v355,bf,(bz (x398 == 1)),v358,v359,v360,v361,v362,v363,v364,v365,v366,v367,v368,v369,v370,bf,(bz (x398 == 2)),v373,v374,v375,v376,v377,v378,v379,v380,v381,v382,v383,v384,v385,v386,v387,v388,v389,v390,v391,v392,v393,v220,v221,v222,v223,v224,v225,v226,v227,v228,v229,v230,v231,v232,v233,v234,v235,v236,v237,v238,v239,v240,v241,v242,v243,v244,v245,v246,v247,v248,v249,v250,v251,v252,v253,v254,v255,v256,v257,v258,v259,v260,v261,v262,v263,v264],h557⟩)
 (cnd b524
 (C.grow h557 [] fun n559 h560 =>
 C.hop h560 (.fldA 1 (.v v277)) fun v561 h562 =>
 C.hop h562 (.load false 1 (.v v561)) fun v563 h564 =>
 C.int .i64 (some v563) fun x565 =>
 C.hop h564 (.fldA 2 (.v v277)) fun v566 h567 =>
 C.hop h567 (.load false 1 (.v v566)) fun v568 h569 =>
 C.int .i64 (some v568) fun x570 =>
 C.hop h569 (.nilck (.v v112)) fun v571 h572 =>
 C.hop h572 (.fldA 9 (.v v571)) fun v573 h574 =>
 C.hop h574 (.store 1 (.v v573) (.v (iz x565))) fun v575 h576 =>
 C.keep h574 h576 [v566] <|
 C.hop h576 (.nilck (.v v112)) fun v577 h578 =>
 C.hop h578 (.fldA 10 (.v v577)) fun v579 h580 =>
 C.hop h580 (.store 1 (.v v579) (.v (iz x570))) fun v581 h582 =>
 k310 (.exit 2000000) ⟨[(.agg [(.lst a0),(iz a1),(iz a2),(iz a3),(iz a4),(iz a5),(iz a6),(iz a7),(iz a8)]),(.lst a9),v0,tz,(bz b312),v64,v112,tz,v277,(bz b524),(bz b37),(bz b38),(bz b39),v40,v41,v42,(bz b43),(bz b44),v45,v46,v47,bf,tz,(.agg [v53,(iz x54),(iz x55),(iz x56),(iz x57),(iz x58),(iz x59),(iz x60),(iz x61)]),v64,(.agg [v68,(iz x69),(iz x70),(iz x71),(iz x72),(iz x73),(iz x74),(iz x75),(iz x76)]),(iz x79),bf,tz,tz,v64,bf,(.agg [v89,(iz x90),(iz x91),(iz x92),(iz x93),(iz x94),(iz x95),(iz x96),(iz x97)]),(.agg [v101,(iz x102),(iz x103),(iz x104),(iz x105),(iz x106),(iz x107),(iz x108),(iz x109),(iz x110),(iz x111)]),v112,(.lst a9),(iz x116),(iz x123),bt,v265,(.agg [(iz x270),(iz x271),(iz x272),(bz b273),(bz b274),(bz b275),(iz x276)]),v64,v283,(iz x287),v288,(bz b292),(bz b295),v112,v296,(iz x300),v301,(bz b305),(bz b308),bf,v394,(iz x398),v525,(iz x526),(bz b527),(bz b528),v529,v530,v531,v532,v533,v534,(bz b535),(bz b536),v537,v538,v539,(bz b540),(bz b541),v542,v543,v544,(bz b545),v64,v546,(iz x550),v551,(iz x555),(bz b558),(bz b524),bf,bt,v112,v112,v561,(iz x565),v566,(iz x570),v571,v573,v577,v579,bf,(bz (x398 == 1)),v358,v359,v360,v361,v362,v363,v364,v365,v366,v367,v368,v369,v370,bf,(bz (x398 == 2)),v373,v374,v375,v376,v377,v378,v379,v380,v381,v382,v383,v384,v385,v386,v387,v388,v389,v390,v391,v392,v393,v220,v221,v222,v223,v224,v225,v226,v227,v228,v229,v230,v231,v232,v233,v234,v235,v236,v237,v238,v239,v240,v241,v242,v243,v244,v245,v246,v247,v248,v249,v250,v251,v252,v253,v254,v255,v256,v257,v258,v259,v260,v261,v262,v263,v264],h582⟩)
 (k310 (.exit 2000000) ⟨[(.agg [(.lst a0),(iz a1),(iz a2),(iz a3),(iz a4),(iz a5),(iz a6),(iz a7),(iz a8)]),(.lst a9),v0,tz,(bz b312),v64,v112,tz,v277,(bz b524),(bz b37),(bz b38),(bz b39),v40,v41,v42,(bz b43),(bz b44),v45,v46,v47,bf,tz,(.agg [v53,(iz x54),(iz x55),(iz x56),(iz x57),(iz x58),(iz x59),(iz x60),(iz x61)]),v64,(.agg [v68,(iz x69),(iz x70),(iz x71),(iz x72),(iz x73),(iz x74),(iz x75),(iz x76)]),(iz x79),bf,tz,tz,v64,bf,(.agg [v89,(iz x90),(iz x91),(iz x92),(iz x93),(iz x94),(iz x95),(iz x96),(iz x97)]),(.agg [v101,(iz x102),(iz x103),(iz x104),(iz x105),(iz x106),(iz x107),(iz x108),(iz x109),(iz x110),(iz x111)]),v112,(.lst a9),(iz x116),(iz x123),bt,v265,(.agg [(iz x270),(iz x271),(iz x272),(bz b273),(bz b274),(bz b275),(iz x276)]),v64,v283,(iz x287),v288,(bz b292),(bz b295),v112,v296,(iz x300),v301,(bz b305),(bz b308),bf,v394,(iz x398),v525,(iz x526),(bz b527),(bz b528),v529,v530,v531,v532,v533,v534,(bz b535),(bz b536),v537,v538,v539,(bz b540),(bz b541),v542,v543,v544,(bz b545),v64,v546,(iz x550),v551,(iz x555),(bz b558),(bz b524),bf,bf,v346,v347,v348,v349,v350,v351,v352,v353,v354,v355,bf,(bz (x398 == 1)),v358,v359,v360,v361,v362,v363,v364,v365,v366,v367,v368,v369,v370,bf,(bz (x398 == 2)),v373,v374,v375,v376,v377,v378,v379,v380,v381,v382,v383,v384,v385,v386,v387,v388,v389,v390,v391,v392,v393,v220,v221,v222,v223,v224,v225,v226,v227,v228,v229,v230,v231,v232,v233,v234,v235,v236,v237,v238,v239,v240,v241,v242,v243,v244,v245,v246,v247,v248,v249,v250,v251,v252,v253,v254,v255,v256,v257,v258,v259,v260,v261,v262,v263,v264],h557⟩)))
 (none)
def r3E3 (C:Cb) (d:Nat) (a0:List AV) (a1 a2 a3 a4 a5 a6 a7 a8:Int) (a9:List AV) (v0:AV) (b37 b38 b39:Bool) (v40 v41 v42:AV) (b43 b44:Bool) (v45 v46 v47 v53:AV) (x54 x55 x56 x57 x58 x59 x60 x61:Int) (v64 v68:AV) (x69 x70 x71 x72 x73 x74 x75 x76 x79:Int) (v89:AV) (x90 x91 x92 x93 x94 x95 x96 x97:Int) (v101:AV) (x102 x103 x104 x105 x106 x107 x108 x109 x110 x111:Int) (v112:AV) (x116 x123:Int) (v220 v221 v222 v223 v224 v225 v226 v227 v228 v229 v230 v231 v232 v233 v234 v235 v236 v237 v238 v239 v240 v241 v242 v243 v244 v245 v246 v247 v248 v249 v250 v251 v252 v253 v254 v255 v256 v257 v258 v259 v260 v261 v262 v263 v264 v265:AV) (x270 x271 x272:Int) (b273 b274 b275:Bool) (x276:Int) (v277 v283:AV) (x287:Int) (v288:AV) (b292 b295:Bool) (v296:AV) (x300:Int) (v301:AV) (b305 b308:Bool) (k310:Ex→St→Ans) (b312:Bool) (v337 v338 v339 v340 v341 v342 v343 v344 v345 v346 v347 v348 v349 v350 v351 v352 v353 v354 v355 v358 v359 v360 v361 v362 v363 v364 v365 v366 v367 v368 v369 v370 v373 v374 v375 v376 v377 v378 v379 v380 v381 v382 v383 v384 v385 v386 v387 v388 v389 v390 v391 v392 v393 v394:AV) (x398:Int):St→Ans:=fun s473 =>
 cnd ((List.length s473.env) == 179)
 (sames C s473.env 0 [(.agg [(.lst a0),(iz a1),(iz a2),(iz a3),(iz a4),(iz a5),(iz a6),(iz a7),(iz a8)]),(.lst a9),v0,tz,(.bool b312),v64,v112,tz,v277] <|
 C.any s473.env[9]? fun v583 =>
 sames C s473.env 10 [(.bool b37),(.bool b38),(.bool b39),v40,v41,v42,(.bool b43),(.bool b44),v45,v46,v47,bf,tz,(.agg [v53,(iz x54),(iz x55),(iz x56),(iz x57),(iz x58),(iz x59),(iz x60),(iz x61)]),v64,(.agg [v68,(iz x69),(iz x70),(iz x71),(iz x72),(iz x73),(iz x74),(iz x75),(iz x76)]),(iz x79),bf,tz,tz,v64,bf,(.agg [v89,(iz x90),(iz x91),(iz x92),(iz x93),(iz x94),(iz x95),(iz x96),(iz x97)]),(.agg [v101,(iz x102),(iz x103),(iz x104),(iz x105),(iz x106),(iz x107),(iz x108),(iz x109),(iz x110),(iz x111)]),v112,(.lst a9),(iz x116),(iz x123),bt,v265,(.agg [(iz x270),(iz x271),(iz x272),(.bool b273),(.bool b274),(.bool b275),(iz x276)]),v64,v283,(iz x287),v288,(.bool b292),(.bool b295),v112,v296,(iz x300),v301,(.bool b305),(.bool b308),bf,v394,(iz x398)] <|
 anys C s473.env 56 21 <|
 sames C s473.env 77 [v337,v338,v339,v340,v341,v342,v343,v344,v345,v346,v347,v348,v349,v350,v351,v352,v353,v354,v355,bf,(.bool (x398 == 1)),v358,v359,v360,v361,v362,v363,v364,v365,v366,v367,v368,v369,v370,bf,(.bool (x398 == 2)),v373,v374,v375,v376,v377,v378,v379,v380,v381,v382,v383,v384,v385,v386,v387,v388,v389,v390,v391,v392,v393,v220,v221,v222,v223,v224,v225,v226,v227,v228,v229,v230,v231,v232,v233,v234,v235,v236,v237,v238,v239,v240,v241,v242,v243,v244,v245,v246,v247,v248,v249,v250,v251,v252,v253,v254,v255,v256,v257,v258,v259,v260,v261,v262,v263,v264] <|
 none)
 (none)
def r3R5 (C:Cb) (d:Nat) (a0:List AV) (a1 a2 a3 a4 a5 a6 a7 a8:Int) (a9:List AV) (v0:AV) (b37 b38 b39:Bool) (v40 v41 v42:AV) (b43 b44:Bool) (v45 v46 v47 v53:AV) (x54 x55 x56 x57 x58 x59 x60 x61:Int) (v64 v68:AV) (x69 x70 x71 x72 x73 x74 x75 x76 x79:Int) (v89:AV) (x90 x91 x92 x93 x94 x95 x96 x97:Int) (v101:AV) (x102 x103 x104 x105 x106 x107 x108 x109 x110 x111:Int) (v112:AV) (x116:Int) (k118:Ex→St→Ans) (x123:Int) (v264 v265:AV) (x270 x271 x272:Int) (b273 b274 b275:Bool) (x276:Int) (v277 v283:AV) (x287:Int) (v288:AV) (b292 b295:Bool) (v296:AV) (x300:Int) (v301:AV) (b305 b308 b606:Bool) (v607 v608:AV) (x609:Int) (v610 v611 v612 v613 v614 v615 v616 v617 v618 v619 v620 v621 v622 v623 v624 v625 v626 v627 v628 v629 v630 v631 v632 v633 v634 v635 v636 v637 v638 v639 v640 v641 v642 v643 v644 v645 v646 v647 v648 v649:AV) (b650 b651:Bool) (v652 v653 v654 v655 v656 v657 v658 v659 v660 v661 v662 v663 v664 v665 v666 v667 v668 v669 v670 v671 v672 v673 v674 v675 v676 v677 v678 v679 v680 v681 v682 v683 v684 v685 v686 v687:AV):St→(Ex→St→Ans)→Ans:=fun s688 k689 =>
 cnd ((List.length s688.env) == 179)
 (sames C s688.env 0 [(.agg [(.lst a0),(iz a1),(iz a2),(iz a3),(iz a4),(iz a5),(iz a6),(iz a7),(iz a8)]),(.lst a9),v0,tz,(.bool b606),v64,v112,tz,v277,v607,(.bool b37),(.bool b38),(.bool b39),v40,v41,v42,(.bool b43),(.bool b44),v45,v46,v47,bf,tz,(.agg [v53,(iz x54),(iz x55),(iz x56),(iz x57),(iz x58),(iz x59),(iz x60),(iz x61)]),v64,(.agg [v68,(iz x69),(iz x70),(iz x71),(iz x72),(iz x73),(iz x74),(iz x75),(iz x76)]),(iz x79),bf,tz,tz,v64,bf,(.agg [v89,(iz x90),(iz x91),(iz x92),(iz x93),(iz x94),(iz x95),(iz x96),(iz x97)]),(.agg [v101,(iz x102),(iz x103),(iz x104),(iz x105),(iz x106),(iz x107),(iz x108),(iz x109),(iz x110),(iz x111)]),v112,(.lst a9),(iz x116),(iz x123),bt,v265,(.agg [(iz x270),(iz x271),(iz x272),(.bool b273),(.bool b274),(.bool b275),(iz x276)]),v64,v283,(iz x287),v288,(.bool b292),(.bool b295),v112,v296,(iz x300),v301,(.bool b305),(.bool b308),bf,v608,(iz x609),v610,v611,v612,v613,v614,v615,v616,v617,v618,v619,v620,v621,v622,v623,v624,v625,v626,v627,v628,v629,v630,v631,v632,v633,v634,v635,v636,v637,v638,v639,v640,v641,v642,v643,v644,v645,v646,v647,v648,v649,(.bool b650),(.bool b651),v652,v653,v654,v655,v656,v657,v658,v659,v660,v661,v662,v663,v664,v665,v666,v667,v668,v669,v670,v671,v672,v673,v674,v675,v676,v677,v678,v679,v680,v681,v682,v683,v684,v685,v686,v687] <|
 anys C s688.env 134 44 <|
 C.same s688.env[178]? v264 <|
 C.grow (St.H s688) [] fun n735 h736 =>
 C.cal M (pcall M d) 12 true 16 [v64] h736 fun v737 h738 =>
 C.int .i64 (some v737) fun x739 =>
 C.hop h738 (.nilck (.v v112)) fun v740 h741 =>
 C.hop h741 (.fldA 9 (.v v740)) fun v742 h743 =>
 C.hop h743 (.load false 1 (.v v742)) fun v744 h745 =>
 C.int .i64 (some v744) fun x746 =>
 C.keep h736 h738 [v742] <|
 cnd (x739 != x746)
 (k689 (.exit 2000000) ⟨[(.agg [(.lst a0),(iz a1),(iz a2),(iz a3),(iz a4),(iz a5),(iz a6),(iz a7),(iz a8)]),(.lst a9),v0,tz,(bz b606),v64,v112,tz,v277,v607,(bz b37),(bz b38),(bz b39),v40,v41,v42,(bz b43),(bz b44),v45,v46,v47,bf,tz,(.agg [v53,(iz x54),(iz x55),(iz x56),(iz x57),(iz x58),(iz x59),(iz x60),(iz x61)]),v64,(.agg [v68,(iz x69),(iz x70),(iz x71),(iz x72),(iz x73),(iz x74),(iz x75),(iz x76)]),(iz x79),bf,tz,tz,v64,bf,(.agg [v89,(iz x90),(iz x91),(iz x92),(iz x93),(iz x94),(iz x95),(iz x96),(iz x97)]),(.agg [v101,(iz x102),(iz x103),(iz x104),(iz x105),(iz x106),(iz x107),(iz x108),(iz x109),(iz x110),(iz x111)]),v112,(.lst a9),(iz x116),(iz x123),bt,v265,(.agg [(iz x270),(iz x271),(iz x272),(bz b273),(bz b274),(bz b275),(iz x276)]),v64,v283,(iz x287),v288,(bz b292),(bz b295),v112,v296,(iz x300),v301,(bz b305),(bz b308),bf,v608,(iz x609),v610,v611,v612,v613,v614,v615,v616,v617,v618,v619,v620,v621,v622,v623,v624,v625,v626,v627,v628,v629,v630,v631,v632,v633,v634,v635,v636,v637,v638,v639,v640,v641,v642,v643,v644,v645,v646,v647,v648,v649,(bz b650),(bz b651),v652,v653,v654,v655,v656,v657,v658,v659,v660,v661,v662,v663,v664,v665,v666,v667,v668,v669,v670,v671,v672,v673,v674,v675,v676,v677,v678,v679,v680,v681,v682,v683,v684,v685,v686,v687,v64,(iz x739),v112,v740,v742,(iz x746),(bz (x739 != x746)),bt,tz,tz,tz,tz,tz,tz,tz,bt,bt,tz,tz,tz,tz,tz,tz,tz,tz,tz,tz,tz,tz,bt,bt,tz,tz,tz,tz,tz,tz,tz,tz,tz,tz,tz,tz,bt,v264],h745⟩)
 (C.cal M (pcall M d) 12 true 17 [v64] h745 fun v747 h748 =>
 C.int .i64 (some v747) fun x749 =>
 C.hop h748 (.nilck (.v v112)) fun v750 h751 =>
 C.hop h751 (.fldA 10 (.v v750)) fun v752 h753 =>
 C.hop h753 (.load false 1 (.v v752)) fun v754 h755 =>
 C.int .i64 (some v754) fun x756 =>
 C.keep h745 h748 [v752] <|
 cnd (x749 != x756)
 (k689 (.exit 2000000) ⟨[(.agg [(.lst a0),(iz a1),(iz a2),(iz a3),(iz a4),(iz a5),(iz a6),(iz a7),(iz a8)]),(.lst a9),v0,tz,(bz b606),v64,v112,tz,v277,v607,(bz b37),(bz b38),(bz b39),v40,v41,v42,(bz b43),(bz b44),v45,v46,v47,bf,tz,(.agg [v53,(iz x54),(iz x55),(iz x56),(iz x57),(iz x58),(iz x59),(iz x60),(iz x61)]),v64,(.agg [v68,(iz x69),(iz x70),(iz x71),(iz x72),(iz x73),(iz x74),(iz x75),(iz x76)]),(iz x79),bf,tz,tz,v64,bf,(.agg [v89,(iz x90),(iz x91),(iz x92),(iz x93),(iz x94),(iz x95),(iz x96),(iz x97)]),(.agg [v101,(iz x102),(iz x103),(iz x104),(iz x105),(iz x106),(iz x107),(iz x108),(iz x109),(iz x110),(iz x111)]),v112,(.lst a9),(iz x116),(iz x123),bt,v265,(.agg [(iz x270),(iz x271),(iz x272),(bz b273),(bz b274),(bz b275),(iz x276)]),v64,v283,(iz x287),v288,(bz b292),(bz b295),v112,v296,(iz x300),v301,(bz b305),(bz b308),bf,v608,(iz x609),v610,v611,v612,v613,v614,v615,v616,v617,v618,v619,v620,v621,v622,v623,v624,v625,v626,v627,v628,v629,v630,v631,v632,v633,v634,v635,v636,v637,v638,v639,v640,v641,v642,v643,v644,v645,v646,v647,v648,v649,(bz b650),(bz b651),v652,v653,v654,v655,v656,v657,v658,v659,v660,v661,v662,v663,v664,v665,v666,v667,v668,v669,v670,v671,v672,v673,v674,v675,v676,v677,v678,v679,v680,v681,v682,v683,v684,v685,v686,v687,v64,(iz x739),v112,v740,v742,(iz x746),(bz (x739 != x746)),bf,v64,(iz x749),v112,v750,v752,(iz x756),(bz (x749 != x756)),(bz (x749 != x756)),bt,tz,tz,tz,tz,tz,tz,tz,tz,tz,tz,tz,tz,bt,bt,tz,tz,tz,tz,tz,tz,tz,tz,tz,tz,tz,tz,bt,v264],h755⟩)
 (C.cal M (pcall M d) 12 true 18 [v64] h755 fun v757 h758 =>
 C.bool (some v757) fun b759 =>
 C.hop h758 (.nilck (.v v112)) fun v760 h761 =>
 C.hop h761 (.fldA 9 (.v v760)) fun v762 h763 =>
 C.hop h763 (.load false 1 (.v v762)) fun v764 h765 =>
 C.int .i64 (some v764) fun x766 =>
 C.keep h755 h758 [v762] <|
 C.hop h765 (.fldA 0 (.v v0)) fun v767 h768 =>
 C.hop h768 (.load false 1 (.v v767)) fun v769 h770 =>
 C.keep h755 h758 [v767] <|
 C.hop h770 (.bk .lenV [(.v v769)]) fun v771 h772 =>
 C.int .i64 (some v771) fun x773 =>
 C.keep h755 h758 [v769] <|
 cnd (xor true (b759 == ((IntKind.wrap .i64 (x766+1)) == x773)))
 (k689 (.exit 2000000) ⟨[(.agg [(.lst a0),(iz a1),(iz a2),(iz a3),(iz a4),(iz a5),(iz a6),(iz a7),(iz a8)]),(.lst a9),v0,tz,(bz b606),v64,v112,tz,v277,v607,(bz b37),(bz b38),(bz b39),v40,v41,v42,(bz b43),(bz b44),v45,v46,v47,bf,tz,(.agg [v53,(iz x54),(iz x55),(iz x56),(iz x57),(iz x58),(iz x59),(iz x60),(iz x61)]),v64,(.agg [v68,(iz x69),(iz x70),(iz x71),(iz x72),(iz x73),(iz x74),(iz x75),(iz x76)]),(iz x79),bf,tz,tz,v64,bf,(.agg [v89,(iz x90),(iz x91),(iz x92),(iz x93),(iz x94),(iz x95),(iz x96),(iz x97)]),(.agg [v101,(iz x102),(iz x103),(iz x104),(iz x105),(iz x106),(iz x107),(iz x108),(iz x109),(iz x110),(iz x111)]),v112,(.lst a9),(iz x116),(iz x123),bt,v265,(.agg [(iz x270),(iz x271),(iz x272),(bz b273),(bz b274),(bz b275),(iz x276)]),v64,v283,(iz x287),v288,(bz b292),(bz b295),v112,v296,(iz x300),v301,(bz b305),(bz b308),bf,v608,(iz x609),v610,v611,v612,v613,v614,v615,v616,v617,v618,v619,v620,v621,v622,v623,v624,v625,v626,v627,v628,v629,v630,v631,v632,v633,v634,v635,v636,v637,v638,v639,v640,v641,v642,v643,v644,v645,v646,v647,v648,v649,(bz b650),(bz b651),v652,v653,v654,v655,v656,v657,v658,v659,v660,v661,v662,v663,v664,v665,v666,v667,v668,v669,v670,v671,v672,v673,v674,v675,v676,v677,v678,v679,v680,v681,v682,v683,v684,v685,v686,v687,v64,(iz x739),v112,v740,v742,(iz x746),(bz (x739 != x746)),bf,v64,(iz x749),v112,v750,v752,(iz x756),(bz (x749 != x756)),(bz (x749 != x756)),bf,v64,(bz b759),v112,v760,v762,(iz x766),(iz (IntKind.wrap .i64 (x766+1))),v767,v769,(iz x773),(bz ((IntKind.wrap .i64 (x766+1)) == x773)),(bz (xor true (b759 == ((IntKind.wrap .i64 (x766+1)) == x773)))),(bz (xor true (b759 == ((IntKind.wrap .i64 (x766+1)) == x773)))),bt,tz,tz,tz,tz,tz,tz,tz,tz,tz,tz,tz,tz,bt,v264],h772⟩)
 (C.cal M (pcall M d) 12 true 20 [v64] h772 fun v774 h775 =>
 C.agg 5 (some v774) fun l776 =>
 C.any l776[0]? fun v777 =>
 C.int .i64 l776[1]? fun x778 =>
 C.int .i64 l776[2]? fun x779 =>
 C.int .i64 l776[3]? fun x780 =>
 C.int .i64 l776[4]? fun x781 =>
 C.hop h775 (.fldA 0 (.v v0)) fun v782 h783 =>
 C.hop h783 (.load false 1 (.v v782)) fun v784 h785 =>
 C.keep h772 h775 [v782] <|
 C.hop h785 (.nilck (.v v112)) fun v786 h787 =>
 C.hop h787 (.fldA 9 (.v v786)) fun v788 h789 =>
 C.hop h789 (.load false 1 (.v v788)) fun v790 h791 =>
 C.int .i64 (some v790) fun x792 =>
 C.keep h772 h775 [v788] <|
 C.hop h791 (.ixAS .any 5 (.v v784) (.v (iz x792))) fun v793 h794 =>
 C.keep h772 h775 [v784] <|
 C.hop h794 (.load true 5 (.v v793)) fun v795 h796 =>
 C.agg 5 (some v795) fun l797 =>
 C.any l797[0]? fun v798 =>
 C.int .i64 l797[1]? fun x799 =>
 C.int .i64 l797[2]? fun x800 =>
 C.int .i64 l797[3]? fun x801 =>
 C.int .i64 l797[4]? fun x802 =>
 C.keep h772 h775 [v793] <|
 C.snp h796 [(.agg [v777,(iz x778),(iz x779),(iz x780),(iz x781)]),(.agg [v798,(iz x799),(iz x800),(iz x801),(iz x802)])] fun l803 b804 =>
 C.bool (pcall M d 19 l803) fun b805 =>
 cnd (b804 || true)
 (k689 (.exit 2000000) ⟨[(.agg [(.lst a0),(iz a1),(iz a2),(iz a3),(iz a4),(iz a5),(iz a6),(iz a7),(iz a8)]),(.lst a9),v0,tz,(bz b606),v64,v112,tz,v277,v607,(bz b37),(bz b38),(bz b39),v40,v41,v42,(bz b43),(bz b44),v45,v46,v47,bf,tz,(.agg [v53,(iz x54),(iz x55),(iz x56),(iz x57),(iz x58),(iz x59),(iz x60),(iz x61)]),v64,(.agg [v68,(iz x69),(iz x70),(iz x71),(iz x72),(iz x73),(iz x74),(iz x75),(iz x76)]),(iz x79),bf,tz,tz,v64,bf,(.agg [v89,(iz x90),(iz x91),(iz x92),(iz x93),(iz x94),(iz x95),(iz x96),(iz x97)]),(.agg [v101,(iz x102),(iz x103),(iz x104),(iz x105),(iz x106),(iz x107),(iz x108),(iz x109),(iz x110),(iz x111)]),v112,(.lst a9),(iz x116),(iz x123),bt,v265,(.agg [(iz x270),(iz x271),(iz x272),(bz b273),(bz b274),(bz b275),(iz x276)]),v64,v283,(iz x287),v288,(bz b292),(bz b295),v112,v296,(iz x300),v301,(bz b305),(bz b308),bf,v608,(iz x609),v610,v611,v612,v613,v614,v615,v616,v617,v618,v619,v620,v621,v622,v623,v624,v625,v626,v627,v628,v629,v630,v631,v632,v633,v634,v635,v636,v637,v638,v639,v640,v641,v642,v643,v644,v645,v646,v647,v648,v649,(bz b650),(bz b651),v652,v653,v654,v655,v656,v657,v658,v659,v660,v661,v662,v663,v664,v665,v666,v667,v668,v669,v670,v671,v672,v673,v674,v675,v676,v677,v678,v679,v680,v681,v682,v683,v684,v685,v686,v687,v64,(iz x739),v112,v740,v742,(iz x746),(bz (x739 != x746)),bf,v64,(iz x749),v112,v750,v752,(iz x756),(bz (x749 != x756)),(bz (x749 != x756)),bf,v64,(bz b759),v112,v760,v762,(iz x766),(iz (IntKind.wrap .i64 (x766+1))),v767,v769,(iz x773),(bz ((IntKind.wrap .i64 (x766+1)) == x773)),(bz (xor true (b759 == ((IntKind.wrap .i64 (x766+1)) == x773)))),(bz (xor true (b759 == ((IntKind.wrap .i64 (x766+1)) == x773)))),bf,v64,(.agg [v777,(iz x778),(iz x779),(iz x780),(iz x781)]),v782,v784,v112,v786,v788,(iz x792),v793,(.agg [v798,(iz x799),(iz x800),(iz x801),(iz x802)]),(bz b805),(bz (!b805)),(bz (!b805)),v264],h796⟩)
 (none)))))
 (none)
def r3X5_0 (C:Cb) (d:Nat) (a0:List AV) (a1 a2 a3 a4 a5 a6 a7 a8:Int) (a9:List AV) (v0:AV) (b37 b38 b39:Bool) (v40 v41 v42:AV) (b43 b44:Bool) (v45 v46 v47 v53:AV) (x54 x55 x56 x57 x58 x59 x60 x61:Int) (v64 v68:AV) (x69 x70 x71 x72 x73 x74 x75 x76 x79:Int) (v89:AV) (x90 x91 x92 x93 x94 x95 x96 x97:Int) (v101:AV) (x102 x103 x104 x105 x106 x107 x108 x109 x110 x111:Int) (v112:AV) (x116:Int) (k118:Ex→St→Ans) (x123:Int) (v264 v265:AV) (x270 x271 x272:Int) (b273 b274 b275:Bool) (x276:Int) (v277 v283:AV) (x287:Int) (v288:AV) (b292 b295:Bool) (v296:AV) (x300:Int) (v301:AV) (b305 b308 b606:Bool) (v607 v608:AV) (x609:Int) (v610 v611 v612 v613 v614 v615 v616 v617 v618 v619 v620 v621 v622 v623 v624 v625 v626 v627 v628 v629 v630 v631 v632 v633 v634 v635 v636 v637 v638 v639 v640 v641 v642 v643 v644 v645 v646 v647 v648 v649:AV) (b650 b651:Bool) (v652 v653 v654 v655 v656 v657 v658 v659 v660 v661 v662 v663 v664 v665 v666 v667 v668 v669 v670 v671 v672 v673 v674 v675 v676 v677 v678 v679 v680 v681 v682 v683 v684 v685 v686 v687:AV):St→Ans:=fun s806 =>
 cnd ((List.length s806.env) == 179)
 (sames C s806.env 0 [(.agg [(.lst a0),(iz a1),(iz a2),(iz a3),(iz a4),(iz a5),(iz a6),(iz a7),(iz a8)]),(.lst a9),v0,tz,(.bool b606),v64,v112,tz,v277,v607,(.bool b37),(.bool b38),(.bool b39),v40,v41,v42,(.bool b43),(.bool b44),v45,v46,v47,bf,tz,(.agg [v53,(iz x54),(iz x55),(iz x56),(iz x57),(iz x58),(iz x59),(iz x60),(iz x61)]),v64,(.agg [v68,(iz x69),(iz x70),(iz x71),(iz x72),(iz x73),(iz x74),(iz x75),(iz x76)]),(iz x79),bf,tz,tz,v64,bf,(.agg [v89,(iz x90),(iz x91),(iz x92),(iz x93),(iz x94),(iz x95),(iz x96),(iz x97)]),(.agg [v101,(iz x102),(iz x103),(iz x104),(iz x105),(iz x106),(iz x107),(iz x108),(iz x109),(iz x110),(iz x111)]),v112,(.lst a9),(iz x116),(iz x123),bt,v265,(.agg [(iz x270),(iz x271),(iz x272),(.bool b273),(.bool b274),(.bool b275),(iz x276)]),v64,v283,(iz x287),v288,(.bool b292),(.bool b295),v112,v296,(iz x300),v301,(.bool b305),(.bool b308),bf,v608,(iz x609),v610,v611,v612,v613,v614,v615,v616,v617,v618,v619,v620,v621,v622,v623,v624,v625,v626,v627,v628,v629,v630,v631,v632,v633,v634,v635,v636,v637,v638,v639,v640,v641,v642,v643,v644,v645,v646,v647,v648,v649,(.bool b650),(.bool b651),v652,v653,v654,v655,v656,v657,v658,v659,v660,v661,v662,v663,v664,v665,v666,v667,v668,v669,v670,v671,v672,v673,v674,v675,v676,v677,v678,v679,v680,v681,v682,v683,v684,v685,v686,v687] <|
 C.any s806.env[134]? fun v807 =>
 C.int .i64 s806.env[135]? fun x808 =>
 C.any s806.env[136]? fun v809 =>
 C.any s806.env[137]? fun v810 =>
 C.any s806.env[138]? fun v811 =>
 C.int .i64 s806.env[139]? fun x812 =>
 C.bool s806.env[140]? fun b813 =>
 C.bool s806.env[141]? fun b814 =>
 C.any s806.env[142]? fun v815 =>
 C.any s806.env[143]? fun v816 =>
 C.any s806.env[144]? fun v817 =>
 C.any s806.env[145]? fun v818 =>
 C.any s806.env[146]? fun v819 =>
 C.any s806.env[147]? fun v820 =>
 C.any s806.env[148]? fun v821 =>
 C.bool s806.env[149]? fun b822 =>
 C.bool s806.env[150]? fun b823 =>
 C.any s806.env[151]? fun v824 =>
 C.any s806.env[152]? fun v825 =>
 C.any s806.env[153]? fun v826 =>
 C.any s806.env[154]? fun v827 =>
 C.any s806.env[155]? fun v828 =>
 C.any s806.env[156]? fun v829 =>
 C.any s806.env[157]? fun v830 =>
 C.any s806.env[158]? fun v831 =>
 C.any s806.env[159]? fun v832 =>
 C.any s806.env[160]? fun v833 =>
 C.any s806.env[161]? fun v834 =>
 C.any s806.env[162]? fun v835 =>
 C.bool s806.env[163]? fun b836 =>
 C.bool s806.env[164]? fun b837 =>
 C.any s806.env[165]? fun v838 =>
 C.any s806.env[166]? fun v839 =>
 C.any s806.env[167]? fun v840 =>
 C.any s806.env[168]? fun v841 =>
 C.any s806.env[169]? fun v842 =>
 C.any s806.env[170]? fun v843 =>
 C.any s806.env[171]? fun v844 =>
 C.any s806.env[172]? fun v845 =>
 C.any s806.env[173]? fun v846 =>
 C.any s806.env[174]? fun v847 =>
 C.any s806.env[175]? fun v848 =>
 C.any s806.env[176]? fun v849 =>
 C.bool s806.env[177]? fun b850 =>
 C.same s806.env[178]? v264 <|
 cnd b850
 (k118 .ret ⟨[(.agg [(.lst a0),(iz a1),(iz a2),(iz a3),(iz a4),(iz a5),(iz a6),(iz a7),(iz a8)]),(.lst a9),v0,tz,bf,v64,v112,tz,v277,v607,(bz b37),(bz b38),(bz b39),v40,v41,v42,(bz b43),(bz b44),v45,v46,v47,bf,tz,(.agg [v53,(iz x54),(iz x55),(iz x56),(iz x57),(iz x58),(iz x59),(iz x60),(iz x61)]),v64,(.agg [v68,(iz x69),(iz x70),(iz x71),(iz x72),(iz x73),(iz x74),(iz x75),(iz x76)]),(iz x79),bf,tz,tz,v64,bf,(.agg [v89,(iz x90),(iz x91),(iz x92),(iz x93),(iz x94),(iz x95),(iz x96),(iz x97)]),(.agg [v101,(iz x102),(iz x103),(iz x104),(iz x105),(iz x106),(iz x107),(iz x108),(iz x109),(iz x110),(iz x111)]),v112,(.lst a9),(iz x116),(iz x123),bt,v265,(.agg [(iz x270),(iz x271),(iz x272),(bz b273),(bz b274),(bz b275),(iz x276)]),v64,v283,(iz x287),v288,(bz b292),(bz b295),v112,v296,(iz x300),v301,(bz b305),(bz b308),bf,v608,(iz x609),v610,v611,v612,v613,v614,v615,v616,v617,v618,v619,v620,v621,v622,v623,v624,v625,v626,v627,v628,v629,v630,v631,v632,v633,v634,v635,v636,v637,v638,v639,v640,v641,v642,v643,v644,v645,v646,v647,v648,v649,(bz b650),(bz b651),v652,v653,v654,v655,v656,v657,v658,v659,v660,v661,v662,v663,v664,v665,v666,v667,v668,v669,v670,v671,v672,v673,v674,v675,v676,v677,v678,v679,v680,v681,v682,v683,v684,v685,v686,v687,v807,(iz x808),v809,v810,v811,(iz x812),(bz b813),(bz b814),v815,v816,v817,v818,v819,v820,v821,(bz b822),(bz b823),v824,v825,v826,v827,v828,v829,v830,v831,v832,v833,v834,v835,(bz b836),(bz b837),v838,v839,v840,v841,v842,v843,v844,v845,v846,v847,v848,v849,bt,v264],(St.H s806)⟩)
 (k118 .normal ⟨[(.agg [(.lst a0),(iz a1),(iz a2),(iz a3),(iz a4),(iz a5),(iz a6),(iz a7),(iz a8)]),(.lst a9),v0,tz,(bz b606),v64,v112,tz,v277,v607,(bz b37),(bz b38),(bz b39),v40,v41,v42,(bz b43),(bz b44),v45,v46,v47,bf,tz,(.agg [v53,(iz x54),(iz x55),(iz x56),(iz x57),(iz x58),(iz x59),(iz x60),(iz x61)]),v64,(.agg [v68,(iz x69),(iz x70),(iz x71),(iz x72),(iz x73),(iz x74),(iz x75),(iz x76)]),(iz x79),bf,tz,tz,v64,bf,(.agg [v89,(iz x90),(iz x91),(iz x92),(iz x93),(iz x94),(iz x95),(iz x96),(iz x97)]),(.agg [v101,(iz x102),(iz x103),(iz x104),(iz x105),(iz x106),(iz x107),(iz x108),(iz x109),(iz x110),(iz x111)]),v112,(.lst a9),(iz x116),(iz (IntKind.wrap .i64 (x123+1))),bt,v265,(.agg [(iz x270),(iz x271),(iz x272),(bz b273),(bz b274),(bz b275),(iz x276)]),v64,v283,(iz x287),v288,(bz b292),(bz b295),v112,v296,(iz x300),v301,(bz b305),(bz b308),bf,v608,(iz x609),v610,v611,v612,v613,v614,v615,v616,v617,v618,v619,v620,v621,v622,v623,v624,v625,v626,v627,v628,v629,v630,v631,v632,v633,v634,v635,v636,v637,v638,v639,v640,v641,v642,v643,v644,v645,v646,v647,v648,v649,(bz b650),(bz b651),v652,v653,v654,v655,v656,v657,v658,v659,v660,v661,v662,v663,v664,v665,v666,v667,v668,v669,v670,v671,v672,v673,v674,v675,v676,v677,v678,v679,v680,v681,v682,v683,v684,v685,v686,v687,v807,(iz x808),v809,v810,v811,(iz x812),(bz b813),(bz b814),v815,v816,v817,v818,v819,v820,v821,(bz b822),(bz b823),v824,v825,v826,v827,v828,v829,v830,v831,v832,v833,v834,v835,(bz b836),(bz b837),v838,v839,v840,v841,v842,v843,v844,v845,v846,v847,v848,v849,bf,(iz (IntKind.wrap .i64 (x123+1)))],(St.H s806)⟩))
 (none)
def r3E5 (C:Cb) (d:Nat) (a0:List AV) (a1 a2 a3 a4 a5 a6 a7 a8:Int) (a9:List AV) (v0:AV) (b37 b38 b39:Bool) (v40 v41 v42:AV) (b43 b44:Bool) (v45 v46 v47 v53:AV) (x54 x55 x56 x57 x58 x59 x60 x61:Int) (v64 v68:AV) (x69 x70 x71 x72 x73 x74 x75 x76 x79:Int) (v89:AV) (x90 x91 x92 x93 x94 x95 x96 x97:Int) (v101:AV) (x102 x103 x104 x105 x106 x107 x108 x109 x110 x111:Int) (v112:AV) (x116:Int) (k118:Ex→St→Ans) (x123:Int) (v264 v265:AV) (x270 x271 x272:Int) (b273 b274 b275:Bool) (x276:Int) (v277 v283:AV) (x287:Int) (v288:AV) (b292 b295:Bool) (v296:AV) (x300:Int) (v301:AV) (b305 b308 b606:Bool) (v607 v608:AV) (x609:Int) (v610 v611 v612 v613 v614 v615 v616 v617 v618 v619 v620 v621 v622 v623 v624 v625 v626 v627 v628 v629 v630 v631 v632 v633 v634 v635 v636 v637 v638 v639 v640 v641 v642 v643 v644 v645 v646 v647 v648 v649:AV) (b650 b651:Bool) (v652 v653 v654 v655 v656 v657 v658 v659 v660 v661 v662 v663 v664 v665 v666 v667 v668 v669 v670 v671 v672 v673 v674 v675 v676 v677 v678 v679 v680 v681 v682 v683 v684 v685 v686 v687:AV):St→Ans:=fun s690 =>
 cnd ((List.length s690.env) == 179)
 (sames C s690.env 0 [(.agg [(.lst a0),(iz a1),(iz a2),(iz a3),(iz a4),(iz a5),(iz a6),(iz a7),(iz a8)]),(.lst a9),v0,tz,(.bool b606),v64,v112,tz,v277,v607,(.bool b37),(.bool b38),(.bool b39),v40,v41,v42,(.bool b43),(.bool b44),v45,v46,v47,bf,tz,(.agg [v53,(iz x54),(iz x55),(iz x56),(iz x57),(iz x58),(iz x59),(iz x60),(iz x61)]),v64,(.agg [v68,(iz x69),(iz x70),(iz x71),(iz x72),(iz x73),(iz x74),(iz x75),(iz x76)]),(iz x79),bf,tz,tz,v64,bf,(.agg [v89,(iz x90),(iz x91),(iz x92),(iz x93),(iz x94),(iz x95),(iz x96),(iz x97)]),(.agg [v101,(iz x102),(iz x103),(iz x104),(iz x105),(iz x106),(iz x107),(iz x108),(iz x109),(iz x110),(iz x111)]),v112,(.lst a9),(iz x116),(iz x123),bt,v265,(.agg [(iz x270),(iz x271),(iz x272),(.bool b273),(.bool b274),(.bool b275),(iz x276)]),v64,v283,(iz x287),v288,(.bool b292),(.bool b295),v112,v296,(iz x300),v301,(.bool b305),(.bool b308),bf,v608,(iz x609),v610,v611,v612,v613,v614,v615,v616,v617,v618,v619,v620,v621,v622,v623,v624,v625,v626,v627,v628,v629,v630,v631,v632,v633,v634,v635,v636,v637,v638,v639,v640,v641,v642,v643,v644,v645,v646,v647,v648,v649,(.bool b650),(.bool b651),v652,v653,v654,v655,v656,v657,v658,v659,v660,v661,v662,v663,v664,v665,v666,v667,v668,v669,v670,v671,v672,v673,v674,v675,v676,v677,v678,v679,v680,v681,v682,v683,v684,v685,v686,v687] <|
 anys C s690.env 134 44 <|
 C.same s690.env[178]? v264 <|
 none)
 (none)
def r3R2 (C:Cb) (d:Nat) (a0:List AV) (a1 a2 a3 a4 a5 a6 a7 a8:Int) (a9:List AV) (v0:AV) (b37 b38 b39:Bool) (v40 v41 v42:AV) (b43 b44:Bool) (v45 v46 v47 v53:AV) (x54 x55 x56 x57 x58 x59 x60 x61:Int) (v64 v68:AV) (x69 x70 x71 x72 x73 x74 x75 x76 x79:Int) (v89:AV) (x90 x91 x92 x93 x94 x95 x96 x97:Int) (v101:AV) (x102 x103 x104 x105 x106 x107 x108 x109 x110 x111:Int) (v112:AV) (x116:Int) (k118:Ex→St→Ans) (x123:Int) (v220 v221 v222 v223 v224 v225 v226 v227 v228 v229 v230 v231 v232 v233 v234 v235 v236 v237 v238 v239 v240 v241 v242 v243 v244 v245 v246 v247 v248 v249 v250 v251 v252 v253 v254 v255 v256 v257 v258 v259 v260 v261 v262 v263 v264 v265:AV) (x270 x271 x272:Int) (b273 b274 b275:Bool) (x276:Int) (v277 v283:AV) (x287:Int) (v288:AV) (b292 b295:Bool) (v296:AV) (x300:Int) (v301:AV) (b305 b308:Bool):St→(Ex→St→Ans)→Ans:=fun s309 k310 =>
 cnd ((List.length s309.env) == 179)
 (sames C s309.env 0 [(.agg [(.lst a0),(iz a1),(iz a2),(iz a3),(iz a4),(iz a5),(iz a6),(iz a7),(iz a8)]),(.lst a9),v0,tz] <|
 C.bool s309.env[4]? fun b312 =>
 sames C s309.env 5 [v64,v112,tz,v277] <|
 C.any s309.env[9]? fun v313 =>
 sames C s309.env 10 [(.bool b37),(.bool b38),(.bool b39),v40,v41,v42,(.bool b43),(.bool b44),v45,v46,v47,bf,tz,(.agg [v53,(iz x54),(iz x55),(iz x56),(iz x57),(iz x58),(iz x59),(iz x60),(iz x61)]),v64,(.agg [v68,(iz x69),(iz x70),(iz x71),(iz x72),(iz x73),(iz x74),(iz x75),(iz x76)]),(iz x79),bf,tz,tz,v64,bf,(.agg [v89,(iz x90),(iz x91),(iz x92),(iz x93),(iz x94),(iz x95),(iz x96),(iz x97)]),(.agg [v101,(iz x102),(iz x103),(iz x104),(iz x105),(iz x106),(iz x107),(iz x108),(iz x109),(iz x110),(iz x111)]),v112,(.lst a9),(iz x116),(iz x123),bt,v265,(.agg [(iz x270),(iz x271),(iz x272),(.bool b273),(.bool b274),(.bool b275),(iz x276)]),v64,v283,(iz x287),v288,(.bool b292),(.bool b295),v112,v296,(iz x300),v301,(.bool b305),(.bool b308),bf] <|
 anys C s309.env 54 2 <|
 C.any s309.env[56]? fun v316 =>
 C.any s309.env[57]? fun v317 =>
 C.any s309.env[58]? fun v318 =>
 C.any s309.env[59]? fun v319 =>
 C.any s309.env[60]? fun v320 =>
 C.any s309.env[61]? fun v321 =>
 C.any s309.env[62]? fun v322 =>
 C.any s309.env[63]? fun v323 =>
 C.any s309.env[64]? fun v324 =>
 C.any s309.env[65]? fun v325 =>
 C.any s309.env[66]? fun v326 =>
 C.any s309.env[67]? fun v327 =>
 C.any s309.env[68]? fun v328 =>
 C.any s309.env[69]? fun v329 =>
 C.any s309.env[70]? fun v330 =>
 C.any s309.env[71]? fun v331 =>
 C.any s309.env[72]? fun v332 =>
 C.any s309.env[73]? fun v333 =>
 C.any s309.env[74]? fun v334 =>
 C.any s309.env[75]? fun v335 =>
 C.any s309.env[76]? fun v336 =>
 C.any s309.env[77]? fun v337 =>
 C.any s309.env[78]? fun v338 =>
 C.any s309.env[79]? fun v339 =>
 C.any s309.env[80]? fun v340 =>
 C.any s309.env[81]? fun v341 =>
 C.any s309.env[82]? fun v342 =>
 C.any s309.env[83]? fun v343 =>
 C.any s309.env[84]? fun v344 =>
 C.any s309.env[85]? fun v345 =>
 C.any s309.env[86]? fun v346 =>
 C.any s309.env[87]? fun v347 =>
 C.any s309.env[88]? fun v348 =>
 C.any s309.env[89]? fun v349 =>
 C.any s309.env[90]? fun v350 =>
 C.any s309.env[91]? fun v351 =>
 C.any s309.env[92]? fun v352 =>
 C.any s309.env[93]? fun v353 =>
 C.any s309.env[94]? fun v354 =>
 C.any s309.env[95]? fun v355 =>
 anys C s309.env 96 2 <|
 C.any s309.env[98]? fun v358 =>
 C.any s309.env[99]? fun v359 =>
 C.any s309.env[100]? fun v360 =>
 C.any s309.env[101]? fun v361 =>
 C.any s309.env[102]? fun v362 =>
 C.any s309.env[103]? fun v363 =>
 C.any s309.env[104]? fun v364 =>
 C.any s309.env[105]? fun v365 =>
 C.any s309.env[106]? fun v366 =>
 C.any s309.env[107]? fun v367 =>
 C.any s309.env[108]? fun v368 =>
 C.any s309.env[109]? fun v369 =>
 C.any s309.env[110]? fun v370 =>
 C.any s309.env[111]? fun v371 =>
 C.any s309.env[112]? fun v372 =>
 C.any s309.env[113]? fun v373 =>
 C.any s309.env[114]? fun v374 =>
 C.any s309.env[115]? fun v375 =>
 C.any s309.env[116]? fun v376 =>
 C.any s309.env[117]? fun v377 =>
 C.any s309.env[118]? fun v378 =>
 C.any s309.env[119]? fun v379 =>
 C.any s309.env[120]? fun v380 =>
 C.any s309.env[121]? fun v381 =>
 C.any s309.env[122]? fun v382 =>
 C.any s309.env[123]? fun v383 =>
 C.any s309.env[124]? fun v384 =>
 C.any s309.env[125]? fun v385 =>
 C.any s309.env[126]? fun v386 =>
 C.any s309.env[127]? fun v387 =>
 C.any s309.env[128]? fun v388 =>
 C.any s309.env[129]? fun v389 =>
 C.any s309.env[130]? fun v390 =>
 C.any s309.env[131]? fun v391 =>
 C.any s309.env[132]? fun v392 =>
 C.any s309.env[133]? fun v393 =>
 sames C s309.env 134 [v220,v221,v222,v223,v224,v225,v226,v227,v228,v229,v230,v231,v232,v233,v234,v235,v236,v237,v238,v239,v240,v241,v242,v243,v244,v245,v246,v247,v248,v249,v250,v251,v252,v253,v254,v255,v256,v257,v258,v259,v260,v261,v262,v263,v264] <|
 C.hop (St.H s309) (.fldA 0 (.v v277)) fun v394 h395 =>
 C.hop h395 (.load false 1 (.v v394)) fun v396 h397 =>
 C.int .i64 (some v396) fun x398 =>
 cnd (x398 == 1)
 (C.grow h397 [] fun n399 h400 =>
 C.hop h400 (.fldA 3 (.v v277)) fun v401 h402 =>
 C.hop h402 (.load false 1 (.v v401)) fun v403 h404 =>
 C.bool (some v403) fun b405 =>
 C.hop h404 (.fldA 4 (.v v277)) fun v406 h407 =>
 C.hop h407 (.load false 1 (.v v406)) fun v408 h409 =>
 C.bool (some v408) fun b410 =>
 C.cal M (pcall M d) 12 true 13 [v64,(.bool b405),(.bool b410)] h409 fun v411 h412 =>
 C.bool (some v411) fun b413 =>
 C.hop h412 (.fldA 3 (.v v277)) fun v414 h415 =>
 C.hop h415 (.load false 1 (.v v414)) fun v416 h417 =>
 C.bool (some v416) fun b418 =>
 C.keep h409 h412 [v414] <|
 C.hop h417 (.fldA 4 (.v v277)) fun v419 h420 =>
 C.hop h420 (.load false 1 (.v v419)) fun v421 h422 =>
 C.bool (some v421) fun b423 =>
 C.keep h409 h412 [v419] <|
 C.cal M (pcall M d) 12 true 14 [v112,(.bool b418),(.bool b423)] h422 fun v424 h425 =>
 C.bool (some v424) fun b426 =>
 cnd (xor true (b413 == b426))
 (k310 .ret ⟨[(.agg [(.lst a0),(iz a1),(iz a2),(iz a3),(iz a4),(iz a5),(iz a6),(iz a7),(iz a8)]),(.lst a9),v0,tz,bf,v64,v112,tz,v277,v313,(bz b37),(bz b38),(bz b39),v40,v41,v42,(bz b43),(bz b44),v45,v46,v47,bf,tz,(.agg [v53,(iz x54),(iz x55),(iz x56),(iz x57),(iz x58),(iz x59),(iz x60),(iz x61)]),v64,(.agg [v68,(iz x69),(iz x70),(iz x71),(iz x72),(iz x73),(iz x74),(iz x75),(iz x76)]),(iz x79),bf,tz,tz,v64,bf,(.agg [v89,(iz x90),(iz x91),(iz x92),(iz x93),(iz x94),(iz x95),(iz x96),(iz x97)]),(.agg [v101,(iz x102),(iz x103),(iz x104),(iz x105),(iz x106),(iz x107),(iz x108),(iz x109),(iz x110),(iz x111)]),v112,(.lst a9),(iz x116),(iz x123),bt,v265,(.agg [(iz x270),(iz x271),(iz x272),(bz b273),(bz b274),(bz b275),(iz x276)]),v64,v283,(iz x287),v288,(bz b292),(bz b295),v112,v296,(iz x300),v301,(bz b305),(bz b308),bf,v394,(iz x398),v316,v317,v318,v319,v320,v321,v322,v323,v324,v325,v326,v327,v328,v329,v330,v331,v332,v333,v334,v335,v336,v337,v338,v339,v340,v341,v342,v343,v344,v345,v346,v347,v348,v349,v350,v351,v352,v353,v354,v355,bt,(bz (x398 == 1)),v64,v401,(bz b405),v406,(bz b410),(bz b413),v112,v414,(bz b418),v419,(bz b423),(bz b426),bt,v371,v372,v373,v374,v375,v376,v377,v378,v379,v380,v381,v382,v383,v384,v385,v386,v387,v388,v389,v390,v391,v392,v393,v220,v221,v222,v223,v224,v225,v226,v227,v228,v229,v230,v231,v232,v233,v234,v235,v236,v237,v238,v239,v240,v241,v242,v243,v244,v245,v246,v247,v248,v249,v250,v251,v252,v253,v254,v255,v256,v257,v258,v259,v260,v261,v262,v263,v264],h425⟩)
 (k310 (.exit 2000000) ⟨[(.agg [(.lst a0),(iz a1),(iz a2),(iz a3),(iz a4),(iz a5),(iz a6),(iz a7),(iz a8)]),(.lst a9),v0,tz,(bz b312),v64,v112,tz,v277,v313,(bz b37),(bz b38),(bz b39),v40,v41,v42,(bz b43),(bz b44),v45,v46,v47,bf,tz,(.agg [v53,(iz x54),(iz x55),(iz x56),(iz x57),(iz x58),(iz x59),(iz x60),(iz x61)]),v64,(.agg [v68,(iz x69),(iz x70),(iz x71),(iz x72),(iz x73),(iz x74),(iz x75),(iz x76)]),(iz x79),bf,tz,tz,v64,bf,(.agg [v89,(iz x90),(iz x91),(iz x92),(iz x93),(iz x94),(iz x95),(iz x96),(iz x97)]),(.agg [v101,(iz x102),(iz x103),(iz x104),(iz x105),(iz x106),(iz x107),(iz x108),(iz x109),(iz x110),(iz x111)]),v112,(.lst a9),(iz x116),(iz x123),bt,v265,(.agg [(iz x270),(iz x271),(iz x272),(bz b273),(bz b274),(bz b275),(iz x276)]),v64,v283,(iz x287),v288,(bz b292),(bz b295),v112,v296,(iz x300),v301,(bz b305),(bz b308),bf,v394,(iz x398),v316,v317,v318,v319,v320,v321,v322,v323,v324,v325,v326,v327,v328,v329,v330,v331,v332,v333,v334,v335,v336,v337,v338,v339,v340,v341,v342,v343,v344,v345,v346,v347,v348,v349,v350,v351,v352,v353,v354,v355,bt,(bz (x398 == 1)),v64,v401,(bz b405),v406,(bz b410),(bz b413),v112,v414,(bz b418),v419,(bz b423),(bz b426),bf,v371,v372,v373,v374,v375,v376,v377,v378,v379,v380,v381,v382,v383,v384,v385,v386,v387,v388,v389,v390,v391,v392,v393,v220,v221,v222,v223,v224,v225,v226,v227,v228,v229,v230,v231,v232,v233,v234,v235,v236,v237,v238,v239,v240,v241,v242,v243,v244,v245,v246,v247,v248,v249,v250,v251,v252,v253,v254,v255,v256,v257,v258,v259,v260,v261,v262,v263,v264],h425⟩))
 (cnd (x398 == 2)
 (C.grow h397 [] fun n427 h428 =>
 C.hop h428 (.fldA 6 (.v v277)) fun v429 h430 =>
 C.hop h430 (.load false 1 (.v v429)) fun v431 h432 =>
 C.int .i64 (some v431) fun x433 =>
 C.hop h432 (.fldA 5 (.v v277)) fun v434 h435 =>
 C.hop h435 (.load false 1 (.v v434)) fun v436 h437 =>
 C.bool (some v436) fun b438 =>
 C.cal M (pcall M d) 12 true 11 [v64,(iz x433),(.bool b438)] h437 fun v439 h440 =>
 C.bool (some v439) fun b441 =>
 C.hop h440 (.fldA 4 (.v v277)) fun v442 h443 =>
 C.hop h443 (.load false 1 (.v v442)) fun v444 h445 =>
 C.bool (some v444) fun b446 =>
 C.keep h437 h440 [v442] <|
 C.cal M (pcall M d) 12 true 13 [v64,(.bool b441),(.bool b446)] h445 fun v447 h448 =>
 C.bool (some v447) fun b449 =>
 C.hop h448 (.fldA 6 (.v v277)) fun v450 h451 =>
 C.hop h451 (.load false 1 (.v v450)) fun v452 h453 =>
 C.int .i64 (some v452) fun x454 =>
 C.keep h445 h448 [v450] <|
 C.keep h437 h440 [v450] <|
 C.hop h453 (.fldA 5 (.v v277)) fun v455 h456 =>
 C.hop h456 (.load false 1 (.v v455)) fun v457 h458 =>
 C.bool (some v457) fun b459 =>
 C.keep h445 h448 [v455] <|
 C.keep h437 h440 [v455] <|
 C.cal M (pcall M d) 12 true 12 [v112,(iz x454),(.bool b459)] h458 fun v460 h461 =>
 C.bool (some v460) fun b462 =>
 C.hop h461 (.fldA 4 (.v v277)) fun v463 h464 =>
 C.hop h464 (.load false 1 (.v v463)) fun v465 h466 =>
 C.bool (some v465) fun b467 =>
 C.keep h458 h461 [v463] <|
 C.keep h445 h448 [v463] <|
 C.keep h437 h440 [v463] <|
 C.cal M (pcall M d) 12 true 14 [v112,(.bool b462),(.bool b467)] h466 fun v468 h469 =>
 C.bool (some v468) fun b470 =>
 cnd (xor true (b449 == b470))
 (k310 .ret ⟨[(.agg [(.lst a0),(iz a1),(iz a2),(iz a3),(iz a4),(iz a5),(iz a6),(iz a7),(iz a8)]),(.lst a9),v0,tz,bf,v64,v112,tz,v277,v313,(bz b37),(bz b38),(bz b39),v40,v41,v42,(bz b43),(bz b44),v45,v46,v47,bf,tz,(.agg [v53,(iz x54),(iz x55),(iz x56),(iz x57),(iz x58),(iz x59),(iz x60),(iz x61)]),v64,(.agg [v68,(iz x69),(iz x70),(iz x71),(iz x72),(iz x73),(iz x74),(iz x75),(iz x76)]),(iz x79),bf,tz,tz,v64,bf,(.agg [v89,(iz x90),(iz x91),(iz x92),(iz x93),(iz x94),(iz x95),(iz x96),(iz x97)]),(.agg [v101,(iz x102),(iz x103),(iz x104),(iz x105),(iz x106),(iz x107),(iz x108),(iz x109),(iz x110),(iz x111)]),v112,(.lst a9),(iz x116),(iz x123),bt,v265,(.agg [(iz x270),(iz x271),(iz x272),(bz b273),(bz b274),(bz b275),(iz x276)]),v64,v283,(iz x287),v288,(bz b292),(bz b295),v112,v296,(iz x300),v301,(bz b305),(bz b308),bf,v394,(iz x398),v316,v317,v318,v319,v320,v321,v322,v323,v324,v325,v326,v327,v328,v329,v330,v331,v332,v333,v334,v335,v336,v337,v338,v339,v340,v341,v342,v343,v344,v345,v346,v347,v348,v349,v350,v351,v352,v353,v354,v355,bf,(bz (x398 == 1)),v358,v359,v360,v361,v362,v363,v364,v365,v366,v367,v368,v369,v370,bt,(bz (x398 == 2)),v64,v64,v429,(iz x433),v434,(bz b438),(bz b441),v442,(bz b446),(bz b449),v112,v112,v450,(iz x454),v455,(bz b459),(bz b462),v463,(bz b467),(bz b470),bt,v220,v221,v222,v223,v224,v225,v226,v227,v228,v229,v230,v231,v232,v233,v234,v235,v236,v237,v238,v239,v240,v241,v242,v243,v244,v245,v246,v247,v248,v249,v250,v251,v252,v253,v254,v255,v256,v257,v258,v259,v260,v261,v262,v263,v264],h469⟩)
 (k310 (.exit 2000000) ⟨[(.agg [(.lst a0),(iz a1),(iz a2),(iz a3),(iz a4),(iz a5),(iz a6),(iz a7),(iz a8)]),(.lst a9),v0,tz,(bz b312),v64,v112,tz,v277,v313,(bz b37),(bz b38),(bz b39),v40,v41,v42,(bz b43),(bz b44),v45,v46,v47,bf,tz,(.agg [v53,(iz x54),(iz x55),(iz x56),(iz x57),(iz x58),(iz x59),(iz x60),(iz x61)]),v64,(.agg [v68,(iz x69),(iz x70),(iz x71),(iz x72),(iz x73),(iz x74),(iz x75),(iz x76)]),(iz x79),bf,tz,tz,v64,bf,(.agg [v89,(iz x90),(iz x91),(iz x92),(iz x93),(iz x94),(iz x95),(iz x96),(iz x97)]),(.agg [v101,(iz x102),(iz x103),(iz x104),(iz x105),(iz x106),(iz x107),(iz x108),(iz x109),(iz x110),(iz x111)]),v112,(.lst a9),(iz x116),(iz x123),bt,v265,(.agg [(iz x270),(iz x271),(iz x272),(bz b273),(bz b274),(bz b275),(iz x276)]),v64,v283,(iz x287),v288,(bz b292),(bz b295),v112,v296,(iz x300),v301,(bz b305),(bz b308),bf,v394,(iz x398),v316,v317,v318,v319,v320,v321,v322,v323,v324,v325,v326,v327,v328,v329,v330,v331,v332,v333,v334,v335,v336,v337,v338,v339,v340,v341,v342,v343,v344,v345,v346,v347,v348,v349,v350,v351,v352,v353,v354,v355,bf,(bz (x398 == 1)),v358,v359,v360,v361,v362,v363,v364,v365,v366,v367,v368,v369,v370,bt,(bz (x398 == 2)),v64,v64,v429,(iz x433),v434,(bz b438),(bz b441),v442,(bz b446),(bz b449),v112,v112,v450,(iz x454),v455,(bz b459),(bz b462),v463,(bz b467),(bz b470),bf,v220,v221,v222,v223,v224,v225,v226,v227,v228,v229,v230,v231,v232,v233,v234,v235,v236,v237,v238,v239,v240,v241,v242,v243,v244,v245,v246,v247,v248,v249,v250,v251,v252,v253,v254,v255,v256,v257,v258,v259,v260,v261,v262,v263,v264],h469⟩))
 (C.iter (r3R3 C d a0 a1 a2 a3 a4 a5 a6 a7 a8 a9 v0 b37 b38 b39 v40 v41 v42 b43 b44 v45 v46 v47 v53 x54 x55 x56 x57 x58 x59 x60 x61 v64 v68 x69 x70 x71 x72 x73 x74 x75 x76 x79 v89 x90 x91 x92 x93 x94 x95 x96 x97 v101 x102 x103 x104 x105 x106 x107 x108 x109 x110 x111 v112 x116 x123 v220 v221 v222 v223 v224 v225 v226 v227 v228 v229 v230 v231 v232 v233 v234 v235 v236 v237 v238 v239 v240 v241 v242 v243 v244 v245 v246 v247 v248 v249 v250 v251 v252 v253 v254 v255 v256 v257 v258 v259 v260 v261 v262 v263 v264 v265 x270 x271 x272 b273 b274 b275 x276 v277 v283 x287 v288 b292 b295 v296 x300 v301 b305 b308 k310 b312 v337 v338 v339 v340 v341 v342 v343 v344 v345 v346 v347 v348 v349 v350 v351 v352 v353 v354 v355 v358 v359 v360 v361 v362 v363 v364 v365 v366 v367 v368 v369 v370 v373 v374 v375 v376 v377 v378 v379 v380 v381 v382 v383 v384 v385 v386 v387 v388 v389 v390 v391 v392 v393 v394 x398) 1 ⟨[(.agg [(.lst a0),(iz a1),(iz a2),(iz a3),(iz a4),(iz a5),(iz a6),(iz a7),(iz a8)]),(.lst a9),v0,tz,(bz b312),v64,v112,tz,v277,v313,(bz b37),(bz b38),(bz b39),v40,v41,v42,(bz b43),(bz b44),v45,v46,v47,bf,tz,(.agg [v53,(iz x54),(iz x55),(iz x56),(iz x57),(iz x58),(iz x59),(iz x60),(iz x61)]),v64,(.agg [v68,(iz x69),(iz x70),(iz x71),(iz x72),(iz x73),(iz x74),(iz x75),(iz x76)]),(iz x79),bf,tz,tz,v64,bf,(.agg [v89,(iz x90),(iz x91),(iz x92),(iz x93),(iz x94),(iz x95),(iz x96),(iz x97)]),(.agg [v101,(iz x102),(iz x103),(iz x104),(iz x105),(iz x106),(iz x107),(iz x108),(iz x109),(iz x110),(iz x111)]),v112,(.lst a9),(iz x116),(iz x123),bt,v265,(.agg [(iz x270),(iz x271),(iz x272),(bz b273),(bz b274),(bz b275),(iz x276)]),v64,v283,(iz x287),v288,(bz b292),(bz b295),v112,v296,(iz x300),v301,(bz b305),(bz b308),bf,v394,(iz x398),v316,v317,v318,v319,v320,v321,v322,v323,v324,v325,v326,v327,v328,v329,v330,v331,v332,v333,v334,v335,v336,v337,v338,v339,v340,v341,v342,v343,v344,v345,v346,v347,v348,v349,v350,v351,v352,v353,v354,v355,bf,(bz (x398 == 1)),v358,v359,v360,v361,v362,v363,v364,v365,v366,v367,v368,v369,v370,bf,(bz (x398 == 2)),v373,v374,v375,v376,v377,v378,v379,v380,v381,v382,v383,v384,v385,v386,v387,v388,v389,v390,v391,v392,v393,v220,v221,v222,v223,v224,v225,v226,v227,v228,v229,v230,v231,v232,v233,v234,v235,v236,v237,v238,v239,v240,v241,v242,v243,v244,v245,v246,v247,v248,v249,v250,v251,v252,v253,v254,v255,v256,v257,v258,v259,v260,v261,v262,v263,v264],h397⟩ [2000000] [r3X3_0 C d a0 a1 a2 a3 a4 a5 a6 a7 a8 a9 v0 b37 b38 b39 v40 v41 v42 b43 b44 v45 v46 v47 v53 x54 x55 x56 x57 x58 x59 x60 x61 v64 v68 x69 x70 x71 x72 x73 x74 x75 x76 x79 v89 x90 x91 x92 x93 x94 x95 x96 x97 v101 x102 x103 x104 x105 x106 x107 x108 x109 x110 x111 v112 x116 x123 v220 v221 v222 v223 v224 v225 v226 v227 v228 v229 v230 v231 v232 v233 v234 v235 v236 v237 v238 v239 v240 v241 v242 v243 v244 v245 v246 v247 v248 v249 v250 v251 v252 v253 v254 v255 v256 v257 v258 v259 v260 v261 v262 v263 v264 v265 x270 x271 x272 b273 b274 b275 x276 v277 v283 x287 v288 b292 b295 v296 x300 v301 b305 b308 k310 b312 v337 v338 v339 v340 v341 v342 v343 v344 v345 v346 v347 v348 v349 v350 v351 v352 v353 v354 v355 v358 v359 v360 v361 v362 v363 v364 v365 v366 v367 v368 v369 v370 v373 v374 v375 v376 v377 v378 v379 v380 v381 v382 v383 v384 v385 v386 v387 v388 v389 v390 v391 v392 v393 v394 x398] (r3E3 C d a0 a1 a2 a3 a4 a5 a6 a7 a8 a9 v0 b37 b38 b39 v40 v41 v42 b43 b44 v45 v46 v47 v53 x54 x55 x56 x57 x58 x59 x60 x61 v64 v68 x69 x70 x71 x72 x73 x74 x75 x76 x79 v89 x90 x91 x92 x93 x94 x95 x96 x97 v101 x102 x103 x104 x105 x106 x107 x108 x109 x110 x111 v112 x116 x123 v220 v221 v222 v223 v224 v225 v226 v227 v228 v229 v230 v231 v232 v233 v234 v235 v236 v237 v238 v239 v240 v241 v242 v243 v244 v245 v246 v247 v248 v249 v250 v251 v252 v253 v254 v255 v256 v257 v258 v259 v260 v261 v262 v263 v264 v265 x270 x271 x272 b273 b274 b275 x276 v277 v283 x287 v288 b292 b295 v296 x300 v301 b305 b308 k310 b312 v337 v338 v339 v340 v341 v342 v343 v344 v345 v346 v347 v348 v349 v350 v351 v352 v353 v354 v355 v358 v359 v360 v361 v362 v363 v364 v365 v366 v367 v368 v369 v370 v373 v374 v375 v376 v377 v378 v379 v380 v381 v382 v383 v384 v385 v386 v387 v388 v389 v390 v391 v392 v393 v394 x398))))
 (none)
def r3X2_0 (C:Cb) (d:Nat) (a0:List AV) (a1 a2 a3 a4 a5 a6 a7 a8:Int) (a9:List AV) (v0:AV) (b37 b38 b39:Bool) (v40 v41 v42:AV) (b43 b44:Bool) (v45 v46 v47 v53:AV) (x54 x55 x56 x57 x58 x59 x60 x61:Int) (v64 v68:AV) (x69 x70 x71 x72 x73 x74 x75 x76 x79:Int) (v89:AV) (x90 x91 x92 x93 x94 x95 x96 x97:Int) (v101:AV) (x102 x103 x104 x105 x106 x107 x108 x109 x110 x111:Int) (v112:AV) (x116:Int) (k118:Ex→St→Ans) (x123:Int) (v220 v221 v222 v223 v224 v225 v226 v227 v228 v229 v230 v231 v232 v233 v234 v235 v236 v237 v238 v239 v240 v241 v242 v243 v244 v245 v246 v247 v248 v249 v250 v251 v252 v253 v254 v255 v256 v257 v258 v259 v260 v261 v262 v263 v264 v265:AV) (x270 x271 x272:Int) (b273 b274 b275:Bool) (x276:Int) (v277 v283:AV) (x287:Int) (v288:AV) (b292 b295:Bool) (v296:AV) (x300:Int) (v301:AV) (b305 b308:Bool):St→Ans:=fun s605 =>
 cnd ((List.length s605.env) == 179)
 (sames C s605.env 0 [(.agg [(.lst a0),(iz a1),(iz a2),(iz a3),(iz a4),(iz a5),(iz a6),(iz a7),(iz a8)]),(.lst a9),v0,tz] <|
 C.bool s605.env[4]? fun b606 =>
 sames C s605.env 5 [v64,v112,tz,v277] <|
 C.any s605.env[9]? fun v607 =>
 sames C s605.env 10 [(.bool b37),(.bool b38),(.bool b39),v40,v41,v42,(.bool b43),(.bool b44),v45,v46,v47,bf,tz,(.agg [v53,(iz x54),(iz x55),(iz x56),(iz x57),(iz x58),(iz x59),(iz x60),(iz x61)]),v64,(.agg [v68,(iz x69),(iz x70),(iz x71),(iz x72),(iz x73),(iz x74),(iz x75),(iz x76)]),(iz x79),bf,tz,tz,v64,bf,(.agg [v89,(iz x90),(iz x91),(iz x92),(iz x93),(iz x94),(iz x95),(iz x96),(iz x97)]),(.agg [v101,(iz x102),(iz x103),(iz x104),(iz x105),(iz x106),(iz x107),(iz x108),(iz x109),(iz x110),(iz x111)]),v112,(.lst a9),(iz x116),(iz x123),bt,v265,(.agg [(iz x270),(iz x271),(iz x272),(.bool b273),(.bool b274),(.bool b275),(iz x276)]),v64,v283,(iz x287),v288,(.bool b292),(.bool b295),v112,v296,(iz x300),v301,(.bool b305),(.bool b308),bf] <|
 C.any s605.env[54]? fun v608 =>
 C.int .i64 s605.env[55]? fun x609 =>
 C.any s605.env[56]? fun v610 =>
 C.any s605.env[57]? fun v611 =>
 C.any s605.env[58]? fun v612 =>
 C.any s605.env[59]? fun v613 =>
 C.any s605.env[60]? fun v614 =>
 C.any s605.env[61]? fun v615 =>
 C.any s605.env[62]? fun v616 =>
 C.any s605.env[63]? fun v617 =>
 C.any s605.env[64]? fun v618 =>
 C.any s605.env[65]? fun v619 =>
 C.any s605.env[66]? fun v620 =>
 C.any s605.env[67]? fun v621 =>
 C.any s605.env[68]? fun v622 =>
 C.any s605.env[69]? fun v623 =>
 C.any s605.env[70]? fun v624 =>
 C.any s605.env[71]? fun v625 =>
 C.any s605.env[72]? fun v626 =>
 C.any s605.env[73]? fun v627 =>
 C.any s605.env[74]? fun v628 =>
 C.any s605.env[75]? fun v629 =>
 C.any s605.env[76]? fun v630 =>
 C.any s605.env[77]? fun v631 =>
 C.any s605.env[78]? fun v632 =>
 C.any s605.env[79]? fun v633 =>
 C.any s605.env[80]? fun v634 =>
 C.any s605.env[81]? fun v635 =>
 C.any s605.env[82]? fun v636 =>
 C.any s605.env[83]? fun v637 =>
 C.any s605.env[84]? fun v638 =>
 C.any s605.env[85]? fun v639 =>
 C.any s605.env[86]? fun v640 =>
 C.any s605.env[87]? fun v641 =>
 C.any s605.env[88]? fun v642 =>
 C.any s605.env[89]? fun v643 =>
 C.any s605.env[90]? fun v644 =>
 C.any s605.env[91]? fun v645 =>
 C.any s605.env[92]? fun v646 =>
 C.any s605.env[93]? fun v647 =>
 C.any s605.env[94]? fun v648 =>
 C.any s605.env[95]? fun v649 =>
 C.bool s605.env[96]? fun b650 =>
 C.bool s605.env[97]? fun b651 =>
 C.any s605.env[98]? fun v652 =>
 C.any s605.env[99]? fun v653 =>
 C.any s605.env[100]? fun v654 =>
 C.any s605.env[101]? fun v655 =>
 C.any s605.env[102]? fun v656 =>
 C.any s605.env[103]? fun v657 =>
 C.any s605.env[104]? fun v658 =>
 C.any s605.env[105]? fun v659 =>
 C.any s605.env[106]? fun v660 =>
 C.any s605.env[107]? fun v661 =>
 C.any s605.env[108]? fun v662 =>
 C.any s605.env[109]? fun v663 =>
 C.any s605.env[110]? fun v664 =>
 C.any s605.env[111]? fun v665 =>
 C.any s605.env[112]? fun v666 =>
 C.any s605.env[113]? fun v667 =>
 C.any s605.env[114]? fun v668 =>
 C.any s605.env[115]? fun v669 =>
 C.any s605.env[116]? fun v670 =>
 C.any s605.env[117]? fun v671 =>
 C.any s605.env[118]? fun v672 =>
 C.any s605.env[119]? fun v673 =>
 C.any s605.env[120]? fun v674 =>
 C.any s605.env[121]? fun v675 =>
 C.any s605.env[122]? fun v676 =>
 C.any s605.env[123]? fun v677 =>
 C.any s605.env[124]? fun v678 =>
 C.any s605.env[125]? fun v679 =>
 C.any s605.env[126]? fun v680 =>
 C.any s605.env[127]? fun v681 =>
 C.any s605.env[128]? fun v682 =>
 C.any s605.env[129]? fun v683 =>
 C.any s605.env[130]? fun v684 =>
 C.any s605.env[131]? fun v685 =>
 C.any s605.env[132]? fun v686 =>
 C.any s605.env[133]? fun v687 =>
 sames C s605.env 134 [v220,v221,v222,v223,v224,v225,v226,v227,v228,v229,v230,v231,v232,v233,v234,v235,v236,v237,v238,v239,v240,v241,v242,v243,v244,v245,v246,v247,v248,v249,v250,v251,v252,v253,v254,v255,v256,v257,v258,v259,v260,v261,v262,v263,v264] <|
 C.iter (r3R5 C d a0 a1 a2 a3 a4 a5 a6 a7 a8 a9 v0 b37 b38 b39 v40 v41 v42 b43 b44 v45 v46 v47 v53 x54 x55 x56 x57 x58 x59 x60 x61 v64 v68 x69 x70 x71 x72 x73 x74 x75 x76 x79 v89 x90 x91 x92 x93 x94 x95 x96 x97 v101 x102 x103 x104 x105 x106 x107 x108 x109 x110 x111 v112 x116 k118 x123 v264 v265 x270 x271 x272 b273 b274 b275 x276 v277 v283 x287 v288 b292 b295 v296 x300 v301 b305 b308 b606 v607 v608 x609 v610 v611 v612 v613 v614 v615 v616 v617 v618 v619 v620 v621 v622 v623 v624 v625 v626 v627 v628 v629 v630 v631 v632 v633 v634 v635 v636 v637 v638 v639 v640 v641 v642 v643 v644 v645 v646 v647 v648 v649 b650 b651 v652 v653 v654 v655 v656 v657 v658 v659 v660 v661 v662 v663 v664 v665 v666 v667 v668 v669 v670 v671 v672 v673 v674 v675 v676 v677 v678 v679 v680 v681 v682 v683 v684 v685 v686 v687) 1 ⟨[(.agg [(.lst a0),(iz a1),(iz a2),(iz a3),(iz a4),(iz a5),(iz a6),(iz a7),(iz a8)]),(.lst a9),v0,tz,(bz b606),v64,v112,tz,v277,v607,(bz b37),(bz b38),(bz b39),v40,v41,v42,(bz b43),(bz b44),v45,v46,v47,bf,tz,(.agg [v53,(iz x54),(iz x55),(iz x56),(iz x57),(iz x58),(iz x59),(iz x60),(iz x61)]),v64,(.agg [v68,(iz x69),(iz x70),(iz x71),(iz x72),(iz x73),(iz x74),(iz x75),(iz x76)]),(iz x79),bf,tz,tz,v64,bf,(.agg [v89,(iz x90),(iz x91),(iz x92),(iz x93),(iz x94),(iz x95),(iz x96),(iz x97)]),(.agg [v101,(iz x102),(iz x103),(iz x104),(iz x105),(iz x106),(iz x107),(iz x108),(iz x109),(iz x110),(iz x111)]),v112,(.lst a9),(iz x116),(iz x123),bt,v265,(.agg [(iz x270),(iz x271),(iz x272),(bz b273),(bz b274),(bz b275),(iz x276)]),v64,v283,(iz x287),v288,(bz b292),(bz b295),v112,v296,(iz x300),v301,(bz b305),(bz b308),bf,v608,(iz x609),v610,v611,v612,v613,v614,v615,v616,v617,v618,v619,v620,v621,v622,v623,v624,v625,v626,v627,v628,v629,v630,v631,v632,v633,v634,v635,v636,v637,v638,v639,v640,v641,v642,v643,v644,v645,v646,v647,v648,v649,(bz b650),(bz b651),v652,v653,v654,v655,v656,v657,v658,v659,v660,v661,v662,v663,v664,v665,v666,v667,v668,v669,v670,v671,v672,v673,v674,v675,v676,v677,v678,v679,v680,v681,v682,v683,v684,v685,v686,v687,v220,v221,v222,v223,v224,v225,v226,v227,v228,v229,v230,v231,v232,v233,v234,v235,v236,v237,v238,v239,v240,v241,v242,v243,v244,v245,v246,v247,v248,v249,v250,v251,v252,v253,v254,v255,v256,v257,v258,v259,v260,v261,v262,v263,v264],(St.H s605)⟩ [2000000] [r3X5_0 C d a0 a1 a2 a3 a4 a5 a6 a7 a8 a9 v0 b37 b38 b39 v40 v41 v42 b43 b44 v45 v46 v47 v53 x54 x55 x56 x57 x58 x59 x60 x61 v64 v68 x69 x70 x71 x72 x73 x74 x75 x76 x79 v89 x90 x91 x92 x93 x94 x95 x96 x97 v101 x102 x103 x104 x105 x106 x107 x108 x109 x110 x111 v112 x116 k118 x123 v264 v265 x270 x271 x272 b273 b274 b275 x276 v277 v283 x287 v288 b292 b295 v296 x300 v301 b305 b308 b606 v607 v608 x609 v610 v611 v612 v613 v614 v615 v616 v617 v618 v619 v620 v621 v622 v623 v624 v625 v626 v627 v628 v629 v630 v631 v632 v633 v634 v635 v636 v637 v638 v639 v640 v641 v642 v643 v644 v645 v646 v647 v648 v649 b650 b651 v652 v653 v654 v655 v656 v657 v658 v659 v660 v661 v662 v663 v664 v665 v666 v667 v668 v669 v670 v671 v672 v673 v674 v675 v676 v677 v678 v679 v680 v681 v682 v683 v684 v685 v686 v687] (r3E5 C d a0 a1 a2 a3 a4 a5 a6 a7 a8 a9 v0 b37 b38 b39 v40 v41 v42 b43 b44 v45 v46 v47 v53 x54 x55 x56 x57 x58 x59 x60 x61 v64 v68 x69 x70 x71 x72 x73 x74 x75 x76 x79 v89 x90 x91 x92 x93 x94 x95 x96 x97 v101 x102 x103 x104 x105 x106 x107 x108 x109 x110 x111 v112 x116 k118 x123 v264 v265 x270 x271 x272 b273 b274 b275 x276 v277 v283 x287 v288 b292 b295 v296 x300 v301 b305 b308 b606 v607 v608 x609 v610 v611 v612 v613 v614 v615 v616 v617 v618 v619 v620 v621 v622 v623 v624 v625 v626 v627 v628 v629 v630 v631 v632 v633 v634 v635 v636 v637 v638 v639 v640 v641 v642 v643 v644 v645 v646 v647 v648 v649 b650 b651 v652 v653 v654 v655 v656 v657 v658 v659 v660 v661 v662 v663 v664 v665 v666 v667 v668 v669 v670 v671 v672 v673 v674 v675 v676 v677 v678 v679 v680 v681 v682 v683 v684 v685 v686 v687))
 (none)
def r3E2 (C:Cb) (d:Nat) (a0:List AV) (a1 a2 a3 a4 a5 a6 a7 a8:Int) (a9:List AV) (v0:AV) (b37 b38 b39:Bool) (v40 v41 v42:AV) (b43 b44:Bool) (v45 v46 v47 v53:AV) (x54 x55 x56 x57 x58 x59 x60 x61:Int) (v64 v68:AV) (x69 x70 x71 x72 x73 x74 x75 x76 x79:Int) (v89:AV) (x90 x91 x92 x93 x94 x95 x96 x97:Int) (v101:AV) (x102 x103 x104 x105 x106 x107 x108 x109 x110 x111:Int) (v112:AV) (x116:Int) (k118:Ex→St→Ans) (x123:Int) (v220 v221 v222 v223 v224 v225 v226 v227 v228 v229 v230 v231 v232 v233 v234 v235 v236 v237 v238 v239 v240 v241 v242 v243 v244 v245 v246 v247 v248 v249 v250 v251 v252 v253 v254 v255 v256 v257 v258 v259 v260 v261 v262 v263 v264 v265:AV) (x270 x271 x272:Int) (b273 b274 b275:Bool) (x276:Int) (v277 v283:AV) (x287:Int) (v288:AV) (b292 b295:Bool) (v296:AV) (x300:Int) (v301:AV) (b305 b308:Bool):St→Ans:=fun s311 =>
 cnd ((List.length s311.env) == 179)
 (sames C s311.env 0 [(.agg [(.lst a0),(iz a1),(iz a2),(iz a3),(iz a4),(iz a5),(iz a6),(iz a7),(iz a8)]),(.lst a9),v0,tz] <|
 C.bool s311.env[4]? fun b895 =>
 sames C s311.env 5 [v64,v112,tz,v277] <|
 C.any s311.env[9]? fun v896 =>
 sames C s311.env 10 [(.bool b37),(.bool b38),(.bool b39),v40,v41,v42,(.bool b43),(.bool b44),v45,v46,v47,bf,tz,(.agg [v53,(iz x54),(iz x55),(iz x56),(iz x57),(iz x58),(iz x59),(iz x60),(iz x61)]),v64,(.agg [v68,(iz x69),(iz x70),(iz x71),(iz x72),(iz x73),(iz x74),(iz x75),(iz x76)]),(iz x79),bf,tz,tz,v64,bf,(.agg [v89,(iz x90),(iz x91),(iz x92),(iz x93),(iz x94),(iz x95),(iz x96),(iz x97)]),(.agg [v101,(iz x102),(iz x103),(iz x104),(iz x105),(iz x106),(iz x107),(iz x108),(iz x109),(iz x110),(iz x111)]),v112,(.lst a9),(iz x116),(iz x123),bt,v265,(.agg [(iz x270),(iz x271),(iz x272),(.bool b273),(.bool b274),(.bool b275),(iz x276)]),v64,v283,(iz x287),v288,(.bool b292),(.bool b295),v112,v296,(iz x300),v301,(.bool b305),(.bool b308),bf] <|
 C.any s311.env[54]? fun v897 =>
 C.int .i64 s311.env[55]? fun x898 =>
 C.any s311.env[56]? fun v899 =>
 C.any s311.env[57]? fun v900 =>
 C.any s311.env[58]? fun v901 =>
 C.any s311.env[59]? fun v902 =>
 C.any s311.env[60]? fun v903 =>
 C.any s311.env[61]? fun v904 =>
 C.any s311.env[62]? fun v905 =>
 C.any s311.env[63]? fun v906 =>
 C.any s311.env[64]? fun v907 =>
 C.any s311.env[65]? fun v908 =>
 C.any s311.env[66]? fun v909 =>
 C.any s311.env[67]? fun v910 =>
 C.any s311.env[68]? fun v911 =>
 C.any s311.env[69]? fun v912 =>
 C.any s311.env[70]? fun v913 =>
 C.any s311.env[71]? fun v914 =>
 C.any s311.env[72]? fun v915 =>
 C.any s311.env[73]? fun v916 =>
 C.any s311.env[74]? fun v917 =>
 C.any s311.env[75]? fun v918 =>
 C.any s311.env[76]? fun v919 =>
 C.any s311.env[77]? fun v920 =>
 C.any s311.env[78]? fun v921 =>
 C.any s311.env[79]? fun v922 =>
 C.any s311.env[80]? fun v923 =>
 C.any s311.env[81]? fun v924 =>
 C.any s311.env[82]? fun v925 =>
 C.any s311.env[83]? fun v926 =>
 C.any s311.env[84]? fun v927 =>
 C.any s311.env[85]? fun v928 =>
 C.any s311.env[86]? fun v929 =>
 C.any s311.env[87]? fun v930 =>
 C.any s311.env[88]? fun v931 =>
 C.any s311.env[89]? fun v932 =>
 C.any s311.env[90]? fun v933 =>
 C.any s311.env[91]? fun v934 =>
 C.any s311.env[92]? fun v935 =>
 C.any s311.env[93]? fun v936 =>
 C.any s311.env[94]? fun v937 =>
 C.any s311.env[95]? fun v938 =>
 C.bool s311.env[96]? fun b939 =>
 C.bool s311.env[97]? fun b940 =>
 C.any s311.env[98]? fun v941 =>
 C.any s311.env[99]? fun v942 =>
 C.any s311.env[100]? fun v943 =>
 C.any s311.env[101]? fun v944 =>
 C.any s311.env[102]? fun v945 =>
 C.any s311.env[103]? fun v946 =>
 C.any s311.env[104]? fun v947 =>
 C.any s311.env[105]? fun v948 =>
 C.any s311.env[106]? fun v949 =>
 C.any s311.env[107]? fun v950 =>
 C.any s311.env[108]? fun v951 =>
 C.any s311.env[109]? fun v952 =>
 C.any s311.env[110]? fun v953 =>
 C.any s311.env[111]? fun v954 =>
 C.any s311.env[112]? fun v955 =>
 C.any s311.env[113]? fun v956 =>
 C.any s311.env[114]? fun v957 =>
 C.any s311.env[115]? fun v958 =>
 C.any s311.env[116]? fun v959 =>
 C.any s311.env[117]? fun v960 =>
 C.any s311.env[118]? fun v961 =>
 C.any s311.env[119]? fun v962 =>
 C.any s311.env[120]? fun v963 =>
 C.any s311.env[121]? fun v964 =>
 C.any s311.env[122]? fun v965 =>
 C.any s311.env[123]? fun v966 =>
 C.any s311.env[124]? fun v967 =>
 C.any s311.env[125]? fun v968 =>
 C.any s311.env[126]? fun v969 =>
 C.any s311.env[127]? fun v970 =>
 C.any s311.env[128]? fun v971 =>
 C.any s311.env[129]? fun v972 =>
 C.any s311.env[130]? fun v973 =>
 C.any s311.env[131]? fun v974 =>
 C.any s311.env[132]? fun v975 =>
 C.any s311.env[133]? fun v976 =>
 sames C s311.env 134 [v220,v221,v222,v223,v224,v225,v226,v227,v228,v229,v230,v231,v232,v233,v234,v235,v236,v237,v238,v239,v240,v241,v242,v243,v244,v245,v246,v247,v248,v249,v250,v251,v252,v253,v254,v255,v256,v257,v258,v259,v260,v261,v262,v263,v264] <|
 k118 .ret ⟨[(.agg [(.lst a0),(iz a1),(iz a2),(iz a3),(iz a4),(iz a5),(iz a6),(iz a7),(iz a8)]),(.lst a9),v0,tz,(bz b895),v64,v112,tz,v277,v896,(bz b37),(bz b38),(bz b39),v40,v41,v42,(bz b43),(bz b44),v45,v46,v47,bf,tz,(.agg [v53,(iz x54),(iz x55),(iz x56),(iz x57),(iz x58),(iz x59),(iz x60),(iz x61)]),v64,(.agg [v68,(iz x69),(iz x70),(iz x71),(iz x72),(iz x73),(iz x74),(iz x75),(iz x76)]),(iz x79),bf,tz,tz,v64,bf,(.agg [v89,(iz x90),(iz x91),(iz x92),(iz x93),(iz x94),(iz x95),(iz x96),(iz x97)]),(.agg [v101,(iz x102),(iz x103),(iz x104),(iz x105),(iz x106),(iz x107),(iz x108),(iz x109),(iz x110),(iz x111)]),v112,(.lst a9),(iz x116),(iz x123),bt,v265,(.agg [(iz x270),(iz x271),(iz x272),(bz b273),(bz b274),(bz b275),(iz x276)]),v64,v283,(iz x287),v288,(bz b292),(bz b295),v112,v296,(iz x300),v301,(bz b305),(bz b308),bf,v897,(iz x898),v899,v900,v901,v902,v903,v904,v905,v906,v907,v908,v909,v910,v911,v912,v913,v914,v915,v916,v917,v918,v919,v920,v921,v922,v923,v924,v925,v926,v927,v928,v929,v930,v931,v932,v933,v934,v935,v936,v937,v938,(bz b939),(bz b940),v941,v942,v943,v944,v945,v946,v947,v948,v949,v950,v951,v952,v953,v954,v955,v956,v957,v958,v959,v960,v961,v962,v963,v964,v965,v966,v967,v968,v969,v970,v971,v972,v973,v974,v975,v976,v220,v221,v222,v223,v224,v225,v226,v227,v228,v229,v230,v231,v232,v233,v234,v235,v236,v237,v238,v239,v240,v241,v242,v243,v244,v245,v246,v247,v248,v249,v250,v251,v252,v253,v254,v255,v256,v257,v258,v259,v260,v261,v262,v263,v264],(St.H s311)⟩)
 (none)
def r3R1 (C:Cb) (d:Nat) (a0:List AV) (a1 a2 a3 a4 a5 a6 a7 a8:Int) (a9:List AV) (v0:AV) (b37 b38 b39:Bool) (v40 v41 v42:AV) (b43 b44:Bool) (v45 v46 v47 v53:AV) (x54 x55 x56 x57 x58 x59 x60 x61:Int) (v64 v68:AV) (x69 x70 x71 x72 x73 x74 x75 x76 x79:Int) (v89:AV) (x90 x91 x92 x93 x94 x95 x96 x97:Int) (v101:AV) (x102 x103 x104 x105 x106 x107 x108 x109 x110 x111:Int) (v112:AV) (x116:Int):St→(Ex→St→Ans)→Ans:=fun s117 k118 =>
 cnd ((List.length s117.env) == 179)
 (sames C s117.env 0 [(.agg [(.lst a0),(iz a1),(iz a2),(iz a3),(iz a4),(iz a5),(iz a6),(iz a7),(iz a8)]),(.lst a9),v0,tz] <|
 C.bool s117.env[4]? fun b120 =>
 sames C s117.env 5 [v64,v112,tz] <|
 C.any s117.env[8]? fun v121 =>
 C.any s117.env[9]? fun v122 =>
 sames C s117.env 10 [(.bool b37),(.bool b38),(.bool b39),v40,v41,v42,(.bool b43),(.bool b44),v45,v46,v47,bf,tz,(.agg [v53,(iz x54),(iz x55),(iz x56),(iz x57),(iz x58),(iz x59),(iz x60),(iz x61)]),v64,(.agg [v68,(iz x69),(iz x70),(iz x71),(iz x72),(iz x73),(iz x74),(iz x75),(iz x76)]),(iz x79),bf,tz,tz,v64,bf,(.agg [v89,(iz x90),(iz x91),(iz x92),(iz x93),(iz x94),(iz x95),(iz x96),(iz x97)]),(.agg [v101,(iz x102),(iz x103),(iz x104),(iz x105),(iz x106),(iz x107),(iz x108),(iz x109),(iz x110),(iz x111)]),v112,(.lst a9),(iz x116)] <|
 C.int .i64 s117.env[37]? fun x123 =>
 C.any s117.env[38]? fun v124 =>
 C.any s117.env[39]? fun v125 =>
 C.any s117.env[40]? fun v126 =>
 C.any s117.env[41]? fun v127 =>
 C.any s117.env[42]? fun v128 =>
 C.any s117.env[43]? fun v129 =>
 C.any s117.env[44]? fun v130 =>
 C.any s117.env[45]? fun v131 =>
 C.any s117.env[46]? fun v132 =>
 C.any s117.env[47]? fun v133 =>
 C.any s117.env[48]? fun v134 =>
 C.any s117.env[49]? fun v135 =>
 C.any s117.env[50]? fun v136 =>
 C.any s117.env[51]? fun v137 =>
 C.any s117.env[52]? fun v138 =>
 C.any s117.env[53]? fun v139 =>
 C.any s117.env[54]? fun v140 =>
 C.any s117.env[55]? fun v141 =>
 C.any s117.env[56]? fun v142 =>
 C.any s117.env[57]? fun v143 =>
 C.any s117.env[58]? fun v144 =>
 C.any s117.env[59]? fun v145 =>
 C.any s117.env[60]? fun v146 =>
 C.any s117.env[61]? fun v147 =>
 C.any s117.env[62]? fun v148 =>
 C.any s117.env[63]? fun v149 =>
 C.any s117.env[64]? fun v150 =>
 C.any s117.env[65]? fun v151 =>
 C.any s117.env[66]? fun v152 =>
 C.any s117.env[67]? fun v153 =>
 C.any s117.env[68]? fun v154 =>
 C.any s117.env[69]? fun v155 =>
 C.any s117.env[70]? fun v156 =>
 C.any s117.env[71]? fun v157 =>
 C.any s117.env[72]? fun v158 =>
 C.any s117.env[73]? fun v159 =>
 C.any s117.env[74]? fun v160 =>
 C.any s117.env[75]? fun v161 =>
 C.any s117.env[76]? fun v162 =>
 C.any s117.env[77]? fun v163 =>
 C.any s117.env[78]? fun v164 =>
 C.any s117.env[79]? fun v165 =>
 C.any s117.env[80]? fun v166 =>
 C.any s117.env[81]? fun v167 =>
 C.any s117.env[82]? fun v168 =>
 C.any s117.env[83]? fun v169 =>
 C.any s117.env[84]? fun v170 =>
 C.any s117.env[85]? fun v171 =>
 C.any s117.env[86]? fun v172 =>
 C.any s117.env[87]? fun v173 =>
 C.any s117.env[88]? fun v174 =>
 C.any s117.env[89]? fun v175 =>
 C.any s117.env[90]? fun v176 =>
 C.any s117.env[91]? fun v177 =>
 C.any s117.env[92]? fun v178 =>
 C.any s117.env[93]? fun v179 =>
 C.any s117.env[94]? fun v180 =>
 C.any s117.env[95]? fun v181 =>
 C.any s117.env[96]? fun v182 =>
 C.any s117.env[97]? fun v183 =>
 C.any s117.env[98]? fun v184 =>
 C.any s117.env[99]? fun v185 =>
 C.any s117.env[100]? fun v186 =>
 C.any s117.env[101]? fun v187 =>
 C.any s117.env[102]? fun v188 =>
 C.any s117.env[103]? fun v189 =>
 C.any s117.env[104]? fun v190 =>
 C.any s117.env[105]? fun v191 =>
 C.any s117.env[106]? fun v192 =>
 C.any s117.env[107]? fun v193 =>
 C.any s117.env[108]? fun v194 =>
 C.any s117.env[109]? fun v195 =>
 C.any s117.env[110]? fun v196 =>
 C.any s117.env[111]? fun v197 =>
 C.any s117.env[112]? fun v198 =>
 C.any s117.env[113]? fun v199 =>
 C.any s117.env[114]? fun v200 =>
 C.any s117.env[115]? fun v201 =>
 C.any s117.env[116]? fun v202 =>
 C.any s117.env[117]? fun v203 =>
 C.any s117.env[118]? fun v204 =>
 C.any s117.env[119]? fun v205 =>
 C.any s117.env[120]? fun v206 =>
 C.any s117.env[121]? fun v207 =>
 C.any s117.env[122]? fun v208 =>
 C.any s117.env[123]? fun v209 =>
 C.any s117.env[124]? fun v210 =>
 C.any s117.env[125]? fun v211 =>
 C.any s117.env[126]? fun v212 =>
 C.any s117.env[127]? fun v213 =>
 C.any s117.env[128]? fun v214 =>
 C.any s117.env[129]? fun v215 =>
 C.any s117.env[130]? fun v216 =>
 C.any s117.env[131]? fun v217 =>
 C.any s117.env[132]? fun v218 =>
 C.any s117.env[133]? fun v219 =>
 C.any s117.env[134]? fun v220 =>
 C.any s117.env[135]? fun v221 =>
 C.any s117.env[136]? fun v222 =>
 C.any s117.env[137]? fun v223 =>
 C.any s117.env[138]? fun v224 =>
 C.any s117.env[139]? fun v225 =>
 C.any s117.env[140]? fun v226 =>
 C.any s117.env[141]? fun v227 =>
 C.any s117.env[142]? fun v228 =>
 C.any s117.env[143]? fun v229 =>
 C.any s117.env[144]? fun v230 =>
 C.any s117.env[145]? fun v231 =>
 C.any s117.env[146]? fun v232 =>
 C.any s117.env[147]? fun v233 =>
 C.any s117.env[148]? fun v234 =>
 C.any s117.env[149]? fun v235 =>
 C.any s117.env[150]? fun v236 =>
 C.any s117.env[151]? fun v237 =>
 C.any s117.env[152]? fun v238 =>
 C.any s117.env[153]? fun v239 =>
 C.any s117.env[154]? fun v240 =>
 C.any s117.env[155]? fun v241 =>
 C.any s117.env[156]? fun v242 =>
 C.any s117.env[157]? fun v243 =>
 C.any s117.env[158]? fun v244 =>
 C.any s117.env[159]? fun v245 =>
 C.any s117.env[160]? fun v246 =>
 C.any s117.env[161]? fun v247 =>
 C.any s117.env[162]? fun v248 =>
 C.any s117.env[163]? fun v249 =>
 C.any s117.env[164]? fun v250 =>
 C.any s117.env[165]? fun v251 =>
 C.any s117.env[166]? fun v252 =>
 C.any s117.env[167]? fun v253 =>
 C.any s117.env[168]? fun v254 =>
 C.any s117.env[169]? fun v255 =>
 C.any s117.env[170]? fun v256 =>
 C.any s117.env[171]? fun v257 =>
 C.any s117.env[172]? fun v258 =>
 C.any s117.env[173]? fun v259 =>
 C.any s117.env[174]? fun v260 =>
 C.any s117.env[175]? fun v261 =>
 C.any s117.env[176]? fun v262 =>
 C.any s117.env[177]? fun v263 =>
 C.any s117.env[178]? fun v264 =>
 cnd (decide (x123 < x116))
 (C.hop (St.H s117) (.ixAS .any 7 (.v (.lst a9)) (.v (iz x123))) fun v265 h266 =>
 C.hop h266 (.load true 7 (.v v265)) fun v267 h268 =>
 C.agg 7 (some v267) fun l269 =>
 C.int .i64 l269[0]? fun x270 =>
 C.int .i64 l269[1]? fun x271 =>
 C.int .i64 l269[2]? fun x272 =>
 C.bool l269[3]? fun b273 =>
 C.bool l269[4]? fun b274 =>
 C.bool l269[5]? fun b275 =>
 C.int .i64 l269[6]? fun x276 =>
 C.hop h268 (.alloc E35) fun v277 h278 =>
 C.hop h278 (.store 7 (.v v277) (.v (.agg [(iz x270),(iz x271),(iz x272),(.bool b273),(.bool b274),(.bool b275),(iz x276)]))) fun v279 h280 =>
 C.grow h280 [] fun n281 h282 =>
 C.hop h282 (.fldA 6 (.v v277)) fun v283 h284 =>
 C.hop h284 (.load false 1 (.v v283)) fun v285 h286 =>
 C.int .i64 (some v285) fun x287 =>
 C.hop h286 (.fldA 5 (.v v277)) fun v288 h289 =>
 C.hop h289 (.load false 1 (.v v288)) fun v290 h291 =>
 C.bool (some v290) fun b292 =>
 C.cal M (pcall M d) 12 true 11 [v64,(iz x287),(.bool b292)] h291 fun v293 h294 =>
 C.bool (some v293) fun b295 =>
 C.hop h294 (.fldA 6 (.v v277)) fun v296 h297 =>
 C.hop h297 (.load false 1 (.v v296)) fun v298 h299 =>
 C.int .i64 (some v298) fun x300 =>
 C.keep h291 h294 [v296] <|
 C.hop h299 (.fldA 5 (.v v277)) fun v301 h302 =>
 C.hop h302 (.load false 1 (.v v301)) fun v303 h304 =>
 C.bool (some v303) fun b305 =>
 C.keep h291 h294 [v301] <|
 C.cal M (pcall M d) 12 true 12 [v112,(iz x300),(.bool b305)] h304 fun v306 h307 =>
 C.bool (some v306) fun b308 =>
 cnd (xor true (b295 == b308))
 (k118 .ret ⟨[(.agg [(.lst a0),(iz a1),(iz a2),(iz a3),(iz a4),(iz a5),(iz a6),(iz a7),(iz a8)]),(.lst a9),v0,tz,bf,v64,v112,tz,v277,v122,(bz b37),(bz b38),(bz b39),v40,v41,v42,(bz b43),(bz b44),v45,v46,v47,bf,tz,(.agg [v53,(iz x54),(iz x55),(iz x56),(iz x57),(iz x58),(iz x59),(iz x60),(iz x61)]),v64,(.agg [v68,(iz x69),(iz x70),(iz x71),(iz x72),(iz x73),(iz x74),(iz x75),(iz x76)]),(iz x79),bf,tz,tz,v64,bf,(.agg [v89,(iz x90),(iz x91),(iz x92),(iz x93),(iz x94),(iz x95),(iz x96),(iz x97)]),(.agg [v101,(iz x102),(iz x103),(iz x104),(iz x105),(iz x106),(iz x107),(iz x108),(iz x109),(iz x110),(iz x111)]),v112,(.lst a9),(iz x116),(iz x123),bt,v265,(.agg [(iz x270),(iz x271),(iz x272),(bz b273),(bz b274),(bz b275),(iz x276)]),v64,v283,(iz x287),v288,(bz b292),(bz b295),v112,v296,(iz x300),v301,(bz b305),(bz b308),bt,v140,v141,v142,v143,v144,v145,v146,v147,v148,v149,v150,v151,v152,v153,v154,v155,v156,v157,v158,v159,v160,v161,v162,v163,v164,v165,v166,v167,v168,v169,v170,v171,v172,v173,v174,v175,v176,v177,v178,v179,v180,v181,v182,v183,v184,v185,v186,v187,v188,v189,v190,v191,v192,v193,v194,v195,v196,v197,v198,v199,v200,v201,v202,v203,v204,v205,v206,v207,v208,v209,v210,v211,v212,v213,v214,v215,v216,v217,v218,v219,v220,v221,v222,v223,v224,v225,v226,v227,v228,v229,v230,v231,v232,v233,v234,v235,v236,v237,v238,v239,v240,v241,v242,v243,v244,v245,v246,v247,v248,v249,v250,v251,v252,v253,v254,v255,v256,v257,v258,v259,v260,v261,v262,v263,v264],h307⟩)
 (C.iter (r3R2 C d a0 a1 a2 a3 a4 a5 a6 a7 a8 a9 v0 b37 b38 b39 v40 v41 v42 b43 b44 v45 v46 v47 v53 x54 x55 x56 x57 x58 x59 x60 x61 v64 v68 x69 x70 x71 x72 x73 x74 x75 x76 x79 v89 x90 x91 x92 x93 x94 x95 x96 x97 v101 x102 x103 x104 x105 x106 x107 x108 x109 x110 x111 v112 x116 k118 x123 v220 v221 v222 v223 v224 v225 v226 v227 v228 v229 v230 v231 v232 v233 v234 v235 v236 v237 v238 v239 v240 v241 v242 v243 v244 v245 v246 v247 v248 v249 v250 v251 v252 v253 v254 v255 v256 v257 v258 v259 v260 v261 v262 v263 v264 v265 x270 x271 x272 b273 b274 b275 x276 v277 v283 x287 v288 b292 b295 v296 x300 v301 b305 b308) 1 ⟨[(.agg [(.lst a0),(iz a1),(iz a2),(iz a3),(iz a4),(iz a5),(iz a6),(iz a7),(iz a8)]),(.lst a9),v0,tz,(bz b120),v64,v112,tz,v277,v122,(bz b37),(bz b38),(bz b39),v40,v41,v42,(bz b43),(bz b44),v45,v46,v47,bf,tz,(.agg [v53,(iz x54),(iz x55),(iz x56),(iz x57),(iz x58),(iz x59),(iz x60),(iz x61)]),v64,(.agg [v68,(iz x69),(iz x70),(iz x71),(iz x72),(iz x73),(iz x74),(iz x75),(iz x76)]),(iz x79),bf,tz,tz,v64,bf,(.agg [v89,(iz x90),(iz x91),(iz x92),(iz x93),(iz x94),(iz x95),(iz x96),(iz x97)]),(.agg [v101,(iz x102),(iz x103),(iz x104),(iz x105),(iz x106),(iz x107),(iz x108),(iz x109),(iz x110),(iz x111)]),v112,(.lst a9),(iz x116),(iz x123),bt,v265,(.agg [(iz x270),(iz x271),(iz x272),(bz b273),(bz b274),(bz b275),(iz x276)]),v64,v283,(iz x287),v288,(bz b292),(bz b295),v112,v296,(iz x300),v301,(bz b305),(bz b308),bf,v140,v141,v142,v143,v144,v145,v146,v147,v148,v149,v150,v151,v152,v153,v154,v155,v156,v157,v158,v159,v160,v161,v162,v163,v164,v165,v166,v167,v168,v169,v170,v171,v172,v173,v174,v175,v176,v177,v178,v179,v180,v181,v182,v183,v184,v185,v186,v187,v188,v189,v190,v191,v192,v193,v194,v195,v196,v197,v198,v199,v200,v201,v202,v203,v204,v205,v206,v207,v208,v209,v210,v211,v212,v213,v214,v215,v216,v217,v218,v219,v220,v221,v222,v223,v224,v225,v226,v227,v228,v229,v230,v231,v232,v233,v234,v235,v236,v237,v238,v239,v240,v241,v242,v243,v244,v245,v246,v247,v248,v249,v250,v251,v252,v253,v254,v255,v256,v257,v258,v259,v260,v261,v262,v263,v264],h307⟩ [2000000] [r3X2_0 C d a0 a1 a2 a3 a4 a5 a6 a7 a8 a9 v0 b37 b38 b39 v40 v41 v42 b43 b44 v45 v46 v47 v53 x54 x55 x56 x57 x58 x59 x60 x61 v64 v68 x69 x70 x71 x72 x73 x74 x75 x76 x79 v89 x90 x91 x92 x93 x94 x95 x96 x97 v101 x102 x103 x104 x105 x106 x107 x108 x109 x110 x111 v112 x116 k118 x123 v220 v221 v222 v223 v224 v225 v226 v227 v228 v229 v230 v231 v232 v233 v234 v235 v236 v237 v238 v239 v240 v241 v242 v243 v244 v245 v246 v247 v248 v249 v250 v251 v252 v253 v254 v255 v256 v257 v258 v259 v260 v261 v262 v263 v264 v265 x270 x271 x272 b273 b274 b275 x276 v277 v283 x287 v288 b292 b295 v296 x300 v301 b305 b308] (r3E2 C d a0 a1 a2 a3 a4 a5 a6 a7 a8 a9 v0 b37 b38 b39 v40 v41 v42 b43 b44 v45 v46 v47 v53 x54 x55 x56 x57 x58 x59 x60 x61 v64 v68 x69 x70 x71 x72 x73 x74 x75 x76 x79 v89 x90 x91 x92 x93 x94 x95 x96 x97 v101 x102 x103 x104 x105 x106 x107 x108 x109 x110 x111 v112 x116 k118 x123 v220 v221 v222 v223 v224 v225 v226 v227 v228 v229 v230 v231 v232 v233 v234 v235 v236 v237 v238 v239 v240 v241 v242 v243 v244 v245 v246 v247 v248 v249 v250 v251 v252 v253 v254 v255 v256 v257 v258 v259 v260 v261 v262 v263 v264 v265 x270 x271 x272 b273 b274 b275 x276 v277 v283 x287 v288 b292 b295 v296 x300 v301 b305 b308)))
 (k118 (.exit 0) ⟨[(.agg [(.lst a0),(iz a1),(iz a2),(iz a3),(iz a4),(iz a5),(iz a6),(iz a7),(iz a8)]),(.lst a9),v0,tz,(bz b120),v64,v112,tz,v121,v122,(bz b37),(bz b38),(bz b39),v40,v41,v42,(bz b43),(bz b44),v45,v46,v47,bf,tz,(.agg [v53,(iz x54),(iz x55),(iz x56),(iz x57),(iz x58),(iz x59),(iz x60),(iz x61)]),v64,(.agg [v68,(iz x69),(iz x70),(iz x71),(iz x72),(iz x73),(iz x74),(iz x75),(iz x76)]),(iz x79),bf,tz,tz,v64,bf,(.agg [v89,(iz x90),(iz x91),(iz x92),(iz x93),(iz x94),(iz x95),(iz x96),(iz x97)]),(.agg [v101,(iz x102),(iz x103),(iz x104),(iz x105),(iz x106),(iz x107),(iz x108),(iz x109),(iz x110),(iz x111)]),v112,(.lst a9),(iz x116),(iz x123),bf,v125,v126,v127,v128,v129,v130,v131,v132,v133,v134,v135,v136,v137,v138,v139,v140,v141,v142,v143,v144,v145,v146,v147,v148,v149,v150,v151,v152,v153,v154,v155,v156,v157,v158,v159,v160,v161,v162,v163,v164,v165,v166,v167,v168,v169,v170,v171,v172,v173,v174,v175,v176,v177,v178,v179,v180,v181,v182,v183,v184,v185,v186,v187,v188,v189,v190,v191,v192,v193,v194,v195,v196,v197,v198,v199,v200,v201,v202,v203,v204,v205,v206,v207,v208,v209,v210,v211,v212,v213,v214,v215,v216,v217,v218,v219,v220,v221,v222,v223,v224,v225,v226,v227,v228,v229,v230,v231,v232,v233,v234,v235,v236,v237,v238,v239,v240,v241,v242,v243,v244,v245,v246,v247,v248,v249,v250,v251,v252,v253,v254,v255,v256,v257,v258,v259,v260,v261,v262,v263,v264],(St.H s117)⟩))
 (none)
def r3X1_0 (C:Cb) (d:Nat) (a0:List AV) (a1 a2 a3 a4 a5 a6 a7 a8:Int) (a9:List AV) (v0:AV) (b37 b38 b39:Bool) (v40 v41 v42:AV) (b43 b44:Bool) (v45 v46 v47 v53:AV) (x54 x55 x56 x57 x58 x59 x60 x61:Int) (v64 v68:AV) (x69 x70 x71 x72 x73 x74 x75 x76 x79:Int) (v89:AV) (x90 x91 x92 x93 x94 x95 x96 x97:Int) (v101:AV) (x102 x103 x104 x105 x106 x107 x108 x109 x110 x111:Int) (v112:AV) (x116:Int):St→Ans:=fun s977 =>
 cnd ((List.length s977.env) == 179)
 (sames C s977.env 0 [(.agg [(.lst a0),(iz a1),(iz a2),(iz a3),(iz a4),(iz a5),(iz a6),(iz a7),(iz a8)]),(.lst a9),v0,tz] <|
 C.bool s977.env[4]? fun b978 =>
 sames C s977.env 5 [v64,v112,tz] <|
 anys C s977.env 8 2 <|
 sames C s977.env 10 [(.bool b37),(.bool b38),(.bool b39),v40,v41,v42,(.bool b43),(.bool b44),v45,v46,v47,bf,tz,(.agg [v53,(iz x54),(iz x55),(iz x56),(iz x57),(iz x58),(iz x59),(iz x60),(iz x61)]),v64,(.agg [v68,(iz x69),(iz x70),(iz x71),(iz x72),(iz x73),(iz x74),(iz x75),(iz x76)]),(iz x79),bf,tz,tz,v64,bf,(.agg [v89,(iz x90),(iz x91),(iz x92),(iz x93),(iz x94),(iz x95),(iz x96),(iz x97)]),(.agg [v101,(iz x102),(iz x103),(iz x104),(iz x105),(iz x106),(iz x107),(iz x108),(iz x109),(iz x110),(iz x111)]),v112,(.lst a9),(iz x116)] <|
 C.int .i64 s977.env[37]? fun x981 =>
 anys C s977.env 38 141 <|
 C.fin (St.H s977) bt)
 (none)
def r3E1 (C:Cb) (d:Nat) (a0:List AV) (a1 a2 a3 a4 a5 a6 a7 a8:Int) (a9:List AV) (v0:AV) (b37 b38 b39:Bool) (v40 v41 v42:AV) (b43 b44:Bool) (v45 v46 v47 v53:AV) (x54 x55 x56 x57 x58 x59 x60 x61:Int) (v64 v68:AV) (x69 x70 x71 x72 x73 x74 x75 x76 x79:Int) (v89:AV) (x90 x91 x92 x93 x94 x95 x96 x97:Int) (v101:AV) (x102 x103 x104 x105 x106 x107 x108 x109 x110 x111:Int) (v112:AV) (x116:Int):St→Ans:=fun s119 =>
 cnd ((List.length s119.env) == 179)
 (sames C s119.env 0 [(.agg [(.lst a0),(iz a1),(iz a2),(iz a3),(iz a4),(iz a5),(iz a6),(iz a7),(iz a8)]),(.lst a9),v0,tz] <|
 C.bool s119.env[4]? fun b1123 =>
 sames C s119.env 5 [v64,v112,tz] <|
 anys C s119.env 8 2 <|
 sames C s119.env 10 [(.bool b37),(.bool b38),(.bool b39),v40,v41,v42,(.bool b43),(.bool b44),v45,v46,v47,bf,tz,(.agg [v53,(iz x54),(iz x55),(iz x56),(iz x57),(iz x58),(iz x59),(iz x60),(iz x61)]),v64,(.agg [v68,(iz x69),(iz x70),(iz x71),(iz x72),(iz x73),(iz x74),(iz x75),(iz x76)]),(iz x79),bf,tz,tz,v64,bf,(.agg [v89,(iz x90),(iz x91),(iz x92),(iz x93),(iz x94),(iz x95),(iz x96),(iz x97)]),(.agg [v101,(iz x102),(iz x103),(iz x104),(iz x105),(iz x106),(iz x107),(iz x108),(iz x109),(iz x110),(iz x111)]),v112,(.lst a9),(iz x116)] <|
 C.int .i64 s119.env[37]? fun x1126 =>
 anys C s119.env 38 2 <|
 C.agg 7 s119.env[40]? fun l1129 =>
 C.int .i64 l1129[0]? fun x1130 =>
 C.int .i64 l1129[1]? fun x1131 =>
 C.int .i64 l1129[2]? fun x1132 =>
 C.bool l1129[3]? fun b1133 =>
 C.bool l1129[4]? fun b1134 =>
 C.bool l1129[5]? fun b1135 =>
 C.int .i64 l1129[6]? fun x1136 =>
 anys C s119.env 41 2 <|
 C.int .i64 s119.env[43]? fun x1139 =>
 C.any s119.env[44]? fun v1140 =>
 C.bool s119.env[45]? fun b1141 =>
 C.bool s119.env[46]? fun b1142 =>
 anys C s119.env 47 2 <|
 C.int .i64 s119.env[49]? fun x1145 =>
 C.any s119.env[50]? fun v1146 =>
 C.bool s119.env[51]? fun b1147 =>
 C.bool s119.env[52]? fun b1148 =>
 C.bool s119.env[53]? fun b1149 =>
 anys C s119.env 54 125 <|
 C.fin (St.H s119) (.bool b1123))
 (none)
def r3R0 (C:Cb) (d:Nat) (a0:List AV) (a1 a2 a3 a4 a5 a6 a7 a8:Int) (a9:List AV) (v0:AV):St→(Ex→St→Ans)→Ans:=fun s2 k3 =>
 cnd ((List.length s2.env) == 179)
 (sames C s2.env 0 [(.agg [(.lst a0),(iz a1),(iz a2),(iz a3),(iz a4),(iz a5),(iz a6),(iz a7),(iz a8)]),(.lst a9),v0,tz,bf,tz,tz,tz,tz,tz] <|
 anys C s2.env 10 12 <|
 sames C s2.env 22 [tz,tz,tz,tz,tz,tz,tz,tz,tz,tz,tz,tz,tz,tz,tz,tz,tz,tz,tz,tz,tz,tz,tz,tz,tz,tz,tz,tz,tz,tz,tz,tz,tz,tz,tz,tz,tz,tz,tz,tz,tz,tz,tz,tz,tz,tz,tz,tz,tz,tz,tz,tz,tz,tz,tz,tz,tz,tz,tz,tz,tz,tz,tz,tz,tz,tz,tz,tz,tz,tz,tz,tz,tz,tz,tz,tz,tz,tz,tz,tz,tz,tz,tz,tz,tz,tz,tz,tz,tz,tz,tz,tz,tz,tz,tz,tz,tz,tz,tz,tz,tz,tz,tz,tz,tz,tz,tz,tz,tz,tz,tz,tz,tz,tz,tz,tz,tz,tz,tz,tz,tz,tz,tz,tz,tz,tz,tz,tz,tz,tz,tz,tz,tz,tz,tz,tz,tz,tz,tz,tz,tz,tz,tz,tz,tz,tz,tz,tz,tz,tz,tz,tz,tz,tz,tz,tz,tz] <|
 C.bool (pcall M d 7 []) fun b17 =>
 cnd (!b17)
 (k3 (.exit 2000000) ⟨[(.agg [(.lst a0),(iz a1),(iz a2),(iz a3),(iz a4),(iz a5),(iz a6),(iz a7),(iz a8)]),(.lst a9),v0,tz,bf,tz,tz,tz,tz,tz,(bz b17),(bz (!b17)),bt,tz,tz,tz,bt,bt,tz,tz,tz,bt,tz,tz,tz,tz,tz,tz,tz,tz,tz,tz,tz,tz,tz,tz,tz,tz,tz,tz,tz,tz,tz,tz,tz,tz,tz,tz,tz,tz,tz,tz,tz,tz,tz,tz,tz,tz,tz,tz,tz,tz,tz,tz,tz,tz,tz,tz,tz,tz,tz,tz,tz,tz,tz,tz,tz,tz,tz,tz,tz,tz,tz,tz,tz,tz,tz,tz,tz,tz,tz,tz,tz,tz,tz,tz,tz,tz,tz,tz,tz,tz,tz,tz,tz,tz,tz,tz,tz,tz,tz,tz,tz,tz,tz,tz,tz,tz,tz,tz,tz,tz,tz,tz,tz,tz,tz,tz,tz,tz,tz,tz,tz,tz,tz,tz,tz,tz,tz,tz,tz,tz,tz,tz,tz,tz,tz,tz,tz,tz,tz,tz,tz,tz,tz,tz,tz,tz,tz,tz,tz,tz,tz,tz,tz,tz,tz,tz,tz,tz,tz,tz,tz,tz,tz,tz,tz,tz,tz],(St.H s2)⟩)
 (C.hop (St.H s2) (.load true 9 (.v v0)) fun v18 h19 =>
 C.agg 9 (some v18) fun l20 =>
 C.any l20[0]? fun v21 =>
 C.int .i64 l20[1]? fun x22 =>
 C.int .i64 l20[2]? fun x23 =>
 C.int .i64 l20[3]? fun x24 =>
 C.int .i64 l20[4]? fun x25 =>
 C.int .i64 l20[5]? fun x26 =>
 C.int .i64 l20[6]? fun x27 =>
 C.int .i64 l20[7]? fun x28 =>
 C.int .i64 l20[8]? fun x29 =>
 C.snp h19 [(.agg [v21,(iz x22),(iz x23),(iz x24),(iz x25),(iz x26),(iz x27),(iz x28),(iz x29)])] fun l30 b31 =>
 C.bool (pcall M d 8 l30) fun b32 =>
 cnd (b31 || true)
 (cnd (!b32)
 (k3 (.exit 2000000) ⟨[(.agg [(.lst a0),(iz a1),(iz a2),(iz a3),(iz a4),(iz a5),(iz a6),(iz a7),(iz a8)]),(.lst a9),v0,tz,bf,tz,tz,tz,tz,tz,(bz b17),(bz (!b17)),bf,(.agg [v21,(iz x22),(iz x23),(iz x24),(iz x25),(iz x26),(iz x27),(iz x28),(iz x29)]),(bz b32),(bz (!b32)),(bz (!b32)),bt,tz,tz,tz,bt,tz,tz,tz,tz,tz,tz,tz,tz,tz,tz,tz,tz,tz,tz,tz,tz,tz,tz,tz,tz,tz,tz,tz,tz,tz,tz,tz,tz,tz,tz,tz,tz,tz,tz,tz,tz,tz,tz,tz,tz,tz,tz,tz,tz,tz,tz,tz,tz,tz,tz,tz,tz,tz,tz,tz,tz,tz,tz,tz,tz,tz,tz,tz,tz,tz,tz,tz,tz,tz,tz,tz,tz,tz,tz,tz,tz,tz,tz,tz,tz,tz,tz,tz,tz,tz,tz,tz,tz,tz,tz,tz,tz,tz,tz,tz,tz,tz,tz,tz,tz,tz,tz,tz,tz,tz,tz,tz,tz,tz,tz,tz,tz,tz,tz,tz,tz,tz,tz,tz,tz,tz,tz,tz,tz,tz,tz,tz,tz,tz,tz,tz,tz,tz,tz,tz,tz,tz,tz,tz,tz,tz,tz,tz,tz,tz,tz,tz,tz,tz,tz,tz,tz,tz,tz,tz,tz,tz],h19⟩)
 (C.hop h19 (.bk .lenV [(.v (.lst a9))]) fun v33 h34 =>
 C.int .i64 (some v33) fun x35 =>
 k3 (.exit 2000000) ⟨[(.agg [(.lst a0),(iz a1),(iz a2),(iz a3),(iz a4),(iz a5),(iz a6),(iz a7),(iz a8)]),(.lst a9),v0,tz,bf,tz,tz,tz,tz,tz,(bz b17),(bz (!b17)),bf,(.agg [v21,(iz x22),(iz x23),(iz x24),(iz x25),(iz x26),(iz x27),(iz x28),(iz x29)]),(bz b32),(bz (!b32)),(bz (!b32)),bf,(.lst a9),(iz x35),(bz (decide (x35 > 200))),(bz (decide (x35 > 200))),tz,tz,tz,tz,tz,tz,tz,tz,tz,tz,tz,tz,tz,tz,tz,tz,tz,tz,tz,tz,tz,tz,tz,tz,tz,tz,tz,tz,tz,tz,tz,tz,tz,tz,tz,tz,tz,tz,tz,tz,tz,tz,tz,tz,tz,tz,tz,tz,tz,tz,tz,tz,tz,tz,tz,tz,tz,tz,tz,tz,tz,tz,tz,tz,tz,tz,tz,tz,tz,tz,tz,tz,tz,tz,tz,tz,tz,tz,tz,tz,tz,tz,tz,tz,tz,tz,tz,tz,tz,tz,tz,tz,tz,tz,tz,tz,tz,tz,tz,tz,tz,tz,tz,tz,tz,tz,tz,tz,tz,tz,tz,tz,tz,tz,tz,tz,tz,tz,tz,tz,tz,tz,tz,tz,tz,tz,tz,tz,tz,tz,tz,tz,tz,tz,tz,tz,tz,tz,tz,tz,tz,tz,tz,tz,tz,tz,tz,tz,tz,tz,tz,tz,tz,tz,tz,tz,tz],h34⟩))
 (none)))
 (none)
def r3X0_0 (C:Cb) (d:Nat) (a0:List AV) (a1 a2 a3 a4 a5 a6 a7 a8:Int) (a9:List AV) (v0:AV):St→Ans:=fun s36 =>
 cnd ((List.length s36.env) == 179)
 (sames C s36.env 0 [(.agg [(.lst a0),(iz a1),(iz a2),(iz a3),(iz a4),(iz a5),(iz a6),(iz a7),(iz a8)]),(.lst a9),v0,tz,bf,tz,tz,tz,tz,tz] <|
 C.bool s36.env[10]? fun b37 =>
 C.bool s36.env[11]? fun b38 =>
 C.bool s36.env[12]? fun b39 =>
 C.any s36.env[13]? fun v40 =>
 C.any s36.env[14]? fun v41 =>
 C.any s36.env[15]? fun v42 =>
 C.bool s36.env[16]? fun b43 =>
 C.bool s36.env[17]? fun b44 =>
 C.any s36.env[18]? fun v45 =>
 C.any s36.env[19]? fun v46 =>
 C.any s36.env[20]? fun v47 =>
 C.bool s36.env[21]? fun b48 =>
 sames C s36.env 22 [tz,tz,tz,tz,tz,tz,tz,tz,tz,tz,tz,tz,tz,tz,tz,tz,tz,tz,tz,tz,tz,tz,tz,tz,tz,tz,tz,tz,tz,tz,tz,tz,tz,tz,tz,tz,tz,tz,tz,tz,tz,tz,tz,tz,tz,tz,tz,tz,tz,tz,tz,tz,tz,tz,tz,tz,tz,tz,tz,tz,tz,tz,tz,tz,tz,tz,tz,tz,tz,tz,tz,tz,tz,tz,tz,tz,tz,tz,tz,tz,tz,tz,tz,tz,tz,tz,tz,tz,tz,tz,tz,tz,tz,tz,tz,tz,tz,tz,tz,tz,tz,tz,tz,tz,tz,tz,tz,tz,tz,tz,tz,tz,tz,tz,tz,tz,tz,tz,tz,tz,tz,tz,tz,tz,tz,tz,tz,tz,tz,tz,tz,tz,tz,tz,tz,tz,tz,tz,tz,tz,tz,tz,tz,tz,tz,tz,tz,tz,tz,tz,tz,tz,tz,tz,tz,tz,tz] <|
 cnd b48
 (C.bool (pcall M d 7 []) fun b49 =>
 C.fin (St.H s36) (.bool b49))
 (C.hop (St.H s36) (.load true 9 (.v v0)) fun v50 h51 =>
 C.agg 9 (some v50) fun l52 =>
 C.any l52[0]? fun v53 =>
 C.int .i64 l52[1]? fun x54 =>
 C.int .i64 l52[2]? fun x55 =>
 C.int .i64 l52[3]? fun x56 =>
 C.int .i64 l52[4]? fun x57 =>
 C.int .i64 l52[5]? fun x58 =>
 C.int .i64 l52[6]? fun x59 =>
 C.int .i64 l52[7]? fun x60 =>
 C.int .i64 l52[8]? fun x61 =>
 C.cal M (pcall M d) 12 true 9 [(.agg [v53,(iz x54),(iz x55),(iz x56),(iz x57),(iz x58),(iz x59),(iz x60),(iz x61)])] h51 fun v62 h63 =>
 C.any (some v62) fun v64 =>
 C.hop h63 (.load true 9 (.v v0)) fun v65 h66 =>
 C.agg 9 (some v65) fun l67 =>
 C.any l67[0]? fun v68 =>
 C.int .i64 l67[1]? fun x69 =>
 C.int .i64 l67[2]? fun x70 =>
 C.int .i64 l67[3]? fun x71 =>
 C.int .i64 l67[4]? fun x72 =>
 C.int .i64 l67[5]? fun x73 =>
 C.int .i64 l67[6]? fun x74 =>
 C.int .i64 l67[7]? fun x75 =>
 C.int .i64 l67[8]? fun x76 =>
 C.snp h66 [(.agg [v68,(iz x69),(iz x70),(iz x71),(iz x72),(iz x73),(iz x74),(iz x75),(iz x76)])] fun l77 b78 =>
 C.int .i64 (pcall M d 10 l77) fun x79 =>
 cnd (b78 || true)
 (cnd (x79 != 0)
 (C.hop h66 (.eqv false 1 [] (.v v64) (.v .nilp)) fun v80 h81 =>
 C.bool (some v80) fun b82 =>
 C.fin h81 (.bool b82))
 (C.hop h66 (.eqv false 1 [] (.v v64) (.v .nilp)) fun v83 h84 =>
 C.bool (some v83) fun b85 =>
 cnd b85
 (C.fin h84 bf)
 (C.hop h84 (.load true 9 (.v v0)) fun v86 h87 =>
 C.agg 9 (some v86) fun l88 =>
 C.any l88[0]? fun v89 =>
 C.int .i64 l88[1]? fun x90 =>
 C.int .i64 l88[2]? fun x91 =>
 C.int .i64 l88[3]? fun x92 =>
 C.int .i64 l88[4]? fun x93 =>
 C.int .i64 l88[5]? fun x94 =>
 C.int .i64 l88[6]? fun x95 =>
 C.int .i64 l88[7]? fun x96 =>
 C.int .i64 l88[8]? fun x97 =>
 C.hop h87 (.build [(.zsl true),(iz 0),(iz 0),(iz 0),(iz 0),(iz 0),(iz 0),(iz 0),(iz 0),(iz 0),(iz 0)] [(0,9,(.v (.agg [v89,(iz x90),(iz x91),(iz x92),(iz x93),(iz x94),(iz x95),(iz x96),(iz x97)])))]) fun v98 h99 =>
 C.agg 11 (some v98) fun l100 =>
 C.any l100[0]? fun v101 =>
 C.int .i64 l100[1]? fun x102 =>
 C.int .i64 l100[2]? fun x103 =>
 C.int .i64 l100[3]? fun x104 =>
 C.int .i64 l100[4]? fun x105 =>
 C.int .i64 l100[5]? fun x106 =>
 C.int .i64 l100[6]? fun x107 =>
 C.int .i64 l100[7]? fun x108 =>
 C.int .i64 l100[8]? fun x109 =>
 C.int .i64 l100[9]? fun x110 =>
 C.int .i64 l100[10]? fun x111 =>
 C.hop h99 (.box E33 (.v (.agg [v101,(iz x102),(iz x103),(iz x104),(iz x105),(iz x106),(iz x107),(iz x108),(iz x109),(iz x110),(iz x111)]))) fun v112 h113 =>
 C.hop h113 (.bk .lenV [(.v (.lst a9))]) fun v114 h115 =>
 C.int .i64 (some v114) fun x116 =>
 C.iter (r3R1 C d a0 a1 a2 a3 a4 a5 a6 a7 a8 a9 v0 b37 b38 b39 v40 v41 v42 b43 b44 v45 v46 v47 v53 x54 x55 x56 x57 x58 x59 x60 x61 v64 v68 x69 x70 x71 x72 x73 x74 x75 x76 x79 v89 x90 x91 x92 x93 x94 x95 x96 x97 v101 x102 x103 x104 x105 x106 x107 x108 x109 x110 x111 v112 x116) 10000000000000000000 ⟨[(.agg [(.lst a0),(iz a1),(iz a2),(iz a3),(iz a4),(iz a5),(iz a6),(iz a7),(iz a8)]),(.lst a9),v0,tz,bf,v64,v112,tz,tz,tz,(bz b37),(bz b38),(bz b39),v40,v41,v42,(bz b43),(bz b44),v45,v46,v47,bf,tz,(.agg [v53,(iz x54),(iz x55),(iz x56),(iz x57),(iz x58),(iz x59),(iz x60),(iz x61)]),v64,(.agg [v68,(iz x69),(iz x70),(iz x71),(iz x72),(iz x73),(iz x74),(iz x75),(iz x76)]),(iz x79),bf,tz,tz,v64,bf,(.agg [v89,(iz x90),(iz x91),(iz x92),(iz x93),(iz x94),(iz x95),(iz x96),(iz x97)]),(.agg [v101,(iz x102),(iz x103),(iz x104),(iz x105),(iz x106),(iz x107),(iz x108),(iz x109),(iz x110),(iz x111)]),v112,(.lst a9),(iz x116),(iz 0),tz,tz,tz,tz,tz,tz,tz,tz,tz,tz,tz,tz,tz,tz,tz,tz,tz,tz,tz,tz,tz,tz,tz,tz,tz,tz,tz,tz,tz,tz,tz,tz,tz,tz,tz,tz,tz,tz,tz,tz,tz,tz,tz,tz,tz,tz,tz,tz,tz,tz,tz,tz,tz,tz,tz,tz,tz,tz,tz,tz,tz,tz,tz,tz,tz,tz,tz,tz,tz,tz,tz,tz,tz,tz,tz,tz,tz,tz,tz,tz,tz,tz,tz,tz,tz,tz,tz,tz,tz,tz,tz,tz,tz,tz,tz,tz,tz,tz,tz,tz,tz,tz,tz,tz,tz,tz,tz,tz,tz,tz,tz,tz,tz,tz,tz,tz,tz,tz,tz,tz,tz,tz,tz,tz,tz,tz,tz,tz,tz,tz,tz,tz,tz,tz,tz,tz,tz,tz,tz,tz,tz],h115⟩ [0] [r3X1_0 C d a0 a1 a2 a3 a4 a5 a6 a7 a8 a9 v0 b37 b38 b39 v40 v41 v42 b43 b44 v45 v46 v47 v53 x54 x55 x56 x57 x58 x59 x60 x61 v64 v68 x69 x70 x71 x72 x73 x74 x75 x76 x79 v89 x90 x91 x92 x93 x94 x95 x96 x97 v101 x102 x103 x104 x105 x106 x107 x108 x109 x110 x111 v112 x116] (r3E1 C d a0 a1 a2 a3 a4 a5 a6 a7 a8 a9 v0 b37 b38 b39 v40 v41 v42 b43 b44 v45 v46 v47 v53 x54 x55 x56 x57 x58 x59 x60 x61 v64 v68 x69 x70 x71 x72 x73 x74 x75 x76 x79 v89 x90 x91 x92 x93 x94 x95 x96 x97 v101 x102 x103 x104 x105 x106 x107 x108 x109 x110 x111 v112 x116))))
 (none)))
 (none)
def r3E0 (C:Cb) (d:Nat) (a0:List AV) (a1 a2 a3 a4 a5 a6 a7 a8:Int) (a9:List AV) (v0:AV):St→Ans:=fun s4 =>
 cnd ((List.length s4.env) == 179)
 (sames C s4.env 0 [(.agg [(.lst a0),(iz a1),(iz a2),(iz a3),(iz a4),(iz a5),(iz a6),(iz a7),(iz a8)]),(.lst a9),v0,tz,bf,tz,tz,tz,tz,tz] <|
 anys C s4.env 10 12 <|
 sames C s4.env 22 [tz,tz,tz,tz,tz,tz,tz,tz,tz,tz,tz,tz,tz,tz,tz,tz,tz,tz,tz,tz,tz,tz,tz,tz,tz,tz,tz,tz,tz,tz,tz,tz,tz,tz,tz,tz,tz,tz,tz,tz,tz,tz,tz,tz,tz,tz,tz,tz,tz,tz,tz,tz,tz,tz,tz,tz,tz,tz,tz,tz,tz,tz,tz,tz,tz,tz,tz,tz,tz,tz,tz,tz,tz,tz,tz,tz,tz,tz,tz,tz,tz,tz,tz,tz,tz,tz,tz,tz,tz,tz,tz,tz,tz,tz,tz,tz,tz,tz,tz,tz,tz,tz,tz,tz,tz,tz,tz,tz,tz,tz,tz,tz,tz,tz,tz,tz,tz,tz,tz,tz,tz,tz,tz,tz,tz,tz,tz,tz,tz,tz,tz,tz,tz,tz,tz,tz,tz,tz,tz,tz,tz,tz,tz,tz,tz,tz,tz,tz,tz,tz,tz,tz,tz,tz,tz,tz,tz] <|
 none)
 (none)
theorem r3 (C:Cb) (d:Nat) (a0:List AV) (a1 a2 a3 a4 a5 a6 a7 a8:Int) (a9:List AV):xcall C M unr d 3 [(.agg [(.lst a0),(iz a1),(iz a2),(iz a3),(iz a4),(iz a5),(iz a6),(iz a7),(iz a8)]),(.lst a9)] =
 C.hop [] (.box E24 (.v (.agg [(.lst a0),(iz a1),(iz a2),(iz a3),(iz a4),(iz a5),(iz a6),(iz a7),(iz a8)]))) fun v0 h1 =>
 C.iter (r3R0 C d a0 a1 a2 a3 a4 a5 a6 a7 a8 a9 v0) 1 ⟨[(.agg [(.lst a0),(iz a1),(iz a2),(iz a3),(iz a4),(iz a5),(iz a6),(iz a7),(iz a8)]),(.lst a9),v0,tz,bf,tz,tz,tz,tz,tz,tz,tz,tz,tz,tz,tz,tz,tz,tz,tz,tz,tz,tz,tz,tz,tz,tz,tz,tz,tz,tz,tz,tz,tz,tz,tz,tz,tz,tz,tz,tz,tz,tz,tz,tz,tz,tz,tz,tz,tz,tz,tz,tz,tz,tz,tz,tz,tz,tz,tz,tz,tz,tz,tz,tz,tz,tz,tz,tz,tz,tz,tz,tz,tz,tz,tz,tz,tz,tz,tz,tz,tz,tz,tz,tz,tz,tz,tz,tz,tz,tz,tz,tz,tz,tz,tz,tz,tz,tz,tz,tz,tz,tz,tz,tz,tz,tz,tz,tz,tz,tz,tz,tz,tz,tz,tz,tz,tz,tz,tz,tz,tz,tz,tz,tz,tz,tz,tz,tz,tz,tz,tz,tz,tz,tz,tz,tz,tz,tz,tz,tz,tz,tz,tz,tz,tz,tz,tz,tz,tz,tz,tz,tz,tz,tz,tz,tz,tz,tz,tz,tz,tz,tz,tz,tz,tz,tz,tz,tz,tz,tz,tz,tz,tz,tz,tz,tz,tz,tz],h1⟩ [2000000] [r3X0_0 C d a0 a1 a2 a3 a4 a5 a6 a7 a8 a9 v0] (r3E0 C d a0 a1 a2 a3 a4 a5 a6 a7 a8 a9 v0):=by kernel_rfl
end Go.Proofs.Ytdceaeifcniabaa.AE
