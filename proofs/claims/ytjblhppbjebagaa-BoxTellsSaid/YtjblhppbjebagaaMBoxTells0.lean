/- The texts that the law BoxTells needs, part 0. No conditions. -/
import Derived.Test.YtjblhppbjebagaaMc3
namespace Go.Proofs.Ytjblhppbjebagaa.AE
set_option linter.unusedVariables false
set_option linter.unusedSimpArgs false
set_option linter.constructorNameAsVariable false
open Go
set_option maxRecDepth 100000
def r21R0 (C : Cb) (d : Nat) (a0 a1 : List AV) : St → (Ex → St → Ans) → Ans := fun s0 k1 =>
  cnd ((List.length (St.env s0)) == 26)
   (C.same (St.env s0)[0]? (.lst a0) <|
   C.same (St.env s0)[1]? (.lst a1) <|
   C.same (St.env s0)[2]? (.tup []) <|
   C.same (St.env s0)[3]? (.tup []) <|
   C.bool (St.env s0)[4]? fun b3 =>
   C.int .i64 (St.env s0)[5]? fun x4 =>
   C.same (St.env s0)[6]? (.lst a0) <|
   C.same (St.env s0)[7]? (.int .i64 (((List.length a0) : Nat) : Int)) <|
   C.same (St.env s0)[8]? (.lst a1) <|
   C.same (St.env s0)[9]? (.int .i64 (((List.length a1) : Nat) : Int)) <|
   C.same (St.env s0)[10]? (.bool false) <|
   C.any (St.env s0)[11]? fun v5 =>
   C.any (St.env s0)[12]? fun v6 =>
   C.any (St.env s0)[13]? fun v7 =>
   C.any (St.env s0)[14]? fun v8 =>
   C.any (St.env s0)[15]? fun v9 =>
   C.any (St.env s0)[16]? fun v10 =>
   C.any (St.env s0)[17]? fun v11 =>
   C.any (St.env s0)[18]? fun v12 =>
   C.any (St.env s0)[19]? fun v13 =>
   C.any (St.env s0)[20]? fun v14 =>
   C.any (St.env s0)[21]? fun v15 =>
   C.any (St.env s0)[22]? fun v16 =>
   C.any (St.env s0)[23]? fun v17 =>
   C.any (St.env s0)[24]? fun v18 =>
   C.any (St.env s0)[25]? fun v19 =>
   C.sameH (St.H s0) [] <|
   cnd (decide (x4 < (((List.length a0) : Nat) : Int)))
   (cnd (decide (0 ≤ x4))
   (C.agg 2 a0[(Int.toNat x4)]? fun l20 =>
   C.int .i64 l20[0]? fun x21 =>
   C.int .i64 l20[1]? fun x22 =>
   cnd (decide (0 ≤ x4))
   (C.agg 2 a1[(Int.toNat x4)]? fun l23 =>
   C.int .i64 l23[0]? fun x24 =>
   C.int .i64 l23[1]? fun x25 =>
   cnd (xor true ((x21 == x24) && ((x22 == x25) && true)))
   (k1 .ret ⟨[(.lst a0), (.lst a1), (.tup []), (.tup []), (.bool false), (.int .i64 x4), (.lst a0), (.int .i64 (((List.length a0) : Nat) : Int)), (.lst a1), (.int .i64 (((List.length a1) : Nat) : Int)), (.bool false), (.int .i64 x4), (.lst a0), (.int .i64 (((List.length a0) : Nat) : Int)), (.bool true), v9, v10, (.lst a0), (.int .i64 x4), (.fptr (.agg [(.int .i64 x21), (.int .i64 x22)]) 0), (.agg [(.int .i64 x21), (.int .i64 x22)]), (.lst a1), (.int .i64 x4), (.fptr (.agg [(.int .i64 x24), (.int .i64 x25)]) 0), (.agg [(.int .i64 x24), (.int .i64 x25)]), (.bool true)], []⟩)
   (k1 .normal ⟨[(.lst a0), (.lst a1), (.tup []), (.tup []), (.bool b3), (.int .i64 (IntKind.wrap .i64 (x4 + 1))), (.lst a0), (.int .i64 (((List.length a0) : Nat) : Int)), (.lst a1), (.int .i64 (((List.length a1) : Nat) : Int)), (.bool false), (.int .i64 x4), (.lst a0), (.int .i64 (((List.length a0) : Nat) : Int)), (.bool true), (.int .i64 x4), (.int .i64 (IntKind.wrap .i64 (x4 + 1))), (.lst a0), (.int .i64 x4), (.fptr (.agg [(.int .i64 x21), (.int .i64 x22)]) 0), (.agg [(.int .i64 x21), (.int .i64 x22)]), (.lst a1), (.int .i64 x4), (.fptr (.agg [(.int .i64 x24), (.int .i64 x25)]) 0), (.agg [(.int .i64 x24), (.int .i64 x25)]), (.bool false)], []⟩))
   (none))
   (none))
   (k1 (.exit 0) ⟨[(.lst a0), (.lst a1), (.tup []), (.tup []), (.bool b3), (.int .i64 x4), (.lst a0), (.int .i64 (((List.length a0) : Nat) : Int)), (.lst a1), (.int .i64 (((List.length a1) : Nat) : Int)), (.bool false), (.int .i64 x4), (.lst a0), (.int .i64 (((List.length a0) : Nat) : Int)), (.bool false), v9, v10, v11, v12, v13, v14, v15, v16, v17, v18, v19], []⟩))
   (none)
def r21X0_0 (C : Cb) (d : Nat) (a0 a1 : List AV) : St → Ans := fun s26 =>
  cnd ((List.length (St.env s26)) == 26)
   (C.same (St.env s26)[0]? (.lst a0) <|
   C.same (St.env s26)[1]? (.lst a1) <|
   C.same (St.env s26)[2]? (.tup []) <|
   C.same (St.env s26)[3]? (.tup []) <|
   C.bool (St.env s26)[4]? fun b27 =>
   C.int .i64 (St.env s26)[5]? fun x28 =>
   C.same (St.env s26)[6]? (.lst a0) <|
   C.same (St.env s26)[7]? (.int .i64 (((List.length a0) : Nat) : Int)) <|
   C.same (St.env s26)[8]? (.lst a1) <|
   C.same (St.env s26)[9]? (.int .i64 (((List.length a1) : Nat) : Int)) <|
   C.same (St.env s26)[10]? (.bool false) <|
   C.int .i64 (St.env s26)[11]? fun x29 =>
   C.any (St.env s26)[12]? fun v30 =>
   C.int .i64 (St.env s26)[13]? fun x31 =>
   C.bool (St.env s26)[14]? fun b32 =>
   C.any (St.env s26)[15]? fun v33 =>
   C.any (St.env s26)[16]? fun v34 =>
   C.any (St.env s26)[17]? fun v35 =>
   C.any (St.env s26)[18]? fun v36 =>
   C.any (St.env s26)[19]? fun v37 =>
   C.any (St.env s26)[20]? fun v38 =>
   C.any (St.env s26)[21]? fun v39 =>
   C.any (St.env s26)[22]? fun v40 =>
   C.any (St.env s26)[23]? fun v41 =>
   C.any (St.env s26)[24]? fun v42 =>
   C.any (St.env s26)[25]? fun v43 =>
   C.sameH (St.H s26) [] <|
   some (.bool true))
   (none)
def r21E0 (C : Cb) (d : Nat) (a0 a1 : List AV) : St → Ans := fun s2 =>
  cnd ((List.length (St.env s2)) == 26)
   (C.same (St.env s2)[0]? (.lst a0) <|
   C.same (St.env s2)[1]? (.lst a1) <|
   C.same (St.env s2)[2]? (.tup []) <|
   C.same (St.env s2)[3]? (.tup []) <|
   C.bool (St.env s2)[4]? fun b44 =>
   C.int .i64 (St.env s2)[5]? fun x45 =>
   C.same (St.env s2)[6]? (.lst a0) <|
   C.same (St.env s2)[7]? (.int .i64 (((List.length a0) : Nat) : Int)) <|
   C.same (St.env s2)[8]? (.lst a1) <|
   C.same (St.env s2)[9]? (.int .i64 (((List.length a1) : Nat) : Int)) <|
   C.same (St.env s2)[10]? (.bool false) <|
   C.int .i64 (St.env s2)[11]? fun x46 =>
   C.any (St.env s2)[12]? fun v47 =>
   C.int .i64 (St.env s2)[13]? fun x48 =>
   C.bool (St.env s2)[14]? fun b49 =>
   C.any (St.env s2)[15]? fun v50 =>
   C.any (St.env s2)[16]? fun v51 =>
   C.any (St.env s2)[17]? fun v52 =>
   C.int .i64 (St.env s2)[18]? fun x53 =>
   C.any (St.env s2)[19]? fun v54 =>
   C.agg 2 (St.env s2)[20]? fun l55 =>
   C.int .i64 l55[0]? fun x56 =>
   C.int .i64 l55[1]? fun x57 =>
   C.any (St.env s2)[21]? fun v58 =>
   C.int .i64 (St.env s2)[22]? fun x59 =>
   C.any (St.env s2)[23]? fun v60 =>
   C.agg 2 (St.env s2)[24]? fun l61 =>
   C.int .i64 l61[0]? fun x62 =>
   C.int .i64 l61[1]? fun x63 =>
   C.bool (St.env s2)[25]? fun b64 =>
   C.sameH (St.H s2) [] <|
   some (.bool b44))
   (none)
/-- apogee/apogeeref10.Same -/
theorem r21 (C : Cb) (d : Nat) (a0 a1 : List AV) : xcall C M unr d 21 [(.lst a0), (.lst a1)] =
  cnd ((((List.length a0) : Nat) : Int) != (((List.length a1) : Nat) : Int))
   (some (.bool false))
   (C.iter (r21R0 C d a0 a1) 1000000000000000000 ⟨[(.lst a0), (.lst a1), (.tup []), (.tup []), (.bool false), (.int .i64 0), (.lst a0), (.int .i64 (((List.length a0) : Nat) : Int)), (.lst a1), (.int .i64 (((List.length a1) : Nat) : Int)), (.bool false), (.tup []), (.tup []), (.tup []), (.tup []), (.tup []), (.tup []), (.tup []), (.tup []), (.tup []), (.tup []), (.tup []), (.tup []), (.tup []), (.tup []), (.tup [])], []⟩ [0] [r21X0_0 C d a0 a1] (r21E0 C d a0 a1)) := by kernel_rfl
end Go.Proofs.Ytjblhppbjebagaa.AE

namespace Go.Proofs.Ytjblhppbjebagaa.AE
set_option linter.unusedVariables false
set_option linter.unusedSimpArgs false
set_option linter.constructorNameAsVariable false
open Go
set_option maxRecDepth 100000
noncomputable def X21_0_0 (d : Nat) (a0 a1 : List AV)  : Ans :=
  some (.bool true)
theorem X21_0_0_ok (d : Nat) (a0 a1 : List AV) (b27 : Bool) (x28 x29 : Int) (v30 : AV) (x31 : Int) (b32 : Bool) (v33 v34 v35 v36 v37 v38 v39 v40 v41 v42 v43 : AV) : r21X0_0 C0 d a0 a1 ⟨[(.lst a0), (.lst a1), (.tup []), (.tup []), (.bool b27), (.int .i64 x28), (.lst a0), (.int .i64 (((List.length a0) : Nat) : Int)), (.lst a1), (.int .i64 (((List.length a1) : Nat) : Int)), (.bool false), (.int .i64 x29), v30, (.int .i64 x31), (.bool b32), v33, v34, v35, v36, v37, v38, v39, v40, v41, v42, v43], []⟩ = X21_0_0 d a0 a1  := by
  unfold r21X0_0; refine Eq.trans (pl_len (by rfl)) ?_; (iterate 4 (refine Eq.trans (pl_same (by rfl)) ?_)); refine Eq.trans (pl_bool (by rfl)) ?_; refine Eq.trans (pl_int (by rfl)) ?_; (iterate 5 (refine Eq.trans (pl_same (by rfl)) ?_)); refine Eq.trans (pl_int (by rfl)) ?_; refine Eq.trans (pl_any (by rfl)) ?_; refine Eq.trans (pl_int (by rfl)) ?_; refine Eq.trans (pl_bool (by rfl)) ?_; (iterate 11 (refine Eq.trans (pl_any (by rfl)) ?_)); refine Eq.trans (pl_sameH) ?_
  rfl
noncomputable def E21_0 (d : Nat) (a0 a1 : List AV) (b44 : Bool) : Ans :=
  some (.bool b44)
theorem E21_0_ok (d : Nat) (a0 a1 : List AV) (b44 : Bool) (x45 x46 : Int) (v47 : AV) (x48 : Int) (b49 : Bool) (v50 v51 v52 : AV) (x53 : Int) (v54 : AV) (x56 x57 : Int) (v58 : AV) (x59 : Int) (v60 : AV) (x62 x63 : Int) (b64 : Bool) : r21E0 C0 d a0 a1 ⟨[(.lst a0), (.lst a1), (.tup []), (.tup []), (.bool b44), (.int .i64 x45), (.lst a0), (.int .i64 (((List.length a0) : Nat) : Int)), (.lst a1), (.int .i64 (((List.length a1) : Nat) : Int)), (.bool false), (.int .i64 x46), v47, (.int .i64 x48), (.bool b49), v50, v51, v52, (.int .i64 x53), v54, (.agg [(.int .i64 x56), (.int .i64 x57)]), v58, (.int .i64 x59), v60, (.agg [(.int .i64 x62), (.int .i64 x63)]), (.bool b64)], []⟩ = E21_0 d a0 a1 b44 := by
  unfold r21E0; refine Eq.trans (pl_len (by rfl)) ?_; (iterate 4 (refine Eq.trans (pl_same (by rfl)) ?_)); refine Eq.trans (pl_bool (by rfl)) ?_; refine Eq.trans (pl_int (by rfl)) ?_; (iterate 5 (refine Eq.trans (pl_same (by rfl)) ?_)); refine Eq.trans (pl_int (by rfl)) ?_; refine Eq.trans (pl_any (by rfl)) ?_; refine Eq.trans (pl_int (by rfl)) ?_; refine Eq.trans (pl_bool (by rfl)) ?_; (iterate 3 (refine Eq.trans (pl_any (by rfl)) ?_)); refine Eq.trans (pl_int (by rfl)) ?_; refine Eq.trans (pl_any (by rfl)) ?_; refine Eq.trans (pl_agg (by rfl) (by rfl)) ?_; (iterate 2 (refine Eq.trans (pl_int (by rfl)) ?_)); refine Eq.trans (pl_any (by rfl)) ?_; refine Eq.trans (pl_int (by rfl)) ?_; refine Eq.trans (pl_any (by rfl)) ?_; refine Eq.trans (pl_agg (by rfl) (by rfl)) ?_; (iterate 2 (refine Eq.trans (pl_int (by rfl)) ?_)); refine Eq.trans (pl_bool (by rfl)) ?_; refine Eq.trans (pl_sameH) ?_
  rfl
noncomputable def L21_0 (d : Nat) (a0 a1 : List AV) : Nat → Int → Ans
  | 0, _ => none
  | n + 1, x4 =>
  cnd (decide (x4 < (((List.length a0) : Nat) : Int)))
   (cnd (decide (0 ≤ x4))
   (C0.agg 2 a0[(Int.toNat x4)]? fun l20 =>
   C0.int .i64 l20[0]? fun x21 =>
   C0.int .i64 l20[1]? fun x22 =>
   cnd (decide (0 ≤ x4))
   (C0.agg 2 a1[(Int.toNat x4)]? fun l23 =>
   C0.int .i64 l23[0]? fun x24 =>
   C0.int .i64 l23[1]? fun x25 =>
   cnd (xor true ((x21 == x24) && ((x22 == x25) && true)))
   (E21_0 d a0 a1 false)
   (L21_0 d a0 a1 n (IntKind.wrap .i64 (x4 + 1))))
   (none))
   (none))
   (X21_0_0 d a0 a1)
theorem it21_0 (d : Nat) (a0 a1 : List AV)   : ∀ (n : Nat) (b3 : Bool) (x4 : Int) (v5 v6 v7 v8 v9 v10 v11 v12 v13 v14 v15 v16 v17 v18 v19 : AV), C0.iter (r21R0 C0 d a0 a1) n ⟨[(.lst a0), (.lst a1), (.tup []), (.tup []), (.bool b3), (.int .i64 x4), (.lst a0), (.int .i64 (((List.length a0) : Nat) : Int)), (.lst a1), (.int .i64 (((List.length a1) : Nat) : Int)), (.bool false), v5, v6, v7, v8, v9, v10, v11, v12, v13, v14, v15, v16, v17, v18, v19], []⟩ [0] [r21X0_0 C0 d a0 a1] (r21E0 C0 d a0 a1) = L21_0 d a0 a1 n x4 := by
  generalize hR : r21R0 C0 d a0 a1 = R
  intro n
  induction n with
  | zero => intros; rfl
  | succ n ih =>
    intro b3 x4 v5 v6 v7 v8 v9 v10 v11 v12 v13 v14 v15 v16 v17 v18 v19
    simp only [it_ret] at ih
    rw [it_ret, xiter_s]
    refine Eq.trans (congrFun (congrFun hR.symm _) _) ?_
    unfold r21R0
    refine Eq.trans (pl_len (by rfl)) ?_; (iterate 4 (refine Eq.trans (pl_same (by rfl)) ?_)); refine Eq.trans (pl_bool (by rfl)) ?_; refine Eq.trans (pl_int (by rfl)) ?_; (iterate 5 (refine Eq.trans (pl_same (by rfl)) ?_)); (iterate 15 (refine Eq.trans (pl_any (by rfl)) ?_)); refine Eq.trans (pl_sameH) ?_
    simp only [L21_0, kIter_n, kIter_x, kIter_r, kOut_x, kOut_r, xgo_hit, xgo_miss, ih, X21_0_0_ok d a0 a1  , E21_0_ok d a0 a1  ]
/-- apogee/apogeeref10.Same -/
theorem q21 (d : Nat) (a0 a1 : List AV) : xcall C0 M unr d 21 [(.lst a0), (.lst a1)] =
  cnd ((((List.length a0) : Nat) : Int) != (((List.length a1) : Nat) : Int))
   (some (.bool false))
   (L21_0 d a0 a1 1000000000000000000 0) := (r21 C0 d a0 a1).trans (by simp only [it21_0])
end Go.Proofs.Ytjblhppbjebagaa.AE

namespace Go.Proofs.Ytjblhppbjebagaa.AE
set_option linter.unusedVariables false
set_option linter.unusedSimpArgs false
set_option linter.constructorNameAsVariable false
open Go Go.Proofs.Ytjblhppbjebagaa.Geo
theorem drop_vv {ps : List Pt} {i : Nat} (h : i < ps.length) : ps.drop i = vv ps i :: ps.drop (i + 1) := by
  rw [List.drop_eq_getElem_cons h]; unfold vv; rw [List.getD_eq_getElem?_getD, List.getElem?_eq_getElem h]; rfl
end Go.Proofs.Ytjblhppbjebagaa.AE

namespace Go.Proofs.Ytjblhppbjebagaa.AE
set_option linter.unusedVariables false
set_option linter.unusedSimpArgs false
set_option linter.constructorNameAsVariable false
open Go
set_option maxRecDepth 100000
/-- apogee/apogeeref12.Of -/
theorem r10 (C : Cb) (d : Nat) (a0 a1 a2 : Int) : xcall C M unr d 10 [(.agg [(.int .i64 a0), (.int .i64 a1)]), (.int .i64 a2)] =
  C.bool (pcall M d 26 [(.agg [(.int .i64 a0), (.int .i64 a1)])]) fun b0 =>
  cnd (!b0)
   (some (.agg [(.int .i64 0), (.int .i64 0), (.int .i64 0), (.int .i64 0)]))
   (C.int .i64 (pcall M d 33 [(.int .i64 (IntKind.wrap .i64 (a0 - (if (4398046511104 < (if (0 > a2) then 0 else a2)) then 4398046511104 else (if (0 > a2) then 0 else a2)))))]) fun x1 =>
   C.int .i64 (pcall M d 33 [(.int .i64 (IntKind.wrap .i64 (a1 - (if (4398046511104 < (if (0 > a2) then 0 else a2)) then 4398046511104 else (if (0 > a2) then 0 else a2)))))]) fun x2 =>
   C.int .i64 (pcall M d 33 [(.int .i64 (IntKind.wrap .i64 (a0 + (if (4398046511104 < (if (0 > a2) then 0 else a2)) then 4398046511104 else (if (0 > a2) then 0 else a2)))))]) fun x3 =>
   C.int .i64 (pcall M d 33 [(.int .i64 (IntKind.wrap .i64 (a1 + (if (4398046511104 < (if (0 > a2) then 0 else a2)) then 4398046511104 else (if (0 > a2) then 0 else a2)))))]) fun x4 =>
   some (.agg [(.int .i64 x1), (.int .i64 x2), (.int .i64 x3), (.int .i64 x4)])) := by kernel_rfl
/-- apogee/apogeeref12.Corners -/
theorem r23 (C : Cb) (d : Nat) (a0 a1 a2 a3 : Int) : xcall C M unr d 23 [(.agg [(.int .i64 a0), (.int .i64 a1), (.int .i64 a2), (.int .i64 a3)])] =
  C.bool (pcall M d 13 [(.agg [(.int .i64 a0), (.int .i64 a1), (.int .i64 a2), (.int .i64 a3)])]) fun b0 =>
  cnd (!b0)
   (some (.lst []))
   (some (.lst [(.agg [(.int .i64 a0), (.int .i64 a1)]), (.agg [(.int .i64 a2), (.int .i64 a1)]), (.agg [(.int .i64 a2), (.int .i64 a3)]), (.agg [(.int .i64 a0), (.int .i64 a3)])])) := by kernel_rfl
/-- apogee/apogeeref12.hold -/
theorem r33 (C : Cb) (d : Nat) (a0 : Int) : xcall C M unr d 33 [(.int .i64 a0)] =
  some (.int .i64 (if (1099511627776 < (if ((-1099511627776) > a0) then (-1099511627776) else a0)) then 1099511627776 else (if ((-1099511627776) > a0) then (-1099511627776) else a0))) := by kernel_rfl
end Go.Proofs.Ytjblhppbjebagaa.AE

namespace Go.Proofs.Ytjblhppbjebagaa.AE
set_option linter.unusedVariables false
set_option linter.unusedSimpArgs false
set_option linter.constructorNameAsVariable false
open Go Go.Proofs.Ytjblhppbjebagaa.Geo
theorem s23 (d : Nat) (b : Bx) (h : rightX b = true) : pcall M (d + 3) 23 [bx b] = some (.lst ((cornersX b).map pt)) := told (r23 C0 (d + 2) _ _ _ _) (by
  refine Eq.trans (pl_bool (s13 d b)) ?_
  rw [h]; rfl)
end Go.Proofs.Ytjblhppbjebagaa.AE

namespace Go.Proofs.Ytjblhppbjebagaa.AE
set_option linter.unusedVariables false
set_option linter.unusedSimpArgs false
set_option linter.constructorNameAsVariable false
open Go Go.Proofs.Ytjblhppbjebagaa.Geo
theorem wf64 {n : Int} (h : (Lit.int .i64 n).wf = true) : In64 n := by have := bounds_i64 h; unfold In64; omega
theorem pt_bne (p q : Pt) : (xor true ((p.1 == q.1) && ((p.2 == q.2) && true))) = !decide (p = q) := by
  have := pt_beq p q
  rw [← this]; cases ((p.1 == q.1) && ((p.2 == q.2) && true)) <;> rfl
theorem same0 (d : Nat) (ps qs : List Pt) (hl : ps.length ≤ 140737488355328) (he : ps.length = qs.length) : ∀ (m i f : Nat), i + m = ps.length → m < f →
    L21_0 d (ps.map pt) (qs.map pt) f (i : Nat) = some (.bool (decide (ps.drop i = qs.drop i))) := by
  intro m
  induction m with
  | zero =>
    intro i f hi hf
    obtain ⟨f, rfl⟩ : ∃ g, f = g + 1 := ⟨f - 1, by omega⟩
    rw [L21_0, decide_eq_false (by rw [pmap_len]; omega), cnd_f, List.drop_eq_nil_of_le (by omega), List.drop_eq_nil_of_le (by omega)]; rfl
  | succ m ih =>
    intro i f hi hf
    obtain ⟨f, rfl⟩ : ∃ g, f = g + 1 := ⟨f - 1, by omega⟩
    rw [L21_0, decide_eq_true (by rw [pmap_len]; omega), cnd_t, decide_eq_true (by omega), cnd_t, vv_at (by omega)]
    refine Eq.trans (pl_agg (by rfl) (by rfl)) ?_; refine Eq.trans (pl_int (by rfl)) ?_; refine Eq.trans (pl_int (by rfl)) ?_
    rw [cnd_t, vv_at (show i < qs.length by omega)]
    refine Eq.trans (pl_agg (by rfl) (by rfl)) ?_; refine Eq.trans (pl_int (by rfl)) ?_; refine Eq.trans (pl_int (by rfl)) ?_
    rw [pt_bne, drop_vv (show i < ps.length by omega), drop_vv (show i < qs.length by omega)]
    by_cases h : vv ps i = vv qs i
    · rw [decide_eq_true h]
      refine Eq.trans (pl_f (by rfl)) ?_
      rw [show IntKind.wrap .i64 ((i : Int) + 1) = ((i + 1 : Nat) : Int) by rw [IntKind.wrap_i64]; omega, ih (i + 1) f (by omega) (by omega), h]
      simp
    · rw [decide_eq_false h]
      refine Eq.trans (pl_len (by rfl)) ?_
      rw [decide_eq_false (by simp [h])]; rfl
theorem s21 (d : Nat) (ps qs : List Pt) (hl : ps.length ≤ 140737488355328) (hq : qs.length ≤ 140737488355328) : pcall M (d + 1) 21 [.lst (ps.map pt), .lst (qs.map pt)] = some (.bool (decide (ps = qs))) := told (q21 d _ _) (by
  rw [pmap_len, pmap_len]
  by_cases h : ps.length = qs.length
  · rw [h, show (((qs.length : Nat) : Int) != ((qs.length : Nat) : Int)) = false by simp, cnd_f]
    exact same0 d ps qs hl h ps.length 0 1000000000000000000 (by omega) (by omega)
  · rw [show (((ps.length : Nat) : Int) != ((qs.length : Nat) : Int)) = true by simp; omega, cnd_t, decide_eq_false (fun e => h (by rw [e]))])
end Go.Proofs.Ytjblhppbjebagaa.AE

namespace Go.Proofs.Ytjblhppbjebagaa.AE
set_option linter.unusedVariables false
set_option linter.unusedSimpArgs false
set_option linter.constructorNameAsVariable false
open Go Go.Proofs.Ytjblhppbjebagaa.Geo
theorem s33 (d : Nat) (n : Int) : pcall M (d + 1) 33 [.int .i64 n] = some (.int .i64 (holdX n)) := told (r33 C0 d _) (by
  congr 2; unfold holdX clampX; split <;> (repeat' split) <;> omega)
theorem s10 (d : Nat) (p : Pt) (n : Int) : pcall M (d + 2) 10 [pt p, .int .i64 n] = some (bx (ofX p n)) := told (r10 C0 (d + 1) _ _ _) (by
  refine Eq.trans (pl_bool (s26 d p)) ?_
  change cnd (!okb p) _ _ = _
  unfold ofX
  cases hp : okb p
  · rfl
  · refine Eq.trans (pl_f (by rfl)) ?_
    obtain ⟨⟨h1, h2⟩, h3, h4⟩ := okb_t.mp hp
    have c := clamp_rng n
    rw [show (if (4398046511104 < (if (0 > n) then 0 else n)) then (4398046511104 : Int) else (if (0 > n) then 0 else n)) = clampX n 0 4398046511104 by unfold clampX; split <;> (repeat' split) <;> omega]
    rw [i64_small (n := p.1 - clampX n 0 4398046511104) (by omega) (by omega), i64_small (n := p.2 - clampX n 0 4398046511104) (by omega) (by omega), i64_small (n := p.1 + clampX n 0 4398046511104) (by omega) (by omega), i64_small (n := p.2 + clampX n 0 4398046511104) (by omega) (by omega)]
    refine Eq.trans (pl_int (s33 d _)) ?_
    refine Eq.trans (pl_int (s33 d _)) ?_
    refine Eq.trans (pl_int (s33 d _)) ?_
    exact pl_int (s33 d _))
theorem cornersZ1 (d : Nat) (b : Bx) (h : rightX b = false) : pcall M (d + 4) 22 [bx b] = some (.lst (([] : List Pt).map pt)) := told (r22 C0 (d + 3) _ _ _ _) (by
  refine Eq.trans (pl_bool (s12 d b)) ?_
  rw [h]; rfl)
theorem cornersZ2 (d : Nat) (b : Bx) (h : rightX b = false) : pcall M (d + 3) 23 [bx b] = some (.lst (([] : List Pt).map pt)) := told (r23 C0 (d + 2) _ _ _ _) (by
  refine Eq.trans (pl_bool (s13 d b)) ?_
  rw [h]; rfl)
end Go.Proofs.Ytjblhppbjebagaa.AE

namespace Go.Proofs.Ytjblhppbjebagaa.AE
set_option linter.unusedVariables false
set_option linter.unusedSimpArgs false
set_option linter.constructorNameAsVariable false
open Go Go.Proofs.Ytjblhppbjebagaa.Geo
set_option maxRecDepth 100000
theorem four_eq {a b c e a' b' c' e' : Int} (h1 : a = a') (h2 : b = b') (h3 : c = c') (h4 : e = e') : ((a == a') && ((b == b') && ((c == c') && ((e == e') && true)))) = true := by subst h1 h2 h3 h4; simp
theorem four_x {a b c e a' b' c' e' : Int} (h1 : a = a') (h2 : b = b') (h3 : c = c') (h4 : e = e') : (xor true ((a == a') && ((b == b') && ((c == c') && ((e == e') && true))))) = false := by rw [four_eq h1 h2 h3 h4]; rfl
theorem four_o {a b c e a' b' c' e' : Int} (h1 : a = a') (h2 : b = b') (h3 : c = c') (h4 : e = e') : (xor false ((a == a') && ((b == b') && ((c == c') && ((e == e') && true))))) = true := by rw [four_eq h1 h2 h3 h4]; rfl
theorem beq_x (a : Bool) : (xor true (a == a)) = false := by cases a <;> rfl
theorem law_tail (a b : Bx) (n : Int) (b38 : Bool) (h38 : b38 = true) (h5 : In64 n) :
    cnd (!b38) (some (.bool false))
     (cnd (!growB a n)
       (cnd (xor false (((growX a n).1.1 == 0) && (((growX a n).1.2 == 0) && (((growX a n).2.1 == 0) && (((growX a n).2.2 == 0) && true)))))
         (cnd (decide (n < 0))
           (some (.bool true))
           (C0.bool (pcall M 40 13 [bx a]) fun b39 =>
            cnd (!b39)
             (some (.bool true))
             (cnd (decide (n > 2199023255552))
               (some (.bool true))
               (C0.bool (pcall M 40 13 [(.agg [(.int .i64 (IntKind.wrap .i64 (a.1.1 - n))), (.int .i64 (IntKind.wrap .i64 (a.1.2 - n))), (.int .i64 (IntKind.wrap .i64 (a.2.1 + n))), (.int .i64 (IntKind.wrap .i64 (a.2.2 + n)))])]) fun b40 =>
                some (.bool (!b40))))))
         (some (.bool false)))
       (cnd (xor false (((growX a n).1.1 == (IntKind.wrap .i64 (a.1.1 - n))) && (((growX a n).1.2 == (IntKind.wrap .i64 (a.1.2 - n))) && (((growX a n).2.1 == (IntKind.wrap .i64 (a.2.1 + n))) && (((growX a n).2.2 == (IntKind.wrap .i64 (a.2.2 + n))) && true)))))
         (C0.bool (pcall M 40 17 [bx a, bx (growX a n)]) fun b41 =>
          some (.bool b41))
         (some (.bool false)))) = some (.bool true) := by
  subst h38
  refine Eq.trans (pl_f (by rfl)) ?_
  cases hg : growB a n
  · refine Eq.trans (pl_len (by rfl)) ?_
    have gx : growX a n = zB := by unfold growX; rw [hg]; rfl
    rw [gx]
    refine Eq.trans (pl_len (four_o rfl rfl rfl rfl)) ?_
    by_cases c1 : n < 0
    · rw [decide_eq_true c1]; rfl
    · rw [decide_eq_false c1, cnd_f]
      refine Eq.trans (pl_bool (s13 38 a)) ?_
      cases hr : rightX a
      · rfl
      · refine Eq.trans (pl_f (by rfl)) ?_
        by_cases c2 : n > 2199023255552
        · rw [decide_eq_true c2]; rfl
        · rw [decide_eq_false c2, cnd_f]
          obtain ⟨⟨⟨u1, u2⟩, u3, u4⟩, ⟨⟨u5, u6⟩, u7, u8⟩, ux, uy⟩ := rightX_t.mp hr
          rw [i64_small (n := a.1.1 - n) (by omega) (by omega), i64_small (n := a.1.2 - n) (by omega) (by omega), i64_small (n := a.2.1 + n) (by omega) (by omega), i64_small (n := a.2.2 + n) (by omega) (by omega)]
          refine Eq.trans (pl_bool (s13 38 ((a.1.1 - n, a.1.2 - n), (a.2.1 + n, a.2.2 + n)))) ?_
          cases hq : rightX ((a.1.1 - n, a.1.2 - n), (a.2.1 + n, a.2.2 + n))
          · rfl
          · exfalso
            obtain ⟨⟨⟨v1, v2⟩, v3, v4⟩, ⟨⟨v5, v6⟩, v7, v8⟩, _⟩ := rightX_t.mp hq
            have : growB a n = true := by
              unfold growB
              rw [decide_eq_true (show 0 ≤ n by omega), hr, mvB_t.mpr ⟨⟨⟨u1, u2⟩, u3, u4⟩, ⟨⟨by simp only [mv]; simp only at v1; omega, by simp only [mv]; simp only at v2; omega⟩, by simp only [mv]; simp only at v3; omega, by simp only [mv]; simp only at v4; omega⟩⟩, mvB_t.mpr ⟨⟨⟨u5, u6⟩, u7, u8⟩, ⟨⟨v5, v6⟩, v7, v8⟩⟩]; rfl
            rw [this] at hg; cases hg
  · refine Eq.trans (pl_f (by rfl)) ?_
    have gx : growX a n = (mv a.1 (-n) (-n), mv a.2 n n) := by unfold growX; rw [hg]; rfl
    unfold growB at hg
    simp only [Bool.and_eq_true, decide_eq_true_iff, mvB_t] at hg
    obtain ⟨h0, hr, ⟨o1, ⟨⟨v1, v2⟩, v3, v4⟩⟩, o2, ⟨⟨v5, v6⟩, v7, v8⟩⟩ := hg
    rw [gx]
    obtain ⟨⟨⟨u1, u2⟩, u3, u4⟩, ⟨⟨u5, u6⟩, u7, u8⟩, ux, uy⟩ := rightX_t.mp hr
    have k1 : (mv a.1 (-n) (-n)).1 = a.1.1 + -n := rfl
    have k2 : (mv a.1 (-n) (-n)).2 = a.1.2 + -n := rfl
    have k3 : (mv a.2 n n).1 = a.2.1 + n := rfl
    have k4 : (mv a.2 n n).2 = a.2.2 + n := rfl
    rw [k1] at v1 v2; rw [k2] at v3 v4; rw [k3] at v5 v6; rw [k4] at v7 v8
    refine Eq.trans (pl_len (four_o ?_ ?_ ?_ ?_)) ?_
    · rw [i64_small (by omega) (by omega)]; show a.1.1 + -n = _; omega
    · rw [i64_small (by omega) (by omega)]; show a.1.2 + -n = _; omega
    · rw [i64_small (by omega) (by omega)]; show a.2.1 + n = _; omega
    · rw [i64_small (by omega) (by omega)]; show a.2.2 + n = _; omega
    · refine Eq.trans (pl_bool (s17 35 a _)) ?_
      have hg : rightX (mv a.1 (-n) (-n), mv a.2 n n) = true := rightX_t.mpr ⟨⟨⟨by rw [k1]; omega, by rw [k1]; omega⟩, by rw [k2]; omega, by rw [k2]; omega⟩, ⟨⟨by rw [k3]; omega, by rw [k3]; omega⟩, by rw [k4]; omega, by rw [k4]; omega⟩, by rw [k1, k3]; omega, by rw [k2, k4]; omega⟩
      have i1 : hasX (mv a.1 (-n) (-n), mv a.2 n n) a.1 = true := hasX_t.mpr ⟨hg, o1, by unfold HasB; rw [k1, k2, k3, k4]; omega⟩
      have i2 : hasX (mv a.1 (-n) (-n), mv a.2 n n) a.2 = true := hasX_t.mpr ⟨hg, o2, by unfold HasB; rw [k1, k2, k3, k4]; omega⟩
      unfold inX
      rw [hr, i1, i2]; rfl
theorem tells_core (a b : Bx) (p : Pt) (n : Int) (h1 : In64 a.1.1) (h2 : In64 a.1.2) (h3 : In64 a.2.1) (h4 : In64 a.2.2) (h5 : In64 n) : pcall M 41 3 [bx a, bx b, pt p, .int .i64 n] = some (.bool true) := told (r3 C0 40 _ _ _ _ _ _ _ _ _ _ _) (by
  refine Eq.trans (pl_tup (s9 32 a n h1 h2 h3 h4 h5) (by rfl)) ?_
  refine Eq.trans (pl_agg (by rfl) (by rfl)) ?_; refine Eq.trans (pl_int (by rfl)) ?_; refine Eq.trans (pl_int (by rfl)) ?_; refine Eq.trans (pl_int (by rfl)) ?_; refine Eq.trans (pl_int (by rfl)) ?_; refine Eq.trans (pl_bool (by rfl)) ?_
  refine Eq.trans (pl_agg (s10 38 p n) (by rfl)) ?_
  refine Eq.trans (pl_int (by rfl)) ?_; refine Eq.trans (pl_int (by rfl)) ?_; refine Eq.trans (pl_int (by rfl)) ?_; refine Eq.trans (pl_int (by rfl)) ?_
  refine Eq.trans (pl_bool awake) ?_
  refine Eq.trans (pl_f (by rfl)) ?_
  refine Eq.trans (pl_bool (s12 37 a)) ?_
  refine Eq.trans (pl_bool (s13 38 a)) ?_
  refine Eq.trans (pl_f (beq_x _)) ?_
  refine Eq.trans (pl_agg (s14 37 p n) (by rfl)) ?_
  refine Eq.trans (pl_int (by rfl)) ?_; refine Eq.trans (pl_int (by rfl)) ?_; refine Eq.trans (pl_int (by rfl)) ?_; refine Eq.trans (pl_int (by rfl)) ?_
  refine Eq.trans (pl_f (four_x rfl rfl rfl rfl)) ?_
  refine Eq.trans (pl_bool (s15 36 a p)) ?_
  refine Eq.trans (pl_bool (s16 37 a p)) ?_
  refine Eq.trans (pl_f (beq_x _)) ?_
  refine Eq.trans (pl_bool (s17 35 a b)) ?_
  refine Eq.trans (pl_bool (s18 36 a b)) ?_
  refine Eq.trans (pl_f (beq_x _)) ?_
  refine Eq.trans (pl_agg (s19 36 a b) (by rfl)) ?_
  refine Eq.trans (pl_int (by rfl)) ?_; refine Eq.trans (pl_int (by rfl)) ?_; refine Eq.trans (pl_int (by rfl)) ?_; refine Eq.trans (pl_int (by rfl)) ?_
  refine Eq.trans (pl_agg (s20 37 a b) (by rfl)) ?_
  refine Eq.trans (pl_int (by rfl)) ?_; refine Eq.trans (pl_int (by rfl)) ?_; refine Eq.trans (pl_int (by rfl)) ?_; refine Eq.trans (pl_int (by rfl)) ?_
  refine Eq.trans (pl_f (four_x rfl rfl rfl rfl)) ?_
  cases hr : rightX a
  · refine Eq.trans (pl_lst (cornersZ1 36 a hr)) ?_
    refine Eq.trans (pl_lst (cornersZ2 37 a hr)) ?_
    refine Eq.trans (pl_bool (s21 39 [] [] (by simp) (by simp))) ?_
    exact law_tail a b n (decide (([] : List Pt) = [])) (by simp) h5
  · refine Eq.trans (pl_lst (s22 36 a hr)) ?_
    refine Eq.trans (pl_lst (s23 37 a hr)) ?_
    refine Eq.trans (pl_bool (s21 39 (cornersX a) (cornersX a) (by simp [cornersX]) (by simp [cornersX]))) ?_
    exact law_tail a b n (decide (cornersX a = cornersX a)) (by simp) h5)
theorem law_BoxTells (a0_0 : Int) (a0_1 : Int) (a0_2 : Int) (a0_3 : Int) (a1_0 : Int) (a1_1 : Int) (a1_2 : Int) (a1_3 : Int) (a2_0 : Int) (a2_1 : Int) (a3 : Int) (w0_0 : (Lit.int .i64 a0_0).wf = true) (w0_1 : (Lit.int .i64 a0_1).wf = true) (w0_2 : (Lit.int .i64 a0_2).wf = true) (w0_3 : (Lit.int .i64 a0_3).wf = true) (w1_0 : (Lit.int .i64 a1_0).wf = true) (w1_1 : (Lit.int .i64 a1_1).wf = true) (w1_2 : (Lit.int .i64 a1_2).wf = true) (w1_3 : (Lit.int .i64 a1_3).wf = true) (w2_0 : (Lit.int .i64 a2_0).wf = true) (w2_1 : (Lit.int .i64 a2_1).wf = true) (w3 : (Lit.int .i64 a3).wf = true) :
    pcall M 41 3 [.agg [.int .i64 a0_0, .int .i64 a0_1, .int .i64 a0_2, .int .i64 a0_3], .agg [.int .i64 a1_0, .int .i64 a1_1, .int .i64 a1_2, .int .i64 a1_3], .agg [.int .i64 a2_0, .int .i64 a2_1], .int .i64 a3] = some (.bool true) := tells_core ((a0_0, a0_1), (a0_2, a0_3)) ((a1_0, a1_1), (a1_2, a1_3)) (a2_0, a2_1) a3 (wf64 w0_0) (wf64 w0_1) (wf64 w0_2) (wf64 w0_3) (wf64 w3)
end Go.Proofs.Ytjblhppbjebagaa.AE
