/- What each function tells, told forwards. No conditions. -/
import Derived.Test.YtbcbaidnamebkaaAEmod
namespace Go.Proofs.Ytbcbaidnamebkaa.AE
set_option linter.unusedVariables false
set_option linter.unusedSimpArgs false
set_option linter.constructorNameAsVariable false
open Go
set_option maxRecDepth 100000
/-- apogee/point.Turn -/
theorem r12 (C : Cb) (d : Nat) (a0 : Int) (a1 : Int) (a2 : Int) (a3 : Int) (a4 : Int) (a5 : Int) : xcall C M unr d 12 [(.agg [(.int .i64 a0), (.int .i64 a1)]), (.agg [(.int .i64 a2), (.int .i64 a3)]), (.agg [(.int .i64 a4), (.int .i64 a5)])] =
  C.bool (pcall M d 22 [(.lst [(.agg [(.int .i64 a0), (.int .i64 a1)]), (.agg [(.int .i64 a2), (.int .i64 a3)]), (.agg [(.int .i64 a4), (.int .i64 a5)])])]) fun b0 =>
  cnd (!b0)
   (some (.int .i64 0))
   (C.agg 2 (pcall M d 23 [(.int .i64 (IntKind.wrap .i64 (a2 - a0))), (.int .i64 (IntKind.wrap .i64 (a5 - a1)))]) fun l1 =>
    C.int .i64 l1[0]? fun x2 =>
    C.int .u64 l1[1]? fun x3 =>
    C.agg 2 (pcall M d 23 [(.int .i64 (IntKind.wrap .i64 (a3 - a1))), (.int .i64 (IntKind.wrap .i64 (a4 - a0)))]) fun l4 =>
    C.int .i64 l4[0]? fun x5 =>
    C.int .u64 l4[1]? fun x6 =>
    C.int .i64 (pcall M d 24 [(.agg [(.int .i64 x2), (.int .u64 x3)]), (.agg [(.int .i64 x5), (.int .u64 x6)])]) fun x7 =>
    some (.int .i64 x7)) := by kernel_rfl
/-- apogee/point.On -/
theorem r14 (C : Cb) (d : Nat) (a0 : Int) (a1 : Int) (a2 : Int) (a3 : Int) (a4 : Int) (a5 : Int) : xcall C M unr d 14 [(.agg [(.int .i64 a0), (.int .i64 a1)]), (.agg [(.int .i64 a2), (.int .i64 a3)]), (.agg [(.int .i64 a4), (.int .i64 a5)])] =
  C.bool (pcall M d 22 [(.lst [(.agg [(.int .i64 a0), (.int .i64 a1)]), (.agg [(.int .i64 a2), (.int .i64 a3)]), (.agg [(.int .i64 a4), (.int .i64 a5)])])]) fun b0 =>
  cnd b0
   (C.int .i64 (pcall M d 12 [(.agg [(.int .i64 a2), (.int .i64 a3)]), (.agg [(.int .i64 a4), (.int .i64 a5)]), (.agg [(.int .i64 a0), (.int .i64 a1)])]) fun x1 =>
    cnd (x1 == 0)
     (C.bool (pcall M d 27 [(.int .i64 a0), (.int .i64 a2), (.int .i64 a4)]) fun b2 =>
      cnd b2
       (C.bool (pcall M d 27 [(.int .i64 a1), (.int .i64 a3), (.int .i64 a5)]) fun b3 =>
        some (.bool b3))
       (some (.bool false)))
     (some (.bool false)))
   (some (.bool false)) := by kernel_rfl
/-- apogee/point.Meet -/
theorem r16 (C : Cb) (d : Nat) (a0 : Int) (a1 : Int) (a2 : Int) (a3 : Int) (a4 : Int) (a5 : Int) (a6 : Int) (a7 : Int) : xcall C M unr d 16 [(.agg [(.int .i64 a0), (.int .i64 a1)]), (.agg [(.int .i64 a2), (.int .i64 a3)]), (.agg [(.int .i64 a4), (.int .i64 a5)]), (.agg [(.int .i64 a6), (.int .i64 a7)])] =
  C.bool (pcall M d 22 [(.lst [(.agg [(.int .i64 a0), (.int .i64 a1)]), (.agg [(.int .i64 a2), (.int .i64 a3)]), (.agg [(.int .i64 a4), (.int .i64 a5)]), (.agg [(.int .i64 a6), (.int .i64 a7)])])]) fun b0 =>
  cnd (!b0)
   (some (.bool false))
   (C.bool (pcall M d 14 [(.agg [(.int .i64 a0), (.int .i64 a1)]), (.agg [(.int .i64 a4), (.int .i64 a5)]), (.agg [(.int .i64 a6), (.int .i64 a7)])]) fun b1 =>
    cnd b1
     (some (.bool true))
     (C.bool (pcall M d 14 [(.agg [(.int .i64 a2), (.int .i64 a3)]), (.agg [(.int .i64 a4), (.int .i64 a5)]), (.agg [(.int .i64 a6), (.int .i64 a7)])]) fun b2 =>
      cnd b2
       (some (.bool true))
       (C.bool (pcall M d 14 [(.agg [(.int .i64 a4), (.int .i64 a5)]), (.agg [(.int .i64 a0), (.int .i64 a1)]), (.agg [(.int .i64 a2), (.int .i64 a3)])]) fun b3 =>
        cnd b3
         (some (.bool true))
         (C.bool (pcall M d 14 [(.agg [(.int .i64 a6), (.int .i64 a7)]), (.agg [(.int .i64 a0), (.int .i64 a1)]), (.agg [(.int .i64 a2), (.int .i64 a3)])]) fun b4 =>
          cnd b4
           (some (.bool true))
           (C.int .i64 (pcall M d 12 [(.agg [(.int .i64 a0), (.int .i64 a1)]), (.agg [(.int .i64 a2), (.int .i64 a3)]), (.agg [(.int .i64 a4), (.int .i64 a5)])]) fun x5 =>
            C.int .i64 (pcall M d 12 [(.agg [(.int .i64 a0), (.int .i64 a1)]), (.agg [(.int .i64 a2), (.int .i64 a3)]), (.agg [(.int .i64 a6), (.int .i64 a7)])]) fun x6 =>
            cnd (decide ((IntKind.wrap .i64 (x5 * x6)) < 0))
             (C.int .i64 (pcall M d 12 [(.agg [(.int .i64 a4), (.int .i64 a5)]), (.agg [(.int .i64 a6), (.int .i64 a7)]), (.agg [(.int .i64 a0), (.int .i64 a1)])]) fun x7 =>
              C.int .i64 (pcall M d 12 [(.agg [(.int .i64 a4), (.int .i64 a5)]), (.agg [(.int .i64 a6), (.int .i64 a7)]), (.agg [(.int .i64 a2), (.int .i64 a3)])]) fun x8 =>
              some (.bool (decide ((IntKind.wrap .i64 (x7 * x8)) < 0))))
             (some (.bool false))))))) := by kernel_rfl
/-- apogee/point.right -/
theorem r22 (C : Cb) (d : Nat) (a0 : List AV) : xcall C M unr d 22 [(.lst a0)] =
  C.bool (pcall M d 30 [(.lst a0), (.fn 31 [] [])]) fun b0 =>
  some (.bool (!b0)) := by kernel_rfl
/-- apogee/wide.Mul -/
theorem r23 (C : Cb) (d : Nat) (a0 : Int) (a1 : Int) : xcall C M unr d 23 [(.int .i64 a0), (.int .i64 a1)] =
  C.tup 2 (pcall M d 32 [(.int .u64 (IntKind.wrap .u64 a0)), (.int .u64 (IntKind.wrap .u64 a1))]) fun l0 =>
  C.int .u64 l0[0]? fun x1 =>
  C.int .u64 l0[1]? fun x2 =>
  cnd (decide (a0 < 0))
   (cnd (decide (a1 < 0))
     (some (.agg [(.int .i64 (IntKind.wrap .i64 (IntKind.wrap .u64 ((IntKind.wrap .u64 (x1 - (IntKind.wrap .u64 a1))) - (IntKind.wrap .u64 a0))))), (.int .u64 x2)]))
     (some (.agg [(.int .i64 (IntKind.wrap .i64 (IntKind.wrap .u64 (x1 - (IntKind.wrap .u64 a1))))), (.int .u64 x2)])))
   (cnd (decide (a1 < 0))
     (some (.agg [(.int .i64 (IntKind.wrap .i64 (IntKind.wrap .u64 (x1 - (IntKind.wrap .u64 a0))))), (.int .u64 x2)]))
     (some (.agg [(.int .i64 (IntKind.wrap .i64 x1)), (.int .u64 x2)]))) := by kernel_rfl
/-- (apogee/wide.Wide).Cmp -/
theorem r24 (C : Cb) (d : Nat) (a0 : Int) (a1 : Int) (a2 : Int) (a3 : Int) : xcall C M unr d 24 [(.agg [(.int .i64 a0), (.int .u64 a1)]), (.agg [(.int .i64 a2), (.int .u64 a3)])] =
  C.int .i64 (pcall M d 34 [(.int .i64 a0), (.int .i64 a2)]) fun x0 =>
  C.int .i64 (pcall M d 35 [(.int .u64 a1), (.int .u64 a3)]) fun x1 =>
  C.int .i64 (pcall M d 33 [(.lst [(.int .i64 x0), (.int .i64 x1)])]) fun x2 =>
  some (.int .i64 x2) := by kernel_rfl
/-- apogee/point.between -/
theorem r27 (C : Cb) (d : Nat) (a0 : Int) (a1 : Int) (a2 : Int) : xcall C M unr d 27 [(.int .i64 a0), (.int .i64 a1), (.int .i64 a2)] =
  cnd (decide ((if (a2 < a1) then a2 else a1) ≤ a0))
   (some (.bool (decide (a0 ≤ (if (a2 > a1) then a2 else a1)))))
   (some (.bool false)) := by kernel_rfl
/-- slices.ContainsFunc[[]apogee/api.Point,apogee/api.Point] -/
theorem r30 (C : Cb) (d : Nat) (a0 : List AV) (a1 : AV) : xcall C M unr d 30 [(.lst a0), (.fn 31 [] [])] =
  C.int .i64 (pcall M d 42 [(.lst a0), (.fn 31 [] [])]) fun x0 =>
  some (.bool (decide (x0 ≥ 0))) := by kernel_rfl
/-- apogee/point.right$1 -/
theorem r31 (C : Cb) (d : Nat) (a0 : Int) (a1 : Int) : xcall C M unr d 31 [(.agg [(.int .i64 a0), (.int .i64 a1)])] =
  C.bool (pcall M d 10 [(.agg [(.int .i64 a0), (.int .i64 a1)])]) fun b0 =>
  some (.bool (!b0)) := by kernel_rfl
/-- math/bits.Mul64 -/
theorem r32 (C : Cb) (d : Nat) (a0 : Int) (a1 : Int) : xcall C M unr d 32 [(.int .u64 a0), (.int .u64 a1)] =
  some (.tup [(.int .u64 (IntKind.wrap .u64 ((IntKind.wrap .u64 ((IntKind.wrap .u64 ((Int.fdiv a0 (2 ^ (min (Int.toNat 32) 64))) * (Int.fdiv a1 (2 ^ (min (Int.toNat 32) 64))))) + (Int.fdiv (IntKind.wrap .u64 ((IntKind.wrap .u64 ((Int.fdiv a0 (2 ^ (min (Int.toNat 32) 64))) * (bits .and .u64 a1 4294967295))) + (Int.fdiv (IntKind.wrap .u64 ((bits .and .u64 a0 4294967295) * (bits .and .u64 a1 4294967295))) (2 ^ (min (Int.toNat 32) 64))))) (2 ^ (min (Int.toNat 32) 64))))) + (Int.fdiv (IntKind.wrap .u64 ((bits .and .u64 (IntKind.wrap .u64 ((IntKind.wrap .u64 ((Int.fdiv a0 (2 ^ (min (Int.toNat 32) 64))) * (bits .and .u64 a1 4294967295))) + (Int.fdiv (IntKind.wrap .u64 ((bits .and .u64 a0 4294967295) * (bits .and .u64 a1 4294967295))) (2 ^ (min (Int.toNat 32) 64))))) 4294967295) + (IntKind.wrap .u64 ((bits .and .u64 a0 4294967295) * (Int.fdiv a1 (2 ^ (min (Int.toNat 32) 64))))))) (2 ^ (min (Int.toNat 32) 64)))))), (.int .u64 (IntKind.wrap .u64 (a0 * a1)))]) := by kernel_rfl
def r33R0 (C : Cb) (d : Nat) (a0 : List AV) : St → (Ex → St → Ans) → Ans := fun s0 k1 =>
  cnd ((List.length (St.env s0)) == 18)
   (C.same (St.env s0)[0]? (.lst a0) <|
    C.same (St.env s0)[1]? (.tup []) <|
    C.int .i64 (St.env s0)[2]? fun x3 =>
    C.same (St.env s0)[3]? (.int .i64 0) <|
    C.same (St.env s0)[4]? (.tup []) <|
    C.any (St.env s0)[5]? fun v4 =>
    C.same (St.env s0)[6]? (.lst a0) <|
    C.same (St.env s0)[7]? (.int .i64 (((List.length a0) : Nat) : Int)) <|
    C.int .i64 (St.env s0)[8]? fun x5 =>
    C.any (St.env s0)[9]? fun v6 =>
    C.any (St.env s0)[10]? fun v7 =>
    C.any (St.env s0)[11]? fun v8 =>
    C.any (St.env s0)[12]? fun v9 =>
    C.any (St.env s0)[13]? fun v10 =>
    C.any (St.env s0)[14]? fun v11 =>
    C.any (St.env s0)[15]? fun v12 =>
    C.any (St.env s0)[16]? fun v13 =>
    C.same (St.env s0)[17]? (.tup []) <|
    C.sameH (St.H s0) [] <|
    cnd (decide (x5 < (((List.length a0) : Nat) : Int)))
     (cnd (decide (0 ≤ x5))
       (C.int .i64 a0[(Int.toNat x5)]? fun x14 =>
        cnd (x14 != 0)
         (k1 .ret ⟨[(.lst a0), (.tup []), (.int .i64 x14), (.int .i64 0), (.tup []), (.int .i64 x14), (.lst a0), (.int .i64 (((List.length a0) : Nat) : Int)), (.int .i64 x5), (.bool true), (.fptr (.int .i64 x14) 0), (.int .i64 x14), (.int .i64 x14), (.int .i64 0), (.bool true), (.int .i64 x14), v13, (.tup [])], []⟩)
         (k1 .normal ⟨[(.lst a0), (.tup []), (.int .i64 x3), (.int .i64 0), (.tup []), (.int .i64 x14), (.lst a0), (.int .i64 (((List.length a0) : Nat) : Int)), (.int .i64 (IntKind.wrap .i64 (x5 + 1))), (.bool true), (.fptr (.int .i64 x14) 0), (.int .i64 x14), (.int .i64 x14), (.int .i64 0), (.bool false), v12, (.int .i64 (IntKind.wrap .i64 (x5 + 1))), (.tup [])], []⟩))
       (none))
     (k1 (.exit 0) ⟨[(.lst a0), (.tup []), (.int .i64 x3), (.int .i64 0), (.tup []), v4, (.lst a0), (.int .i64 (((List.length a0) : Nat) : Int)), (.int .i64 x5), (.bool false), v7, v8, v9, v10, v11, v12, v13, (.tup [])], []⟩))
   (none)
def r33X0_0 (C : Cb) (d : Nat) (a0 : List AV) : St → Ans := fun s15 =>
  cnd ((List.length (St.env s15)) == 18)
   (C.same (St.env s15)[0]? (.lst a0) <|
    C.same (St.env s15)[1]? (.tup []) <|
    C.int .i64 (St.env s15)[2]? fun x16 =>
    C.same (St.env s15)[3]? (.int .i64 0) <|
    C.same (St.env s15)[4]? (.tup []) <|
    C.any (St.env s15)[5]? fun v17 =>
    C.same (St.env s15)[6]? (.lst a0) <|
    C.same (St.env s15)[7]? (.int .i64 (((List.length a0) : Nat) : Int)) <|
    C.int .i64 (St.env s15)[8]? fun x18 =>
    C.any (St.env s15)[9]? fun v19 =>
    C.any (St.env s15)[10]? fun v20 =>
    C.any (St.env s15)[11]? fun v21 =>
    C.any (St.env s15)[12]? fun v22 =>
    C.any (St.env s15)[13]? fun v23 =>
    C.any (St.env s15)[14]? fun v24 =>
    C.any (St.env s15)[15]? fun v25 =>
    C.any (St.env s15)[16]? fun v26 =>
    C.same (St.env s15)[17]? (.tup []) <|
    C.sameH (St.H s15) [] <|
    some (.int .i64 0))
   (none)
def r33E0 (C : Cb) (d : Nat) (a0 : List AV) : St → Ans := fun s2 =>
  cnd ((List.length (St.env s2)) == 18)
   (C.same (St.env s2)[0]? (.lst a0) <|
    C.same (St.env s2)[1]? (.tup []) <|
    C.int .i64 (St.env s2)[2]? fun x27 =>
    C.same (St.env s2)[3]? (.int .i64 0) <|
    C.same (St.env s2)[4]? (.tup []) <|
    C.any (St.env s2)[5]? fun v28 =>
    C.same (St.env s2)[6]? (.lst a0) <|
    C.same (St.env s2)[7]? (.int .i64 (((List.length a0) : Nat) : Int)) <|
    C.int .i64 (St.env s2)[8]? fun x29 =>
    C.any (St.env s2)[9]? fun v30 =>
    C.any (St.env s2)[10]? fun v31 =>
    C.any (St.env s2)[11]? fun v32 =>
    C.any (St.env s2)[12]? fun v33 =>
    C.any (St.env s2)[13]? fun v34 =>
    C.any (St.env s2)[14]? fun v35 =>
    C.any (St.env s2)[15]? fun v36 =>
    C.any (St.env s2)[16]? fun v37 =>
    C.same (St.env s2)[17]? (.tup []) <|
    C.sameH (St.H s2) [] <|
    some (.int .i64 x27))
   (none)
/-- cmp.Or[int] -/
theorem r33 (C : Cb) (d : Nat) (a0 : List AV) : xcall C M unr d 33 [(.lst a0)] =
  C.iter (r33R0 C d a0) 1000000 ⟨[(.lst a0), (.tup []), (.int .i64 0), (.int .i64 0), (.tup []), (.tup []), (.lst a0), (.int .i64 (((List.length a0) : Nat) : Int)), (.int .i64 0), (.tup []), (.tup []), (.tup []), (.tup []), (.tup []), (.tup []), (.tup []), (.tup []), (.tup [])], []⟩ [0] [r33X0_0 C d a0] (r33E0 C d a0) := by kernel_rfl
/-- cmp.Compare[int64] -/
theorem r34 (C : Cb) (d : Nat) (a0 : Int) (a1 : Int) : xcall C M unr d 34 [(.int .i64 a0), (.int .i64 a1)] =
  C.bool (pcall M d 43 [(.int .i64 a0)]) fun b0 =>
  C.bool (pcall M d 43 [(.int .i64 a1)]) fun b1 =>
  cnd b0
   (cnd b1
     (some (.int .i64 0))
     (some (.int .i64 (-1))))
   (cnd b1
     (some (.int .i64 1))
     (cnd (decide (a0 < a1))
       (some (.int .i64 (-1)))
       (cnd (decide (a0 > a1))
         (some (.int .i64 1))
         (some (.int .i64 0))))) := by kernel_rfl
/-- cmp.Compare[uint64] -/
theorem r35 (C : Cb) (d : Nat) (a0 : Int) (a1 : Int) : xcall C M unr d 35 [(.int .u64 a0), (.int .u64 a1)] =
  C.bool (pcall M d 44 [(.int .u64 a0)]) fun b0 =>
  C.bool (pcall M d 44 [(.int .u64 a1)]) fun b1 =>
  cnd b0
   (cnd b1
     (some (.int .i64 0))
     (some (.int .i64 (-1))))
   (cnd b1
     (some (.int .i64 1))
     (cnd (decide (a0 < a1))
       (some (.int .i64 (-1)))
       (cnd (decide (a0 > a1))
         (some (.int .i64 1))
         (some (.int .i64 0))))) := by kernel_rfl
def r42R0 (C : Cb) (d : Nat) (a0 : List AV) (a1 : AV) : St → (Ex → St → Ans) → Ans := fun s0 k1 =>
  cnd ((List.length (St.env s0)) == 19)
   (C.same (St.env s0)[0]? (.lst a0) <|
    C.same (St.env s0)[1]? (.fn 31 [] []) <|
    C.same (St.env s0)[2]? (.tup []) <|
    C.same (St.env s0)[3]? (.tup []) <|
    C.int .i64 (St.env s0)[4]? fun x3 =>
    C.any (St.env s0)[5]? fun v4 =>
    C.same (St.env s0)[6]? (.lst a0) <|
    C.same (St.env s0)[7]? (.int .i64 (((List.length a0) : Nat) : Int)) <|
    C.int .i64 (St.env s0)[8]? fun x5 =>
    C.any (St.env s0)[9]? fun v6 =>
    C.any (St.env s0)[10]? fun v7 =>
    C.any (St.env s0)[11]? fun v8 =>
    C.any (St.env s0)[12]? fun v9 =>
    C.any (St.env s0)[13]? fun v10 =>
    C.any (St.env s0)[14]? fun v11 =>
    C.any (St.env s0)[15]? fun v12 =>
    C.any (St.env s0)[16]? fun v13 =>
    C.any (St.env s0)[17]? fun v14 =>
    C.any (St.env s0)[18]? fun v15 =>
    C.sameH (St.H s0) [] <|
    cnd (decide (x5 < (((List.length a0) : Nat) : Int)))
     (cnd (decide (0 ≤ x5))
       (C.agg 2 a0[(Int.toNat x5)]? fun l16 =>
        C.int .i64 l16[0]? fun x17 =>
        C.int .i64 l16[1]? fun x18 =>
        C.bool (pcall M d 31 [(.agg [(.int .i64 x17), (.int .i64 x18)])]) fun b19 =>
        cnd b19
         (k1 .ret ⟨[(.lst a0), (.fn 31 [] []), (.tup []), (.tup []), (.int .i64 x5), (.int .i64 x5), (.lst a0), (.int .i64 (((List.length a0) : Nat) : Int)), (.int .i64 x5), (.bool true), (.int .i64 x5), (.fn 31 [] []), (.lst a0), (.int .i64 x5), (.fptr (.agg [(.int .i64 x17), (.int .i64 x18)]) 0), (.agg [(.int .i64 x17), (.int .i64 x18)]), (.bool true), (.int .i64 x5), v15], []⟩)
         (k1 .normal ⟨[(.lst a0), (.fn 31 [] []), (.tup []), (.tup []), (.int .i64 x3), (.int .i64 x5), (.lst a0), (.int .i64 (((List.length a0) : Nat) : Int)), (.int .i64 (IntKind.wrap .i64 (x5 + 1))), (.bool true), (.int .i64 x5), (.fn 31 [] []), (.lst a0), (.int .i64 x5), (.fptr (.agg [(.int .i64 x17), (.int .i64 x18)]) 0), (.agg [(.int .i64 x17), (.int .i64 x18)]), (.bool false), v14, (.int .i64 (IntKind.wrap .i64 (x5 + 1)))], []⟩))
       (none))
     (k1 (.exit 0) ⟨[(.lst a0), (.fn 31 [] []), (.tup []), (.tup []), (.int .i64 x3), v4, (.lst a0), (.int .i64 (((List.length a0) : Nat) : Int)), (.int .i64 x5), (.bool false), v7, v8, v9, v10, v11, v12, v13, v14, v15], []⟩))
   (none)
def r42X0_0 (C : Cb) (d : Nat) (a0 : List AV) (a1 : AV) : St → Ans := fun s20 =>
  cnd ((List.length (St.env s20)) == 19)
   (C.same (St.env s20)[0]? (.lst a0) <|
    C.same (St.env s20)[1]? (.fn 31 [] []) <|
    C.same (St.env s20)[2]? (.tup []) <|
    C.same (St.env s20)[3]? (.tup []) <|
    C.int .i64 (St.env s20)[4]? fun x21 =>
    C.any (St.env s20)[5]? fun v22 =>
    C.same (St.env s20)[6]? (.lst a0) <|
    C.same (St.env s20)[7]? (.int .i64 (((List.length a0) : Nat) : Int)) <|
    C.int .i64 (St.env s20)[8]? fun x23 =>
    C.any (St.env s20)[9]? fun v24 =>
    C.any (St.env s20)[10]? fun v25 =>
    C.any (St.env s20)[11]? fun v26 =>
    C.any (St.env s20)[12]? fun v27 =>
    C.any (St.env s20)[13]? fun v28 =>
    C.any (St.env s20)[14]? fun v29 =>
    C.any (St.env s20)[15]? fun v30 =>
    C.any (St.env s20)[16]? fun v31 =>
    C.any (St.env s20)[17]? fun v32 =>
    C.any (St.env s20)[18]? fun v33 =>
    C.sameH (St.H s20) [] <|
    some (.int .i64 (-1)))
   (none)
def r42E0 (C : Cb) (d : Nat) (a0 : List AV) (a1 : AV) : St → Ans := fun s2 =>
  cnd ((List.length (St.env s2)) == 19)
   (C.same (St.env s2)[0]? (.lst a0) <|
    C.same (St.env s2)[1]? (.fn 31 [] []) <|
    C.same (St.env s2)[2]? (.tup []) <|
    C.same (St.env s2)[3]? (.tup []) <|
    C.int .i64 (St.env s2)[4]? fun x34 =>
    C.any (St.env s2)[5]? fun v35 =>
    C.same (St.env s2)[6]? (.lst a0) <|
    C.same (St.env s2)[7]? (.int .i64 (((List.length a0) : Nat) : Int)) <|
    C.int .i64 (St.env s2)[8]? fun x36 =>
    C.any (St.env s2)[9]? fun v37 =>
    C.any (St.env s2)[10]? fun v38 =>
    C.any (St.env s2)[11]? fun v39 =>
    C.any (St.env s2)[12]? fun v40 =>
    C.any (St.env s2)[13]? fun v41 =>
    C.any (St.env s2)[14]? fun v42 =>
    C.any (St.env s2)[15]? fun v43 =>
    C.any (St.env s2)[16]? fun v44 =>
    C.any (St.env s2)[17]? fun v45 =>
    C.any (St.env s2)[18]? fun v46 =>
    C.sameH (St.H s2) [] <|
    some (.int .i64 x34))
   (none)
/-- slices.IndexFunc[[]apogee/api.Point,apogee/api.Point] -/
theorem r42 (C : Cb) (d : Nat) (a0 : List AV) (a1 : AV) : xcall C M unr d 42 [(.lst a0), (.fn 31 [] [])] =
  C.iter (r42R0 C d a0 a1) 1000000 ⟨[(.lst a0), (.fn 31 [] []), (.tup []), (.tup []), (.int .i64 0), (.tup []), (.lst a0), (.int .i64 (((List.length a0) : Nat) : Int)), (.int .i64 0), (.tup []), (.tup []), (.tup []), (.tup []), (.tup []), (.tup []), (.tup []), (.tup []), (.tup []), (.tup [])], []⟩ [0] [r42X0_0 C d a0 a1] (r42E0 C d a0 a1) := by kernel_rfl
/-- cmp.isNaN[int64] -/
theorem r43 (C : Cb) (d : Nat) (a0 : Int) : xcall C M unr d 43 [(.int .i64 a0)] =
  some (.bool (a0 != a0)) := by kernel_rfl
/-- cmp.isNaN[uint64] -/
theorem r44 (C : Cb) (d : Nat) (a0 : Int) : xcall C M unr d 44 [(.int .u64 a0)] =
  some (.bool (a0 != a0)) := by kernel_rfl
/-- apogee/point.Right -/
theorem r10 (C : Cb) (d : Nat) (a0 : Int) (a1 : Int) : xcall C M unr d 10 [(.agg [(.int .i64 a0), (.int .i64 a1)])] =
  C.bool (pcall M d 21 [(.int .i64 a0)]) fun b0 =>
  cnd b0
   (C.bool (pcall M d 21 [(.int .i64 a1)]) fun b1 =>
    some (.bool b1))
   (some (.bool false)) := by kernel_rfl
/-- apogee/point.within -/
theorem r21 (C : Cb) (d : Nat) (a0 : Int) : xcall C M unr d 21 [(.int .i64 a0)] =
  cnd (decide (a0 ≥ (-1099511627776)))
   (some (.bool (decide (a0 ≤ 1099511627776))))
   (some (.bool false)) := by kernel_rfl
/-- apogee/apogeelaw10.PointMeets -/
theorem r6 (C : Cb) (d : Nat) (a0 : Int) (a1 : Int) (a2 : Int) (a3 : Int) (a4 : Int) (a5 : Int) (a6 : Int) (a7 : Int) : xcall C M unr d 6 [(.agg [(.int .i64 a0), (.int .i64 a1)]), (.agg [(.int .i64 a2), (.int .i64 a3)]), (.agg [(.int .i64 a4), (.int .i64 a5)]), (.agg [(.int .i64 a6), (.int .i64 a7)])] =
  C.bool (pcall M d 16 [(.agg [(.int .i64 a0), (.int .i64 a1)]), (.agg [(.int .i64 a2), (.int .i64 a3)]), (.agg [(.int .i64 a4), (.int .i64 a5)]), (.agg [(.int .i64 a6), (.int .i64 a7)])]) fun b0 =>
  C.bool (pcall M d 9 []) fun b1 =>
  cnd (!b1)
   (some (.bool false))
   (C.bool (pcall M d 16 [(.agg [(.int .i64 a4), (.int .i64 a5)]), (.agg [(.int .i64 a6), (.int .i64 a7)]), (.agg [(.int .i64 a0), (.int .i64 a1)]), (.agg [(.int .i64 a2), (.int .i64 a3)])]) fun b2 =>
    cnd (xor true (b0 == b2))
     (some (.bool false))
     (C.bool (pcall M d 16 [(.agg [(.int .i64 a2), (.int .i64 a3)]), (.agg [(.int .i64 a0), (.int .i64 a1)]), (.agg [(.int .i64 a4), (.int .i64 a5)]), (.agg [(.int .i64 a6), (.int .i64 a7)])]) fun b3 =>
      cnd (xor true (b0 == b3))
       (some (.bool false))
       (C.bool (pcall M d 16 [(.agg [(.int .i64 a0), (.int .i64 a1)]), (.agg [(.int .i64 a2), (.int .i64 a3)]), (.agg [(.int .i64 a6), (.int .i64 a7)]), (.agg [(.int .i64 a4), (.int .i64 a5)])]) fun b4 =>
        cnd (xor true (b0 == b4))
         (some (.bool false))
         (C.bool (pcall M d 11 [(.agg [(.int .i64 a0), (.int .i64 a1)])]) fun b5 =>
          cnd (!b5)
           (some (.bool true))
           (C.bool (pcall M d 11 [(.agg [(.int .i64 a2), (.int .i64 a3)])]) fun b6 =>
            cnd (!b6)
             (some (.bool true))
             (C.bool (pcall M d 11 [(.agg [(.int .i64 a4), (.int .i64 a5)])]) fun b7 =>
              cnd (!b7)
               (some (.bool true))
               (C.bool (pcall M d 16 [(.agg [(.int .i64 a0), (.int .i64 a1)]), (.agg [(.int .i64 a2), (.int .i64 a3)]), (.agg [(.int .i64 a0), (.int .i64 a1)]), (.agg [(.int .i64 a2), (.int .i64 a3)])]) fun b8 =>
                cnd b8
                 (C.bool (pcall M d 14 [(.agg [(.int .i64 a0), (.int .i64 a1)]), (.agg [(.int .i64 a0), (.int .i64 a1)]), (.agg [(.int .i64 a2), (.int .i64 a3)])]) fun b9 =>
                  cnd b9
                   (C.bool (pcall M d 14 [(.agg [(.int .i64 a2), (.int .i64 a3)]), (.agg [(.int .i64 a0), (.int .i64 a1)]), (.agg [(.int .i64 a2), (.int .i64 a3)])]) fun b10 =>
                    cnd b10
                     (C.bool (pcall M d 16 [(.agg [(.int .i64 a0), (.int .i64 a1)]), (.agg [(.int .i64 a2), (.int .i64 a3)]), (.agg [(.int .i64 a4), (.int .i64 a5)]), (.agg [(.int .i64 a4), (.int .i64 a5)])]) fun b11 =>
                      C.bool (pcall M d 14 [(.agg [(.int .i64 a4), (.int .i64 a5)]), (.agg [(.int .i64 a0), (.int .i64 a1)]), (.agg [(.int .i64 a2), (.int .i64 a3)])]) fun b12 =>
                      some (.bool (xor false (b11 == b12))))
                     (some (.bool false)))
                   (some (.bool false)))
                 (some (.bool false))))))))) := by kernel_rfl
/-- apogee/apogeeref10.Right -/
theorem r11 (C : Cb) (d : Nat) (a0 : Int) (a1 : Int) : xcall C M unr d 11 [(.agg [(.int .i64 a0), (.int .i64 a1)])] =
  cnd (decide (a0 ≥ (-1099511627776)))
   (cnd (decide (a0 ≤ 1099511627776))
     (cnd (decide (a1 ≥ (-1099511627776)))
       (some (.bool (decide (a1 ≤ 1099511627776))))
       (some (.bool false)))
     (some (.bool false)))
   (some (.bool false)) := by kernel_rfl
/-- apogee/apogeelaw10.awake -/
theorem r9 (C : Cb) (d : Nat)  : xcall C M unr d 9 [] =
  C.tup 2 (pcall M d 18 [(.agg [(.int .i64 2), (.int .i64 0)]), (.int .i64 1), (.int .i64 (-1))]) fun l0 =>
  C.agg 2 l0[0]? fun l1 =>
  C.int .i64 l1[0]? fun x2 =>
  C.int .i64 l1[1]? fun x3 =>
  C.bool l0[1]? fun b4 =>
  C.tup 2 (pcall M d 18 [(.agg [(.int .i64 2), (.int .i64 0)]), (.int .i64 1099511627776), (.int .i64 0)]) fun l5 =>
  C.agg 2 l5[0]? fun l6 =>
  C.int .i64 l6[0]? fun x7 =>
  C.int .i64 l6[1]? fun x8 =>
  C.bool l5[1]? fun b9 =>
  C.int .i64 (pcall M d 12 [(.agg [(.int .i64 0), (.int .i64 0)]), (.agg [(.int .i64 2), (.int .i64 0)]), (.agg [(.int .i64 2), (.int .i64 2)])]) fun x10 =>
  cnd (x10 == 1)
   (C.int .i64 (pcall M d 12 [(.agg [(.int .i64 2), (.int .i64 2)]), (.agg [(.int .i64 2), (.int .i64 0)]), (.agg [(.int .i64 0), (.int .i64 0)])]) fun x11 =>
    cnd (x11 == (-1))
     (C.bool (pcall M d 14 [(.agg [(.int .i64 1), (.int .i64 1)]), (.agg [(.int .i64 0), (.int .i64 0)]), (.agg [(.int .i64 2), (.int .i64 2)])]) fun b12 =>
      cnd b12
       (C.bool (pcall M d 14 [(.agg [(.int .i64 2), (.int .i64 0)]), (.agg [(.int .i64 0), (.int .i64 0)]), (.agg [(.int .i64 2), (.int .i64 2)])]) fun b13 =>
        cnd (!b13)
         (C.bool (pcall M d 16 [(.agg [(.int .i64 0), (.int .i64 0)]), (.agg [(.int .i64 2), (.int .i64 2)]), (.agg [(.int .i64 2), (.int .i64 0)]), (.agg [(.int .i64 0), (.int .i64 2)])]) fun b14 =>
          cnd b14
           (C.bool (pcall M d 16 [(.agg [(.int .i64 0), (.int .i64 0)]), (.agg [(.int .i64 1), (.int .i64 0)]), (.agg [(.int .i64 2), (.int .i64 0)]), (.agg [(.int .i64 2), (.int .i64 2)])]) fun b15 =>
            cnd (!b15)
             (C.bool (pcall M d 10 [(.agg [(.int .i64 2), (.int .i64 2)])]) fun b16 =>
              cnd b16
               (C.bool (pcall M d 10 [(.agg [(.int .i64 1099511627777), (.int .i64 0)])]) fun b17 =>
                cnd (!b17)
                 (cnd (xor false ((x2 == 3) && ((x3 == (-1)) && true)))
                   (cnd b4
                     (cnd (!b9)
                       (C.bool (pcall M d 20 [(.lst []), (.lst [])]) fun b18 =>
                        some (.bool b18))
                       (some (.bool false)))
                     (some (.bool false)))
                   (some (.bool false)))
                 (some (.bool false)))
               (some (.bool false)))
             (some (.bool false)))
           (some (.bool false)))
         (some (.bool false)))
       (some (.bool false)))
     (some (.bool false)))
   (some (.bool false)) := by kernel_rfl
/-- apogee/apogeelaw10.PointMoves -/
theorem r5 (C : Cb) (d : Nat) (a0 : Int) (a1 : Int) (a2 : Int) (a3 : Int) (a4 : Int) (a5 : Int) (a6 : Int) (a7 : Int) (a8 : Int) (a9 : Int) : xcall C M unr d 5 [(.agg [(.int .i64 a0), (.int .i64 a1)]), (.agg [(.int .i64 a2), (.int .i64 a3)]), (.agg [(.int .i64 a4), (.int .i64 a5)]), (.agg [(.int .i64 a6), (.int .i64 a7)]), (.int .i64 a8), (.int .i64 a9)] =
  C.bool (pcall M d 9 []) fun b0 =>
  cnd (!b0)
   (some (.bool false))
   (C.tup 2 (pcall M d 18 [(.agg [(.int .i64 a0), (.int .i64 a1)]), (.int .i64 a8), (.int .i64 a9)]) fun l1 =>
    C.agg 2 l1[0]? fun l2 =>
    C.int .i64 l2[0]? fun x3 =>
    C.int .i64 l2[1]? fun x4 =>
    C.bool l1[1]? fun b5 =>
    cnd (!b5)
     (some (.bool true))
     (C.tup 2 (pcall M d 18 [(.agg [(.int .i64 x3), (.int .i64 x4)]), (.int .i64 (IntKind.wrap .i64 (0 - a8))), (.int .i64 (IntKind.wrap .i64 (0 - a9)))]) fun l6 =>
      C.agg 2 l6[0]? fun l7 =>
      C.int .i64 l7[0]? fun x8 =>
      C.int .i64 l7[1]? fun x9 =>
      C.bool l6[1]? fun b10 =>
      cnd (!b10)
       (some (.bool false))
       (cnd (xor true ((x8 == a0) && ((x9 == a1) && true)))
         (some (.bool false))
         (C.tup 2 (pcall M d 18 [(.agg [(.int .i64 a2), (.int .i64 a3)]), (.int .i64 a8), (.int .i64 a9)]) fun l11 =>
          C.agg 2 l11[0]? fun l12 =>
          C.int .i64 l12[0]? fun x13 =>
          C.int .i64 l12[1]? fun x14 =>
          C.bool l11[1]? fun b15 =>
          cnd (!b15)
           (some (.bool true))
           (C.tup 2 (pcall M d 18 [(.agg [(.int .i64 x13), (.int .i64 x14)]), (.int .i64 (IntKind.wrap .i64 (0 - a8))), (.int .i64 (IntKind.wrap .i64 (0 - a9)))]) fun l16 =>
            C.agg 2 l16[0]? fun l17 =>
            C.int .i64 l17[0]? fun x18 =>
            C.int .i64 l17[1]? fun x19 =>
            C.bool l16[1]? fun b20 =>
            cnd (!b20)
             (some (.bool false))
             (cnd (xor true ((x18 == a2) && ((x19 == a3) && true)))
               (some (.bool false))
               (C.tup 2 (pcall M d 18 [(.agg [(.int .i64 a4), (.int .i64 a5)]), (.int .i64 a8), (.int .i64 a9)]) fun l21 =>
                C.agg 2 l21[0]? fun l22 =>
                C.int .i64 l22[0]? fun x23 =>
                C.int .i64 l22[1]? fun x24 =>
                C.bool l21[1]? fun b25 =>
                cnd (!b25)
                 (some (.bool true))
                 (C.tup 2 (pcall M d 18 [(.agg [(.int .i64 x23), (.int .i64 x24)]), (.int .i64 (IntKind.wrap .i64 (0 - a8))), (.int .i64 (IntKind.wrap .i64 (0 - a9)))]) fun l26 =>
                  C.agg 2 l26[0]? fun l27 =>
                  C.int .i64 l27[0]? fun x28 =>
                  C.int .i64 l27[1]? fun x29 =>
                  C.bool l26[1]? fun b30 =>
                  cnd (!b30)
                   (some (.bool false))
                   (cnd (xor true ((x28 == a4) && ((x29 == a5) && true)))
                     (some (.bool false))
                     (C.tup 2 (pcall M d 18 [(.agg [(.int .i64 a6), (.int .i64 a7)]), (.int .i64 a8), (.int .i64 a9)]) fun l31 =>
                      C.agg 2 l31[0]? fun l32 =>
                      C.int .i64 l32[0]? fun x33 =>
                      C.int .i64 l32[1]? fun x34 =>
                      C.bool l31[1]? fun b35 =>
                      cnd (!b35)
                       (some (.bool true))
                       (C.tup 2 (pcall M d 18 [(.agg [(.int .i64 x33), (.int .i64 x34)]), (.int .i64 (IntKind.wrap .i64 (0 - a8))), (.int .i64 (IntKind.wrap .i64 (0 - a9)))]) fun l36 =>
                        C.agg 2 l36[0]? fun l37 =>
                        C.int .i64 l37[0]? fun x38 =>
                        C.int .i64 l37[1]? fun x39 =>
                        C.bool l36[1]? fun b40 =>
                        cnd (!b40)
                         (some (.bool false))
                         (cnd (xor true ((x38 == a6) && ((x39 == a7) && true)))
                           (some (.bool false))
                           (C.int .i64 (pcall M d 12 [(.agg [(.int .i64 a0), (.int .i64 a1)]), (.agg [(.int .i64 a2), (.int .i64 a3)]), (.agg [(.int .i64 a4), (.int .i64 a5)])]) fun x41 =>
                            C.int .i64 (pcall M d 12 [(.agg [(.int .i64 x3), (.int .i64 x4)]), (.agg [(.int .i64 x13), (.int .i64 x14)]), (.agg [(.int .i64 x23), (.int .i64 x24)])]) fun x42 =>
                            cnd (x41 == x42)
                             (C.bool (pcall M d 14 [(.agg [(.int .i64 a0), (.int .i64 a1)]), (.agg [(.int .i64 a2), (.int .i64 a3)]), (.agg [(.int .i64 a4), (.int .i64 a5)])]) fun b43 =>
                              C.bool (pcall M d 14 [(.agg [(.int .i64 x3), (.int .i64 x4)]), (.agg [(.int .i64 x13), (.int .i64 x14)]), (.agg [(.int .i64 x23), (.int .i64 x24)])]) fun b44 =>
                              cnd (xor false (b43 == b44))
                               (C.bool (pcall M d 16 [(.agg [(.int .i64 a0), (.int .i64 a1)]), (.agg [(.int .i64 a2), (.int .i64 a3)]), (.agg [(.int .i64 a4), (.int .i64 a5)]), (.agg [(.int .i64 a6), (.int .i64 a7)])]) fun b45 =>
                                C.bool (pcall M d 16 [(.agg [(.int .i64 x3), (.int .i64 x4)]), (.agg [(.int .i64 x13), (.int .i64 x14)]), (.agg [(.int .i64 x23), (.int .i64 x24)]), (.agg [(.int .i64 x33), (.int .i64 x34)])]) fun b46 =>
                                some (.bool (xor false (b45 == b46))))
                               (some (.bool false)))
                             (some (.bool false))))))))))))))) := by kernel_rfl
/-- apogee/apogeelaw10.PointMirror -/
theorem r7 (C : Cb) (d : Nat) (a0 : Int) (a1 : Int) (a2 : Int) (a3 : Int) (a4 : Int) (a5 : Int) (a6 : Int) (a7 : Int) : xcall C M unr d 7 [(.agg [(.int .i64 a0), (.int .i64 a1)]), (.agg [(.int .i64 a2), (.int .i64 a3)]), (.agg [(.int .i64 a4), (.int .i64 a5)]), (.agg [(.int .i64 a6), (.int .i64 a7)])] =
  C.bool (pcall M d 9 []) fun b0 =>
  cnd (!b0)
   (C.bool (pcall M d 9 []) fun b1 =>
    some (.bool b1))
   (C.bool (pcall M d 11 [(.agg [(.int .i64 a0), (.int .i64 a1)])]) fun b2 =>
    cnd (!b2)
     (C.bool (pcall M d 9 []) fun b3 =>
      some (.bool b3))
     (C.bool (pcall M d 11 [(.agg [(.int .i64 a2), (.int .i64 a3)])]) fun b4 =>
      cnd (!b4)
       (C.bool (pcall M d 9 []) fun b5 =>
        some (.bool b5))
       (C.bool (pcall M d 11 [(.agg [(.int .i64 a4), (.int .i64 a5)])]) fun b6 =>
        cnd (!b6)
         (C.bool (pcall M d 9 []) fun b7 =>
          some (.bool b7))
         (C.bool (pcall M d 11 [(.agg [(.int .i64 a6), (.int .i64 a7)])]) fun b8 =>
          cnd (!b8)
           (C.bool (pcall M d 9 []) fun b9 =>
            some (.bool b9))
           (C.int .i64 (pcall M d 12 [(.agg [(.int .i64 (IntKind.wrap .i64 (0 - a0))), (.int .i64 a1)]), (.agg [(.int .i64 (IntKind.wrap .i64 (0 - a2))), (.int .i64 a3)]), (.agg [(.int .i64 (IntKind.wrap .i64 (0 - a4))), (.int .i64 a5)])]) fun x10 =>
            C.int .i64 (pcall M d 12 [(.agg [(.int .i64 a0), (.int .i64 a1)]), (.agg [(.int .i64 a2), (.int .i64 a3)]), (.agg [(.int .i64 a4), (.int .i64 a5)])]) fun x11 =>
            cnd (x10 == (IntKind.wrap .i64 (0 - x11)))
             (C.bool (pcall M d 16 [(.agg [(.int .i64 (IntKind.wrap .i64 (0 - a0))), (.int .i64 a1)]), (.agg [(.int .i64 (IntKind.wrap .i64 (0 - a2))), (.int .i64 a3)]), (.agg [(.int .i64 (IntKind.wrap .i64 (0 - a4))), (.int .i64 a5)]), (.agg [(.int .i64 (IntKind.wrap .i64 (0 - a6))), (.int .i64 a7)])]) fun b12 =>
              C.bool (pcall M d 16 [(.agg [(.int .i64 a0), (.int .i64 a1)]), (.agg [(.int .i64 a2), (.int .i64 a3)]), (.agg [(.int .i64 a4), (.int .i64 a5)]), (.agg [(.int .i64 a6), (.int .i64 a7)])]) fun b13 =>
              cnd (xor false (b12 == b13))
               (C.int .i64 (pcall M d 12 [(.agg [(.int .i64 (IntKind.wrap .i64 (0 - a1))), (.int .i64 a0)]), (.agg [(.int .i64 (IntKind.wrap .i64 (0 - a3))), (.int .i64 a2)]), (.agg [(.int .i64 (IntKind.wrap .i64 (0 - a5))), (.int .i64 a4)])]) fun x14 =>
                C.int .i64 (pcall M d 12 [(.agg [(.int .i64 a0), (.int .i64 a1)]), (.agg [(.int .i64 a2), (.int .i64 a3)]), (.agg [(.int .i64 a4), (.int .i64 a5)])]) fun x15 =>
                cnd (x14 == x15)
                 (C.bool (pcall M d 16 [(.agg [(.int .i64 (IntKind.wrap .i64 (0 - a1))), (.int .i64 a0)]), (.agg [(.int .i64 (IntKind.wrap .i64 (0 - a3))), (.int .i64 a2)]), (.agg [(.int .i64 (IntKind.wrap .i64 (0 - a5))), (.int .i64 a4)]), (.agg [(.int .i64 (IntKind.wrap .i64 (0 - a7))), (.int .i64 a6)])]) fun b16 =>
                  C.bool (pcall M d 16 [(.agg [(.int .i64 a0), (.int .i64 a1)]), (.agg [(.int .i64 a2), (.int .i64 a3)]), (.agg [(.int .i64 a4), (.int .i64 a5)]), (.agg [(.int .i64 a6), (.int .i64 a7)])]) fun b17 =>
                  some (.bool (xor false (b16 == b17))))
                 (some (.bool false)))
               (some (.bool false)))
             (some (.bool false))))))) := by kernel_rfl
/-- apogee/point.Move -/
theorem r18 (C : Cb) (d : Nat) (a0 : Int) (a1 : Int) (a2 : Int) (a3 : Int) : xcall C M unr d 18 [(.agg [(.int .i64 a0), (.int .i64 a1)]), (.int .i64 a2), (.int .i64 a3)] =
  C.tup 2 (pcall M d 28 [(.int .i64 a0), (.int .i64 a2)]) fun l0 =>
  C.int .i64 l0[0]? fun x1 =>
  C.bool l0[1]? fun b2 =>
  C.tup 2 (pcall M d 28 [(.int .i64 a1), (.int .i64 a3)]) fun l3 =>
  C.int .i64 l3[0]? fun x4 =>
  C.bool l3[1]? fun b5 =>
  cnd (!b2)
   (some (.tup [(.agg [(.int .i64 0), (.int .i64 0)]), (.bool false)]))
   (cnd (!b5)
     (some (.tup [(.agg [(.int .i64 0), (.int .i64 0)]), (.bool false)]))
     (C.bool (pcall M d 22 [(.lst [(.agg [(.int .i64 a0), (.int .i64 a1)]), (.agg [(.int .i64 x1), (.int .i64 x4)])])]) fun b6 =>
      cnd (!b6)
       (some (.tup [(.agg [(.int .i64 0), (.int .i64 0)]), (.bool false)]))
       (some (.tup [(.agg [(.int .i64 x1), (.int .i64 x4)]), (.bool true)])))) := by kernel_rfl
/-- apogee/point.Same -/
theorem r20 (C : Cb) (d : Nat) (a0 : List AV) (a1 : List AV) : xcall C M unr d 20 [(.lst a0), (.lst a1)] =
  C.bool (pcall M d 29 [(.lst a0), (.lst a1)]) fun b0 =>
  some (.bool b0) := by kernel_rfl
/-- apogee/fix.Add -/
theorem r28 (C : Cb) (d : Nat) (a0 : Int) (a1 : Int) : xcall C M unr d 28 [(.int .i64 a0), (.int .i64 a1)] =
  C.agg 2 (pcall M d 40 [(.int .i64 a0)]) fun l0 =>
  C.int .i64 l0[0]? fun x1 =>
  C.int .u64 l0[1]? fun x2 =>
  C.agg 2 (pcall M d 40 [(.int .i64 a1)]) fun l3 =>
  C.int .i64 l3[0]? fun x4 =>
  C.int .u64 l3[1]? fun x5 =>
  C.tup 2 (pcall M d 41 [(.agg [(.int .i64 x1), (.int .u64 x2)]), (.agg [(.int .i64 x4), (.int .u64 x5)])]) fun l6 =>
  C.agg 2 l6[0]? fun l7 =>
  C.int .i64 l7[0]? fun x8 =>
  C.int .u64 l7[1]? fun x9 =>
  C.bool l6[1]? fun b10 =>
  C.tup 2 (pcall M d 39 [(.agg [(.int .i64 x8), (.int .u64 x9)]), (.bool b10)]) fun l11 =>
  C.int .i64 l11[0]? fun x12 =>
  C.bool l11[1]? fun b13 =>
  some (.tup [(.int .i64 x12), (.bool b13)]) := by kernel_rfl
/-- apogee/fix.told -/
theorem r39 (C : Cb) (d : Nat) (a0 : Int) (a1 : Int) (a2 : Bool) : xcall C M unr d 39 [(.agg [(.int .i64 a0), (.int .u64 a1)]), (.bool a2)] =
  cnd (!a2)
   (some (.tup [(.int .i64 0), (.bool false)]))
   (C.tup 2 (pcall M d 47 [(.agg [(.int .i64 a0), (.int .u64 a1)])]) fun l0 =>
    C.int .i64 l0[0]? fun x1 =>
    C.bool l0[1]? fun b2 =>
    some (.tup [(.int .i64 x1), (.bool b2)])) := by kernel_rfl
/-- apogee/wide.Of -/
theorem r40 (C : Cb) (d : Nat) (a0 : Int) : xcall C M unr d 40 [(.int .i64 a0)] =
  some (.agg [(.int .i64 (Int.fdiv a0 (2 ^ (min (Int.toNat 63) 64)))), (.int .u64 (IntKind.wrap .u64 a0))]) := by kernel_rfl
/-- (apogee/wide.Wide).Add -/
theorem r41 (C : Cb) (d : Nat) (a0 : Int) (a1 : Int) (a2 : Int) (a3 : Int) : xcall C M unr d 41 [(.agg [(.int .i64 a0), (.int .u64 a1)]), (.agg [(.int .i64 a2), (.int .u64 a3)])] =
  C.tup 2 (add64E [(.int .u64 a1), (.int .u64 a3), (.int .u64 0)]) fun l0 =>
  C.int .u64 l0[0]? fun x1 =>
  C.int .u64 l0[1]? fun x2 =>
  C.tup 2 (add64E [(.int .u64 (IntKind.wrap .u64 a0)), (.int .u64 (IntKind.wrap .u64 a2)), (.int .u64 x2)]) fun l3 =>
  C.int .u64 l3[0]? fun x4 =>
  C.int .u64 l3[1]? fun x5 =>
  cnd (decide ((bits .and .i64 (bits .xor .i64 a0 (IntKind.wrap .i64 x4)) (bits .xor .i64 a2 (IntKind.wrap .i64 x4))) < 0))
   (some (.tup [(.agg [(.int .i64 0), (.int .u64 0)]), (.bool false)]))
   (some (.tup [(.agg [(.int .i64 (IntKind.wrap .i64 x4)), (.int .u64 x1)]), (.bool true)])) := by kernel_rfl
/-- (apogee/wide.Wide).Int -/
theorem r47 (C : Cb) (d : Nat) (a0 : Int) (a1 : Int) : xcall C M unr d 47 [(.agg [(.int .i64 a0), (.int .u64 a1)])] =
  C.agg 2 (pcall M d 40 [(.int .i64 (IntKind.wrap .i64 a1))]) fun l0 =>
  C.int .i64 l0[0]? fun x1 =>
  C.int .u64 l0[1]? fun x2 =>
  cnd (xor true ((x1 == a0) && ((x2 == a1) && true)))
   (some (.tup [(.int .i64 0), (.bool false)]))
   (some (.tup [(.int .i64 (IntKind.wrap .i64 a1)), (.bool true)])) := by kernel_rfl
end Go.Proofs.Ytbcbaidnamebkaa.AE
