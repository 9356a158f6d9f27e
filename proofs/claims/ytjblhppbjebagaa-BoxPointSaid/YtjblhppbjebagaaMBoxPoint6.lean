/- The texts that the law BoxPoint needs, part 6: AEresB, AElpB, GBoxgeo, AEbox1, AEbox2, AEptspec4, AEptspec5, AEptspec6, AEbox3, AEbox4, AEresawake, AEawake12, AEresBoxPoint, AEpts, AElawBoxPoint. No conditions. -/
import Derived.Test.YtjblhppbjebagaaMBoxPoint5
namespace Go.Proofs.Ytjblhppbjebagaa.AE
set_option linter.unusedVariables false
set_option linter.unusedSimpArgs false
set_option linter.constructorNameAsVariable false
open Go
set_option maxRecDepth 100000
/-- apogee/box.Grow -/
theorem r9 (C : Cb) (d : Nat) (a0 : Int) (a1 : Int) (a2 : Int) (a3 : Int) (a4 : Int) : xcall C M unr d 9 [(.agg [(.int .i64 a0), (.int .i64 a1), (.int .i64 a2), (.int .i64 a3)]), (.int .i64 a4)] =
  C.tup 2 (pcall M d 32 [(.agg [(.int .i64 a0), (.int .i64 a1)]), (.int .i64 (IntKind.wrap .i64 (0 - a4))), (.int .i64 (IntKind.wrap .i64 (0 - a4)))]) fun l0 =>
  C.agg 2 l0[0]? fun l1 =>
  C.int .i64 l1[0]? fun x2 =>
  C.int .i64 l1[1]? fun x3 =>
  C.bool l0[1]? fun b4 =>
  C.tup 2 (pcall M d 32 [(.agg [(.int .i64 a2), (.int .i64 a3)]), (.int .i64 a4), (.int .i64 a4)]) fun l5 =>
  C.agg 2 l5[0]? fun l6 =>
  C.int .i64 l6[0]? fun x7 =>
  C.int .i64 l6[1]? fun x8 =>
  C.bool l5[1]? fun b9 =>
  cnd (decide (a4 < 0))
   (some (.tup [(.agg [(.int .i64 0), (.int .i64 0), (.int .i64 0), (.int .i64 0)]), (.bool false)]))
   (C.bool (pcall M d 12 [(.agg [(.int .i64 a0), (.int .i64 a1), (.int .i64 a2), (.int .i64 a3)])]) fun b10 =>
   cnd (!b10)
   (some (.tup [(.agg [(.int .i64 0), (.int .i64 0), (.int .i64 0), (.int .i64 0)]), (.bool false)]))
   (cnd (!b4)
   (some (.tup [(.agg [(.int .i64 0), (.int .i64 0), (.int .i64 0), (.int .i64 0)]), (.bool false)]))
   (cnd (!b9)
   (some (.tup [(.agg [(.int .i64 0), (.int .i64 0), (.int .i64 0), (.int .i64 0)]), (.bool false)]))
   (some (.tup [(.agg [(.int .i64 x2), (.int .i64 x3), (.int .i64 x7), (.int .i64 x8)]), (.bool true)]))))) := by kernel_rfl
/-- apogee/apogeeref12.Of -/
theorem r10 (C : Cb) (d : Nat) (a0 : Int) (a1 : Int) (a2 : Int) : xcall C M unr d 10 [(.agg [(.int .i64 a0), (.int .i64 a1)]), (.int .i64 a2)] =
  C.bool (pcall M d 26 [(.agg [(.int .i64 a0), (.int .i64 a1)])]) fun b0 =>
  cnd (!b0)
   (some (.agg [(.int .i64 0), (.int .i64 0), (.int .i64 0), (.int .i64 0)]))
   (C.int .i64 (pcall M d 33 [(.int .i64 (IntKind.wrap .i64 (a0 - (if (4398046511104 < (if (0 > a2) then 0 else a2)) then 4398046511104 else (if (0 > a2) then 0 else a2)))))]) fun x1 =>
   C.int .i64 (pcall M d 33 [(.int .i64 (IntKind.wrap .i64 (a1 - (if (4398046511104 < (if (0 > a2) then 0 else a2)) then 4398046511104 else (if (0 > a2) then 0 else a2)))))]) fun x2 =>
   C.int .i64 (pcall M d 33 [(.int .i64 (IntKind.wrap .i64 (a0 + (if (4398046511104 < (if (0 > a2) then 0 else a2)) then 4398046511104 else (if (0 > a2) then 0 else a2)))))]) fun x3 =>
   C.int .i64 (pcall M d 33 [(.int .i64 (IntKind.wrap .i64 (a1 + (if (4398046511104 < (if (0 > a2) then 0 else a2)) then 4398046511104 else (if (0 > a2) then 0 else a2)))))]) fun x4 =>
   some (.agg [(.int .i64 x1), (.int .i64 x2), (.int .i64 x3), (.int .i64 x4)])) := by kernel_rfl
/-- apogee/box.Right -/
theorem r12 (C : Cb) (d : Nat) (a0 : Int) (a1 : Int) (a2 : Int) (a3 : Int) : xcall C M unr d 12 [(.agg [(.int .i64 a0), (.int .i64 a1), (.int .i64 a2), (.int .i64 a3)])] =
  C.bool (pcall M d 35 [(.agg [(.int .i64 a0), (.int .i64 a1)])]) fun b0 =>
  cnd b0
   (C.bool (pcall M d 35 [(.agg [(.int .i64 a2), (.int .i64 a3)])]) fun b1 =>
   cnd b1
   (cnd (decide (a0 ≤ a2))
   (some (.bool (decide (a1 ≤ a3))))
   (some (.bool false)))
   (some (.bool false)))
   (some (.bool false)) := by kernel_rfl
/-- apogee/apogeeref12.Right -/
theorem r13 (C : Cb) (d : Nat) (a0 : Int) (a1 : Int) (a2 : Int) (a3 : Int) : xcall C M unr d 13 [(.agg [(.int .i64 a0), (.int .i64 a1), (.int .i64 a2), (.int .i64 a3)])] =
  C.bool (pcall M d 26 [(.agg [(.int .i64 a0), (.int .i64 a1)])]) fun b0 =>
  cnd b0
   (C.bool (pcall M d 26 [(.agg [(.int .i64 a2), (.int .i64 a3)])]) fun b1 =>
   cnd b1
   (cnd (decide (a0 ≤ a2))
   (some (.bool (decide (a1 ≤ a3))))
   (some (.bool false)))
   (some (.bool false)))
   (some (.bool false)) := by kernel_rfl
/-- apogee/box.Of -/
theorem r14 (C : Cb) (d : Nat) (a0 : Int) (a1 : Int) (a2 : Int) : xcall C M unr d 14 [(.agg [(.int .i64 a0), (.int .i64 a1)]), (.int .i64 a2)] =
  C.bool (pcall M d 35 [(.agg [(.int .i64 a0), (.int .i64 a1)])]) fun b0 =>
  cnd (!b0)
   (some (.agg [(.int .i64 0), (.int .i64 0), (.int .i64 0), (.int .i64 0)]))
   (C.int .i64 (pcall M d 36 [(.int .i64 a2), (.int .i64 0), (.int .i64 4398046511104)]) fun x1 =>
   C.int .i64 (pcall M d 37 [(.int .i64 (IntKind.wrap .i64 (a0 - x1)))]) fun x2 =>
   C.int .i64 (pcall M d 37 [(.int .i64 (IntKind.wrap .i64 (a1 - x1)))]) fun x3 =>
   C.int .i64 (pcall M d 37 [(.int .i64 (IntKind.wrap .i64 (a0 + x1)))]) fun x4 =>
   C.int .i64 (pcall M d 37 [(.int .i64 (IntKind.wrap .i64 (a1 + x1)))]) fun x5 =>
   some (.agg [(.int .i64 x2), (.int .i64 x3), (.int .i64 x4), (.int .i64 x5)])) := by kernel_rfl
/-- apogee/box.Has -/
theorem r15 (C : Cb) (d : Nat) (a0 : Int) (a1 : Int) (a2 : Int) (a3 : Int) (a4 : Int) (a5 : Int) : xcall C M unr d 15 [(.agg [(.int .i64 a0), (.int .i64 a1), (.int .i64 a2), (.int .i64 a3)]), (.agg [(.int .i64 a4), (.int .i64 a5)])] =
  C.bool (pcall M d 12 [(.agg [(.int .i64 a0), (.int .i64 a1), (.int .i64 a2), (.int .i64 a3)])]) fun b0 =>
  cnd b0
   (C.bool (pcall M d 35 [(.agg [(.int .i64 a4), (.int .i64 a5)])]) fun b1 =>
   cnd b1
   (cnd (decide (a0 ≤ a4))
   (cnd (decide (a4 ≤ a2))
   (cnd (decide (a1 ≤ a5))
   (some (.bool (decide (a5 ≤ a3))))
   (some (.bool false)))
   (some (.bool false)))
   (some (.bool false)))
   (some (.bool false)))
   (some (.bool false)) := by kernel_rfl
/-- apogee/apogeeref12.Has -/
theorem r16 (C : Cb) (d : Nat) (a0 : Int) (a1 : Int) (a2 : Int) (a3 : Int) (a4 : Int) (a5 : Int) : xcall C M unr d 16 [(.agg [(.int .i64 a0), (.int .i64 a1), (.int .i64 a2), (.int .i64 a3)]), (.agg [(.int .i64 a4), (.int .i64 a5)])] =
  C.bool (pcall M d 13 [(.agg [(.int .i64 a0), (.int .i64 a1), (.int .i64 a2), (.int .i64 a3)])]) fun b0 =>
  cnd b0
   (C.bool (pcall M d 26 [(.agg [(.int .i64 a4), (.int .i64 a5)])]) fun b1 =>
   cnd b1
   (cnd (decide (a4 ≥ a0))
   (cnd (decide (a4 ≤ a2))
   (cnd (decide (a5 ≥ a1))
   (some (.bool (decide (a5 ≤ a3))))
   (some (.bool false)))
   (some (.bool false)))
   (some (.bool false)))
   (some (.bool false)))
   (some (.bool false)) := by kernel_rfl
/-- apogee/box.In -/
theorem r17 (C : Cb) (d : Nat) (a0 : Int) (a1 : Int) (a2 : Int) (a3 : Int) (a4 : Int) (a5 : Int) (a6 : Int) (a7 : Int) : xcall C M unr d 17 [(.agg [(.int .i64 a0), (.int .i64 a1), (.int .i64 a2), (.int .i64 a3)]), (.agg [(.int .i64 a4), (.int .i64 a5), (.int .i64 a6), (.int .i64 a7)])] =
  C.bool (pcall M d 12 [(.agg [(.int .i64 a0), (.int .i64 a1), (.int .i64 a2), (.int .i64 a3)])]) fun b0 =>
  cnd b0
   (C.bool (pcall M d 15 [(.agg [(.int .i64 a4), (.int .i64 a5), (.int .i64 a6), (.int .i64 a7)]), (.agg [(.int .i64 a0), (.int .i64 a1)])]) fun b1 =>
   cnd b1
   (C.bool (pcall M d 15 [(.agg [(.int .i64 a4), (.int .i64 a5), (.int .i64 a6), (.int .i64 a7)]), (.agg [(.int .i64 a2), (.int .i64 a3)])]) fun b2 =>
   some (.bool b2))
   (some (.bool false)))
   (some (.bool false)) := by kernel_rfl
/-- apogee/apogeeref12.In -/
theorem r18 (C : Cb) (d : Nat) (a0 : Int) (a1 : Int) (a2 : Int) (a3 : Int) (a4 : Int) (a5 : Int) (a6 : Int) (a7 : Int) : xcall C M unr d 18 [(.agg [(.int .i64 a0), (.int .i64 a1), (.int .i64 a2), (.int .i64 a3)]), (.agg [(.int .i64 a4), (.int .i64 a5), (.int .i64 a6), (.int .i64 a7)])] =
  C.bool (pcall M d 13 [(.agg [(.int .i64 a0), (.int .i64 a1), (.int .i64 a2), (.int .i64 a3)])]) fun b0 =>
  cnd b0
   (C.bool (pcall M d 16 [(.agg [(.int .i64 a4), (.int .i64 a5), (.int .i64 a6), (.int .i64 a7)]), (.agg [(.int .i64 a0), (.int .i64 a1)])]) fun b1 =>
   cnd b1
   (C.bool (pcall M d 16 [(.agg [(.int .i64 a4), (.int .i64 a5), (.int .i64 a6), (.int .i64 a7)]), (.agg [(.int .i64 a2), (.int .i64 a3)])]) fun b2 =>
   some (.bool b2))
   (some (.bool false)))
   (some (.bool false)) := by kernel_rfl
/-- apogee/box.Join -/
theorem r19 (C : Cb) (d : Nat) (a0 : Int) (a1 : Int) (a2 : Int) (a3 : Int) (a4 : Int) (a5 : Int) (a6 : Int) (a7 : Int) : xcall C M unr d 19 [(.agg [(.int .i64 a0), (.int .i64 a1), (.int .i64 a2), (.int .i64 a3)]), (.agg [(.int .i64 a4), (.int .i64 a5), (.int .i64 a6), (.int .i64 a7)])] =
  C.bool (pcall M d 12 [(.agg [(.int .i64 a0), (.int .i64 a1), (.int .i64 a2), (.int .i64 a3)])]) fun b0 =>
  cnd b0
   (C.bool (pcall M d 12 [(.agg [(.int .i64 a4), (.int .i64 a5), (.int .i64 a6), (.int .i64 a7)])]) fun b1 =>
   cnd b1
   (some (.agg [(.int .i64 (if (a4 < a0) then a4 else a0)), (.int .i64 (if (a5 < a1) then a5 else a1)), (.int .i64 (if (a6 > a2) then a6 else a2)), (.int .i64 (if (a7 > a3) then a7 else a3))]))
   (C.bool (pcall M d 12 [(.agg [(.int .i64 a0), (.int .i64 a1), (.int .i64 a2), (.int .i64 a3)])]) fun b2 =>
   cnd b2
   (some (.agg [(.int .i64 a0), (.int .i64 a1), (.int .i64 a2), (.int .i64 a3)]))
   (C.bool (pcall M d 12 [(.agg [(.int .i64 a4), (.int .i64 a5), (.int .i64 a6), (.int .i64 a7)])]) fun b3 =>
   cnd b3
   (some (.agg [(.int .i64 a4), (.int .i64 a5), (.int .i64 a6), (.int .i64 a7)]))
   (some (.agg [(.int .i64 0), (.int .i64 0), (.int .i64 0), (.int .i64 0)])))))
   (C.bool (pcall M d 12 [(.agg [(.int .i64 a0), (.int .i64 a1), (.int .i64 a2), (.int .i64 a3)])]) fun b4 =>
   cnd b4
   (some (.agg [(.int .i64 a0), (.int .i64 a1), (.int .i64 a2), (.int .i64 a3)]))
   (C.bool (pcall M d 12 [(.agg [(.int .i64 a4), (.int .i64 a5), (.int .i64 a6), (.int .i64 a7)])]) fun b5 =>
   cnd b5
   (some (.agg [(.int .i64 a4), (.int .i64 a5), (.int .i64 a6), (.int .i64 a7)]))
   (some (.agg [(.int .i64 0), (.int .i64 0), (.int .i64 0), (.int .i64 0)])))) := by kernel_rfl
/-- apogee/apogeeref12.Join -/
theorem r20 (C : Cb) (d : Nat) (a0 : Int) (a1 : Int) (a2 : Int) (a3 : Int) (a4 : Int) (a5 : Int) (a6 : Int) (a7 : Int) : xcall C M unr d 20 [(.agg [(.int .i64 a0), (.int .i64 a1), (.int .i64 a2), (.int .i64 a3)]), (.agg [(.int .i64 a4), (.int .i64 a5), (.int .i64 a6), (.int .i64 a7)])] =
  C.bool (pcall M d 13 [(.agg [(.int .i64 a0), (.int .i64 a1), (.int .i64 a2), (.int .i64 a3)])]) fun b0 =>
  cnd (!b0)
   (C.bool (pcall M d 13 [(.agg [(.int .i64 a4), (.int .i64 a5), (.int .i64 a6), (.int .i64 a7)])]) fun b1 =>
   cnd (!b1)
   (some (.agg [(.int .i64 0), (.int .i64 0), (.int .i64 0), (.int .i64 0)]))
   (C.bool (pcall M d 13 [(.agg [(.int .i64 a0), (.int .i64 a1), (.int .i64 a2), (.int .i64 a3)])]) fun b2 =>
   cnd (!b2)
   (some (.agg [(.int .i64 a4), (.int .i64 a5), (.int .i64 a6), (.int .i64 a7)]))
   (C.bool (pcall M d 13 [(.agg [(.int .i64 a4), (.int .i64 a5), (.int .i64 a6), (.int .i64 a7)])]) fun b3 =>
   cnd (!b3)
   (some (.agg [(.int .i64 a0), (.int .i64 a1), (.int .i64 a2), (.int .i64 a3)]))
   (some (.agg [(.int .i64 (if (a4 < a0) then a4 else a0)), (.int .i64 (if (a5 < a1) then a5 else a1)), (.int .i64 (if (a6 > a2) then a6 else a2)), (.int .i64 (if (a7 > a3) then a7 else a3))])))))
   (C.bool (pcall M d 13 [(.agg [(.int .i64 a0), (.int .i64 a1), (.int .i64 a2), (.int .i64 a3)])]) fun b4 =>
   cnd (!b4)
   (some (.agg [(.int .i64 a4), (.int .i64 a5), (.int .i64 a6), (.int .i64 a7)]))
   (C.bool (pcall M d 13 [(.agg [(.int .i64 a4), (.int .i64 a5), (.int .i64 a6), (.int .i64 a7)])]) fun b5 =>
   cnd (!b5)
   (some (.agg [(.int .i64 a0), (.int .i64 a1), (.int .i64 a2), (.int .i64 a3)]))
   (some (.agg [(.int .i64 (if (a4 < a0) then a4 else a0)), (.int .i64 (if (a5 < a1) then a5 else a1)), (.int .i64 (if (a6 > a2) then a6 else a2)), (.int .i64 (if (a7 > a3) then a7 else a3))])))) := by kernel_rfl
/-- apogee/box.Corners -/
theorem r22 (C : Cb) (d : Nat) (a0 : Int) (a1 : Int) (a2 : Int) (a3 : Int) : xcall C M unr d 22 [(.agg [(.int .i64 a0), (.int .i64 a1), (.int .i64 a2), (.int .i64 a3)])] =
  C.bool (pcall M d 12 [(.agg [(.int .i64 a0), (.int .i64 a1), (.int .i64 a2), (.int .i64 a3)])]) fun b0 =>
  cnd (!b0)
   (some (.lst []))
   (some (.lst [(.agg [(.int .i64 a0), (.int .i64 a1)]), (.agg [(.int .i64 a2), (.int .i64 a1)]), (.agg [(.int .i64 a2), (.int .i64 a3)]), (.agg [(.int .i64 a0), (.int .i64 a3)])])) := by kernel_rfl
/-- apogee/apogeeref12.Corners -/
theorem r23 (C : Cb) (d : Nat) (a0 : Int) (a1 : Int) (a2 : Int) (a3 : Int) : xcall C M unr d 23 [(.agg [(.int .i64 a0), (.int .i64 a1), (.int .i64 a2), (.int .i64 a3)])] =
  C.bool (pcall M d 13 [(.agg [(.int .i64 a0), (.int .i64 a1), (.int .i64 a2), (.int .i64 a3)])]) fun b0 =>
  cnd (!b0)
   (some (.lst []))
   (some (.lst [(.agg [(.int .i64 a0), (.int .i64 a1)]), (.agg [(.int .i64 a2), (.int .i64 a1)]), (.agg [(.int .i64 a2), (.int .i64 a3)]), (.agg [(.int .i64 a0), (.int .i64 a3)])])) := by kernel_rfl
/-- apogee/box.Meets -/
theorem r24 (C : Cb) (d : Nat) (a0 : Int) (a1 : Int) (a2 : Int) (a3 : Int) (a4 : Int) (a5 : Int) (a6 : Int) (a7 : Int) : xcall C M unr d 24 [(.agg [(.int .i64 a0), (.int .i64 a1), (.int .i64 a2), (.int .i64 a3)]), (.agg [(.int .i64 a4), (.int .i64 a5)]), (.agg [(.int .i64 a6), (.int .i64 a7)])] =
  C.bool (pcall M d 12 [(.agg [(.int .i64 a0), (.int .i64 a1), (.int .i64 a2), (.int .i64 a3)])]) fun b0 =>
  cnd (!b0)
   (some (.bool false))
   (C.bool (pcall M d 35 [(.agg [(.int .i64 a4), (.int .i64 a5)])]) fun b1 =>
   cnd (!b1)
   (some (.bool false))
   (C.bool (pcall M d 35 [(.agg [(.int .i64 a6), (.int .i64 a7)])]) fun b2 =>
   cnd (!b2)
   (some (.bool false))
   (cnd (decide ((if (a6 > a4) then a6 else a4) < a0))
   (some (.bool false))
   (cnd (decide ((if (a6 < a4) then a6 else a4) > a2))
   (some (.bool false))
   (cnd (decide ((if (a7 > a5) then a7 else a5) < a1))
   (some (.bool false))
   (cnd (decide ((if (a7 < a5) then a7 else a5) > a3))
   (some (.bool false))
   (C.int .i64 (pcall M d 38 [(.agg [(.int .i64 a0), (.int .i64 a1)]), (.fptr (.agg [(.int .i64 a4), (.int .i64 a5)]) 0), (.fptr (.agg [(.int .i64 a6), (.int .i64 a7)]) 0)]) fun x3 =>
   cnd (x3 == 0)
   (some (.bool true))
   (C.lst (pcall M d 22 [(.agg [(.int .i64 a0), (.int .i64 a1), (.int .i64 a2), (.int .i64 a3)])]) (fun l4 =>
   C.bool (pcall M d 40 [(.lst l4), (.fn 41 [] [(.fptr (.fn 38 [] [(.fptr (.agg [(.int .i64 a4), (.int .i64 a5)]) 0), (.fptr (.agg [(.int .i64 a6), (.int .i64 a7)]) 0)]) 0), (.fptr (.int .i64 x3) 0)])]) fun b6 =>
   some (.bool b6))
   (fun z5 =>
   C.bool (pcall M d 40 [(.lst []), (.fn 41 [] [(.fptr (.fn 38 [] [(.fptr (.agg [(.int .i64 a4), (.int .i64 a5)]) 0), (.fptr (.agg [(.int .i64 a6), (.int .i64 a7)]) 0)]) 0), (.fptr (.int .i64 x3) 0)])]) fun b7 =>
   some (.bool b7)))))))))) := by kernel_rfl
def r25R0 (C : Cb) (d : Nat) (a0 : Int) (a1 : Int) (a2 : Int) (a3 : Int) (a4 : Int) (a5 : Int) (a6 : Int) (a7 : Int) (b0 : Bool) (b1 : Bool) (b2 : Bool) (b3 : Bool) (b4 : Bool) (l5 : List AV) : St → (Ex → St → Ans) → Ans := fun s7 k8 =>
  cnd ((List.length (St.env s7)) == 49)
   (C.same (St.env s7)[0]? (.agg [(.int .i64 a0), (.int .i64 a1), (.int .i64 a2), (.int .i64 a3)]) <|
   C.same (St.env s7)[1]? (.agg [(.int .i64 a4), (.int .i64 a5)]) <|
   C.same (St.env s7)[2]? (.agg [(.int .i64 a6), (.int .i64 a7)]) <|
   C.same (St.env s7)[3]? (.ptr 0 0 0) <|
   C.same (St.env s7)[4]? (.ptr 1 0 0) <|
   C.same (St.env s7)[5]? (.ptr 2 0 0) <|
   C.bool (St.env s7)[6]? fun b10 =>
   C.same (St.env s7)[7]? (.lst l5) <|
   C.int .i64 (St.env s7)[8]? fun x11 =>
   C.same (St.env s7)[9]? (.agg [(.int .i64 a0), (.int .i64 a1), (.int .i64 a2), (.int .i64 a3)]) <|
   C.same (St.env s7)[10]? (.bool b0) <|
   C.same (St.env s7)[11]? (.bool (!b0)) <|
   C.same (St.env s7)[12]? (.bool false) <|
   C.same (St.env s7)[13]? (.agg [(.int .i64 a4), (.int .i64 a5)]) <|
   C.same (St.env s7)[14]? (.bool b1) <|
   C.same (St.env s7)[15]? (.bool (!b1)) <|
   C.same (St.env s7)[16]? (.bool (!b1)) <|
   C.same (St.env s7)[17]? (.bool false) <|
   C.same (St.env s7)[18]? (.agg [(.int .i64 a6), (.int .i64 a7)]) <|
   C.same (St.env s7)[19]? (.bool b2) <|
   C.same (St.env s7)[20]? (.bool (!b2)) <|
   C.same (St.env s7)[21]? (.bool false) <|
   C.same (St.env s7)[22]? (.agg [(.int .i64 a0), (.int .i64 a1), (.int .i64 a2), (.int .i64 a3)]) <|
   C.same (St.env s7)[23]? (.agg [(.int .i64 a4), (.int .i64 a5)]) <|
   C.same (St.env s7)[24]? (.bool b3) <|
   C.same (St.env s7)[25]? (.bool false) <|
   C.same (St.env s7)[26]? (.agg [(.int .i64 a0), (.int .i64 a1), (.int .i64 a2), (.int .i64 a3)]) <|
   C.same (St.env s7)[27]? (.agg [(.int .i64 a6), (.int .i64 a7)]) <|
   C.same (St.env s7)[28]? (.bool b4) <|
   C.same (St.env s7)[29]? (.bool false) <|
   C.same (St.env s7)[30]? (.agg [(.int .i64 a0), (.int .i64 a1), (.int .i64 a2), (.int .i64 a3)]) <|
   C.same (St.env s7)[31]? (.lst l5) <|
   C.any (St.env s7)[32]? fun v12 =>
   C.any (St.env s7)[33]? fun v13 =>
   C.any (St.env s7)[34]? fun v14 =>
   C.any (St.env s7)[35]? fun v15 =>
   C.any (St.env s7)[36]? fun v16 =>
   C.any (St.env s7)[37]? fun v17 =>
   C.any (St.env s7)[38]? fun v18 =>
   C.any (St.env s7)[39]? fun v19 =>
   C.any (St.env s7)[40]? fun v20 =>
   C.any (St.env s7)[41]? fun v21 =>
   C.any (St.env s7)[42]? fun v22 =>
   C.any (St.env s7)[43]? fun v23 =>
   C.any (St.env s7)[44]? fun v24 =>
   C.any (St.env s7)[45]? fun v25 =>
   C.any (St.env s7)[46]? fun v26 =>
   C.any (St.env s7)[47]? fun v27 =>
   C.any (St.env s7)[48]? fun v28 =>
   C.sameH (St.H s7) [some ⟨E25, [(.agg [(.int .i64 a0), (.int .i64 a1), (.int .i64 a2), (.int .i64 a3)])]⟩, some ⟨E23, [(.agg [(.int .i64 a4), (.int .i64 a5)])]⟩, some ⟨E23, [(.agg [(.int .i64 a6), (.int .i64 a7)])]⟩] <|
   cnd (decide (x11 < 4))
   (cnd (decide (0 ≤ x11))
   (C.agg 2 l5[(Int.toNat x11)]? fun l29 =>
   C.int .i64 l29[0]? fun x30 =>
   C.int .i64 l29[1]? fun x31 =>
   cnd (decide (0 ≤ (Int.tmod (IntKind.wrap .i64 (x11 + 1)) 4)))
   (C.agg 2 l5[(Int.toNat (Int.tmod (IntKind.wrap .i64 (x11 + 1)) 4))]? fun l32 =>
   C.int .i64 l32[0]? fun x33 =>
   C.int .i64 l32[1]? fun x34 =>
   C.bool (pcall M d 42 [(.agg [(.int .i64 a4), (.int .i64 a5)]), (.agg [(.int .i64 a6), (.int .i64 a7)]), (.agg [(.int .i64 x30), (.int .i64 x31)]), (.agg [(.int .i64 x33), (.int .i64 x34)])]) fun b35 =>
   cnd b35
   (k8 .ret ⟨[(.agg [(.int .i64 a0), (.int .i64 a1), (.int .i64 a2), (.int .i64 a3)]), (.agg [(.int .i64 a4), (.int .i64 a5)]), (.agg [(.int .i64 a6), (.int .i64 a7)]), (.ptr 0 0 0), (.ptr 1 0 0), (.ptr 2 0 0), (.bool true), (.lst l5), (.int .i64 x11), (.agg [(.int .i64 a0), (.int .i64 a1), (.int .i64 a2), (.int .i64 a3)]), (.bool b0), (.bool (!b0)), (.bool false), (.agg [(.int .i64 a4), (.int .i64 a5)]), (.bool b1), (.bool (!b1)), (.bool (!b1)), (.bool false), (.agg [(.int .i64 a6), (.int .i64 a7)]), (.bool b2), (.bool (!b2)), (.bool false), (.agg [(.int .i64 a0), (.int .i64 a1), (.int .i64 a2), (.int .i64 a3)]), (.agg [(.int .i64 a4), (.int .i64 a5)]), (.bool b3), (.bool false), (.agg [(.int .i64 a0), (.int .i64 a1), (.int .i64 a2), (.int .i64 a3)]), (.agg [(.int .i64 a6), (.int .i64 a7)]), (.bool b4), (.bool false), (.agg [(.int .i64 a0), (.int .i64 a1), (.int .i64 a2), (.int .i64 a3)]), (.lst l5), (.int .i64 x11), (.bool true), v14, v15, (.agg [(.int .i64 a4), (.int .i64 a5)]), (.agg [(.int .i64 a6), (.int .i64 a7)]), (.lst l5), (.int .i64 x11), (.fptr (.agg [(.int .i64 x30), (.int .i64 x31)]) 0), (.agg [(.int .i64 x30), (.int .i64 x31)]), (.lst l5), (.int .i64 x11), (.int .i64 (IntKind.wrap .i64 (x11 + 1))), (.int .i64 (Int.tmod (IntKind.wrap .i64 (x11 + 1)) 4)), (.fptr (.agg [(.int .i64 x33), (.int .i64 x34)]) 0), (.agg [(.int .i64 x33), (.int .i64 x34)]), (.bool true)], [some ⟨E25, [(.agg [(.int .i64 a0), (.int .i64 a1), (.int .i64 a2), (.int .i64 a3)])]⟩, some ⟨E23, [(.agg [(.int .i64 a4), (.int .i64 a5)])]⟩, some ⟨E23, [(.agg [(.int .i64 a6), (.int .i64 a7)])]⟩]⟩)
   (k8 .normal ⟨[(.agg [(.int .i64 a0), (.int .i64 a1), (.int .i64 a2), (.int .i64 a3)]), (.agg [(.int .i64 a4), (.int .i64 a5)]), (.agg [(.int .i64 a6), (.int .i64 a7)]), (.ptr 0 0 0), (.ptr 1 0 0), (.ptr 2 0 0), (.bool b10), (.lst l5), (.int .i64 (IntKind.wrap .i64 (x11 + 1))), (.agg [(.int .i64 a0), (.int .i64 a1), (.int .i64 a2), (.int .i64 a3)]), (.bool b0), (.bool (!b0)), (.bool false), (.agg [(.int .i64 a4), (.int .i64 a5)]), (.bool b1), (.bool (!b1)), (.bool (!b1)), (.bool false), (.agg [(.int .i64 a6), (.int .i64 a7)]), (.bool b2), (.bool (!b2)), (.bool false), (.agg [(.int .i64 a0), (.int .i64 a1), (.int .i64 a2), (.int .i64 a3)]), (.agg [(.int .i64 a4), (.int .i64 a5)]), (.bool b3), (.bool false), (.agg [(.int .i64 a0), (.int .i64 a1), (.int .i64 a2), (.int .i64 a3)]), (.agg [(.int .i64 a6), (.int .i64 a7)]), (.bool b4), (.bool false), (.agg [(.int .i64 a0), (.int .i64 a1), (.int .i64 a2), (.int .i64 a3)]), (.lst l5), (.int .i64 x11), (.bool true), (.int .i64 x11), (.int .i64 (IntKind.wrap .i64 (x11 + 1))), (.agg [(.int .i64 a4), (.int .i64 a5)]), (.agg [(.int .i64 a6), (.int .i64 a7)]), (.lst l5), (.int .i64 x11), (.fptr (.agg [(.int .i64 x30), (.int .i64 x31)]) 0), (.agg [(.int .i64 x30), (.int .i64 x31)]), (.lst l5), (.int .i64 x11), (.int .i64 (IntKind.wrap .i64 (x11 + 1))), (.int .i64 (Int.tmod (IntKind.wrap .i64 (x11 + 1)) 4)), (.fptr (.agg [(.int .i64 x33), (.int .i64 x34)]) 0), (.agg [(.int .i64 x33), (.int .i64 x34)]), (.bool false)], [some ⟨E25, [(.agg [(.int .i64 a0), (.int .i64 a1), (.int .i64 a2), (.int .i64 a3)])]⟩, some ⟨E23, [(.agg [(.int .i64 a4), (.int .i64 a5)])]⟩, some ⟨E23, [(.agg [(.int .i64 a6), (.int .i64 a7)])]⟩]⟩))
   (none))
   (none))
   (k8 (.exit 0) ⟨[(.agg [(.int .i64 a0), (.int .i64 a1), (.int .i64 a2), (.int .i64 a3)]), (.agg [(.int .i64 a4), (.int .i64 a5)]), (.agg [(.int .i64 a6), (.int .i64 a7)]), (.ptr 0 0 0), (.ptr 1 0 0), (.ptr 2 0 0), (.bool b10), (.lst l5), (.int .i64 x11), (.agg [(.int .i64 a0), (.int .i64 a1), (.int .i64 a2), (.int .i64 a3)]), (.bool b0), (.bool (!b0)), (.bool false), (.agg [(.int .i64 a4), (.int .i64 a5)]), (.bool b1), (.bool (!b1)), (.bool (!b1)), (.bool false), (.agg [(.int .i64 a6), (.int .i64 a7)]), (.bool b2), (.bool (!b2)), (.bool false), (.agg [(.int .i64 a0), (.int .i64 a1), (.int .i64 a2), (.int .i64 a3)]), (.agg [(.int .i64 a4), (.int .i64 a5)]), (.bool b3), (.bool false), (.agg [(.int .i64 a0), (.int .i64 a1), (.int .i64 a2), (.int .i64 a3)]), (.agg [(.int .i64 a6), (.int .i64 a7)]), (.bool b4), (.bool false), (.agg [(.int .i64 a0), (.int .i64 a1), (.int .i64 a2), (.int .i64 a3)]), (.lst l5), (.int .i64 x11), (.bool false), v14, v15, v16, v17, v18, v19, v20, v21, v22, v23, v24, v25, v26, v27, v28], [some ⟨E25, [(.agg [(.int .i64 a0), (.int .i64 a1), (.int .i64 a2), (.int .i64 a3)])]⟩, some ⟨E23, [(.agg [(.int .i64 a4), (.int .i64 a5)])]⟩, some ⟨E23, [(.agg [(.int .i64 a6), (.int .i64 a7)])]⟩]⟩))
   (none)
def r25X0_0 (C : Cb) (d : Nat) (a0 : Int) (a1 : Int) (a2 : Int) (a3 : Int) (a4 : Int) (a5 : Int) (a6 : Int) (a7 : Int) (b0 : Bool) (b1 : Bool) (b2 : Bool) (b3 : Bool) (b4 : Bool) (l5 : List AV) : St → Ans := fun s36 =>
  cnd ((List.length (St.env s36)) == 49)
   (C.same (St.env s36)[0]? (.agg [(.int .i64 a0), (.int .i64 a1), (.int .i64 a2), (.int .i64 a3)]) <|
   C.same (St.env s36)[1]? (.agg [(.int .i64 a4), (.int .i64 a5)]) <|
   C.same (St.env s36)[2]? (.agg [(.int .i64 a6), (.int .i64 a7)]) <|
   C.same (St.env s36)[3]? (.ptr 0 0 0) <|
   C.same (St.env s36)[4]? (.ptr 1 0 0) <|
   C.same (St.env s36)[5]? (.ptr 2 0 0) <|
   C.bool (St.env s36)[6]? fun b37 =>
   C.same (St.env s36)[7]? (.lst l5) <|
   C.int .i64 (St.env s36)[8]? fun x38 =>
   C.same (St.env s36)[9]? (.agg [(.int .i64 a0), (.int .i64 a1), (.int .i64 a2), (.int .i64 a3)]) <|
   C.same (St.env s36)[10]? (.bool b0) <|
   C.same (St.env s36)[11]? (.bool (!b0)) <|
   C.same (St.env s36)[12]? (.bool false) <|
   C.same (St.env s36)[13]? (.agg [(.int .i64 a4), (.int .i64 a5)]) <|
   C.same (St.env s36)[14]? (.bool b1) <|
   C.same (St.env s36)[15]? (.bool (!b1)) <|
   C.same (St.env s36)[16]? (.bool (!b1)) <|
   C.same (St.env s36)[17]? (.bool false) <|
   C.same (St.env s36)[18]? (.agg [(.int .i64 a6), (.int .i64 a7)]) <|
   C.same (St.env s36)[19]? (.bool b2) <|
   C.same (St.env s36)[20]? (.bool (!b2)) <|
   C.same (St.env s36)[21]? (.bool false) <|
   C.same (St.env s36)[22]? (.agg [(.int .i64 a0), (.int .i64 a1), (.int .i64 a2), (.int .i64 a3)]) <|
   C.same (St.env s36)[23]? (.agg [(.int .i64 a4), (.int .i64 a5)]) <|
   C.same (St.env s36)[24]? (.bool b3) <|
   C.same (St.env s36)[25]? (.bool false) <|
   C.same (St.env s36)[26]? (.agg [(.int .i64 a0), (.int .i64 a1), (.int .i64 a2), (.int .i64 a3)]) <|
   C.same (St.env s36)[27]? (.agg [(.int .i64 a6), (.int .i64 a7)]) <|
   C.same (St.env s36)[28]? (.bool b4) <|
   C.same (St.env s36)[29]? (.bool false) <|
   C.same (St.env s36)[30]? (.agg [(.int .i64 a0), (.int .i64 a1), (.int .i64 a2), (.int .i64 a3)]) <|
   C.same (St.env s36)[31]? (.lst l5) <|
   C.int .i64 (St.env s36)[32]? fun x39 =>
   C.bool (St.env s36)[33]? fun b40 =>
   C.any (St.env s36)[34]? fun v41 =>
   C.any (St.env s36)[35]? fun v42 =>
   C.any (St.env s36)[36]? fun v43 =>
   C.any (St.env s36)[37]? fun v44 =>
   C.any (St.env s36)[38]? fun v45 =>
   C.any (St.env s36)[39]? fun v46 =>
   C.any (St.env s36)[40]? fun v47 =>
   C.any (St.env s36)[41]? fun v48 =>
   C.any (St.env s36)[42]? fun v49 =>
   C.any (St.env s36)[43]? fun v50 =>
   C.any (St.env s36)[44]? fun v51 =>
   C.any (St.env s36)[45]? fun v52 =>
   C.any (St.env s36)[46]? fun v53 =>
   C.any (St.env s36)[47]? fun v54 =>
   C.any (St.env s36)[48]? fun v55 =>
   C.sameH (St.H s36) [some ⟨E25, [(.agg [(.int .i64 a0), (.int .i64 a1), (.int .i64 a2), (.int .i64 a3)])]⟩, some ⟨E23, [(.agg [(.int .i64 a4), (.int .i64 a5)])]⟩, some ⟨E23, [(.agg [(.int .i64 a6), (.int .i64 a7)])]⟩] <|
   some (.bool false))
   (none)
def r25E0 (C : Cb) (d : Nat) (a0 : Int) (a1 : Int) (a2 : Int) (a3 : Int) (a4 : Int) (a5 : Int) (a6 : Int) (a7 : Int) (b0 : Bool) (b1 : Bool) (b2 : Bool) (b3 : Bool) (b4 : Bool) (l5 : List AV) : St → Ans := fun s9 =>
  cnd ((List.length (St.env s9)) == 49)
   (C.same (St.env s9)[0]? (.agg [(.int .i64 a0), (.int .i64 a1), (.int .i64 a2), (.int .i64 a3)]) <|
   C.same (St.env s9)[1]? (.agg [(.int .i64 a4), (.int .i64 a5)]) <|
   C.same (St.env s9)[2]? (.agg [(.int .i64 a6), (.int .i64 a7)]) <|
   C.same (St.env s9)[3]? (.ptr 0 0 0) <|
   C.same (St.env s9)[4]? (.ptr 1 0 0) <|
   C.same (St.env s9)[5]? (.ptr 2 0 0) <|
   C.bool (St.env s9)[6]? fun b56 =>
   C.same (St.env s9)[7]? (.lst l5) <|
   C.int .i64 (St.env s9)[8]? fun x57 =>
   C.same (St.env s9)[9]? (.agg [(.int .i64 a0), (.int .i64 a1), (.int .i64 a2), (.int .i64 a3)]) <|
   C.same (St.env s9)[10]? (.bool b0) <|
   C.same (St.env s9)[11]? (.bool (!b0)) <|
   C.same (St.env s9)[12]? (.bool false) <|
   C.same (St.env s9)[13]? (.agg [(.int .i64 a4), (.int .i64 a5)]) <|
   C.same (St.env s9)[14]? (.bool b1) <|
   C.same (St.env s9)[15]? (.bool (!b1)) <|
   C.same (St.env s9)[16]? (.bool (!b1)) <|
   C.same (St.env s9)[17]? (.bool false) <|
   C.same (St.env s9)[18]? (.agg [(.int .i64 a6), (.int .i64 a7)]) <|
   C.same (St.env s9)[19]? (.bool b2) <|
   C.same (St.env s9)[20]? (.bool (!b2)) <|
   C.same (St.env s9)[21]? (.bool false) <|
   C.same (St.env s9)[22]? (.agg [(.int .i64 a0), (.int .i64 a1), (.int .i64 a2), (.int .i64 a3)]) <|
   C.same (St.env s9)[23]? (.agg [(.int .i64 a4), (.int .i64 a5)]) <|
   C.same (St.env s9)[24]? (.bool b3) <|
   C.same (St.env s9)[25]? (.bool false) <|
   C.same (St.env s9)[26]? (.agg [(.int .i64 a0), (.int .i64 a1), (.int .i64 a2), (.int .i64 a3)]) <|
   C.same (St.env s9)[27]? (.agg [(.int .i64 a6), (.int .i64 a7)]) <|
   C.same (St.env s9)[28]? (.bool b4) <|
   C.same (St.env s9)[29]? (.bool false) <|
   C.same (St.env s9)[30]? (.agg [(.int .i64 a0), (.int .i64 a1), (.int .i64 a2), (.int .i64 a3)]) <|
   C.same (St.env s9)[31]? (.lst l5) <|
   C.int .i64 (St.env s9)[32]? fun x58 =>
   C.bool (St.env s9)[33]? fun b59 =>
   C.any (St.env s9)[34]? fun v60 =>
   C.any (St.env s9)[35]? fun v61 =>
   C.agg 2 (St.env s9)[36]? fun l62 =>
   C.int .i64 l62[0]? fun x63 =>
   C.int .i64 l62[1]? fun x64 =>
   C.agg 2 (St.env s9)[37]? fun l65 =>
   C.int .i64 l65[0]? fun x66 =>
   C.int .i64 l65[1]? fun x67 =>
   C.any (St.env s9)[38]? fun v68 =>
   C.int .i64 (St.env s9)[39]? fun x69 =>
   C.any (St.env s9)[40]? fun v70 =>
   C.agg 2 (St.env s9)[41]? fun l71 =>
   C.int .i64 l71[0]? fun x72 =>
   C.int .i64 l71[1]? fun x73 =>
   C.any (St.env s9)[42]? fun v74 =>
   C.int .i64 (St.env s9)[43]? fun x75 =>
   C.int .i64 (St.env s9)[44]? fun x76 =>
   C.int .i64 (St.env s9)[45]? fun x77 =>
   C.any (St.env s9)[46]? fun v78 =>
   C.agg 2 (St.env s9)[47]? fun l79 =>
   C.int .i64 l79[0]? fun x80 =>
   C.int .i64 l79[1]? fun x81 =>
   C.bool (St.env s9)[48]? fun b82 =>
   C.sameH (St.H s9) [some ⟨E25, [(.agg [(.int .i64 a0), (.int .i64 a1), (.int .i64 a2), (.int .i64 a3)])]⟩, some ⟨E23, [(.agg [(.int .i64 a4), (.int .i64 a5)])]⟩, some ⟨E23, [(.agg [(.int .i64 a6), (.int .i64 a7)])]⟩] <|
   some (.bool b56))
   (none)
def r25R2 (C : Cb) (d : Nat) (a0 : Int) (a1 : Int) (a2 : Int) (a3 : Int) (a4 : Int) (a5 : Int) (a6 : Int) (a7 : Int) (b0 : Bool) (b1 : Bool) (b2 : Bool) (b3 : Bool) (b4 : Bool) (z6 : Bool) : St → (Ex → St → Ans) → Ans := fun s83 k84 =>
  cnd ((List.length (St.env s83)) == 49)
   (C.same (St.env s83)[0]? (.agg [(.int .i64 a0), (.int .i64 a1), (.int .i64 a2), (.int .i64 a3)]) <|
   C.same (St.env s83)[1]? (.agg [(.int .i64 a4), (.int .i64 a5)]) <|
   C.same (St.env s83)[2]? (.agg [(.int .i64 a6), (.int .i64 a7)]) <|
   C.same (St.env s83)[3]? (.ptr 0 0 0) <|
   C.same (St.env s83)[4]? (.ptr 1 0 0) <|
   C.same (St.env s83)[5]? (.ptr 2 0 0) <|
   C.bool (St.env s83)[6]? fun b86 =>
   C.same (St.env s83)[7]? (.zsl z6) <|
   C.int .i64 (St.env s83)[8]? fun x87 =>
   C.same (St.env s83)[9]? (.agg [(.int .i64 a0), (.int .i64 a1), (.int .i64 a2), (.int .i64 a3)]) <|
   C.same (St.env s83)[10]? (.bool b0) <|
   C.same (St.env s83)[11]? (.bool (!b0)) <|
   C.same (St.env s83)[12]? (.bool false) <|
   C.same (St.env s83)[13]? (.agg [(.int .i64 a4), (.int .i64 a5)]) <|
   C.same (St.env s83)[14]? (.bool b1) <|
   C.same (St.env s83)[15]? (.bool (!b1)) <|
   C.same (St.env s83)[16]? (.bool (!b1)) <|
   C.same (St.env s83)[17]? (.bool false) <|
   C.same (St.env s83)[18]? (.agg [(.int .i64 a6), (.int .i64 a7)]) <|
   C.same (St.env s83)[19]? (.bool b2) <|
   C.same (St.env s83)[20]? (.bool (!b2)) <|
   C.same (St.env s83)[21]? (.bool false) <|
   C.same (St.env s83)[22]? (.agg [(.int .i64 a0), (.int .i64 a1), (.int .i64 a2), (.int .i64 a3)]) <|
   C.same (St.env s83)[23]? (.agg [(.int .i64 a4), (.int .i64 a5)]) <|
   C.same (St.env s83)[24]? (.bool b3) <|
   C.same (St.env s83)[25]? (.bool false) <|
   C.same (St.env s83)[26]? (.agg [(.int .i64 a0), (.int .i64 a1), (.int .i64 a2), (.int .i64 a3)]) <|
   C.same (St.env s83)[27]? (.agg [(.int .i64 a6), (.int .i64 a7)]) <|
   C.same (St.env s83)[28]? (.bool b4) <|
   C.same (St.env s83)[29]? (.bool false) <|
   C.same (St.env s83)[30]? (.agg [(.int .i64 a0), (.int .i64 a1), (.int .i64 a2), (.int .i64 a3)]) <|
   C.same (St.env s83)[31]? (.zsl z6) <|
   C.any (St.env s83)[32]? fun v88 =>
   C.any (St.env s83)[33]? fun v89 =>
   C.any (St.env s83)[34]? fun v90 =>
   C.any (St.env s83)[35]? fun v91 =>
   C.any (St.env s83)[36]? fun v92 =>
   C.any (St.env s83)[37]? fun v93 =>
   C.any (St.env s83)[38]? fun v94 =>
   C.any (St.env s83)[39]? fun v95 =>
   C.any (St.env s83)[40]? fun v96 =>
   C.any (St.env s83)[41]? fun v97 =>
   C.any (St.env s83)[42]? fun v98 =>
   C.any (St.env s83)[43]? fun v99 =>
   C.any (St.env s83)[44]? fun v100 =>
   C.any (St.env s83)[45]? fun v101 =>
   C.any (St.env s83)[46]? fun v102 =>
   C.any (St.env s83)[47]? fun v103 =>
   C.any (St.env s83)[48]? fun v104 =>
   C.sameH (St.H s83) [some ⟨E25, [(.agg [(.int .i64 a0), (.int .i64 a1), (.int .i64 a2), (.int .i64 a3)])]⟩, some ⟨E23, [(.agg [(.int .i64 a4), (.int .i64 a5)])]⟩, some ⟨E23, [(.agg [(.int .i64 a6), (.int .i64 a7)])]⟩] <|
   cnd (decide (x87 < 4))
   (none)
   (k84 (.exit 0) ⟨[(.agg [(.int .i64 a0), (.int .i64 a1), (.int .i64 a2), (.int .i64 a3)]), (.agg [(.int .i64 a4), (.int .i64 a5)]), (.agg [(.int .i64 a6), (.int .i64 a7)]), (.ptr 0 0 0), (.ptr 1 0 0), (.ptr 2 0 0), (.bool b86), (.zsl z6), (.int .i64 x87), (.agg [(.int .i64 a0), (.int .i64 a1), (.int .i64 a2), (.int .i64 a3)]), (.bool b0), (.bool (!b0)), (.bool false), (.agg [(.int .i64 a4), (.int .i64 a5)]), (.bool b1), (.bool (!b1)), (.bool (!b1)), (.bool false), (.agg [(.int .i64 a6), (.int .i64 a7)]), (.bool b2), (.bool (!b2)), (.bool false), (.agg [(.int .i64 a0), (.int .i64 a1), (.int .i64 a2), (.int .i64 a3)]), (.agg [(.int .i64 a4), (.int .i64 a5)]), (.bool b3), (.bool false), (.agg [(.int .i64 a0), (.int .i64 a1), (.int .i64 a2), (.int .i64 a3)]), (.agg [(.int .i64 a6), (.int .i64 a7)]), (.bool b4), (.bool false), (.agg [(.int .i64 a0), (.int .i64 a1), (.int .i64 a2), (.int .i64 a3)]), (.zsl z6), (.int .i64 x87), (.bool false), v90, v91, v92, v93, v94, v95, v96, v97, v98, v99, v100, v101, v102, v103, v104], [some ⟨E25, [(.agg [(.int .i64 a0), (.int .i64 a1), (.int .i64 a2), (.int .i64 a3)])]⟩, some ⟨E23, [(.agg [(.int .i64 a4), (.int .i64 a5)])]⟩, some ⟨E23, [(.agg [(.int .i64 a6), (.int .i64 a7)])]⟩]⟩))
   (none)
def r25X2_0 (C : Cb) (d : Nat) (a0 : Int) (a1 : Int) (a2 : Int) (a3 : Int) (a4 : Int) (a5 : Int) (a6 : Int) (a7 : Int) (b0 : Bool) (b1 : Bool) (b2 : Bool) (b3 : Bool) (b4 : Bool) (z6 : Bool) : St → Ans := fun s105 =>
  cnd ((List.length (St.env s105)) == 49)
   (C.same (St.env s105)[0]? (.agg [(.int .i64 a0), (.int .i64 a1), (.int .i64 a2), (.int .i64 a3)]) <|
   C.same (St.env s105)[1]? (.agg [(.int .i64 a4), (.int .i64 a5)]) <|
   C.same (St.env s105)[2]? (.agg [(.int .i64 a6), (.int .i64 a7)]) <|
   C.same (St.env s105)[3]? (.ptr 0 0 0) <|
   C.same (St.env s105)[4]? (.ptr 1 0 0) <|
   C.same (St.env s105)[5]? (.ptr 2 0 0) <|
   C.bool (St.env s105)[6]? fun b106 =>
   C.same (St.env s105)[7]? (.zsl z6) <|
   C.int .i64 (St.env s105)[8]? fun x107 =>
   C.same (St.env s105)[9]? (.agg [(.int .i64 a0), (.int .i64 a1), (.int .i64 a2), (.int .i64 a3)]) <|
   C.same (St.env s105)[10]? (.bool b0) <|
   C.same (St.env s105)[11]? (.bool (!b0)) <|
   C.same (St.env s105)[12]? (.bool false) <|
   C.same (St.env s105)[13]? (.agg [(.int .i64 a4), (.int .i64 a5)]) <|
   C.same (St.env s105)[14]? (.bool b1) <|
   C.same (St.env s105)[15]? (.bool (!b1)) <|
   C.same (St.env s105)[16]? (.bool (!b1)) <|
   C.same (St.env s105)[17]? (.bool false) <|
   C.same (St.env s105)[18]? (.agg [(.int .i64 a6), (.int .i64 a7)]) <|
   C.same (St.env s105)[19]? (.bool b2) <|
   C.same (St.env s105)[20]? (.bool (!b2)) <|
   C.same (St.env s105)[21]? (.bool false) <|
   C.same (St.env s105)[22]? (.agg [(.int .i64 a0), (.int .i64 a1), (.int .i64 a2), (.int .i64 a3)]) <|
   C.same (St.env s105)[23]? (.agg [(.int .i64 a4), (.int .i64 a5)]) <|
   C.same (St.env s105)[24]? (.bool b3) <|
   C.same (St.env s105)[25]? (.bool false) <|
   C.same (St.env s105)[26]? (.agg [(.int .i64 a0), (.int .i64 a1), (.int .i64 a2), (.int .i64 a3)]) <|
   C.same (St.env s105)[27]? (.agg [(.int .i64 a6), (.int .i64 a7)]) <|
   C.same (St.env s105)[28]? (.bool b4) <|
   C.same (St.env s105)[29]? (.bool false) <|
   C.same (St.env s105)[30]? (.agg [(.int .i64 a0), (.int .i64 a1), (.int .i64 a2), (.int .i64 a3)]) <|
   C.same (St.env s105)[31]? (.zsl z6) <|
   C.int .i64 (St.env s105)[32]? fun x108 =>
   C.bool (St.env s105)[33]? fun b109 =>
   C.any (St.env s105)[34]? fun v110 =>
   C.any (St.env s105)[35]? fun v111 =>
   C.any (St.env s105)[36]? fun v112 =>
   C.any (St.env s105)[37]? fun v113 =>
   C.any (St.env s105)[38]? fun v114 =>
   C.any (St.env s105)[39]? fun v115 =>
   C.any (St.env s105)[40]? fun v116 =>
   C.any (St.env s105)[41]? fun v117 =>
   C.any (St.env s105)[42]? fun v118 =>
   C.any (St.env s105)[43]? fun v119 =>
   C.any (St.env s105)[44]? fun v120 =>
   C.any (St.env s105)[45]? fun v121 =>
   C.any (St.env s105)[46]? fun v122 =>
   C.any (St.env s105)[47]? fun v123 =>
   C.any (St.env s105)[48]? fun v124 =>
   C.sameH (St.H s105) [some ⟨E25, [(.agg [(.int .i64 a0), (.int .i64 a1), (.int .i64 a2), (.int .i64 a3)])]⟩, some ⟨E23, [(.agg [(.int .i64 a4), (.int .i64 a5)])]⟩, some ⟨E23, [(.agg [(.int .i64 a6), (.int .i64 a7)])]⟩] <|
   some (.bool false))
   (none)
def r25E2 (C : Cb) (d : Nat) (a0 : Int) (a1 : Int) (a2 : Int) (a3 : Int) (a4 : Int) (a5 : Int) (a6 : Int) (a7 : Int) (b0 : Bool) (b1 : Bool) (b2 : Bool) (b3 : Bool) (b4 : Bool) (z6 : Bool) : St → Ans := fun s85 =>
  cnd ((List.length (St.env s85)) == 49)
   (C.same (St.env s85)[0]? (.agg [(.int .i64 a0), (.int .i64 a1), (.int .i64 a2), (.int .i64 a3)]) <|
   C.same (St.env s85)[1]? (.agg [(.int .i64 a4), (.int .i64 a5)]) <|
   C.same (St.env s85)[2]? (.agg [(.int .i64 a6), (.int .i64 a7)]) <|
   C.same (St.env s85)[3]? (.ptr 0 0 0) <|
   C.same (St.env s85)[4]? (.ptr 1 0 0) <|
   C.same (St.env s85)[5]? (.ptr 2 0 0) <|
   C.bool (St.env s85)[6]? fun b125 =>
   C.same (St.env s85)[7]? (.zsl z6) <|
   C.int .i64 (St.env s85)[8]? fun x126 =>
   C.same (St.env s85)[9]? (.agg [(.int .i64 a0), (.int .i64 a1), (.int .i64 a2), (.int .i64 a3)]) <|
   C.same (St.env s85)[10]? (.bool b0) <|
   C.same (St.env s85)[11]? (.bool (!b0)) <|
   C.same (St.env s85)[12]? (.bool false) <|
   C.same (St.env s85)[13]? (.agg [(.int .i64 a4), (.int .i64 a5)]) <|
   C.same (St.env s85)[14]? (.bool b1) <|
   C.same (St.env s85)[15]? (.bool (!b1)) <|
   C.same (St.env s85)[16]? (.bool (!b1)) <|
   C.same (St.env s85)[17]? (.bool false) <|
   C.same (St.env s85)[18]? (.agg [(.int .i64 a6), (.int .i64 a7)]) <|
   C.same (St.env s85)[19]? (.bool b2) <|
   C.same (St.env s85)[20]? (.bool (!b2)) <|
   C.same (St.env s85)[21]? (.bool false) <|
   C.same (St.env s85)[22]? (.agg [(.int .i64 a0), (.int .i64 a1), (.int .i64 a2), (.int .i64 a3)]) <|
   C.same (St.env s85)[23]? (.agg [(.int .i64 a4), (.int .i64 a5)]) <|
   C.same (St.env s85)[24]? (.bool b3) <|
   C.same (St.env s85)[25]? (.bool false) <|
   C.same (St.env s85)[26]? (.agg [(.int .i64 a0), (.int .i64 a1), (.int .i64 a2), (.int .i64 a3)]) <|
   C.same (St.env s85)[27]? (.agg [(.int .i64 a6), (.int .i64 a7)]) <|
   C.same (St.env s85)[28]? (.bool b4) <|
   C.same (St.env s85)[29]? (.bool false) <|
   C.same (St.env s85)[30]? (.agg [(.int .i64 a0), (.int .i64 a1), (.int .i64 a2), (.int .i64 a3)]) <|
   C.same (St.env s85)[31]? (.zsl z6) <|
   C.int .i64 (St.env s85)[32]? fun x127 =>
   C.bool (St.env s85)[33]? fun b128 =>
   C.any (St.env s85)[34]? fun v129 =>
   C.any (St.env s85)[35]? fun v130 =>
   C.agg 2 (St.env s85)[36]? fun l131 =>
   C.int .i64 l131[0]? fun x132 =>
   C.int .i64 l131[1]? fun x133 =>
   C.agg 2 (St.env s85)[37]? fun l134 =>
   C.int .i64 l134[0]? fun x135 =>
   C.int .i64 l134[1]? fun x136 =>
   C.any (St.env s85)[38]? fun v137 =>
   C.int .i64 (St.env s85)[39]? fun x138 =>
   C.any (St.env s85)[40]? fun v139 =>
   C.agg 2 (St.env s85)[41]? fun l140 =>
   C.int .i64 l140[0]? fun x141 =>
   C.int .i64 l140[1]? fun x142 =>
   C.any (St.env s85)[42]? fun v143 =>
   C.int .i64 (St.env s85)[43]? fun x144 =>
   C.int .i64 (St.env s85)[44]? fun x145 =>
   C.int .i64 (St.env s85)[45]? fun x146 =>
   C.any (St.env s85)[46]? fun v147 =>
   C.agg 2 (St.env s85)[47]? fun l148 =>
   C.int .i64 l148[0]? fun x149 =>
   C.int .i64 l148[1]? fun x150 =>
   C.bool (St.env s85)[48]? fun b151 =>
   C.sameH (St.H s85) [some ⟨E25, [(.agg [(.int .i64 a0), (.int .i64 a1), (.int .i64 a2), (.int .i64 a3)])]⟩, some ⟨E23, [(.agg [(.int .i64 a4), (.int .i64 a5)])]⟩, some ⟨E23, [(.agg [(.int .i64 a6), (.int .i64 a7)])]⟩] <|
   some (.bool b125))
   (none)
/-- apogee/apogeeref12.Meets -/
theorem r25 (C : Cb) (d : Nat) (a0 : Int) (a1 : Int) (a2 : Int) (a3 : Int) (a4 : Int) (a5 : Int) (a6 : Int) (a7 : Int) : xcall C M unr d 25 [(.agg [(.int .i64 a0), (.int .i64 a1), (.int .i64 a2), (.int .i64 a3)]), (.agg [(.int .i64 a4), (.int .i64 a5)]), (.agg [(.int .i64 a6), (.int .i64 a7)])] =
  C.bool (pcall M d 13 [(.agg [(.int .i64 a0), (.int .i64 a1), (.int .i64 a2), (.int .i64 a3)])]) fun b0 =>
  cnd (!b0)
   (some (.bool false))
   (C.bool (pcall M d 26 [(.agg [(.int .i64 a4), (.int .i64 a5)])]) fun b1 =>
   cnd (!b1)
   (some (.bool false))
   (C.bool (pcall M d 26 [(.agg [(.int .i64 a6), (.int .i64 a7)])]) fun b2 =>
   cnd (!b2)
   (some (.bool false))
   (C.bool (pcall M d 16 [(.agg [(.int .i64 a0), (.int .i64 a1), (.int .i64 a2), (.int .i64 a3)]), (.agg [(.int .i64 a4), (.int .i64 a5)])]) fun b3 =>
   cnd b3
   (some (.bool true))
   (C.bool (pcall M d 16 [(.agg [(.int .i64 a0), (.int .i64 a1), (.int .i64 a2), (.int .i64 a3)]), (.agg [(.int .i64 a6), (.int .i64 a7)])]) fun b4 =>
   cnd b4
   (some (.bool true))
   (C.lst (pcall M d 23 [(.agg [(.int .i64 a0), (.int .i64 a1), (.int .i64 a2), (.int .i64 a3)])]) (fun l5 =>
   C.iter (r25R0 C d a0 a1 a2 a3 a4 a5 a6 a7 b0 b1 b2 b3 b4 l5) 1000000000000000000 ⟨[(.agg [(.int .i64 a0), (.int .i64 a1), (.int .i64 a2), (.int .i64 a3)]), (.agg [(.int .i64 a4), (.int .i64 a5)]), (.agg [(.int .i64 a6), (.int .i64 a7)]), (.ptr 0 0 0), (.ptr 1 0 0), (.ptr 2 0 0), (.bool false), (.lst l5), (.int .i64 0), (.agg [(.int .i64 a0), (.int .i64 a1), (.int .i64 a2), (.int .i64 a3)]), (.bool b0), (.bool (!b0)), (.bool false), (.agg [(.int .i64 a4), (.int .i64 a5)]), (.bool b1), (.bool (!b1)), (.bool (!b1)), (.bool false), (.agg [(.int .i64 a6), (.int .i64 a7)]), (.bool b2), (.bool (!b2)), (.bool false), (.agg [(.int .i64 a0), (.int .i64 a1), (.int .i64 a2), (.int .i64 a3)]), (.agg [(.int .i64 a4), (.int .i64 a5)]), (.bool b3), (.bool false), (.agg [(.int .i64 a0), (.int .i64 a1), (.int .i64 a2), (.int .i64 a3)]), (.agg [(.int .i64 a6), (.int .i64 a7)]), (.bool b4), (.bool false), (.agg [(.int .i64 a0), (.int .i64 a1), (.int .i64 a2), (.int .i64 a3)]), (.lst l5), (.tup []), (.tup []), (.tup []), (.tup []), (.tup []), (.tup []), (.tup []), (.tup []), (.tup []), (.tup []), (.tup []), (.tup []), (.tup []), (.tup []), (.tup []), (.tup []), (.tup [])], [some ⟨E25, [(.agg [(.int .i64 a0), (.int .i64 a1), (.int .i64 a2), (.int .i64 a3)])]⟩, some ⟨E23, [(.agg [(.int .i64 a4), (.int .i64 a5)])]⟩, some ⟨E23, [(.agg [(.int .i64 a6), (.int .i64 a7)])]⟩]⟩ [0] [r25X0_0 C d a0 a1 a2 a3 a4 a5 a6 a7 b0 b1 b2 b3 b4 l5] (r25E0 C d a0 a1 a2 a3 a4 a5 a6 a7 b0 b1 b2 b3 b4 l5))
   (fun z6 =>
   C.iter (r25R2 C d a0 a1 a2 a3 a4 a5 a6 a7 b0 b1 b2 b3 b4 z6) 1000000000000000000 ⟨[(.agg [(.int .i64 a0), (.int .i64 a1), (.int .i64 a2), (.int .i64 a3)]), (.agg [(.int .i64 a4), (.int .i64 a5)]), (.agg [(.int .i64 a6), (.int .i64 a7)]), (.ptr 0 0 0), (.ptr 1 0 0), (.ptr 2 0 0), (.bool false), (.zsl z6), (.int .i64 0), (.agg [(.int .i64 a0), (.int .i64 a1), (.int .i64 a2), (.int .i64 a3)]), (.bool b0), (.bool (!b0)), (.bool false), (.agg [(.int .i64 a4), (.int .i64 a5)]), (.bool b1), (.bool (!b1)), (.bool (!b1)), (.bool false), (.agg [(.int .i64 a6), (.int .i64 a7)]), (.bool b2), (.bool (!b2)), (.bool false), (.agg [(.int .i64 a0), (.int .i64 a1), (.int .i64 a2), (.int .i64 a3)]), (.agg [(.int .i64 a4), (.int .i64 a5)]), (.bool b3), (.bool false), (.agg [(.int .i64 a0), (.int .i64 a1), (.int .i64 a2), (.int .i64 a3)]), (.agg [(.int .i64 a6), (.int .i64 a7)]), (.bool b4), (.bool false), (.agg [(.int .i64 a0), (.int .i64 a1), (.int .i64 a2), (.int .i64 a3)]), (.zsl z6), (.tup []), (.tup []), (.tup []), (.tup []), (.tup []), (.tup []), (.tup []), (.tup []), (.tup []), (.tup []), (.tup []), (.tup []), (.tup []), (.tup []), (.tup []), (.tup []), (.tup [])], [some ⟨E25, [(.agg [(.int .i64 a0), (.int .i64 a1), (.int .i64 a2), (.int .i64 a3)])]⟩, some ⟨E23, [(.agg [(.int .i64 a4), (.int .i64 a5)])]⟩, some ⟨E23, [(.agg [(.int .i64 a6), (.int .i64 a7)])]⟩]⟩ [0] [r25X2_0 C d a0 a1 a2 a3 a4 a5 a6 a7 b0 b1 b2 b3 b4 z6] (r25E2 C d a0 a1 a2 a3 a4 a5 a6 a7 b0 b1 b2 b3 b4 z6))))))) := by kernel_rfl
def r27R0 (C : Cb) (d : Nat) (a0 : Int) (a1 : Int) (a2 : Int) (a3 : Int) (a4 : List AV) (v0 : AV) (x5 : Int) (x6 : Int) (x7 : Int) (x8 : Int) (b9 : Bool) (b12 : Bool) (x15 : Int) : St → (Ex → St → Ans) → Ans := fun s16 k17 =>
  cnd ((List.length (St.env s16)) == 38)
   (C.same (St.env s16)[0]? (.agg [(.int .i64 a0), (.int .i64 a1), (.int .i64 a2), (.int .i64 a3)]) <|
   C.same (St.env s16)[1]? (.lst a4) <|
   C.same (St.env s16)[2]? v0 <|
   C.same (St.env s16)[3]? (.tup []) <|
   C.int .i64 (St.env s16)[4]? fun x19 =>
   C.any (St.env s16)[5]? fun v20 =>
   C.any (St.env s16)[6]? fun v21 =>
   C.same (St.env s16)[7]? (.agg [(.int .i64 x5), (.int .i64 x6), (.int .i64 x7), (.int .i64 x8)]) <|
   C.same (St.env s16)[8]? (.bool b9) <|
   C.same (St.env s16)[9]? (.bool (!b9)) <|
   C.same (St.env s16)[10]? (.bool false) <|
   C.same (St.env s16)[11]? (.lst a4) <|
   C.same (St.env s16)[12]? (.bool b12) <|
   C.same (St.env s16)[13]? (.bool (!b12)) <|
   C.same (St.env s16)[14]? (.bool false) <|
   C.same (St.env s16)[15]? (.lst a4) <|
   C.same (St.env s16)[16]? (.int .i64 x15) <|
   C.int .i64 (St.env s16)[17]? fun x22 =>
   C.any (St.env s16)[18]? fun v23 =>
   C.any (St.env s16)[19]? fun v24 =>
   C.any (St.env s16)[20]? fun v25 =>
   C.any (St.env s16)[21]? fun v26 =>
   C.any (St.env s16)[22]? fun v27 =>
   C.any (St.env s16)[23]? fun v28 =>
   C.any (St.env s16)[24]? fun v29 =>
   C.any (St.env s16)[25]? fun v30 =>
   C.any (St.env s16)[26]? fun v31 =>
   C.any (St.env s16)[27]? fun v32 =>
   C.any (St.env s16)[28]? fun v33 =>
   C.any (St.env s16)[29]? fun v34 =>
   C.any (St.env s16)[30]? fun v35 =>
   C.any (St.env s16)[31]? fun v36 =>
   C.any (St.env s16)[32]? fun v37 =>
   C.any (St.env s16)[33]? fun v38 =>
   C.same (St.env s16)[34]? (.tup []) <|
   C.same (St.env s16)[35]? (.tup []) <|
   C.same (St.env s16)[36]? (.tup []) <|
   C.same (St.env s16)[37]? (.tup []) <|
   cnd (decide (x22 < x15))
   (C.hop (St.H s16) (.ixAS .any 2 (.v (.lst a4)) (.v (.int .i64 x22))) fun v39 h40 =>
   C.hop h40 (.load true 2 (.v v39)) fun v41 h42 =>
   C.agg 2 (some v41) fun l43 =>
   C.int .i64 l43[0]? fun x44 =>
   C.int .i64 l43[1]? fun x45 =>
   C.hop h42 (.alloc E23) fun v46 h47 =>
   C.hop h47 (.store 2 (.v v46) (.v (.agg [(.int .i64 x44), (.int .i64 x45)]))) fun v48 h49 =>
   C.hop h49 (.load true 4 (.v v0)) fun v50 h51 =>
   C.agg 4 (some v50) fun l52 =>
   C.int .i64 l52[0]? fun x53 =>
   C.int .i64 l52[1]? fun x54 =>
   C.int .i64 l52[2]? fun x55 =>
   C.int .i64 l52[3]? fun x56 =>
   C.hop h51 (.load true 2 (.v v46)) fun v57 h58 =>
   C.agg 2 (some v57) fun l59 =>
   C.int .i64 l59[0]? fun x60 =>
   C.int .i64 l59[1]? fun x61 =>
   C.hop h58 (.bk .lenV [(.v (.lst a4))]) fun v62 h63 =>
   C.int .i64 (some v62) fun x64 =>
   cnd (decide (x64 = 0))
   (none)
   (C.hop h63 (.ixAS .any 2 (.v (.lst a4)) (.v (.int .i64 (Int.tmod (IntKind.wrap .i64 (x22 + 1)) x64)))) fun v65 h66 =>
   C.hop h66 (.load true 2 (.v v65)) fun v67 h68 =>
   C.agg 2 (some v67) fun l69 =>
   C.int .i64 l69[0]? fun x70 =>
   C.int .i64 l69[1]? fun x71 =>
   C.bool (pcall M d 24 [(.agg [(.int .i64 x53), (.int .i64 x54), (.int .i64 x55), (.int .i64 x56)]), (.agg [(.int .i64 x60), (.int .i64 x61)]), (.agg [(.int .i64 x70), (.int .i64 x71)])]) fun b72 =>
   cnd b72
   (k17 .ret ⟨[(.agg [(.int .i64 a0), (.int .i64 a1), (.int .i64 a2), (.int .i64 a3)]), (.lst a4), v0, (.tup []), (.int .i64 0), (.int .i64 x22), v46, (.agg [(.int .i64 x5), (.int .i64 x6), (.int .i64 x7), (.int .i64 x8)]), (.bool b9), (.bool (!b9)), (.bool false), (.lst a4), (.bool b12), (.bool (!b12)), (.bool false), (.lst a4), (.int .i64 x15), (.int .i64 x22), (.bool true), (.int .i64 x22), v39, (.agg [(.int .i64 x44), (.int .i64 x45)]), (.agg [(.int .i64 x53), (.int .i64 x54), (.int .i64 x55), (.int .i64 x56)]), (.agg [(.int .i64 x60), (.int .i64 x61)]), (.lst a4), (.int .i64 x22), (.int .i64 (IntKind.wrap .i64 (x22 + 1))), (.lst a4), (.int .i64 x64), (.int .i64 (Int.tmod (IntKind.wrap .i64 (x22 + 1)) x64)), v65, (.agg [(.int .i64 x70), (.int .i64 x71)]), (.bool true), v38, (.tup []), (.tup []), (.tup []), (.tup [])], h68⟩)
   (k17 .normal ⟨[(.agg [(.int .i64 a0), (.int .i64 a1), (.int .i64 a2), (.int .i64 a3)]), (.lst a4), v0, (.tup []), (.int .i64 x19), (.int .i64 x22), v46, (.agg [(.int .i64 x5), (.int .i64 x6), (.int .i64 x7), (.int .i64 x8)]), (.bool b9), (.bool (!b9)), (.bool false), (.lst a4), (.bool b12), (.bool (!b12)), (.bool false), (.lst a4), (.int .i64 x15), (.int .i64 (IntKind.wrap .i64 (x22 + 1))), (.bool true), (.int .i64 x22), v39, (.agg [(.int .i64 x44), (.int .i64 x45)]), (.agg [(.int .i64 x53), (.int .i64 x54), (.int .i64 x55), (.int .i64 x56)]), (.agg [(.int .i64 x60), (.int .i64 x61)]), (.lst a4), (.int .i64 x22), (.int .i64 (IntKind.wrap .i64 (x22 + 1))), (.lst a4), (.int .i64 x64), (.int .i64 (Int.tmod (IntKind.wrap .i64 (x22 + 1)) x64)), v65, (.agg [(.int .i64 x70), (.int .i64 x71)]), (.bool false), (.int .i64 (IntKind.wrap .i64 (x22 + 1))), (.tup []), (.tup []), (.tup []), (.tup [])], h68⟩)))
   (k17 (.exit 0) ⟨[(.agg [(.int .i64 a0), (.int .i64 a1), (.int .i64 a2), (.int .i64 a3)]), (.lst a4), v0, (.tup []), (.int .i64 x19), v20, v21, (.agg [(.int .i64 x5), (.int .i64 x6), (.int .i64 x7), (.int .i64 x8)]), (.bool b9), (.bool (!b9)), (.bool false), (.lst a4), (.bool b12), (.bool (!b12)), (.bool false), (.lst a4), (.int .i64 x15), (.int .i64 x22), (.bool false), v24, v25, v26, v27, v28, v29, v30, v31, v32, v33, v34, v35, v36, v37, v38, (.tup []), (.tup []), (.tup []), (.tup [])], (St.H s16)⟩))
   (none)
def r27X0_0 (C : Cb) (d : Nat) (a0 : Int) (a1 : Int) (a2 : Int) (a3 : Int) (a4 : List AV) (v0 : AV) (x5 : Int) (x6 : Int) (x7 : Int) (x8 : Int) (b9 : Bool) (b12 : Bool) (x15 : Int) : St → Ans := fun s73 =>
  cnd ((List.length (St.env s73)) == 38)
   (C.same (St.env s73)[0]? (.agg [(.int .i64 a0), (.int .i64 a1), (.int .i64 a2), (.int .i64 a3)]) <|
   C.same (St.env s73)[1]? (.lst a4) <|
   C.same (St.env s73)[2]? v0 <|
   C.same (St.env s73)[3]? (.tup []) <|
   C.int .i64 (St.env s73)[4]? fun x74 =>
   C.any (St.env s73)[5]? fun v75 =>
   C.any (St.env s73)[6]? fun v76 =>
   C.same (St.env s73)[7]? (.agg [(.int .i64 x5), (.int .i64 x6), (.int .i64 x7), (.int .i64 x8)]) <|
   C.same (St.env s73)[8]? (.bool b9) <|
   C.same (St.env s73)[9]? (.bool (!b9)) <|
   C.same (St.env s73)[10]? (.bool false) <|
   C.same (St.env s73)[11]? (.lst a4) <|
   C.same (St.env s73)[12]? (.bool b12) <|
   C.same (St.env s73)[13]? (.bool (!b12)) <|
   C.same (St.env s73)[14]? (.bool false) <|
   C.same (St.env s73)[15]? (.lst a4) <|
   C.same (St.env s73)[16]? (.int .i64 x15) <|
   C.int .i64 (St.env s73)[17]? fun x77 =>
   C.any (St.env s73)[18]? fun v78 =>
   C.any (St.env s73)[19]? fun v79 =>
   C.any (St.env s73)[20]? fun v80 =>
   C.any (St.env s73)[21]? fun v81 =>
   C.any (St.env s73)[22]? fun v82 =>
   C.any (St.env s73)[23]? fun v83 =>
   C.any (St.env s73)[24]? fun v84 =>
   C.any (St.env s73)[25]? fun v85 =>
   C.any (St.env s73)[26]? fun v86 =>
   C.any (St.env s73)[27]? fun v87 =>
   C.any (St.env s73)[28]? fun v88 =>
   C.any (St.env s73)[29]? fun v89 =>
   C.any (St.env s73)[30]? fun v90 =>
   C.any (St.env s73)[31]? fun v91 =>
   C.any (St.env s73)[32]? fun v92 =>
   C.any (St.env s73)[33]? fun v93 =>
   C.same (St.env s73)[34]? (.tup []) <|
   C.same (St.env s73)[35]? (.tup []) <|
   C.same (St.env s73)[36]? (.tup []) <|
   C.same (St.env s73)[37]? (.tup []) <|
   C.hop (St.H s73) (.fldA 0 (.v v0)) fun v94 h95 =>
   C.hop h95 (.load true 2 (.v v94)) fun v96 h97 =>
   C.agg 2 (some v96) fun l98 =>
   C.int .i64 l98[0]? fun x99 =>
   C.int .i64 l98[1]? fun x100 =>
   C.snp h97 [(.lst a4), (.agg [(.int .i64 x99), (.int .i64 x100)])] fun l101 b102 =>
   C.int .i64 (pcall M d 31 l101) fun x103 =>
   cnd (b102 || true)
   (C.fin h97 (.int .i64 x103))
   (none))
   (none)
def r27E0 (C : Cb) (d : Nat) (a0 : Int) (a1 : Int) (a2 : Int) (a3 : Int) (a4 : List AV) (v0 : AV) (x5 : Int) (x6 : Int) (x7 : Int) (x8 : Int) (b9 : Bool) (b12 : Bool) (x15 : Int) : St → Ans := fun s18 =>
  cnd ((List.length (St.env s18)) == 38)
   (C.same (St.env s18)[0]? (.agg [(.int .i64 a0), (.int .i64 a1), (.int .i64 a2), (.int .i64 a3)]) <|
   C.same (St.env s18)[1]? (.lst a4) <|
   C.same (St.env s18)[2]? v0 <|
   C.same (St.env s18)[3]? (.tup []) <|
   C.int .i64 (St.env s18)[4]? fun x104 =>
   C.int .i64 (St.env s18)[5]? fun x105 =>
   C.any (St.env s18)[6]? fun v106 =>
   C.same (St.env s18)[7]? (.agg [(.int .i64 x5), (.int .i64 x6), (.int .i64 x7), (.int .i64 x8)]) <|
   C.same (St.env s18)[8]? (.bool b9) <|
   C.same (St.env s18)[9]? (.bool (!b9)) <|
   C.same (St.env s18)[10]? (.bool false) <|
   C.same (St.env s18)[11]? (.lst a4) <|
   C.same (St.env s18)[12]? (.bool b12) <|
   C.same (St.env s18)[13]? (.bool (!b12)) <|
   C.same (St.env s18)[14]? (.bool false) <|
   C.same (St.env s18)[15]? (.lst a4) <|
   C.same (St.env s18)[16]? (.int .i64 x15) <|
   C.int .i64 (St.env s18)[17]? fun x107 =>
   C.any (St.env s18)[18]? fun v108 =>
   C.int .i64 (St.env s18)[19]? fun x109 =>
   C.any (St.env s18)[20]? fun v110 =>
   C.agg 2 (St.env s18)[21]? fun l111 =>
   C.int .i64 l111[0]? fun x112 =>
   C.int .i64 l111[1]? fun x113 =>
   C.agg 4 (St.env s18)[22]? fun l114 =>
   C.int .i64 l114[0]? fun x115 =>
   C.int .i64 l114[1]? fun x116 =>
   C.int .i64 l114[2]? fun x117 =>
   C.int .i64 l114[3]? fun x118 =>
   C.agg 2 (St.env s18)[23]? fun l119 =>
   C.int .i64 l119[0]? fun x120 =>
   C.int .i64 l119[1]? fun x121 =>
   C.any (St.env s18)[24]? fun v122 =>
   C.int .i64 (St.env s18)[25]? fun x123 =>
   C.int .i64 (St.env s18)[26]? fun x124 =>
   C.any (St.env s18)[27]? fun v125 =>
   C.int .i64 (St.env s18)[28]? fun x126 =>
   C.int .i64 (St.env s18)[29]? fun x127 =>
   C.any (St.env s18)[30]? fun v128 =>
   C.agg 2 (St.env s18)[31]? fun l129 =>
   C.int .i64 l129[0]? fun x130 =>
   C.int .i64 l129[1]? fun x131 =>
   C.bool (St.env s18)[32]? fun b132 =>
   C.any (St.env s18)[33]? fun v133 =>
   C.same (St.env s18)[34]? (.tup []) <|
   C.same (St.env s18)[35]? (.tup []) <|
   C.same (St.env s18)[36]? (.tup []) <|
   C.same (St.env s18)[37]? (.tup []) <|
   C.fin (St.H s18) (.int .i64 x104))
   (none)
/-- apogee/box.Relate -/
theorem r27 (C : Cb) (d : Nat) (a0 : Int) (a1 : Int) (a2 : Int) (a3 : Int) (a4 : List AV) : xcall C M unr d 27 [(.agg [(.int .i64 a0), (.int .i64 a1), (.int .i64 a2), (.int .i64 a3)]), (.lst a4)] =
  C.hop [] (.box E25 (.v (.agg [(.int .i64 a0), (.int .i64 a1), (.int .i64 a2), (.int .i64 a3)]))) fun v0 h1 =>
  C.hop h1 (.load true 4 (.v v0)) fun v2 h3 =>
  C.agg 4 (some v2) fun l4 =>
  C.int .i64 l4[0]? fun x5 =>
  C.int .i64 l4[1]? fun x6 =>
  C.int .i64 l4[2]? fun x7 =>
  C.int .i64 l4[3]? fun x8 =>
  C.bool (pcall M d 12 [(.agg [(.int .i64 x5), (.int .i64 x6), (.int .i64 x7), (.int .i64 x8)])]) fun b9 =>
  cnd (!b9)
   (C.fin h3 (.int .i64 (-1)))
   (C.snp h3 [(.lst a4)] fun l10 b11 =>
   C.bool (pcall M d 43 l10) fun b12 =>
   cnd (b11 || true)
   (cnd (!b12)
   (C.fin h3 (.int .i64 (-1)))
   (C.hop h3 (.bk .lenV [(.v (.lst a4))]) fun v13 h14 =>
   C.int .i64 (some v13) fun x15 =>
   C.iter (r27R0 C d a0 a1 a2 a3 a4 v0 x5 x6 x7 x8 b9 b12 x15) 1000000000000000000 ⟨[(.agg [(.int .i64 a0), (.int .i64 a1), (.int .i64 a2), (.int .i64 a3)]), (.lst a4), v0, (.tup []), (.int .i64 0), (.tup []), (.tup []), (.agg [(.int .i64 x5), (.int .i64 x6), (.int .i64 x7), (.int .i64 x8)]), (.bool b9), (.bool (!b9)), (.bool false), (.lst a4), (.bool b12), (.bool (!b12)), (.bool false), (.lst a4), (.int .i64 x15), (.int .i64 0), (.tup []), (.tup []), (.tup []), (.tup []), (.tup []), (.tup []), (.tup []), (.tup []), (.tup []), (.tup []), (.tup []), (.tup []), (.tup []), (.tup []), (.tup []), (.tup []), (.tup []), (.tup []), (.tup []), (.tup [])], h14⟩ [0] [r27X0_0 C d a0 a1 a2 a3 a4 v0 x5 x6 x7 x8 b9 b12 x15] (r27E0 C d a0 a1 a2 a3 a4 v0 x5 x6 x7 x8 b9 b12 x15)))
   (none)) := by kernel_rfl
def r28R0 (C : Cb) (d : Nat) (a0 : Int) (a1 : Int) (a2 : Int) (a3 : Int) (a4 : List AV) (b0 : Bool) (b1 : Bool) : St → (Ex → St → Ans) → Ans := fun s2 k3 =>
  cnd ((List.length (St.env s2)) == 38)
   (C.same (St.env s2)[0]? (.agg [(.int .i64 a0), (.int .i64 a1), (.int .i64 a2), (.int .i64 a3)]) <|
   C.same (St.env s2)[1]? (.lst a4) <|
   C.same (St.env s2)[2]? (.ptr 0 0 0) <|
   C.same (St.env s2)[3]? (.tup []) <|
   C.int .i64 (St.env s2)[4]? fun x5 =>
   C.int .i64 (St.env s2)[5]? fun x6 =>
   C.same (St.env s2)[6]? (.agg [(.int .i64 a0), (.int .i64 a1), (.int .i64 a2), (.int .i64 a3)]) <|
   C.same (St.env s2)[7]? (.bool b0) <|
   C.same (St.env s2)[8]? (.bool (!b0)) <|
   C.same (St.env s2)[9]? (.bool false) <|
   C.same (St.env s2)[10]? (.lst a4) <|
   C.same (St.env s2)[11]? (.bool b1) <|
   C.same (St.env s2)[12]? (.bool (!b1)) <|
   C.same (St.env s2)[13]? (.bool false) <|
   C.any (St.env s2)[14]? fun v7 =>
   C.any (St.env s2)[15]? fun v8 =>
   C.any (St.env s2)[16]? fun v9 =>
   C.any (St.env s2)[17]? fun v10 =>
   C.any (St.env s2)[18]? fun v11 =>
   C.any (St.env s2)[19]? fun v12 =>
   C.any (St.env s2)[20]? fun v13 =>
   C.any (St.env s2)[21]? fun v14 =>
   C.any (St.env s2)[22]? fun v15 =>
   C.any (St.env s2)[23]? fun v16 =>
   C.any (St.env s2)[24]? fun v17 =>
   C.any (St.env s2)[25]? fun v18 =>
   C.any (St.env s2)[26]? fun v19 =>
   C.any (St.env s2)[27]? fun v20 =>
   C.any (St.env s2)[28]? fun v21 =>
   C.any (St.env s2)[29]? fun v22 =>
   C.any (St.env s2)[30]? fun v23 =>
   C.any (St.env s2)[31]? fun v24 =>
   C.any (St.env s2)[32]? fun v25 =>
   C.any (St.env s2)[33]? fun v26 =>
   C.same (St.env s2)[34]? (.tup []) <|
   C.same (St.env s2)[35]? (.tup []) <|
   C.same (St.env s2)[36]? (.tup []) <|
   C.same (St.env s2)[37]? (.tup []) <|
   C.sameH (St.H s2) [some ⟨E25, [(.agg [(.int .i64 a0), (.int .i64 a1), (.int .i64 a2), (.int .i64 a3)])]⟩] <|
   cnd (decide (x6 < (((List.length a4) : Nat) : Int)))
   (cnd (decide (0 ≤ x6))
   (C.agg 2 a4[(Int.toNat x6)]? fun l27 =>
   C.int .i64 l27[0]? fun x28 =>
   C.int .i64 l27[1]? fun x29 =>
   cnd (decide ((((List.length a4) : Nat) : Int) = 0))
   (none)
   (cnd (decide (0 ≤ (Int.tmod (IntKind.wrap .i64 (x6 + 1)) (((List.length a4) : Nat) : Int))))
   (C.agg 2 a4[(Int.toNat (Int.tmod (IntKind.wrap .i64 (x6 + 1)) (((List.length a4) : Nat) : Int)))]? fun l30 =>
   C.int .i64 l30[0]? fun x31 =>
   C.int .i64 l30[1]? fun x32 =>
   C.bool (pcall M d 25 [(.agg [(.int .i64 a0), (.int .i64 a1), (.int .i64 a2), (.int .i64 a3)]), (.agg [(.int .i64 x28), (.int .i64 x29)]), (.agg [(.int .i64 x31), (.int .i64 x32)])]) fun b33 =>
   cnd b33
   (k3 .ret ⟨[(.agg [(.int .i64 a0), (.int .i64 a1), (.int .i64 a2), (.int .i64 a3)]), (.lst a4), (.ptr 0 0 0), (.tup []), (.int .i64 0), (.int .i64 x6), (.agg [(.int .i64 a0), (.int .i64 a1), (.int .i64 a2), (.int .i64 a3)]), (.bool b0), (.bool (!b0)), (.bool false), (.lst a4), (.bool b1), (.bool (!b1)), (.bool false), (.int .i64 x6), (.lst a4), (.int .i64 (((List.length a4) : Nat) : Int)), (.bool true), v11, v12, (.agg [(.int .i64 a0), (.int .i64 a1), (.int .i64 a2), (.int .i64 a3)]), (.lst a4), (.int .i64 x6), (.fptr (.agg [(.int .i64 x28), (.int .i64 x29)]) 0), (.agg [(.int .i64 x28), (.int .i64 x29)]), (.lst a4), (.int .i64 x6), (.int .i64 (IntKind.wrap .i64 (x6 + 1))), (.lst a4), (.int .i64 (((List.length a4) : Nat) : Int)), (.int .i64 (Int.tmod (IntKind.wrap .i64 (x6 + 1)) (((List.length a4) : Nat) : Int))), (.fptr (.agg [(.int .i64 x31), (.int .i64 x32)]) 0), (.agg [(.int .i64 x31), (.int .i64 x32)]), (.bool true), (.tup []), (.tup []), (.tup []), (.tup [])], [some ⟨E25, [(.agg [(.int .i64 a0), (.int .i64 a1), (.int .i64 a2), (.int .i64 a3)])]⟩]⟩)
   (k3 .normal ⟨[(.agg [(.int .i64 a0), (.int .i64 a1), (.int .i64 a2), (.int .i64 a3)]), (.lst a4), (.ptr 0 0 0), (.tup []), (.int .i64 x5), (.int .i64 (IntKind.wrap .i64 (x6 + 1))), (.agg [(.int .i64 a0), (.int .i64 a1), (.int .i64 a2), (.int .i64 a3)]), (.bool b0), (.bool (!b0)), (.bool false), (.lst a4), (.bool b1), (.bool (!b1)), (.bool false), (.int .i64 x6), (.lst a4), (.int .i64 (((List.length a4) : Nat) : Int)), (.bool true), (.int .i64 x6), (.int .i64 (IntKind.wrap .i64 (x6 + 1))), (.agg [(.int .i64 a0), (.int .i64 a1), (.int .i64 a2), (.int .i64 a3)]), (.lst a4), (.int .i64 x6), (.fptr (.agg [(.int .i64 x28), (.int .i64 x29)]) 0), (.agg [(.int .i64 x28), (.int .i64 x29)]), (.lst a4), (.int .i64 x6), (.int .i64 (IntKind.wrap .i64 (x6 + 1))), (.lst a4), (.int .i64 (((List.length a4) : Nat) : Int)), (.int .i64 (Int.tmod (IntKind.wrap .i64 (x6 + 1)) (((List.length a4) : Nat) : Int))), (.fptr (.agg [(.int .i64 x31), (.int .i64 x32)]) 0), (.agg [(.int .i64 x31), (.int .i64 x32)]), (.bool false), (.tup []), (.tup []), (.tup []), (.tup [])], [some ⟨E25, [(.agg [(.int .i64 a0), (.int .i64 a1), (.int .i64 a2), (.int .i64 a3)])]⟩]⟩))
   (none)))
   (none))
   (k3 (.exit 0) ⟨[(.agg [(.int .i64 a0), (.int .i64 a1), (.int .i64 a2), (.int .i64 a3)]), (.lst a4), (.ptr 0 0 0), (.tup []), (.int .i64 x5), (.int .i64 x6), (.agg [(.int .i64 a0), (.int .i64 a1), (.int .i64 a2), (.int .i64 a3)]), (.bool b0), (.bool (!b0)), (.bool false), (.lst a4), (.bool b1), (.bool (!b1)), (.bool false), (.int .i64 x6), (.lst a4), (.int .i64 (((List.length a4) : Nat) : Int)), (.bool false), v11, v12, v13, v14, v15, v16, v17, v18, v19, v20, v21, v22, v23, v24, v25, v26, (.tup []), (.tup []), (.tup []), (.tup [])], [some ⟨E25, [(.agg [(.int .i64 a0), (.int .i64 a1), (.int .i64 a2), (.int .i64 a3)])]⟩]⟩))
   (none)
def r28X0_0 (C : Cb) (d : Nat) (a0 : Int) (a1 : Int) (a2 : Int) (a3 : Int) (a4 : List AV) (b0 : Bool) (b1 : Bool) : St → Ans := fun s34 =>
  cnd ((List.length (St.env s34)) == 38)
   (C.same (St.env s34)[0]? (.agg [(.int .i64 a0), (.int .i64 a1), (.int .i64 a2), (.int .i64 a3)]) <|
   C.same (St.env s34)[1]? (.lst a4) <|
   C.same (St.env s34)[2]? (.ptr 0 0 0) <|
   C.same (St.env s34)[3]? (.tup []) <|
   C.int .i64 (St.env s34)[4]? fun x35 =>
   C.int .i64 (St.env s34)[5]? fun x36 =>
   C.same (St.env s34)[6]? (.agg [(.int .i64 a0), (.int .i64 a1), (.int .i64 a2), (.int .i64 a3)]) <|
   C.same (St.env s34)[7]? (.bool b0) <|
   C.same (St.env s34)[8]? (.bool (!b0)) <|
   C.same (St.env s34)[9]? (.bool false) <|
   C.same (St.env s34)[10]? (.lst a4) <|
   C.same (St.env s34)[11]? (.bool b1) <|
   C.same (St.env s34)[12]? (.bool (!b1)) <|
   C.same (St.env s34)[13]? (.bool false) <|
   C.int .i64 (St.env s34)[14]? fun x37 =>
   C.any (St.env s34)[15]? fun v38 =>
   C.int .i64 (St.env s34)[16]? fun x39 =>
   C.bool (St.env s34)[17]? fun b40 =>
   C.any (St.env s34)[18]? fun v41 =>
   C.any (St.env s34)[19]? fun v42 =>
   C.any (St.env s34)[20]? fun v43 =>
   C.any (St.env s34)[21]? fun v44 =>
   C.any (St.env s34)[22]? fun v45 =>
   C.any (St.env s34)[23]? fun v46 =>
   C.any (St.env s34)[24]? fun v47 =>
   C.any (St.env s34)[25]? fun v48 =>
   C.any (St.env s34)[26]? fun v49 =>
   C.any (St.env s34)[27]? fun v50 =>
   C.any (St.env s34)[28]? fun v51 =>
   C.any (St.env s34)[29]? fun v52 =>
   C.any (St.env s34)[30]? fun v53 =>
   C.any (St.env s34)[31]? fun v54 =>
   C.any (St.env s34)[32]? fun v55 =>
   C.any (St.env s34)[33]? fun v56 =>
   C.same (St.env s34)[34]? (.tup []) <|
   C.same (St.env s34)[35]? (.tup []) <|
   C.same (St.env s34)[36]? (.tup []) <|
   C.same (St.env s34)[37]? (.tup []) <|
   C.sameH (St.H s34) [some ⟨E25, [(.agg [(.int .i64 a0), (.int .i64 a1), (.int .i64 a2), (.int .i64 a3)])]⟩] <|
   C.int .i64 (pcall M d 44 [(.lst a4), (.agg [(.int .i64 a0), (.int .i64 a1)])]) fun x57 =>
   some (.int .i64 x57))
   (none)
def r28E0 (C : Cb) (d : Nat) (a0 : Int) (a1 : Int) (a2 : Int) (a3 : Int) (a4 : List AV) (b0 : Bool) (b1 : Bool) : St → Ans := fun s4 =>
  cnd ((List.length (St.env s4)) == 38)
   (C.same (St.env s4)[0]? (.agg [(.int .i64 a0), (.int .i64 a1), (.int .i64 a2), (.int .i64 a3)]) <|
   C.same (St.env s4)[1]? (.lst a4) <|
   C.same (St.env s4)[2]? (.ptr 0 0 0) <|
   C.same (St.env s4)[3]? (.tup []) <|
   C.int .i64 (St.env s4)[4]? fun x58 =>
   C.int .i64 (St.env s4)[5]? fun x59 =>
   C.same (St.env s4)[6]? (.agg [(.int .i64 a0), (.int .i64 a1), (.int .i64 a2), (.int .i64 a3)]) <|
   C.same (St.env s4)[7]? (.bool b0) <|
   C.same (St.env s4)[8]? (.bool (!b0)) <|
   C.same (St.env s4)[9]? (.bool false) <|
   C.same (St.env s4)[10]? (.lst a4) <|
   C.same (St.env s4)[11]? (.bool b1) <|
   C.same (St.env s4)[12]? (.bool (!b1)) <|
   C.same (St.env s4)[13]? (.bool false) <|
   C.int .i64 (St.env s4)[14]? fun x60 =>
   C.any (St.env s4)[15]? fun v61 =>
   C.int .i64 (St.env s4)[16]? fun x62 =>
   C.bool (St.env s4)[17]? fun b63 =>
   C.any (St.env s4)[18]? fun v64 =>
   C.any (St.env s4)[19]? fun v65 =>
   C.agg 4 (St.env s4)[20]? fun l66 =>
   C.int .i64 l66[0]? fun x67 =>
   C.int .i64 l66[1]? fun x68 =>
   C.int .i64 l66[2]? fun x69 =>
   C.int .i64 l66[3]? fun x70 =>
   C.any (St.env s4)[21]? fun v71 =>
   C.int .i64 (St.env s4)[22]? fun x72 =>
   C.any (St.env s4)[23]? fun v73 =>
   C.agg 2 (St.env s4)[24]? fun l74 =>
   C.int .i64 l74[0]? fun x75 =>
   C.int .i64 l74[1]? fun x76 =>
   C.any (St.env s4)[25]? fun v77 =>
   C.int .i64 (St.env s4)[26]? fun x78 =>
   C.int .i64 (St.env s4)[27]? fun x79 =>
   C.any (St.env s4)[28]? fun v80 =>
   C.int .i64 (St.env s4)[29]? fun x81 =>
   C.int .i64 (St.env s4)[30]? fun x82 =>
   C.any (St.env s4)[31]? fun v83 =>
   C.agg 2 (St.env s4)[32]? fun l84 =>
   C.int .i64 l84[0]? fun x85 =>
   C.int .i64 l84[1]? fun x86 =>
   C.bool (St.env s4)[33]? fun b87 =>
   C.same (St.env s4)[34]? (.tup []) <|
   C.same (St.env s4)[35]? (.tup []) <|
   C.same (St.env s4)[36]? (.tup []) <|
   C.same (St.env s4)[37]? (.tup []) <|
   C.sameH (St.H s4) [some ⟨E25, [(.agg [(.int .i64 a0), (.int .i64 a1), (.int .i64 a2), (.int .i64 a3)])]⟩] <|
   some (.int .i64 x58))
   (none)
/-- apogee/apogeeref12.Relate -/
theorem r28 (C : Cb) (d : Nat) (a0 : Int) (a1 : Int) (a2 : Int) (a3 : Int) (a4 : List AV) : xcall C M unr d 28 [(.agg [(.int .i64 a0), (.int .i64 a1), (.int .i64 a2), (.int .i64 a3)]), (.lst a4)] =
  C.bool (pcall M d 13 [(.agg [(.int .i64 a0), (.int .i64 a1), (.int .i64 a2), (.int .i64 a3)])]) fun b0 =>
  cnd (!b0)
   (some (.int .i64 (-1)))
   (C.bool (pcall M d 29 [(.lst a4)]) fun b1 =>
   cnd (!b1)
   (some (.int .i64 (-1)))
   (C.iter (r28R0 C d a0 a1 a2 a3 a4 b0 b1) 1000000000000000000 ⟨[(.agg [(.int .i64 a0), (.int .i64 a1), (.int .i64 a2), (.int .i64 a3)]), (.lst a4), (.ptr 0 0 0), (.tup []), (.int .i64 0), (.int .i64 0), (.agg [(.int .i64 a0), (.int .i64 a1), (.int .i64 a2), (.int .i64 a3)]), (.bool b0), (.bool (!b0)), (.bool false), (.lst a4), (.bool b1), (.bool (!b1)), (.bool false), (.tup []), (.tup []), (.tup []), (.tup []), (.tup []), (.tup []), (.tup []), (.tup []), (.tup []), (.tup []), (.tup []), (.tup []), (.tup []), (.tup []), (.tup []), (.tup []), (.tup []), (.tup []), (.tup []), (.tup []), (.tup []), (.tup []), (.tup []), (.tup [])], [some ⟨E25, [(.agg [(.int .i64 a0), (.int .i64 a1), (.int .i64 a2), (.int .i64 a3)])]⟩]⟩ [0] [r28X0_0 C d a0 a1 a2 a3 a4 b0 b1] (r28E0 C d a0 a1 a2 a3 a4 b0 b1))) := by kernel_rfl
/-- apogee/apogeeref12.hold -/
theorem r33 (C : Cb) (d : Nat) (a0 : Int) : xcall C M unr d 33 [(.int .i64 a0)] =
  some (.int .i64 (if (1099511627776 < (if ((-1099511627776) > a0) then (-1099511627776) else a0)) then 1099511627776 else (if ((-1099511627776) > a0) then (-1099511627776) else a0))) := by kernel_rfl
/-- apogee/box.Of$1 -/
theorem r37 (C : Cb) (d : Nat) (a0 : Int) : xcall C M unr d 37 [(.int .i64 a0)] =
  C.int .i64 (pcall M d 36 [(.int .i64 a0), (.int .i64 (-1099511627776)), (.int .i64 1099511627776)]) fun x0 =>
  some (.int .i64 x0) := by kernel_rfl
/-- apogee/box.Meets$1 -/
theorem r38 (C : Cb) (d : Nat) (a0 : Int) (a1 : Int) (a2 : Int) (a3 : Int) (a4 : Int) (a5 : Int) : xcall C M unr d 38 [(.agg [(.int .i64 a0), (.int .i64 a1)]), (.fptr (.agg [(.int .i64 a2), (.int .i64 a3)]) 0), (.fptr (.agg [(.int .i64 a4), (.int .i64 a5)]) 0)] =
  C.int .i64 (pcall M d 39 [(.agg [(.int .i64 a2), (.int .i64 a3)]), (.agg [(.int .i64 a4), (.int .i64 a5)]), (.agg [(.int .i64 a0), (.int .i64 a1)])]) fun x0 =>
  some (.int .i64 x0) := by kernel_rfl
/-- slices.ContainsFunc[[]apogee/api.Point,apogee/api.Point] -/
theorem r40f41 (C : Cb) (d : Nat) (a0 : List AV) (a1 : AV) (a2 : Int) (a3 : Int) (a4 : Int) (a5 : Int) (a6 : Int) : xcall C M unr d 40 [(.lst a0), (.fn 41 [] [(.fptr (.fn 38 [] [(.fptr (.agg [(.int .i64 a2), (.int .i64 a3)]) 0), (.fptr (.agg [(.int .i64 a4), (.int .i64 a5)]) 0)]) 0), (.fptr (.int .i64 a6) 0)])] =
  C.int .i64 (pcall M d 53 [(.lst a0), (.fn 41 [] [(.fptr (.fn 38 [] [(.fptr (.agg [(.int .i64 a2), (.int .i64 a3)]) 0), (.fptr (.agg [(.int .i64 a4), (.int .i64 a5)]) 0)]) 0), (.fptr (.int .i64 a6) 0)])]) fun x0 =>
  some (.bool (decide (x0 ≥ 0))) := by kernel_rfl
/-- apogee/box.Meets$2 -/
theorem r41 (C : Cb) (d : Nat) (a0 : Int) (a1 : Int) (a2 : Int) (a3 : Int) (a4 : Int) (a5 : Int) (a6 : Int) : xcall C M unr d 41 [(.agg [(.int .i64 a0), (.int .i64 a1)]), (.fptr (.fn 38 [] [(.fptr (.agg [(.int .i64 a2), (.int .i64 a3)]) 0), (.fptr (.agg [(.int .i64 a4), (.int .i64 a5)]) 0)]) 0), (.fptr (.int .i64 a6) 0)] =
  C.int .i64 (pcall M d 38 [(.agg [(.int .i64 a0), (.int .i64 a1)]), (.fptr (.agg [(.int .i64 a2), (.int .i64 a3)]) 0), (.fptr (.agg [(.int .i64 a4), (.int .i64 a5)]) 0)]) fun x0 =>
  some (.bool (x0 != a6)) := by kernel_rfl
def r53f41R0 (C : Cb) (d : Nat) (a0 : List AV) (a2 : Int) (a3 : Int) (a4 : Int) (a5 : Int) (a6 : Int) : St → (Ex → St → Ans) → Ans := fun s0 k1 =>
  cnd ((List.length (St.env s0)) == 19)
   (C.same (St.env s0)[0]? (.lst a0) <|
   C.same (St.env s0)[1]? (.fn 41 [] [(.fptr (.fn 38 [] [(.fptr (.agg [(.int .i64 a2), (.int .i64 a3)]) 0), (.fptr (.agg [(.int .i64 a4), (.int .i64 a5)]) 0)]) 0), (.fptr (.int .i64 a6) 0)]) <|
   C.same (St.env s0)[2]? (.tup []) <|
   C.same (St.env s0)[3]? (.tup []) <|
   C.int .i64 (St.env s0)[4]? fun x3 =>
   C.any (St.env s0)[5]? fun v4 =>
   C.same (St.env s0)[6]? (.lst a0) <|
   C.same (St.env s0)[7]? (.int .i64 (((List.length a0) : Nat) : Int)) <|
   C.int .i64 (St.env s0)[8]? fun x5 =>
   C.any (St.env s0)[9]? fun v6 =>
   C.any (St.env s0)[10]? fun v7 =>
   C.any (St.env s0)[11]? fun v8 =>
   C.any (St.env s0)[12]? fun v9 =>
   C.any (St.env s0)[13]? fun v10 =>
   C.any (St.env s0)[14]? fun v11 =>
   C.any (St.env s0)[15]? fun v12 =>
   C.any (St.env s0)[16]? fun v13 =>
   C.any (St.env s0)[17]? fun v14 =>
   C.any (St.env s0)[18]? fun v15 =>
   C.sameH (St.H s0) [] <|
   cnd (decide (x5 < (((List.length a0) : Nat) : Int)))
   (cnd (decide (0 ≤ x5))
   (C.agg 2 a0[(Int.toNat x5)]? fun l16 =>
   C.int .i64 l16[0]? fun x17 =>
   C.int .i64 l16[1]? fun x18 =>
   C.bool (pcall M d 41 [(.agg [(.int .i64 x17), (.int .i64 x18)]), (.fptr (.fn 38 [] [(.fptr (.agg [(.int .i64 a2), (.int .i64 a3)]) 0), (.fptr (.agg [(.int .i64 a4), (.int .i64 a5)]) 0)]) 0), (.fptr (.int .i64 a6) 0)]) fun b19 =>
   cnd b19
   (k1 .ret ⟨[(.lst a0), (.fn 41 [] [(.fptr (.fn 38 [] [(.fptr (.agg [(.int .i64 a2), (.int .i64 a3)]) 0), (.fptr (.agg [(.int .i64 a4), (.int .i64 a5)]) 0)]) 0), (.fptr (.int .i64 a6) 0)]), (.tup []), (.tup []), (.int .i64 x5), (.int .i64 x5), (.lst a0), (.int .i64 (((List.length a0) : Nat) : Int)), (.int .i64 x5), (.bool true), (.int .i64 x5), (.fn 41 [] [(.fptr (.fn 38 [] [(.fptr (.agg [(.int .i64 a2), (.int .i64 a3)]) 0), (.fptr (.agg [(.int .i64 a4), (.int .i64 a5)]) 0)]) 0), (.fptr (.int .i64 a6) 0)]), (.lst a0), (.int .i64 x5), (.fptr (.agg [(.int .i64 x17), (.int .i64 x18)]) 0), (.agg [(.int .i64 x17), (.int .i64 x18)]), (.bool true), (.int .i64 x5), v15], []⟩)
   (k1 .normal ⟨[(.lst a0), (.fn 41 [] [(.fptr (.fn 38 [] [(.fptr (.agg [(.int .i64 a2), (.int .i64 a3)]) 0), (.fptr (.agg [(.int .i64 a4), (.int .i64 a5)]) 0)]) 0), (.fptr (.int .i64 a6) 0)]), (.tup []), (.tup []), (.int .i64 x3), (.int .i64 x5), (.lst a0), (.int .i64 (((List.length a0) : Nat) : Int)), (.int .i64 (IntKind.wrap .i64 (x5 + 1))), (.bool true), (.int .i64 x5), (.fn 41 [] [(.fptr (.fn 38 [] [(.fptr (.agg [(.int .i64 a2), (.int .i64 a3)]) 0), (.fptr (.agg [(.int .i64 a4), (.int .i64 a5)]) 0)]) 0), (.fptr (.int .i64 a6) 0)]), (.lst a0), (.int .i64 x5), (.fptr (.agg [(.int .i64 x17), (.int .i64 x18)]) 0), (.agg [(.int .i64 x17), (.int .i64 x18)]), (.bool false), v14, (.int .i64 (IntKind.wrap .i64 (x5 + 1)))], []⟩))
   (none))
   (k1 (.exit 0) ⟨[(.lst a0), (.fn 41 [] [(.fptr (.fn 38 [] [(.fptr (.agg [(.int .i64 a2), (.int .i64 a3)]) 0), (.fptr (.agg [(.int .i64 a4), (.int .i64 a5)]) 0)]) 0), (.fptr (.int .i64 a6) 0)]), (.tup []), (.tup []), (.int .i64 x3), v4, (.lst a0), (.int .i64 (((List.length a0) : Nat) : Int)), (.int .i64 x5), (.bool false), v7, v8, v9, v10, v11, v12, v13, v14, v15], []⟩))
   (none)
def r53f41X0_0 (C : Cb) (d : Nat) (a0 : List AV) (a2 : Int) (a3 : Int) (a4 : Int) (a5 : Int) (a6 : Int) : St → Ans := fun s20 =>
  cnd ((List.length (St.env s20)) == 19)
   (C.same (St.env s20)[0]? (.lst a0) <|
   C.same (St.env s20)[1]? (.fn 41 [] [(.fptr (.fn 38 [] [(.fptr (.agg [(.int .i64 a2), (.int .i64 a3)]) 0), (.fptr (.agg [(.int .i64 a4), (.int .i64 a5)]) 0)]) 0), (.fptr (.int .i64 a6) 0)]) <|
   C.same (St.env s20)[2]? (.tup []) <|
   C.same (St.env s20)[3]? (.tup []) <|
   C.int .i64 (St.env s20)[4]? fun x21 =>
   C.any (St.env s20)[5]? fun v22 =>
   C.same (St.env s20)[6]? (.lst a0) <|
   C.same (St.env s20)[7]? (.int .i64 (((List.length a0) : Nat) : Int)) <|
   C.int .i64 (St.env s20)[8]? fun x23 =>
   C.any (St.env s20)[9]? fun v24 =>
   C.any (St.env s20)[10]? fun v25 =>
   C.any (St.env s20)[11]? fun v26 =>
   C.any (St.env s20)[12]? fun v27 =>
   C.any (St.env s20)[13]? fun v28 =>
   C.any (St.env s20)[14]? fun v29 =>
   C.any (St.env s20)[15]? fun v30 =>
   C.any (St.env s20)[16]? fun v31 =>
   C.any (St.env s20)[17]? fun v32 =>
   C.any (St.env s20)[18]? fun v33 =>
   C.sameH (St.H s20) [] <|
   some (.int .i64 (-1)))
   (none)
def r53f41E0 (C : Cb) (d : Nat) (a0 : List AV) (a2 : Int) (a3 : Int) (a4 : Int) (a5 : Int) (a6 : Int) : St → Ans := fun s2 =>
  cnd ((List.length (St.env s2)) == 19)
   (C.same (St.env s2)[0]? (.lst a0) <|
   C.same (St.env s2)[1]? (.fn 41 [] [(.fptr (.fn 38 [] [(.fptr (.agg [(.int .i64 a2), (.int .i64 a3)]) 0), (.fptr (.agg [(.int .i64 a4), (.int .i64 a5)]) 0)]) 0), (.fptr (.int .i64 a6) 0)]) <|
   C.same (St.env s2)[2]? (.tup []) <|
   C.same (St.env s2)[3]? (.tup []) <|
   C.int .i64 (St.env s2)[4]? fun x34 =>
   C.int .i64 (St.env s2)[5]? fun x35 =>
   C.same (St.env s2)[6]? (.lst a0) <|
   C.same (St.env s2)[7]? (.int .i64 (((List.length a0) : Nat) : Int)) <|
   C.int .i64 (St.env s2)[8]? fun x36 =>
   C.any (St.env s2)[9]? fun v37 =>
   C.int .i64 (St.env s2)[10]? fun x38 =>
   C.any (St.env s2)[11]? fun v39 =>
   C.any (St.env s2)[12]? fun v40 =>
   C.int .i64 (St.env s2)[13]? fun x41 =>
   C.any (St.env s2)[14]? fun v42 =>
   C.agg 2 (St.env s2)[15]? fun l43 =>
   C.int .i64 l43[0]? fun x44 =>
   C.int .i64 l43[1]? fun x45 =>
   C.bool (St.env s2)[16]? fun b46 =>
   C.int .i64 (St.env s2)[17]? fun x47 =>
   C.any (St.env s2)[18]? fun v48 =>
   C.sameH (St.H s2) [] <|
   some (.int .i64 x34))
   (none)
/-- slices.IndexFunc[[]apogee/api.Point,apogee/api.Point] -/
theorem r53f41 (C : Cb) (d : Nat) (a0 : List AV) (a1 : AV) (a2 : Int) (a3 : Int) (a4 : Int) (a5 : Int) (a6 : Int) : xcall C M unr d 53 [(.lst a0), (.fn 41 [] [(.fptr (.fn 38 [] [(.fptr (.agg [(.int .i64 a2), (.int .i64 a3)]) 0), (.fptr (.agg [(.int .i64 a4), (.int .i64 a5)]) 0)]) 0), (.fptr (.int .i64 a6) 0)])] =
  C.iter (r53f41R0 C d a0 a2 a3 a4 a5 a6) 1000000000000000000 ⟨[(.lst a0), (.fn 41 [] [(.fptr (.fn 38 [] [(.fptr (.agg [(.int .i64 a2), (.int .i64 a3)]) 0), (.fptr (.agg [(.int .i64 a4), (.int .i64 a5)]) 0)]) 0), (.fptr (.int .i64 a6) 0)]), (.tup []), (.tup []), (.int .i64 0), (.tup []), (.lst a0), (.int .i64 (((List.length a0) : Nat) : Int)), (.int .i64 0), (.tup []), (.tup []), (.tup []), (.tup []), (.tup []), (.tup []), (.tup []), (.tup []), (.tup []), (.tup [])], []⟩ [0] [r53f41X0_0 C d a0 a2 a3 a4 a5 a6] (r53f41E0 C d a0 a2 a3 a4 a5 a6) := by kernel_rfl
end Go.Proofs.Ytjblhppbjebagaa.AE

namespace Go.Proofs.Ytjblhppbjebagaa.AE
set_option linter.unusedVariables false
set_option linter.unusedSimpArgs false
set_option linter.constructorNameAsVariable false
open Go
set_option maxRecDepth 100000
noncomputable def X25_0_0 (d : Nat) (a4 : Int) (a5 : Int) (a6 : Int) (a7 : Int) (l5 : List AV)  : Ans :=
  some (.bool false)
theorem X25_0_0_ok (d : Nat) (a0 : Int) (a1 : Int) (a2 : Int) (a3 : Int) (a4 : Int) (a5 : Int) (a6 : Int) (a7 : Int) (b0 : Bool) (b1 : Bool) (b2 : Bool) (b3 : Bool) (b4 : Bool) (l5 : List AV)   (b37 : Bool) (x38 : Int) (x39 : Int) (b40 : Bool) (v41 : AV) (v42 : AV) (v43 : AV) (v44 : AV) (v45 : AV) (v46 : AV) (v47 : AV) (v48 : AV) (v49 : AV) (v50 : AV) (v51 : AV) (v52 : AV) (v53 : AV) (v54 : AV) (v55 : AV) : r25X0_0 C0 d a0 a1 a2 a3 a4 a5 a6 a7 b0 b1 b2 b3 b4 l5 ⟨[(.agg [(.int .i64 a0), (.int .i64 a1), (.int .i64 a2), (.int .i64 a3)]), (.agg [(.int .i64 a4), (.int .i64 a5)]), (.agg [(.int .i64 a6), (.int .i64 a7)]), (.ptr 0 0 0), (.ptr 1 0 0), (.ptr 2 0 0), (.bool b37), (.lst l5), (.int .i64 x38), (.agg [(.int .i64 a0), (.int .i64 a1), (.int .i64 a2), (.int .i64 a3)]), (.bool b0), (.bool (!b0)), (.bool false), (.agg [(.int .i64 a4), (.int .i64 a5)]), (.bool b1), (.bool (!b1)), (.bool (!b1)), (.bool false), (.agg [(.int .i64 a6), (.int .i64 a7)]), (.bool b2), (.bool (!b2)), (.bool false), (.agg [(.int .i64 a0), (.int .i64 a1), (.int .i64 a2), (.int .i64 a3)]), (.agg [(.int .i64 a4), (.int .i64 a5)]), (.bool b3), (.bool false), (.agg [(.int .i64 a0), (.int .i64 a1), (.int .i64 a2), (.int .i64 a3)]), (.agg [(.int .i64 a6), (.int .i64 a7)]), (.bool b4), (.bool false), (.agg [(.int .i64 a0), (.int .i64 a1), (.int .i64 a2), (.int .i64 a3)]), (.lst l5), (.int .i64 x39), (.bool b40), v41, v42, v43, v44, v45, v46, v47, v48, v49, v50, v51, v52, v53, v54, v55], [some ⟨E25, [(.agg [(.int .i64 a0), (.int .i64 a1), (.int .i64 a2), (.int .i64 a3)])]⟩, some ⟨E23, [(.agg [(.int .i64 a4), (.int .i64 a5)])]⟩, some ⟨E23, [(.agg [(.int .i64 a6), (.int .i64 a7)])]⟩]⟩ = X25_0_0 d a4 a5 a6 a7 l5  := by
  unfold r25X0_0; refine Eq.trans (pl_len (by rfl)) ?_; (iterate 6 (refine Eq.trans (pl_same (by rfl)) ?_)); refine Eq.trans (pl_bool (by rfl)) ?_; refine Eq.trans (pl_same (by rfl)) ?_; refine Eq.trans (pl_int (by rfl)) ?_; (iterate 23 (refine Eq.trans (pl_same (by rfl)) ?_)); refine Eq.trans (pl_int (by rfl)) ?_; refine Eq.trans (pl_bool (by rfl)) ?_; (iterate 15 (refine Eq.trans (pl_any (by rfl)) ?_)); refine Eq.trans (pl_sameH) ?_
  rfl
noncomputable def E25_0 (d : Nat) (a4 : Int) (a5 : Int) (a6 : Int) (a7 : Int) (l5 : List AV) (b56 : Bool) : Ans :=
  some (.bool b56)
theorem E25_0_ok (d : Nat) (a0 : Int) (a1 : Int) (a2 : Int) (a3 : Int) (a4 : Int) (a5 : Int) (a6 : Int) (a7 : Int) (b0 : Bool) (b1 : Bool) (b2 : Bool) (b3 : Bool) (b4 : Bool) (l5 : List AV)   (b56 : Bool) (x57 : Int) (x58 : Int) (b59 : Bool) (v60 : AV) (v61 : AV) (x63 : Int) (x64 : Int) (x66 : Int) (x67 : Int) (v68 : AV) (x69 : Int) (v70 : AV) (x72 : Int) (x73 : Int) (v74 : AV) (x75 : Int) (x76 : Int) (x77 : Int) (v78 : AV) (x80 : Int) (x81 : Int) (b82 : Bool) : r25E0 C0 d a0 a1 a2 a3 a4 a5 a6 a7 b0 b1 b2 b3 b4 l5 ⟨[(.agg [(.int .i64 a0), (.int .i64 a1), (.int .i64 a2), (.int .i64 a3)]), (.agg [(.int .i64 a4), (.int .i64 a5)]), (.agg [(.int .i64 a6), (.int .i64 a7)]), (.ptr 0 0 0), (.ptr 1 0 0), (.ptr 2 0 0), (.bool b56), (.lst l5), (.int .i64 x57), (.agg [(.int .i64 a0), (.int .i64 a1), (.int .i64 a2), (.int .i64 a3)]), (.bool b0), (.bool (!b0)), (.bool false), (.agg [(.int .i64 a4), (.int .i64 a5)]), (.bool b1), (.bool (!b1)), (.bool (!b1)), (.bool false), (.agg [(.int .i64 a6), (.int .i64 a7)]), (.bool b2), (.bool (!b2)), (.bool false), (.agg [(.int .i64 a0), (.int .i64 a1), (.int .i64 a2), (.int .i64 a3)]), (.agg [(.int .i64 a4), (.int .i64 a5)]), (.bool b3), (.bool false), (.agg [(.int .i64 a0), (.int .i64 a1), (.int .i64 a2), (.int .i64 a3)]), (.agg [(.int .i64 a6), (.int .i64 a7)]), (.bool b4), (.bool false), (.agg [(.int .i64 a0), (.int .i64 a1), (.int .i64 a2), (.int .i64 a3)]), (.lst l5), (.int .i64 x58), (.bool b59), v60, v61, (.agg [(.int .i64 x63), (.int .i64 x64)]), (.agg [(.int .i64 x66), (.int .i64 x67)]), v68, (.int .i64 x69), v70, (.agg [(.int .i64 x72), (.int .i64 x73)]), v74, (.int .i64 x75), (.int .i64 x76), (.int .i64 x77), v78, (.agg [(.int .i64 x80), (.int .i64 x81)]), (.bool b82)], [some ⟨E25, [(.agg [(.int .i64 a0), (.int .i64 a1), (.int .i64 a2), (.int .i64 a3)])]⟩, some ⟨E23, [(.agg [(.int .i64 a4), (.int .i64 a5)])]⟩, some ⟨E23, [(.agg [(.int .i64 a6), (.int .i64 a7)])]⟩]⟩ = E25_0 d a4 a5 a6 a7 l5 b56 := by
  unfold r25E0; refine Eq.trans (pl_len (by rfl)) ?_; (iterate 6 (refine Eq.trans (pl_same (by rfl)) ?_)); refine Eq.trans (pl_bool (by rfl)) ?_; refine Eq.trans (pl_same (by rfl)) ?_; refine Eq.trans (pl_int (by rfl)) ?_; (iterate 23 (refine Eq.trans (pl_same (by rfl)) ?_)); refine Eq.trans (pl_int (by rfl)) ?_; refine Eq.trans (pl_bool (by rfl)) ?_; (iterate 2 (refine Eq.trans (pl_any (by rfl)) ?_)); refine Eq.trans (pl_agg (by rfl) (by rfl)) ?_; (iterate 2 (refine Eq.trans (pl_int (by rfl)) ?_)); refine Eq.trans (pl_agg (by rfl) (by rfl)) ?_; (iterate 2 (refine Eq.trans (pl_int (by rfl)) ?_)); refine Eq.trans (pl_any (by rfl)) ?_; refine Eq.trans (pl_int (by rfl)) ?_; refine Eq.trans (pl_any (by rfl)) ?_; refine Eq.trans (pl_agg (by rfl) (by rfl)) ?_; (iterate 2 (refine Eq.trans (pl_int (by rfl)) ?_)); refine Eq.trans (pl_any (by rfl)) ?_; (iterate 3 (refine Eq.trans (pl_int (by rfl)) ?_)); refine Eq.trans (pl_any (by rfl)) ?_; refine Eq.trans (pl_agg (by rfl) (by rfl)) ?_; (iterate 2 (refine Eq.trans (pl_int (by rfl)) ?_)); refine Eq.trans (pl_bool (by rfl)) ?_; refine Eq.trans (pl_sameH) ?_
  rfl
noncomputable def L25_0 (d : Nat) (a4 : Int) (a5 : Int) (a6 : Int) (a7 : Int) (l5 : List AV) : Nat → Int → Ans
  | 0, _ => none
  | n + 1, x11 =>
  cnd (decide (x11 < 4))
   (cnd (decide (0 ≤ x11))
   (C0.agg 2 l5[(Int.toNat x11)]? fun l29 =>
   C0.int .i64 l29[0]? fun x30 =>
   C0.int .i64 l29[1]? fun x31 =>
   cnd (decide (0 ≤ (Int.tmod (IntKind.wrap .i64 (x11 + 1)) 4)))
   (C0.agg 2 l5[(Int.toNat (Int.tmod (IntKind.wrap .i64 (x11 + 1)) 4))]? fun l32 =>
   C0.int .i64 l32[0]? fun x33 =>
   C0.int .i64 l32[1]? fun x34 =>
   C0.bool (pcall M d 42 [(.agg [(.int .i64 a4), (.int .i64 a5)]), (.agg [(.int .i64 a6), (.int .i64 a7)]), (.agg [(.int .i64 x30), (.int .i64 x31)]), (.agg [(.int .i64 x33), (.int .i64 x34)])]) fun b35 =>
   cnd b35
   (E25_0 d a4 a5 a6 a7 l5 true)
   (L25_0 d a4 a5 a6 a7 l5 n (IntKind.wrap .i64 (x11 + 1))))
   (none))
   (none))
   (X25_0_0 d a4 a5 a6 a7 l5)
theorem it25_0 (d : Nat) (a0 : Int) (a1 : Int) (a2 : Int) (a3 : Int) (a4 : Int) (a5 : Int) (a6 : Int) (a7 : Int) (b0 : Bool) (b1 : Bool) (b2 : Bool) (b3 : Bool) (b4 : Bool) (l5 : List AV)   : ∀ (n : Nat) (b10 : Bool) (x11 : Int) (v12 : AV) (v13 : AV) (v14 : AV) (v15 : AV) (v16 : AV) (v17 : AV) (v18 : AV) (v19 : AV) (v20 : AV) (v21 : AV) (v22 : AV) (v23 : AV) (v24 : AV) (v25 : AV) (v26 : AV) (v27 : AV) (v28 : AV), C0.iter (r25R0 C0 d a0 a1 a2 a3 a4 a5 a6 a7 b0 b1 b2 b3 b4 l5) n ⟨[(.agg [(.int .i64 a0), (.int .i64 a1), (.int .i64 a2), (.int .i64 a3)]), (.agg [(.int .i64 a4), (.int .i64 a5)]), (.agg [(.int .i64 a6), (.int .i64 a7)]), (.ptr 0 0 0), (.ptr 1 0 0), (.ptr 2 0 0), (.bool b10), (.lst l5), (.int .i64 x11), (.agg [(.int .i64 a0), (.int .i64 a1), (.int .i64 a2), (.int .i64 a3)]), (.bool b0), (.bool (!b0)), (.bool false), (.agg [(.int .i64 a4), (.int .i64 a5)]), (.bool b1), (.bool (!b1)), (.bool (!b1)), (.bool false), (.agg [(.int .i64 a6), (.int .i64 a7)]), (.bool b2), (.bool (!b2)), (.bool false), (.agg [(.int .i64 a0), (.int .i64 a1), (.int .i64 a2), (.int .i64 a3)]), (.agg [(.int .i64 a4), (.int .i64 a5)]), (.bool b3), (.bool false), (.agg [(.int .i64 a0), (.int .i64 a1), (.int .i64 a2), (.int .i64 a3)]), (.agg [(.int .i64 a6), (.int .i64 a7)]), (.bool b4), (.bool false), (.agg [(.int .i64 a0), (.int .i64 a1), (.int .i64 a2), (.int .i64 a3)]), (.lst l5), v12, v13, v14, v15, v16, v17, v18, v19, v20, v21, v22, v23, v24, v25, v26, v27, v28], [some ⟨E25, [(.agg [(.int .i64 a0), (.int .i64 a1), (.int .i64 a2), (.int .i64 a3)])]⟩, some ⟨E23, [(.agg [(.int .i64 a4), (.int .i64 a5)])]⟩, some ⟨E23, [(.agg [(.int .i64 a6), (.int .i64 a7)])]⟩]⟩ [0] [r25X0_0 C0 d a0 a1 a2 a3 a4 a5 a6 a7 b0 b1 b2 b3 b4 l5] (r25E0 C0 d a0 a1 a2 a3 a4 a5 a6 a7 b0 b1 b2 b3 b4 l5) = L25_0 d a4 a5 a6 a7 l5 n x11 := by
  generalize hR : r25R0 C0 d a0 a1 a2 a3 a4 a5 a6 a7 b0 b1 b2 b3 b4 l5 = R
  intro n
  induction n with
  | zero => intros; rfl
  | succ n ih =>
    intro b10 x11 v12 v13 v14 v15 v16 v17 v18 v19 v20 v21 v22 v23 v24 v25 v26 v27 v28
    simp only [it_ret] at ih
    rw [it_ret, xiter_s]
    refine Eq.trans (congrFun (congrFun hR.symm _) _) ?_
    unfold r25R0
    refine Eq.trans (pl_len (by rfl)) ?_; (iterate 6 (refine Eq.trans (pl_same (by rfl)) ?_)); refine Eq.trans (pl_bool (by rfl)) ?_; refine Eq.trans (pl_same (by rfl)) ?_; refine Eq.trans (pl_int (by rfl)) ?_; (iterate 23 (refine Eq.trans (pl_same (by rfl)) ?_)); (iterate 17 (refine Eq.trans (pl_any (by rfl)) ?_)); refine Eq.trans (pl_sameH) ?_
    simp only [L25_0, kIter_n, kIter_x, kIter_r, kOut_x, kOut_r, xgo_hit, xgo_miss, ih, X25_0_0_ok d a0 a1 a2 a3 a4 a5 a6 a7 b0 b1 b2 b3 b4 l5  , E25_0_ok d a0 a1 a2 a3 a4 a5 a6 a7 b0 b1 b2 b3 b4 l5  ]
noncomputable def X25_2_0 (d : Nat)   : Ans :=
  some (.bool false)
theorem X25_2_0_ok (d : Nat) (a0 : Int) (a1 : Int) (a2 : Int) (a3 : Int) (a4 : Int) (a5 : Int) (a6 : Int) (a7 : Int) (b0 : Bool) (b1 : Bool) (b2 : Bool) (b3 : Bool) (b4 : Bool) (z6 : Bool)   (b106 : Bool) (x107 : Int) (x108 : Int) (b109 : Bool) (v110 : AV) (v111 : AV) (v112 : AV) (v113 : AV) (v114 : AV) (v115 : AV) (v116 : AV) (v117 : AV) (v118 : AV) (v119 : AV) (v120 : AV) (v121 : AV) (v122 : AV) (v123 : AV) (v124 : AV) : r25X2_0 C0 d a0 a1 a2 a3 a4 a5 a6 a7 b0 b1 b2 b3 b4 z6 ⟨[(.agg [(.int .i64 a0), (.int .i64 a1), (.int .i64 a2), (.int .i64 a3)]), (.agg [(.int .i64 a4), (.int .i64 a5)]), (.agg [(.int .i64 a6), (.int .i64 a7)]), (.ptr 0 0 0), (.ptr 1 0 0), (.ptr 2 0 0), (.bool b106), (.zsl z6), (.int .i64 x107), (.agg [(.int .i64 a0), (.int .i64 a1), (.int .i64 a2), (.int .i64 a3)]), (.bool b0), (.bool (!b0)), (.bool false), (.agg [(.int .i64 a4), (.int .i64 a5)]), (.bool b1), (.bool (!b1)), (.bool (!b1)), (.bool false), (.agg [(.int .i64 a6), (.int .i64 a7)]), (.bool b2), (.bool (!b2)), (.bool false), (.agg [(.int .i64 a0), (.int .i64 a1), (.int .i64 a2), (.int .i64 a3)]), (.agg [(.int .i64 a4), (.int .i64 a5)]), (.bool b3), (.bool false), (.agg [(.int .i64 a0), (.int .i64 a1), (.int .i64 a2), (.int .i64 a3)]), (.agg [(.int .i64 a6), (.int .i64 a7)]), (.bool b4), (.bool false), (.agg [(.int .i64 a0), (.int .i64 a1), (.int .i64 a2), (.int .i64 a3)]), (.zsl z6), (.int .i64 x108), (.bool b109), v110, v111, v112, v113, v114, v115, v116, v117, v118, v119, v120, v121, v122, v123, v124], [some ⟨E25, [(.agg [(.int .i64 a0), (.int .i64 a1), (.int .i64 a2), (.int .i64 a3)])]⟩, some ⟨E23, [(.agg [(.int .i64 a4), (.int .i64 a5)])]⟩, some ⟨E23, [(.agg [(.int .i64 a6), (.int .i64 a7)])]⟩]⟩ = X25_2_0 d   := by
  unfold r25X2_0; refine Eq.trans (pl_len (by rfl)) ?_; (iterate 6 (refine Eq.trans (pl_same (by rfl)) ?_)); refine Eq.trans (pl_bool (by rfl)) ?_; refine Eq.trans (pl_same (by rfl)) ?_; refine Eq.trans (pl_int (by rfl)) ?_; (iterate 23 (refine Eq.trans (pl_same (by rfl)) ?_)); refine Eq.trans (pl_int (by rfl)) ?_; refine Eq.trans (pl_bool (by rfl)) ?_; (iterate 15 (refine Eq.trans (pl_any (by rfl)) ?_)); refine Eq.trans (pl_sameH) ?_
  rfl
noncomputable def E25_2 (d : Nat)  (b125 : Bool) : Ans :=
  some (.bool b125)
theorem E25_2_ok (d : Nat) (a0 : Int) (a1 : Int) (a2 : Int) (a3 : Int) (a4 : Int) (a5 : Int) (a6 : Int) (a7 : Int) (b0 : Bool) (b1 : Bool) (b2 : Bool) (b3 : Bool) (b4 : Bool) (z6 : Bool)   (b125 : Bool) (x126 : Int) (x127 : Int) (b128 : Bool) (v129 : AV) (v130 : AV) (x132 : Int) (x133 : Int) (x135 : Int) (x136 : Int) (v137 : AV) (x138 : Int) (v139 : AV) (x141 : Int) (x142 : Int) (v143 : AV) (x144 : Int) (x145 : Int) (x146 : Int) (v147 : AV) (x149 : Int) (x150 : Int) (b151 : Bool) : r25E2 C0 d a0 a1 a2 a3 a4 a5 a6 a7 b0 b1 b2 b3 b4 z6 ⟨[(.agg [(.int .i64 a0), (.int .i64 a1), (.int .i64 a2), (.int .i64 a3)]), (.agg [(.int .i64 a4), (.int .i64 a5)]), (.agg [(.int .i64 a6), (.int .i64 a7)]), (.ptr 0 0 0), (.ptr 1 0 0), (.ptr 2 0 0), (.bool b125), (.zsl z6), (.int .i64 x126), (.agg [(.int .i64 a0), (.int .i64 a1), (.int .i64 a2), (.int .i64 a3)]), (.bool b0), (.bool (!b0)), (.bool false), (.agg [(.int .i64 a4), (.int .i64 a5)]), (.bool b1), (.bool (!b1)), (.bool (!b1)), (.bool false), (.agg [(.int .i64 a6), (.int .i64 a7)]), (.bool b2), (.bool (!b2)), (.bool false), (.agg [(.int .i64 a0), (.int .i64 a1), (.int .i64 a2), (.int .i64 a3)]), (.agg [(.int .i64 a4), (.int .i64 a5)]), (.bool b3), (.bool false), (.agg [(.int .i64 a0), (.int .i64 a1), (.int .i64 a2), (.int .i64 a3)]), (.agg [(.int .i64 a6), (.int .i64 a7)]), (.bool b4), (.bool false), (.agg [(.int .i64 a0), (.int .i64 a1), (.int .i64 a2), (.int .i64 a3)]), (.zsl z6), (.int .i64 x127), (.bool b128), v129, v130, (.agg [(.int .i64 x132), (.int .i64 x133)]), (.agg [(.int .i64 x135), (.int .i64 x136)]), v137, (.int .i64 x138), v139, (.agg [(.int .i64 x141), (.int .i64 x142)]), v143, (.int .i64 x144), (.int .i64 x145), (.int .i64 x146), v147, (.agg [(.int .i64 x149), (.int .i64 x150)]), (.bool b151)], [some ⟨E25, [(.agg [(.int .i64 a0), (.int .i64 a1), (.int .i64 a2), (.int .i64 a3)])]⟩, some ⟨E23, [(.agg [(.int .i64 a4), (.int .i64 a5)])]⟩, some ⟨E23, [(.agg [(.int .i64 a6), (.int .i64 a7)])]⟩]⟩ = E25_2 d  b125 := by
  unfold r25E2; refine Eq.trans (pl_len (by rfl)) ?_; (iterate 6 (refine Eq.trans (pl_same (by rfl)) ?_)); refine Eq.trans (pl_bool (by rfl)) ?_; refine Eq.trans (pl_same (by rfl)) ?_; refine Eq.trans (pl_int (by rfl)) ?_; (iterate 23 (refine Eq.trans (pl_same (by rfl)) ?_)); refine Eq.trans (pl_int (by rfl)) ?_; refine Eq.trans (pl_bool (by rfl)) ?_; (iterate 2 (refine Eq.trans (pl_any (by rfl)) ?_)); refine Eq.trans (pl_agg (by rfl) (by rfl)) ?_; (iterate 2 (refine Eq.trans (pl_int (by rfl)) ?_)); refine Eq.trans (pl_agg (by rfl) (by rfl)) ?_; (iterate 2 (refine Eq.trans (pl_int (by rfl)) ?_)); refine Eq.trans (pl_any (by rfl)) ?_; refine Eq.trans (pl_int (by rfl)) ?_; refine Eq.trans (pl_any (by rfl)) ?_; refine Eq.trans (pl_agg (by rfl) (by rfl)) ?_; (iterate 2 (refine Eq.trans (pl_int (by rfl)) ?_)); refine Eq.trans (pl_any (by rfl)) ?_; (iterate 3 (refine Eq.trans (pl_int (by rfl)) ?_)); refine Eq.trans (pl_any (by rfl)) ?_; refine Eq.trans (pl_agg (by rfl) (by rfl)) ?_; (iterate 2 (refine Eq.trans (pl_int (by rfl)) ?_)); refine Eq.trans (pl_bool (by rfl)) ?_; refine Eq.trans (pl_sameH) ?_
  rfl
noncomputable def L25_2 (d : Nat)  : Nat → Int → Ans
  | 0, _ => none
  | n + 1, x87 =>
  cnd (decide (x87 < 4))
   (none)
   (X25_2_0 d)
theorem it25_2 (d : Nat) (a0 : Int) (a1 : Int) (a2 : Int) (a3 : Int) (a4 : Int) (a5 : Int) (a6 : Int) (a7 : Int) (b0 : Bool) (b1 : Bool) (b2 : Bool) (b3 : Bool) (b4 : Bool) (z6 : Bool)   : ∀ (n : Nat) (b86 : Bool) (x87 : Int) (v88 : AV) (v89 : AV) (v90 : AV) (v91 : AV) (v92 : AV) (v93 : AV) (v94 : AV) (v95 : AV) (v96 : AV) (v97 : AV) (v98 : AV) (v99 : AV) (v100 : AV) (v101 : AV) (v102 : AV) (v103 : AV) (v104 : AV), C0.iter (r25R2 C0 d a0 a1 a2 a3 a4 a5 a6 a7 b0 b1 b2 b3 b4 z6) n ⟨[(.agg [(.int .i64 a0), (.int .i64 a1), (.int .i64 a2), (.int .i64 a3)]), (.agg [(.int .i64 a4), (.int .i64 a5)]), (.agg [(.int .i64 a6), (.int .i64 a7)]), (.ptr 0 0 0), (.ptr 1 0 0), (.ptr 2 0 0), (.bool b86), (.zsl z6), (.int .i64 x87), (.agg [(.int .i64 a0), (.int .i64 a1), (.int .i64 a2), (.int .i64 a3)]), (.bool b0), (.bool (!b0)), (.bool false), (.agg [(.int .i64 a4), (.int .i64 a5)]), (.bool b1), (.bool (!b1)), (.bool (!b1)), (.bool false), (.agg [(.int .i64 a6), (.int .i64 a7)]), (.bool b2), (.bool (!b2)), (.bool false), (.agg [(.int .i64 a0), (.int .i64 a1), (.int .i64 a2), (.int .i64 a3)]), (.agg [(.int .i64 a4), (.int .i64 a5)]), (.bool b3), (.bool false), (.agg [(.int .i64 a0), (.int .i64 a1), (.int .i64 a2), (.int .i64 a3)]), (.agg [(.int .i64 a6), (.int .i64 a7)]), (.bool b4), (.bool false), (.agg [(.int .i64 a0), (.int .i64 a1), (.int .i64 a2), (.int .i64 a3)]), (.zsl z6), v88, v89, v90, v91, v92, v93, v94, v95, v96, v97, v98, v99, v100, v101, v102, v103, v104], [some ⟨E25, [(.agg [(.int .i64 a0), (.int .i64 a1), (.int .i64 a2), (.int .i64 a3)])]⟩, some ⟨E23, [(.agg [(.int .i64 a4), (.int .i64 a5)])]⟩, some ⟨E23, [(.agg [(.int .i64 a6), (.int .i64 a7)])]⟩]⟩ [0] [r25X2_0 C0 d a0 a1 a2 a3 a4 a5 a6 a7 b0 b1 b2 b3 b4 z6] (r25E2 C0 d a0 a1 a2 a3 a4 a5 a6 a7 b0 b1 b2 b3 b4 z6) = L25_2 d  n x87 := by
  generalize hR : r25R2 C0 d a0 a1 a2 a3 a4 a5 a6 a7 b0 b1 b2 b3 b4 z6 = R
  intro n
  induction n with
  | zero => intros; rfl
  | succ n ih =>
    intro b86 x87 v88 v89 v90 v91 v92 v93 v94 v95 v96 v97 v98 v99 v100 v101 v102 v103 v104
    simp only [it_ret] at ih
    rw [it_ret, xiter_s]
    refine Eq.trans (congrFun (congrFun hR.symm _) _) ?_
    unfold r25R2
    refine Eq.trans (pl_len (by rfl)) ?_; (iterate 6 (refine Eq.trans (pl_same (by rfl)) ?_)); refine Eq.trans (pl_bool (by rfl)) ?_; refine Eq.trans (pl_same (by rfl)) ?_; refine Eq.trans (pl_int (by rfl)) ?_; (iterate 23 (refine Eq.trans (pl_same (by rfl)) ?_)); (iterate 17 (refine Eq.trans (pl_any (by rfl)) ?_)); refine Eq.trans (pl_sameH) ?_
    simp only [L25_2, kIter_n, kIter_x, kIter_r, kOut_x, kOut_r, xgo_hit, xgo_miss, ih, X25_2_0_ok d a0 a1 a2 a3 a4 a5 a6 a7 b0 b1 b2 b3 b4 z6  , E25_2_ok d a0 a1 a2 a3 a4 a5 a6 a7 b0 b1 b2 b3 b4 z6  ]
/-- apogee/apogeeref12.Meets -/
theorem q25 (d : Nat) (a0 : Int) (a1 : Int) (a2 : Int) (a3 : Int) (a4 : Int) (a5 : Int) (a6 : Int) (a7 : Int) : xcall C0 M unr d 25 [(.agg [(.int .i64 a0), (.int .i64 a1), (.int .i64 a2), (.int .i64 a3)]), (.agg [(.int .i64 a4), (.int .i64 a5)]), (.agg [(.int .i64 a6), (.int .i64 a7)])] =
  C0.bool (pcall M d 13 [(.agg [(.int .i64 a0), (.int .i64 a1), (.int .i64 a2), (.int .i64 a3)])]) fun b0 =>
  cnd (!b0)
   (some (.bool false))
   (C0.bool (pcall M d 26 [(.agg [(.int .i64 a4), (.int .i64 a5)])]) fun b1 =>
   cnd (!b1)
   (some (.bool false))
   (C0.bool (pcall M d 26 [(.agg [(.int .i64 a6), (.int .i64 a7)])]) fun b2 =>
   cnd (!b2)
   (some (.bool false))
   (C0.bool (pcall M d 16 [(.agg [(.int .i64 a0), (.int .i64 a1), (.int .i64 a2), (.int .i64 a3)]), (.agg [(.int .i64 a4), (.int .i64 a5)])]) fun b3 =>
   cnd b3
   (some (.bool true))
   (C0.bool (pcall M d 16 [(.agg [(.int .i64 a0), (.int .i64 a1), (.int .i64 a2), (.int .i64 a3)]), (.agg [(.int .i64 a6), (.int .i64 a7)])]) fun b4 =>
   cnd b4
   (some (.bool true))
   (C0.lst (pcall M d 23 [(.agg [(.int .i64 a0), (.int .i64 a1), (.int .i64 a2), (.int .i64 a3)])]) (fun l5 =>
   L25_0 d a4 a5 a6 a7 l5 1000000000000000000 0)
            (fun z6 =>
   L25_2 d 1000000000000000000 0)))))) := (r25 C0 d a0 a1 a2 a3 a4 a5 a6 a7).trans (by simp only [it25_0, it25_2])
noncomputable def X27_0_0 (d : Nat) (a4 : List AV) (v0 : AV) (x15 : Int) (H : Heap) : Ans :=
  C0.hop H (.fldA 0 (.v v0)) fun v94 h95 =>
   C0.hop h95 (.load true 2 (.v v94)) fun v96 h97 =>
   C0.agg 2 (some v96) fun l98 =>
   C0.int .i64 l98[0]? fun x99 =>
   C0.int .i64 l98[1]? fun x100 =>
   C0.snp h97 [(.lst a4), (.agg [(.int .i64 x99), (.int .i64 x100)])] fun l101 b102 =>
   C0.int .i64 (pcall M d 31 l101) fun x103 =>
   cnd (b102 || true)
   (C0.fin h97 (.int .i64 x103))
   (none)
theorem X27_0_0_ok (d : Nat) (a0 : Int) (a1 : Int) (a2 : Int) (a3 : Int) (a4 : List AV) (v0 : AV) (x5 : Int) (x6 : Int) (x7 : Int) (x8 : Int) (b9 : Bool) (b12 : Bool) (x15 : Int)   (x74 : Int) (v75 : AV) (v76 : AV) (x77 : Int) (v78 : AV) (v79 : AV) (v80 : AV) (v81 : AV) (v82 : AV) (v83 : AV) (v84 : AV) (v85 : AV) (v86 : AV) (v87 : AV) (v88 : AV) (v89 : AV) (v90 : AV) (v91 : AV) (v92 : AV) (v93 : AV) (H : Heap) : r27X0_0 C0 d a0 a1 a2 a3 a4 v0 x5 x6 x7 x8 b9 b12 x15 ⟨[(.agg [(.int .i64 a0), (.int .i64 a1), (.int .i64 a2), (.int .i64 a3)]), (.lst a4), v0, (.tup []), (.int .i64 x74), v75, v76, (.agg [(.int .i64 x5), (.int .i64 x6), (.int .i64 x7), (.int .i64 x8)]), (.bool b9), (.bool (!b9)), (.bool false), (.lst a4), (.bool b12), (.bool (!b12)), (.bool false), (.lst a4), (.int .i64 x15), (.int .i64 x77), v78, v79, v80, v81, v82, v83, v84, v85, v86, v87, v88, v89, v90, v91, v92, v93, (.tup []), (.tup []), (.tup []), (.tup [])], H⟩ = X27_0_0 d a4 v0 x15 H := by
  unfold r27X0_0; refine Eq.trans (pl_len (by rfl)) ?_; (iterate 4 (refine Eq.trans (pl_same (by rfl)) ?_)); refine Eq.trans (pl_int (by rfl)) ?_; (iterate 2 (refine Eq.trans (pl_any (by rfl)) ?_)); (iterate 10 (refine Eq.trans (pl_same (by rfl)) ?_)); refine Eq.trans (pl_int (by rfl)) ?_; (iterate 16 (refine Eq.trans (pl_any (by rfl)) ?_)); (iterate 4 (refine Eq.trans (pl_same (by rfl)) ?_))
  rfl
noncomputable def E27_0 (d : Nat) (a4 : List AV) (v0 : AV) (x15 : Int) (x104 : Int) (H : Heap) : Ans :=
  C0.fin H (.int .i64 x104)
theorem E27_0_ok (d : Nat) (a0 : Int) (a1 : Int) (a2 : Int) (a3 : Int) (a4 : List AV) (v0 : AV) (x5 : Int) (x6 : Int) (x7 : Int) (x8 : Int) (b9 : Bool) (b12 : Bool) (x15 : Int)   (x104 : Int) (x105 : Int) (v106 : AV) (x107 : Int) (v108 : AV) (x109 : Int) (v110 : AV) (x112 : Int) (x113 : Int) (x115 : Int) (x116 : Int) (x117 : Int) (x118 : Int) (x120 : Int) (x121 : Int) (v122 : AV) (x123 : Int) (x124 : Int) (v125 : AV) (x126 : Int) (x127 : Int) (v128 : AV) (x130 : Int) (x131 : Int) (b132 : Bool) (v133 : AV) (H : Heap) : r27E0 C0 d a0 a1 a2 a3 a4 v0 x5 x6 x7 x8 b9 b12 x15 ⟨[(.agg [(.int .i64 a0), (.int .i64 a1), (.int .i64 a2), (.int .i64 a3)]), (.lst a4), v0, (.tup []), (.int .i64 x104), (.int .i64 x105), v106, (.agg [(.int .i64 x5), (.int .i64 x6), (.int .i64 x7), (.int .i64 x8)]), (.bool b9), (.bool (!b9)), (.bool false), (.lst a4), (.bool b12), (.bool (!b12)), (.bool false), (.lst a4), (.int .i64 x15), (.int .i64 x107), v108, (.int .i64 x109), v110, (.agg [(.int .i64 x112), (.int .i64 x113)]), (.agg [(.int .i64 x115), (.int .i64 x116), (.int .i64 x117), (.int .i64 x118)]), (.agg [(.int .i64 x120), (.int .i64 x121)]), v122, (.int .i64 x123), (.int .i64 x124), v125, (.int .i64 x126), (.int .i64 x127), v128, (.agg [(.int .i64 x130), (.int .i64 x131)]), (.bool b132), v133, (.tup []), (.tup []), (.tup []), (.tup [])], H⟩ = E27_0 d a4 v0 x15 x104 H := by
  unfold r27E0; refine Eq.trans (pl_len (by rfl)) ?_; (iterate 4 (refine Eq.trans (pl_same (by rfl)) ?_)); (iterate 2 (refine Eq.trans (pl_int (by rfl)) ?_)); refine Eq.trans (pl_any (by rfl)) ?_; (iterate 10 (refine Eq.trans (pl_same (by rfl)) ?_)); refine Eq.trans (pl_int (by rfl)) ?_; refine Eq.trans (pl_any (by rfl)) ?_; refine Eq.trans (pl_int (by rfl)) ?_; refine Eq.trans (pl_any (by rfl)) ?_; refine Eq.trans (pl_agg (by rfl) (by rfl)) ?_; (iterate 2 (refine Eq.trans (pl_int (by rfl)) ?_)); refine Eq.trans (pl_agg (by rfl) (by rfl)) ?_; (iterate 4 (refine Eq.trans (pl_int (by rfl)) ?_)); refine Eq.trans (pl_agg (by rfl) (by rfl)) ?_; (iterate 2 (refine Eq.trans (pl_int (by rfl)) ?_)); refine Eq.trans (pl_any (by rfl)) ?_; (iterate 2 (refine Eq.trans (pl_int (by rfl)) ?_)); refine Eq.trans (pl_any (by rfl)) ?_; (iterate 2 (refine Eq.trans (pl_int (by rfl)) ?_)); refine Eq.trans (pl_any (by rfl)) ?_; refine Eq.trans (pl_agg (by rfl) (by rfl)) ?_; (iterate 2 (refine Eq.trans (pl_int (by rfl)) ?_)); refine Eq.trans (pl_bool (by rfl)) ?_; refine Eq.trans (pl_any (by rfl)) ?_; (iterate 4 (refine Eq.trans (pl_same (by rfl)) ?_))
  rfl
noncomputable def L27_0 (d : Nat) (a4 : List AV) (v0 : AV) (x15 : Int) : Nat → Int → Heap → Ans
  | 0, _, _ => none
  | n + 1, x22, H =>
  cnd (decide (x22 < x15))
   (C0.hop H (.ixAS .any 2 (.v (.lst a4)) (.v (.int .i64 x22))) fun v39 h40 =>
   C0.hop h40 (.load true 2 (.v v39)) fun v41 h42 =>
   C0.agg 2 (some v41) fun l43 =>
   C0.int .i64 l43[0]? fun x44 =>
   C0.int .i64 l43[1]? fun x45 =>
   C0.hop h42 (.alloc E23) fun v46 h47 =>
   C0.hop h47 (.store 2 (.v v46) (.v (.agg [(.int .i64 x44), (.int .i64 x45)]))) fun v48 h49 =>
   C0.hop h49 (.load true 4 (.v v0)) fun v50 h51 =>
   C0.agg 4 (some v50) fun l52 =>
   C0.int .i64 l52[0]? fun x53 =>
   C0.int .i64 l52[1]? fun x54 =>
   C0.int .i64 l52[2]? fun x55 =>
   C0.int .i64 l52[3]? fun x56 =>
   C0.hop h51 (.load true 2 (.v v46)) fun v57 h58 =>
   C0.agg 2 (some v57) fun l59 =>
   C0.int .i64 l59[0]? fun x60 =>
   C0.int .i64 l59[1]? fun x61 =>
   C0.hop h58 (.bk .lenV [(.v (.lst a4))]) fun v62 h63 =>
   C0.int .i64 (some v62) fun x64 =>
   cnd (decide (x64 = 0))
   (none)
   (C0.hop h63 (.ixAS .any 2 (.v (.lst a4)) (.v (.int .i64 (Int.tmod (IntKind.wrap .i64 (x22 + 1)) x64)))) fun v65 h66 =>
   C0.hop h66 (.load true 2 (.v v65)) fun v67 h68 =>
   C0.agg 2 (some v67) fun l69 =>
   C0.int .i64 l69[0]? fun x70 =>
   C0.int .i64 l69[1]? fun x71 =>
   C0.bool (pcall M d 24 [(.agg [(.int .i64 x53), (.int .i64 x54), (.int .i64 x55), (.int .i64 x56)]), (.agg [(.int .i64 x60), (.int .i64 x61)]), (.agg [(.int .i64 x70), (.int .i64 x71)])]) fun b72 =>
   cnd b72
   (E27_0 d a4 v0 x15 0 h68)
   (L27_0 d a4 v0 x15 n (IntKind.wrap .i64 (x22 + 1)) h68)))
   (X27_0_0 d a4 v0 x15 H)
theorem it27_0 (d : Nat) (a0 : Int) (a1 : Int) (a2 : Int) (a3 : Int) (a4 : List AV) (v0 : AV) (x5 : Int) (x6 : Int) (x7 : Int) (x8 : Int) (b9 : Bool) (b12 : Bool) (x15 : Int)   : ∀ (n : Nat) (x19 : Int) (v20 : AV) (v21 : AV) (x22 : Int) (v23 : AV) (v24 : AV) (v25 : AV) (v26 : AV) (v27 : AV) (v28 : AV) (v29 : AV) (v30 : AV) (v31 : AV) (v32 : AV) (v33 : AV) (v34 : AV) (v35 : AV) (v36 : AV) (v37 : AV) (v38 : AV) (H : Heap), C0.iter (r27R0 C0 d a0 a1 a2 a3 a4 v0 x5 x6 x7 x8 b9 b12 x15) n ⟨[(.agg [(.int .i64 a0), (.int .i64 a1), (.int .i64 a2), (.int .i64 a3)]), (.lst a4), v0, (.tup []), (.int .i64 x19), v20, v21, (.agg [(.int .i64 x5), (.int .i64 x6), (.int .i64 x7), (.int .i64 x8)]), (.bool b9), (.bool (!b9)), (.bool false), (.lst a4), (.bool b12), (.bool (!b12)), (.bool false), (.lst a4), (.int .i64 x15), (.int .i64 x22), v23, v24, v25, v26, v27, v28, v29, v30, v31, v32, v33, v34, v35, v36, v37, v38, (.tup []), (.tup []), (.tup []), (.tup [])], H⟩ [0] [r27X0_0 C0 d a0 a1 a2 a3 a4 v0 x5 x6 x7 x8 b9 b12 x15] (r27E0 C0 d a0 a1 a2 a3 a4 v0 x5 x6 x7 x8 b9 b12 x15) = L27_0 d a4 v0 x15 n x22 H := by
  generalize hR : r27R0 C0 d a0 a1 a2 a3 a4 v0 x5 x6 x7 x8 b9 b12 x15 = R
  intro n
  induction n with
  | zero => intros; rfl
  | succ n ih =>
    intro x19 v20 v21 x22 v23 v24 v25 v26 v27 v28 v29 v30 v31 v32 v33 v34 v35 v36 v37 v38 H
    simp only [it_ret] at ih
    rw [it_ret, xiter_s]
    refine Eq.trans (congrFun (congrFun hR.symm _) _) ?_
    unfold r27R0
    refine Eq.trans (pl_len (by rfl)) ?_; (iterate 4 (refine Eq.trans (pl_same (by rfl)) ?_)); refine Eq.trans (pl_int (by rfl)) ?_; (iterate 2 (refine Eq.trans (pl_any (by rfl)) ?_)); (iterate 10 (refine Eq.trans (pl_same (by rfl)) ?_)); refine Eq.trans (pl_int (by rfl)) ?_; (iterate 16 (refine Eq.trans (pl_any (by rfl)) ?_)); (iterate 4 (refine Eq.trans (pl_same (by rfl)) ?_))
    simp only [L27_0, kIter_n, kIter_x, kIter_r, kOut_x, kOut_r, xgo_hit, xgo_miss, ih, X27_0_0_ok d a0 a1 a2 a3 a4 v0 x5 x6 x7 x8 b9 b12 x15  , E27_0_ok d a0 a1 a2 a3 a4 v0 x5 x6 x7 x8 b9 b12 x15  ]
/-- apogee/box.Relate -/
theorem q27 (d : Nat) (a0 : Int) (a1 : Int) (a2 : Int) (a3 : Int) (a4 : List AV) : xcall C0 M unr d 27 [(.agg [(.int .i64 a0), (.int .i64 a1), (.int .i64 a2), (.int .i64 a3)]), (.lst a4)] =
  C0.hop [] (.box E25 (.v (.agg [(.int .i64 a0), (.int .i64 a1), (.int .i64 a2), (.int .i64 a3)]))) fun v0 h1 =>
  C0.hop h1 (.load true 4 (.v v0)) fun v2 h3 =>
  C0.agg 4 (some v2) fun l4 =>
  C0.int .i64 l4[0]? fun x5 =>
  C0.int .i64 l4[1]? fun x6 =>
  C0.int .i64 l4[2]? fun x7 =>
  C0.int .i64 l4[3]? fun x8 =>
  C0.bool (pcall M d 12 [(.agg [(.int .i64 x5), (.int .i64 x6), (.int .i64 x7), (.int .i64 x8)])]) fun b9 =>
  cnd (!b9)
   (C0.fin h3 (.int .i64 (-1)))
   (C0.snp h3 [(.lst a4)] fun l10 b11 =>
   C0.bool (pcall M d 43 l10) fun b12 =>
   cnd (b11 || true)
   (cnd (!b12)
   (C0.fin h3 (.int .i64 (-1)))
   (C0.hop h3 (.bk .lenV [(.v (.lst a4))]) fun v13 h14 =>
   C0.int .i64 (some v13) fun x15 =>
   L27_0 d a4 v0 x15 1000000000000000000 0 h14))
   (none)) := (r27 C0 d a0 a1 a2 a3 a4).trans (by simp only [it27_0])
noncomputable def X28_0_0 (d : Nat) (a0 : Int) (a1 : Int) (a2 : Int) (a3 : Int) (a4 : List AV)  : Ans :=
  C0.int .i64 (pcall M d 44 [(.lst a4), (.agg [(.int .i64 a0), (.int .i64 a1)])]) fun x57 =>
   some (.int .i64 x57)
theorem X28_0_0_ok (d : Nat) (a0 : Int) (a1 : Int) (a2 : Int) (a3 : Int) (a4 : List AV) (b0 : Bool) (b1 : Bool)   (x35 : Int) (x36 : Int) (x37 : Int) (v38 : AV) (x39 : Int) (b40 : Bool) (v41 : AV) (v42 : AV) (v43 : AV) (v44 : AV) (v45 : AV) (v46 : AV) (v47 : AV) (v48 : AV) (v49 : AV) (v50 : AV) (v51 : AV) (v52 : AV) (v53 : AV) (v54 : AV) (v55 : AV) (v56 : AV) : r28X0_0 C0 d a0 a1 a2 a3 a4 b0 b1 ⟨[(.agg [(.int .i64 a0), (.int .i64 a1), (.int .i64 a2), (.int .i64 a3)]), (.lst a4), (.ptr 0 0 0), (.tup []), (.int .i64 x35), (.int .i64 x36), (.agg [(.int .i64 a0), (.int .i64 a1), (.int .i64 a2), (.int .i64 a3)]), (.bool b0), (.bool (!b0)), (.bool false), (.lst a4), (.bool b1), (.bool (!b1)), (.bool false), (.int .i64 x37), v38, (.int .i64 x39), (.bool b40), v41, v42, v43, v44, v45, v46, v47, v48, v49, v50, v51, v52, v53, v54, v55, v56, (.tup []), (.tup []), (.tup []), (.tup [])], [some ⟨E25, [(.agg [(.int .i64 a0), (.int .i64 a1), (.int .i64 a2), (.int .i64 a3)])]⟩]⟩ = X28_0_0 d a0 a1 a2 a3 a4  := by
  unfold r28X0_0; refine Eq.trans (pl_len (by rfl)) ?_; (iterate 4 (refine Eq.trans (pl_same (by rfl)) ?_)); (iterate 2 (refine Eq.trans (pl_int (by rfl)) ?_)); (iterate 8 (refine Eq.trans (pl_same (by rfl)) ?_)); refine Eq.trans (pl_int (by rfl)) ?_; refine Eq.trans (pl_any (by rfl)) ?_; refine Eq.trans (pl_int (by rfl)) ?_; refine Eq.trans (pl_bool (by rfl)) ?_; (iterate 16 (refine Eq.trans (pl_any (by rfl)) ?_)); (iterate 4 (refine Eq.trans (pl_same (by rfl)) ?_)); refine Eq.trans (pl_sameH) ?_
  rfl
noncomputable def E28_0 (d : Nat) (a0 : Int) (a1 : Int) (a2 : Int) (a3 : Int) (a4 : List AV) (x58 : Int) : Ans :=
  some (.int .i64 x58)
theorem E28_0_ok (d : Nat) (a0 : Int) (a1 : Int) (a2 : Int) (a3 : Int) (a4 : List AV) (b0 : Bool) (b1 : Bool)   (x58 : Int) (x59 : Int) (x60 : Int) (v61 : AV) (x62 : Int) (b63 : Bool) (v64 : AV) (v65 : AV) (x67 : Int) (x68 : Int) (x69 : Int) (x70 : Int) (v71 : AV) (x72 : Int) (v73 : AV) (x75 : Int) (x76 : Int) (v77 : AV) (x78 : Int) (x79 : Int) (v80 : AV) (x81 : Int) (x82 : Int) (v83 : AV) (x85 : Int) (x86 : Int) (b87 : Bool) : r28E0 C0 d a0 a1 a2 a3 a4 b0 b1 ⟨[(.agg [(.int .i64 a0), (.int .i64 a1), (.int .i64 a2), (.int .i64 a3)]), (.lst a4), (.ptr 0 0 0), (.tup []), (.int .i64 x58), (.int .i64 x59), (.agg [(.int .i64 a0), (.int .i64 a1), (.int .i64 a2), (.int .i64 a3)]), (.bool b0), (.bool (!b0)), (.bool false), (.lst a4), (.bool b1), (.bool (!b1)), (.bool false), (.int .i64 x60), v61, (.int .i64 x62), (.bool b63), v64, v65, (.agg [(.int .i64 x67), (.int .i64 x68), (.int .i64 x69), (.int .i64 x70)]), v71, (.int .i64 x72), v73, (.agg [(.int .i64 x75), (.int .i64 x76)]), v77, (.int .i64 x78), (.int .i64 x79), v80, (.int .i64 x81), (.int .i64 x82), v83, (.agg [(.int .i64 x85), (.int .i64 x86)]), (.bool b87), (.tup []), (.tup []), (.tup []), (.tup [])], [some ⟨E25, [(.agg [(.int .i64 a0), (.int .i64 a1), (.int .i64 a2), (.int .i64 a3)])]⟩]⟩ = E28_0 d a0 a1 a2 a3 a4 x58 := by
  unfold r28E0; refine Eq.trans (pl_len (by rfl)) ?_; (iterate 4 (refine Eq.trans (pl_same (by rfl)) ?_)); (iterate 2 (refine Eq.trans (pl_int (by rfl)) ?_)); (iterate 8 (refine Eq.trans (pl_same (by rfl)) ?_)); refine Eq.trans (pl_int (by rfl)) ?_; refine Eq.trans (pl_any (by rfl)) ?_; refine Eq.trans (pl_int (by rfl)) ?_; refine Eq.trans (pl_bool (by rfl)) ?_; (iterate 2 (refine Eq.trans (pl_any (by rfl)) ?_)); refine Eq.trans (pl_agg (by rfl) (by rfl)) ?_; (iterate 4 (refine Eq.trans (pl_int (by rfl)) ?_)); refine Eq.trans (pl_any (by rfl)) ?_; refine Eq.trans (pl_int (by rfl)) ?_; refine Eq.trans (pl_any (by rfl)) ?_; refine Eq.trans (pl_agg (by rfl) (by rfl)) ?_; (iterate 2 (refine Eq.trans (pl_int (by rfl)) ?_)); refine Eq.trans (pl_any (by rfl)) ?_; (iterate 2 (refine Eq.trans (pl_int (by rfl)) ?_)); refine Eq.trans (pl_any (by rfl)) ?_; (iterate 2 (refine Eq.trans (pl_int (by rfl)) ?_)); refine Eq.trans (pl_any (by rfl)) ?_; refine Eq.trans (pl_agg (by rfl) (by rfl)) ?_; (iterate 2 (refine Eq.trans (pl_int (by rfl)) ?_)); refine Eq.trans (pl_bool (by rfl)) ?_; (iterate 4 (refine Eq.trans (pl_same (by rfl)) ?_)); refine Eq.trans (pl_sameH) ?_
  rfl
noncomputable def L28_0 (d : Nat) (a0 : Int) (a1 : Int) (a2 : Int) (a3 : Int) (a4 : List AV) : Nat → Int → Ans
  | 0, _ => none
  | n + 1, x6 =>
  cnd (decide (x6 < (((List.length a4) : Nat) : Int)))
   (cnd (decide (0 ≤ x6))
   (C0.agg 2 a4[(Int.toNat x6)]? fun l27 =>
   C0.int .i64 l27[0]? fun x28 =>
   C0.int .i64 l27[1]? fun x29 =>
   cnd (decide ((((List.length a4) : Nat) : Int) = 0))
   (none)
   (cnd (decide (0 ≤ (Int.tmod (IntKind.wrap .i64 (x6 + 1)) (((List.length a4) : Nat) : Int))))
   (C0.agg 2 a4[(Int.toNat (Int.tmod (IntKind.wrap .i64 (x6 + 1)) (((List.length a4) : Nat) : Int)))]? fun l30 =>
   C0.int .i64 l30[0]? fun x31 =>
   C0.int .i64 l30[1]? fun x32 =>
   C0.bool (pcall M d 25 [(.agg [(.int .i64 a0), (.int .i64 a1), (.int .i64 a2), (.int .i64 a3)]), (.agg [(.int .i64 x28), (.int .i64 x29)]), (.agg [(.int .i64 x31), (.int .i64 x32)])]) fun b33 =>
   cnd b33
   (E28_0 d a0 a1 a2 a3 a4 0)
   (L28_0 d a0 a1 a2 a3 a4 n (IntKind.wrap .i64 (x6 + 1))))
   (none)))
   (none))
   (X28_0_0 d a0 a1 a2 a3 a4)
theorem it28_0 (d : Nat) (a0 : Int) (a1 : Int) (a2 : Int) (a3 : Int) (a4 : List AV) (b0 : Bool) (b1 : Bool)   : ∀ (n : Nat) (x5 : Int) (x6 : Int) (v7 : AV) (v8 : AV) (v9 : AV) (v10 : AV) (v11 : AV) (v12 : AV) (v13 : AV) (v14 : AV) (v15 : AV) (v16 : AV) (v17 : AV) (v18 : AV) (v19 : AV) (v20 : AV) (v21 : AV) (v22 : AV) (v23 : AV) (v24 : AV) (v25 : AV) (v26 : AV), C0.iter (r28R0 C0 d a0 a1 a2 a3 a4 b0 b1) n ⟨[(.agg [(.int .i64 a0), (.int .i64 a1), (.int .i64 a2), (.int .i64 a3)]), (.lst a4), (.ptr 0 0 0), (.tup []), (.int .i64 x5), (.int .i64 x6), (.agg [(.int .i64 a0), (.int .i64 a1), (.int .i64 a2), (.int .i64 a3)]), (.bool b0), (.bool (!b0)), (.bool false), (.lst a4), (.bool b1), (.bool (!b1)), (.bool false), v7, v8, v9, v10, v11, v12, v13, v14, v15, v16, v17, v18, v19, v20, v21, v22, v23, v24, v25, v26, (.tup []), (.tup []), (.tup []), (.tup [])], [some ⟨E25, [(.agg [(.int .i64 a0), (.int .i64 a1), (.int .i64 a2), (.int .i64 a3)])]⟩]⟩ [0] [r28X0_0 C0 d a0 a1 a2 a3 a4 b0 b1] (r28E0 C0 d a0 a1 a2 a3 a4 b0 b1) = L28_0 d a0 a1 a2 a3 a4 n x6 := by
  generalize hR : r28R0 C0 d a0 a1 a2 a3 a4 b0 b1 = R
  intro n
  induction n with
  | zero => intros; rfl
  | succ n ih =>
    intro x5 x6 v7 v8 v9 v10 v11 v12 v13 v14 v15 v16 v17 v18 v19 v20 v21 v22 v23 v24 v25 v26
    simp only [it_ret] at ih
    rw [it_ret, xiter_s]
    refine Eq.trans (congrFun (congrFun hR.symm _) _) ?_
    unfold r28R0
    refine Eq.trans (pl_len (by rfl)) ?_; (iterate 4 (refine Eq.trans (pl_same (by rfl)) ?_)); (iterate 2 (refine Eq.trans (pl_int (by rfl)) ?_)); (iterate 8 (refine Eq.trans (pl_same (by rfl)) ?_)); (iterate 20 (refine Eq.trans (pl_any (by rfl)) ?_)); (iterate 4 (refine Eq.trans (pl_same (by rfl)) ?_)); refine Eq.trans (pl_sameH) ?_
    simp only [L28_0, kIter_n, kIter_x, kIter_r, kOut_x, kOut_r, xgo_hit, xgo_miss, ih, X28_0_0_ok d a0 a1 a2 a3 a4 b0 b1  , E28_0_ok d a0 a1 a2 a3 a4 b0 b1  ]
/-- apogee/apogeeref12.Relate -/
theorem q28 (d : Nat) (a0 : Int) (a1 : Int) (a2 : Int) (a3 : Int) (a4 : List AV) : xcall C0 M unr d 28 [(.agg [(.int .i64 a0), (.int .i64 a1), (.int .i64 a2), (.int .i64 a3)]), (.lst a4)] =
  C0.bool (pcall M d 13 [(.agg [(.int .i64 a0), (.int .i64 a1), (.int .i64 a2), (.int .i64 a3)])]) fun b0 =>
  cnd (!b0)
   (some (.int .i64 (-1)))
   (C0.bool (pcall M d 29 [(.lst a4)]) fun b1 =>
   cnd (!b1)
   (some (.int .i64 (-1)))
   (L28_0 d a0 a1 a2 a3 a4 1000000000000000000 0)) := (r28 C0 d a0 a1 a2 a3 a4).trans (by simp only [it28_0])
noncomputable def X53f41_0_0 (d : Nat) (a0 : List AV) (a2 : Int) (a3 : Int) (a4 : Int) (a5 : Int) (a6 : Int)  : Ans :=
  some (.int .i64 (-1))
theorem X53f41_0_0_ok (d : Nat) (a0 : List AV) (a2 : Int) (a3 : Int) (a4 : Int) (a5 : Int) (a6 : Int)   (x21 : Int) (v22 : AV) (x23 : Int) (v24 : AV) (v25 : AV) (v26 : AV) (v27 : AV) (v28 : AV) (v29 : AV) (v30 : AV) (v31 : AV) (v32 : AV) (v33 : AV) : r53f41X0_0 C0 d a0 a2 a3 a4 a5 a6 ⟨[(.lst a0), (.fn 41 [] [(.fptr (.fn 38 [] [(.fptr (.agg [(.int .i64 a2), (.int .i64 a3)]) 0), (.fptr (.agg [(.int .i64 a4), (.int .i64 a5)]) 0)]) 0), (.fptr (.int .i64 a6) 0)]), (.tup []), (.tup []), (.int .i64 x21), v22, (.lst a0), (.int .i64 (((List.length a0) : Nat) : Int)), (.int .i64 x23), v24, v25, v26, v27, v28, v29, v30, v31, v32, v33], []⟩ = X53f41_0_0 d a0 a2 a3 a4 a5 a6  := by
  unfold r53f41X0_0; refine Eq.trans (pl_len (by rfl)) ?_; (iterate 4 (refine Eq.trans (pl_same (by rfl)) ?_)); refine Eq.trans (pl_int (by rfl)) ?_; refine Eq.trans (pl_any (by rfl)) ?_; (iterate 2 (refine Eq.trans (pl_same (by rfl)) ?_)); refine Eq.trans (pl_int (by rfl)) ?_; (iterate 10 (refine Eq.trans (pl_any (by rfl)) ?_)); refine Eq.trans (pl_sameH) ?_
  rfl
noncomputable def E53f41_0 (d : Nat) (a0 : List AV) (a2 : Int) (a3 : Int) (a4 : Int) (a5 : Int) (a6 : Int) (x34 : Int) : Ans :=
  some (.int .i64 x34)
theorem E53f41_0_ok (d : Nat) (a0 : List AV) (a2 : Int) (a3 : Int) (a4 : Int) (a5 : Int) (a6 : Int)   (x34 : Int) (x35 : Int) (x36 : Int) (v37 : AV) (x38 : Int) (v39 : AV) (v40 : AV) (x41 : Int) (v42 : AV) (x44 : Int) (x45 : Int) (b46 : Bool) (x47 : Int) (v48 : AV) : r53f41E0 C0 d a0 a2 a3 a4 a5 a6 ⟨[(.lst a0), (.fn 41 [] [(.fptr (.fn 38 [] [(.fptr (.agg [(.int .i64 a2), (.int .i64 a3)]) 0), (.fptr (.agg [(.int .i64 a4), (.int .i64 a5)]) 0)]) 0), (.fptr (.int .i64 a6) 0)]), (.tup []), (.tup []), (.int .i64 x34), (.int .i64 x35), (.lst a0), (.int .i64 (((List.length a0) : Nat) : Int)), (.int .i64 x36), v37, (.int .i64 x38), v39, v40, (.int .i64 x41), v42, (.agg [(.int .i64 x44), (.int .i64 x45)]), (.bool b46), (.int .i64 x47), v48], []⟩ = E53f41_0 d a0 a2 a3 a4 a5 a6 x34 := by
  unfold r53f41E0; refine Eq.trans (pl_len (by rfl)) ?_; (iterate 4 (refine Eq.trans (pl_same (by rfl)) ?_)); (iterate 2 (refine Eq.trans (pl_int (by rfl)) ?_)); (iterate 2 (refine Eq.trans (pl_same (by rfl)) ?_)); refine Eq.trans (pl_int (by rfl)) ?_; refine Eq.trans (pl_any (by rfl)) ?_; refine Eq.trans (pl_int (by rfl)) ?_; (iterate 2 (refine Eq.trans (pl_any (by rfl)) ?_)); refine Eq.trans (pl_int (by rfl)) ?_; refine Eq.trans (pl_any (by rfl)) ?_; refine Eq.trans (pl_agg (by rfl) (by rfl)) ?_; (iterate 2 (refine Eq.trans (pl_int (by rfl)) ?_)); refine Eq.trans (pl_bool (by rfl)) ?_; refine Eq.trans (pl_int (by rfl)) ?_; refine Eq.trans (pl_any (by rfl)) ?_; refine Eq.trans (pl_sameH) ?_
  rfl
noncomputable def L53f41_0 (d : Nat) (a0 : List AV) (a2 : Int) (a3 : Int) (a4 : Int) (a5 : Int) (a6 : Int) : Nat → Int → Ans
  | 0, _ => none
  | n + 1, x5 =>
  cnd (decide (x5 < (((List.length a0) : Nat) : Int)))
   (cnd (decide (0 ≤ x5))
   (C0.agg 2 a0[(Int.toNat x5)]? fun l16 =>
   C0.int .i64 l16[0]? fun x17 =>
   C0.int .i64 l16[1]? fun x18 =>
   C0.bool (pcall M d 41 [(.agg [(.int .i64 x17), (.int .i64 x18)]), (.fptr (.fn 38 [] [(.fptr (.agg [(.int .i64 a2), (.int .i64 a3)]) 0), (.fptr (.agg [(.int .i64 a4), (.int .i64 a5)]) 0)]) 0), (.fptr (.int .i64 a6) 0)]) fun b19 =>
   cnd b19
   (E53f41_0 d a0 a2 a3 a4 a5 a6 x5)
   (L53f41_0 d a0 a2 a3 a4 a5 a6 n (IntKind.wrap .i64 (x5 + 1))))
   (none))
   (X53f41_0_0 d a0 a2 a3 a4 a5 a6)
theorem it53f41_0 (d : Nat) (a0 : List AV) (a2 : Int) (a3 : Int) (a4 : Int) (a5 : Int) (a6 : Int)   : ∀ (n : Nat) (x3 : Int) (v4 : AV) (x5 : Int) (v6 : AV) (v7 : AV) (v8 : AV) (v9 : AV) (v10 : AV) (v11 : AV) (v12 : AV) (v13 : AV) (v14 : AV) (v15 : AV), C0.iter (r53f41R0 C0 d a0 a2 a3 a4 a5 a6) n ⟨[(.lst a0), (.fn 41 [] [(.fptr (.fn 38 [] [(.fptr (.agg [(.int .i64 a2), (.int .i64 a3)]) 0), (.fptr (.agg [(.int .i64 a4), (.int .i64 a5)]) 0)]) 0), (.fptr (.int .i64 a6) 0)]), (.tup []), (.tup []), (.int .i64 x3), v4, (.lst a0), (.int .i64 (((List.length a0) : Nat) : Int)), (.int .i64 x5), v6, v7, v8, v9, v10, v11, v12, v13, v14, v15], []⟩ [0] [r53f41X0_0 C0 d a0 a2 a3 a4 a5 a6] (r53f41E0 C0 d a0 a2 a3 a4 a5 a6) = L53f41_0 d a0 a2 a3 a4 a5 a6 n x5 := by
  generalize hR : r53f41R0 C0 d a0 a2 a3 a4 a5 a6 = R
  intro n
  induction n with
  | zero => intros; rfl
  | succ n ih =>
    intro x3 v4 x5 v6 v7 v8 v9 v10 v11 v12 v13 v14 v15
    simp only [it_ret] at ih
    rw [it_ret, xiter_s]
    refine Eq.trans (congrFun (congrFun hR.symm _) _) ?_
    unfold r53f41R0
    refine Eq.trans (pl_len (by rfl)) ?_; (iterate 4 (refine Eq.trans (pl_same (by rfl)) ?_)); refine Eq.trans (pl_int (by rfl)) ?_; refine Eq.trans (pl_any (by rfl)) ?_; (iterate 2 (refine Eq.trans (pl_same (by rfl)) ?_)); refine Eq.trans (pl_int (by rfl)) ?_; (iterate 10 (refine Eq.trans (pl_any (by rfl)) ?_)); refine Eq.trans (pl_sameH) ?_
    simp only [L53f41_0, kIter_n, kIter_x, kIter_r, kOut_x, kOut_r, xgo_hit, xgo_miss, ih, X53f41_0_0_ok d a0 a2 a3 a4 a5 a6  , E53f41_0_ok d a0 a2 a3 a4 a5 a6  ]
/-- slices.IndexFunc[[]apogee/api.Point,apogee/api.Point] -/
theorem q53f41 (d : Nat) (a0 : List AV) (a1 : AV) (a2 : Int) (a3 : Int) (a4 : Int) (a5 : Int) (a6 : Int) : xcall C0 M unr d 53 [(.lst a0), (.fn 41 [] [(.fptr (.fn 38 [] [(.fptr (.agg [(.int .i64 a2), (.int .i64 a3)]) 0), (.fptr (.agg [(.int .i64 a4), (.int .i64 a5)]) 0)]) 0), (.fptr (.int .i64 a6) 0)])] =
  L53f41_0 d a0 a2 a3 a4 a5 a6 1000000000000000000 0 := (r53f41 C0 d a0 a1 a2 a3 a4 a5 a6).trans (by simp only [it53f41_0])
end Go.Proofs.Ytjblhppbjebagaa.AE

namespace Go.Proofs.Ytjblhppbjebagaa.Geo

/-- On the line, and between in width where that isn't one width: on the way. -/
theorem On_of_width {p a b : Pt} (h : TN a b p = 0) (h1 : a.1 ≤ p.1) (h2 : p.1 ≤ b.1) (h3 : a.1 < b.1) : On p a b := by
  have e : TN (a.2, a.1) (b.2, b.1) (p.2, p.1) = 0 := by
    have : TN (a.2, a.1) (b.2, b.1) (p.2, p.1) = -TN a b p := by unfold TN; grind
    omega
  have k := (On_of_height (p := (p.2, p.1)) (a := (a.2, a.1)) (b := (b.2, b.1)) e h1 h2 h3).2
  refine ⟨h, ?_⟩
  unfold Btw at k ⊢
  exact ⟨k.2, k.1⟩

def HasB (x0 y0 x1 y1 : Int) (p : Pt) : Prop := x0 ≤ p.1 ∧ p.1 ≤ x1 ∧ y0 ≤ p.2 ∧ p.2 ≤ y1
instance (x0 y0 x1 y1 : Int) (p : Pt) : Decidable (HasB x0 y0 x1 y1 p) := by unfold HasB; infer_instance
/-- By the sides. -/
def MeetB (x0 y0 x1 y1 : Int) (p q : Pt) : Prop := HasB x0 y0 x1 y1 p ∨ HasB x0 y0 x1 y1 q ∨ Meet p q (x0, y0) (x1, y0) ∨ Meet p q (x1, y0) (x1, y1) ∨ Meet p q (x1, y1) (x0, y1) ∨ Meet p q (x0, y1) (x0, y0)
/-- Both shadows overlap. -/
def Ovl (x0 y0 x1 y1 : Int) (p q : Pt) : Prop := (x0 ≤ p.1 ∨ x0 ≤ q.1) ∧ (p.1 ≤ x1 ∨ q.1 ≤ x1) ∧ (y0 ≤ p.2 ∨ y0 ≤ q.2) ∧ (p.2 ≤ y1 ∨ q.2 ≤ y1)
/-- All corners to one side. -/
def Side1 (x0 y0 x1 y1 : Int) (p q : Pt) : Prop := (TN p q (x0, y0) > 0 ∧ TN p q (x1, y0) > 0 ∧ TN p q (x1, y1) > 0 ∧ TN p q (x0, y1) > 0) ∨ (TN p q (x0, y0) < 0 ∧ TN p q (x1, y0) < 0 ∧ TN p q (x1, y1) < 0 ∧ TN p q (x0, y1) < 0)

/-- What holds at all corners holds in the box. -/
theorem corner_pos {x0 y0 x1 y1 : Int} {p q v : Pt} (hv : HasB x0 y0 x1 y1 v) (h : TN p q (x0, y0) > 0 ∧ TN p q (x1, y0) > 0 ∧ TN p q (x1, y1) > 0 ∧ TN p q (x0, y1) > 0) : TN p q v > 0 := by
  obtain ⟨v1, v2, v3, v4⟩ := hv
  obtain ⟨h1, h2, h3, h4⟩ := h
  have e : ∀ c : Pt, TN p q v = TN p q c + (q.1 - p.1) * (v.2 - c.2) - (q.2 - p.2) * (v.1 - c.1) := by intro c; unfold TN; grind
  rcases Int.le_total p.1 q.1 with a | a <;> rcases Int.le_total p.2 q.2 with b | b
  · have := e (x1, y0)
    have m1 := Int.mul_nonneg (show 0 ≤ q.1 - p.1 by omega) (show 0 ≤ v.2 - y0 by omega)
    have m2 := mul_pn (show 0 ≤ q.2 - p.2 by omega) (show v.1 - x1 ≤ 0 by omega)
    simp only at this; omega
  · have := e (x0, y0)
    have m1 := Int.mul_nonneg (show 0 ≤ q.1 - p.1 by omega) (show 0 ≤ v.2 - y0 by omega)
    have m2 := mul_np (show q.2 - p.2 ≤ 0 by omega) (show 0 ≤ v.1 - x0 by omega)
    simp only at this; omega
  · have := e (x1, y1)
    have m1 := mul_nn (show q.1 - p.1 ≤ 0 by omega) (show v.2 - y1 ≤ 0 by omega)
    have m2 := mul_pn (show 0 ≤ q.2 - p.2 by omega) (show v.1 - x1 ≤ 0 by omega)
    simp only at this; omega
  · have := e (x0, y1)
    have m1 := mul_nn (show q.1 - p.1 ≤ 0 by omega) (show v.2 - y1 ≤ 0 by omega)
    have m2 := mul_np (show q.2 - p.2 ≤ 0 by omega) (show 0 ≤ v.1 - x0 by omega)
    simp only at this; omega
theorem corner_none {x0 y0 x1 y1 : Int} {p q v : Pt} (hv : HasB x0 y0 x1 y1 v) (h0 : TN p q v = 0) : ¬ Side1 x0 y0 x1 y1 p q := by
  rintro (h | h)
  · have := corner_pos hv h; omega
  · obtain ⟨h1, h2, h3, h4⟩ := h
    have := corner_pos (p := q) (q := p) hv ⟨by rw [TN_swap]; omega, by rw [TN_swap]; omega, by rw [TN_swap]; omega, by rw [TN_swap]; omega⟩
    rw [TN_swap] at this; omega

/-- Ways that cross overlap in width. -/
theorem Cross_width {p q c d : Pt} (h : Cross p q c d) : ¬ (p.1 < c.1 ∧ p.1 < d.1 ∧ q.1 < c.1 ∧ q.1 < d.1) := by
  rintro ⟨a1, a2, a3, a4⟩
  obtain ⟨h1, h2⟩ := h
  rw [sg_mul_neg] at h1 h2
  have i1 : (q.1 - p.1) * TN c d p = TN p q d * (c.1 - p.1) - TN p q c * (d.1 - p.1) := by unfold TN; grind
  have i2 : (q.1 - p.1) * TN c d q = TN p q d * (c.1 - q.1) - TN p q c * (d.1 - q.1) := by unfold TN; grind
  rcases h1 with ⟨x, y⟩ | ⟨x, y⟩
  · have m1 := mul_np_neg x (show 0 < d.1 - p.1 by omega)
    have m2 := Int.mul_pos y (show 0 < c.1 - p.1 by omega)
    have m3 := mul_np_neg x (show 0 < d.1 - q.1 by omega)
    have m4 := Int.mul_pos y (show 0 < c.1 - q.1 by omega)
    have n1 : 0 < (q.1 - p.1) * TN c d p := by omega
    have n2 : 0 < (q.1 - p.1) * TN c d q := by omega
    rcases h2 with ⟨u, w⟩ | ⟨u, w⟩
    · rcases Int.le_total p.1 q.1 with g | g
      · have := mul_pn (show 0 ≤ q.1 - p.1 by omega) (show TN c d p ≤ 0 by omega); omega
      · have := mul_np (show q.1 - p.1 ≤ 0 by omega) (show 0 ≤ TN c d q by omega); omega
    · rcases Int.le_total p.1 q.1 with g | g
      · have := mul_pn (show 0 ≤ q.1 - p.1 by omega) (show TN c d q ≤ 0 by omega); omega
      · have := mul_np (show q.1 - p.1 ≤ 0 by omega) (show 0 ≤ TN c d p by omega); omega
  · have m1 := Int.mul_pos x (show 0 < d.1 - p.1 by omega)
    have m2 := mul_np_neg y (show 0 < c.1 - p.1 by omega)
    have m3 := Int.mul_pos x (show 0 < d.1 - q.1 by omega)
    have m4 := mul_np_neg y (show 0 < c.1 - q.1 by omega)
    have n1 : (q.1 - p.1) * TN c d p < 0 := by omega
    have n2 : (q.1 - p.1) * TN c d q < 0 := by omega
    rcases h2 with ⟨u, w⟩ | ⟨u, w⟩
    · rcases Int.le_total p.1 q.1 with g | g
      · have := Int.mul_nonneg (show 0 ≤ q.1 - p.1 by omega) (show 0 ≤ TN c d q by omega); omega
      · have := mul_nn (show q.1 - p.1 ≤ 0 by omega) (show TN c d p ≤ 0 by omega); omega
    · rcases Int.le_total p.1 q.1 with g | g
      · have := Int.mul_nonneg (show 0 ≤ q.1 - p.1 by omega) (show 0 ≤ TN c d p by omega); omega
      · have := mul_nn (show q.1 - p.1 ≤ 0 by omega) (show TN c d q ≤ 0 by omega); omega
theorem Cross_flip {p q c d : Pt} : Cross (p.2, p.1) (q.2, q.1) (c.2, c.1) (d.2, d.1) ↔ Cross p q c d := by
  have e : ∀ a b c : Pt, TN (a.2, a.1) (b.2, b.1) (c.2, c.1) = -TN a b c := by intro a b c; unfold TN; grind
  unfold Cross; rw [e, e, e, e]; simp only [sg_neg, Int.neg_mul_neg]
theorem Cross_neg {p q c d : Pt} : Cross (-p.1, -p.2) (-q.1, -q.2) (-c.1, -c.2) (-d.1, -d.2) ↔ Cross p q c d := by
  have e : ∀ a b c : Pt, TN (-a.1, -a.2) (-b.1, -b.2) (-c.1, -c.2) = TN a b c := by intro a b c; unfold TN; grind
  unfold Cross; rw [e, e, e, e]
/-- Ways that cross overlap. -/
theorem Cross_ovl {p q c d : Pt} (h : Cross p q c d) : ¬ (p.1 < c.1 ∧ p.1 < d.1 ∧ q.1 < c.1 ∧ q.1 < d.1) ∧ ¬ (c.1 < p.1 ∧ d.1 < p.1 ∧ c.1 < q.1 ∧ d.1 < q.1) ∧
    ¬ (p.2 < c.2 ∧ p.2 < d.2 ∧ q.2 < c.2 ∧ q.2 < d.2) ∧ ¬ (c.2 < p.2 ∧ d.2 < p.2 ∧ c.2 < q.2 ∧ d.2 < q.2) := by
  have f := Cross_flip.2 h
  have n := Cross_neg.2 h
  have fn := Cross_neg.2 f
  refine ⟨Cross_width h, ?_, Cross_width f, ?_⟩
  · have := Cross_width n; simp only at this; omega
  · have := Cross_width fn; simp only at this; omega

/-- A side that is met: it isn't all to one side, and shadows overlap. -/
theorem side_met {x0 y0 x1 y1 : Int} {p q c d : Pt} (hc : HasB x0 y0 x1 y1 c) (hd : HasB x0 y0 x1 y1 d) (hseg : ∀ v, Btw v c d → HasB x0 y0 x1 y1 v) (h : Meet p q c d) : Ovl x0 y0 x1 y1 p q ∧ ¬ Side1 x0 y0 x1 y1 p q := by
  have has : ∀ v, (v = p ∨ v = q) → HasB x0 y0 x1 y1 v → Ovl x0 y0 x1 y1 p q ∧ ¬ Side1 x0 y0 x1 y1 p q := by
    intro v hv hb
    refine ⟨?_, corner_none hb ?_⟩
    · unfold HasB at hb; unfold Ovl; rcases hv with rfl | rfl <;> omega
    · rcases hv with rfl | rfl
      · exact TN_aba _ _
      · exact TN_abb _ _
  have hon : ∀ v, HasB x0 y0 x1 y1 v → On v p q → Ovl x0 y0 x1 y1 p q ∧ ¬ Side1 x0 y0 x1 y1 p q := by
    intro v hb ho
    refine ⟨?_, corner_none hb ho.1⟩
    have := ho.2; unfold HasB at hb; unfold Btw at this; unfold Ovl; omega
  rcases h with h | h | h | h | h
  · exact has p (Or.inl rfl) (hseg p h.2)
  · exact has q (Or.inr rfl) (hseg q h.2)
  · exact hon c hc h
  · exact hon d hd h
  · refine ⟨?_, ?_⟩
    · have := Cross_ovl h
      unfold HasB at hc hd; unfold Ovl; omega
    · have h1 := h.1
      rw [sg_mul_neg] at h1
      rintro (s | s)
      · have k1 := corner_pos hc s
        have k2 := corner_pos hd s; omega
      · have sw : TN q p (x0, y0) > 0 ∧ TN q p (x1, y0) > 0 ∧ TN q p (x1, y1) > 0 ∧ TN q p (x0, y1) > 0 := ⟨by rw [TN_swap]; omega, by rw [TN_swap]; omega, by rw [TN_swap]; omega, by rw [TN_swap]; omega⟩
        have k1 := corner_pos hc sw
        have k2 := corner_pos hd sw
        rw [TN_swap] at k1 k2; omega

theorem MeetB_fwd {x0 y0 x1 y1 : Int} {p q : Pt} (hx : x0 ≤ x1) (hy : y0 ≤ y1) (h : MeetB x0 y0 x1 y1 p q) : Ovl x0 y0 x1 y1 p q ∧ ¬ Side1 x0 y0 x1 y1 p q := by
  have has : ∀ v, (v = p ∨ v = q) → HasB x0 y0 x1 y1 v → Ovl x0 y0 x1 y1 p q ∧ ¬ Side1 x0 y0 x1 y1 p q := by
    intro v hv hb
    refine ⟨?_, corner_none hb ?_⟩
    · unfold HasB at hb; unfold Ovl; rcases hv with rfl | rfl <;> omega
    · rcases hv with rfl | rfl
      · exact TN_aba _ _
      · exact TN_abb _ _
  rcases h with h | h | h | h | h | h
  · exact has p (Or.inl rfl) h
  · exact has q (Or.inr rfl) h
  all_goals
    refine side_met ?_ ?_ ?_ h
    · unfold HasB; simp only; omega
    · unfold HasB; simp only; omega
    · intro v hv; unfold Btw at hv; unfold HasB; (try simp only at hv); omega

/-- The way goes up and to the right, and doesn't begin in the box. -/
theorem MeetB_up {x0 y0 x1 y1 : Int} {p q : Pt} (hx : x0 ≤ x1) (hy : y0 ≤ y1) (dx : p.1 ≤ q.1) (dy : p.2 ≤ q.2) (ho : Ovl x0 y0 x1 y1 p q) (hs : ¬ Side1 x0 y0 x1 y1 p q) : MeetB x0 y0 x1 y1 p q := by
  by_cases hp : HasB x0 y0 x1 y1 p
  · exact Or.inl hp
  · have f : ∀ x y : Int, TN p q (x, y) = (q.1 - p.1) * (y - p.2) - (q.2 - p.2) * (x - p.1) := fun x y => rfl
    have mx_ := Int.mul_nonneg (show 0 ≤ q.2 - p.2 by omega) (show 0 ≤ x1 - x0 by omega)
    have my_ := Int.mul_nonneg (show 0 ≤ q.1 - p.1 by omega) (show 0 ≤ y1 - y0 by omega)
    have g1 : TN p q (x0, y1) = TN p q (x0, y0) + (q.1 - p.1) * (y1 - y0) := by unfold TN; grind
    have g2 : TN p q (x1, y0) = TN p q (x0, y0) - (q.2 - p.2) * (x1 - x0) := by unfold TN; grind
    have g3 : TN p q (x1, y1) = TN p q (x0, y0) + (q.1 - p.1) * (y1 - y0) - (q.2 - p.2) * (x1 - x0) := by unfold TN; grind
    have tl : TN p q (x0, y1) ≥ 0 := by
      refine Int.not_lt.1 fun c => hs (Or.inr ⟨by omega, by omega, by omega, c⟩)
    have br : TN p q (x1, y0) ≤ 0 := by
      refine Int.not_lt.1 fun c => hs (Or.inl ⟨by omega, c, by omega, by omega⟩)
    unfold Ovl at ho
    unfold HasB at hp
    -- the bottom side
    have bottom : p.2 < y0 → TN p q (x0, y0) ≥ 0 → Meet p q (x0, y0) (x1, y0) := by
      intro hp2 hbl
      by_cases z0 : TN p q (x0, y0) = 0
      · exact Or.inr (Or.inr (Or.inl (On_of_height z0 (by simp only; omega) (by simp only; omega) (by omega))))
      · by_cases z1 : TN p q (x1, y0) = 0
        · exact Or.inr (Or.inr (Or.inr (Or.inl (On_of_height z1 (by simp only; omega) (by simp only; omega) (by omega)))))
        · have hx' : x0 < x1 := by
            refine Int.not_le.1 fun c => ?_
            have z : x1 - x0 = 0 := by omega
            rw [z, Int.mul_zero] at g2; omega
          have t : ∀ v : Pt, TN (x0, y0) (x1, y0) v = (x1 - x0) * (v.2 - y0) := by intro v; unfold TN; grind
          have tp := mul_pn_neg (show 0 < x1 - x0 by omega) (show p.2 - y0 < 0 by omega)
          by_cases e : q.2 = y0
          · refine Or.inr (Or.inl ⟨by rw [t, e, Int.sub_self, Int.mul_zero], ?_⟩)
            -- q is on the side
            have fb : TN p q (x0, y0) = (q.2 - p.2) * (q.1 - x0) := by unfold TN; rw [← e]; grind
            have fr : TN p q (x1, y0) = (q.2 - p.2) * (q.1 - x1) := by unfold TN; rw [← e]; grind
            have u1 : x0 ≤ q.1 := by
              refine Int.not_lt.1 fun c => ?_
              have := mul_pn (show 0 ≤ q.2 - p.2 by omega) (show q.1 - x0 ≤ 0 by omega); omega
            have u2 : q.1 ≤ x1 := by
              refine Int.not_lt.1 fun c => ?_
              have := Int.mul_nonneg (show 0 ≤ q.2 - p.2 by omega) (show 0 ≤ q.1 - x1 by omega); omega
            unfold Btw; simp only; omega
          · have tq := Int.mul_pos (show 0 < x1 - x0 by omega) (show 0 < q.2 - y0 by omega)
            exact Or.inr (Or.inr (Or.inr (Or.inr ⟨sg_mul_neg.2 (Or.inr ⟨by omega, by omega⟩), sg_mul_neg.2 (Or.inl ⟨by rw [t]; exact tp, by rw [t]; exact tq⟩)⟩)))
    by_cases hp1 : p.1 < x0
    · by_cases hbl : TN p q (x0, y0) > 0
      · -- the line is below the box's lower left corner
        have hp2 : p.2 < y0 := by
          refine Int.not_le.1 fun c => ?_
          have m1 := mul_pn (show 0 ≤ q.1 - p.1 by omega) (show y0 - p.2 ≤ 0 by omega)
          have m2 := Int.mul_nonneg (show 0 ≤ q.2 - p.2 by omega) (show 0 ≤ x0 - p.1 by omega)
          rw [f] at hbl; omega
        exact Or.inr (Or.inr (Or.inl (bottom hp2 (by omega))))
      · -- the left side
        refine Or.inr (Or.inr (Or.inr (Or.inr (Or.inr ?_))))
        by_cases z0 : TN p q (x0, y0) = 0
        · exact Or.inr (Or.inr (Or.inr (Or.inl (On_of_width z0 (by simp only; omega) (by simp only; omega) (by omega)))))
        · by_cases z1 : TN p q (x0, y1) = 0
          · exact Or.inr (Or.inr (Or.inl (On_of_width z1 (by simp only; omega) (by simp only; omega) (by omega))))
          · have hy' : y0 < y1 := by
              refine Int.not_le.1 fun c => ?_
              have z : y1 - y0 = 0 := by omega
              rw [z, Int.mul_zero] at g1; omega
            have t : ∀ v : Pt, TN (x0, y1) (x0, y0) v = (y1 - y0) * (v.1 - x0) := by intro v; unfold TN; grind
            have tp := mul_pn_neg (show 0 < y1 - y0 by omega) (show p.1 - x0 < 0 by omega)
            by_cases e : q.1 = x0
            · refine Or.inr (Or.inl ⟨by rw [t, e, Int.sub_self, Int.mul_zero], ?_⟩)
              have fb : TN p q (x0, y0) = (q.1 - p.1) * (y0 - q.2) := by unfold TN; rw [← e]; grind
              have fr : TN p q (x0, y1) = (q.1 - p.1) * (y1 - q.2) := by unfold TN; rw [← e]; grind
              have u1 : y0 ≤ q.2 := by
                refine Int.not_lt.1 fun c => ?_
                have := Int.mul_nonneg (show 0 ≤ q.1 - p.1 by omega) (show 0 ≤ y0 - q.2 by omega); omega
              have u2 : q.2 ≤ y1 := by
                refine Int.not_lt.1 fun c => ?_
                have := mul_pn (show 0 ≤ q.1 - p.1 by omega) (show y1 - q.2 ≤ 0 by omega); omega
              unfold Btw; simp only; omega
            · have tq := Int.mul_pos (show 0 < y1 - y0 by omega) (show 0 < q.1 - x0 by omega)
              exact Or.inr (Or.inr (Or.inr (Or.inr ⟨sg_mul_neg.2 (Or.inr ⟨by omega, by omega⟩), sg_mul_neg.2 (Or.inl ⟨by rw [t]; exact tp, by rw [t]; exact tq⟩)⟩)))
    · have hp2 : p.2 < y0 := by omega
      refine Or.inr (Or.inr (Or.inl (bottom hp2 ?_)))
      have m1 := Int.mul_nonneg (show 0 ≤ q.1 - p.1 by omega) (show 0 ≤ y0 - p.2 by omega)
      have m2 := mul_pn (show 0 ≤ q.2 - p.2 by omega) (show x0 - p.1 ≤ 0 by omega)
      rw [f]; omega

/-- Mirrored in height. -/
def ud (p : Pt) : Pt := (p.1, -p.2)
theorem TN_ud (a b c : Pt) : TN (ud a) (ud b) (ud c) = -TN a b c := by unfold TN ud; grind
theorem On_ud (p a b : Pt) : On (ud p) (ud a) (ud b) ↔ On p a b := by unfold On; rw [TN_ud]; unfold Btw ud; omega
theorem Meet_ud (a b c d : Pt) : Meet (ud a) (ud b) (ud c) (ud d) ↔ Meet a b c d := by
  unfold Meet Cross; simp only [On_ud, TN_ud, sg_neg, Int.neg_mul_neg]
theorem MeetB_ud {x0 y0 x1 y1 : Int} {p q : Pt} (h : MeetB x0 (-y1) x1 (-y0) (ud p) (ud q)) : MeetB x0 y0 x1 y1 p q := by
  have hb : ∀ v, HasB x0 (-y1) x1 (-y0) (ud v) ↔ HasB x0 y0 x1 y1 v := by intro v; unfold HasB ud; omega
  unfold MeetB at h
  rw [hb, hb, show (x0, -y1) = ud (x0, y1) from rfl, show (x1, -y1) = ud (x1, y1) from rfl, show (x1, -y0) = ud (x1, y0) from rfl, show (x0, -y0) = ud (x0, y0) from rfl, Meet_ud, Meet_ud, Meet_ud, Meet_ud] at h
  rcases h with h | h | h | h | h | h
  · exact Or.inl h
  · exact Or.inr (Or.inl h)
  · exact Or.inr (Or.inr (Or.inr (Or.inr (Or.inl (Meet_cd.1 h)))))
  · exact Or.inr (Or.inr (Or.inr (Or.inl (Meet_cd.1 h))))
  · exact Or.inr (Or.inr (Or.inl (Meet_cd.1 h)))
  · exact Or.inr (Or.inr (Or.inr (Or.inr (Or.inr (Meet_cd.1 h)))))
theorem MeetB_swap {x0 y0 x1 y1 : Int} {p q : Pt} (h : MeetB x0 y0 x1 y1 q p) : MeetB x0 y0 x1 y1 p q := by
  unfold MeetB at h ⊢
  rw [Meet_ab (a := p) (b := q), Meet_ab (a := p) (b := q), Meet_ab (a := p) (b := q), Meet_ab (a := p) (b := q)] at h
  rcases h with h | h | h | h | h | h <;> simp [h]

theorem MeetB_bwd {x0 y0 x1 y1 : Int} {p q : Pt} (hx : x0 ≤ x1) (hy : y0 ≤ y1) (ho : Ovl x0 y0 x1 y1 p q) (hs : ¬ Side1 x0 y0 x1 y1 p q) : MeetB x0 y0 x1 y1 p q := by
  have one : ∀ p q : Pt, p.1 ≤ q.1 → Ovl x0 y0 x1 y1 p q → ¬ Side1 x0 y0 x1 y1 p q → MeetB x0 y0 x1 y1 p q := by
    intro p q h ho hs
    rcases Int.le_total p.2 q.2 with g | g
    · exact MeetB_up hx hy h g ho hs
    · refine MeetB_ud (MeetB_up hx (by omega) h (by unfold ud; simp only; omega) ?_ ?_)
      · unfold Ovl ud at *; simp only; omega
      · intro s
        unfold Side1 at s hs
        rw [show (x0, -y1) = ud (x0, y1) from rfl, show (x1, -y1) = ud (x1, y1) from rfl, show (x1, -y0) = ud (x1, y0) from rfl, show (x0, -y0) = ud (x0, y0) from rfl, TN_ud, TN_ud, TN_ud, TN_ud] at s
        omega
  rcases Int.le_total p.1 q.1 with h | h
  · exact one p q h ho hs
  · refine MeetB_swap (one q p h ?_ ?_)
    · unfold Ovl at *; omega
    · intro s
      unfold Side1 at s hs
      rw [TN_swap p q, TN_swap p q, TN_swap p q, TN_swap p q] at s
      omega
/-- THE BOX IS MET, by its sides, just if shadows overlap and not all corners are to one side. -/
theorem MeetB_iff {x0 y0 x1 y1 : Int} {p q : Pt} (hx : x0 ≤ x1) (hy : y0 ≤ y1) : MeetB x0 y0 x1 y1 p q ↔ Ovl x0 y0 x1 y1 p q ∧ ¬ Side1 x0 y0 x1 y1 p q :=
  ⟨MeetB_fwd hx hy, fun h => MeetB_bwd hx hy h.1 h.2⟩
/-- A way between two places of the box, that meets another way: that one meets the box. -/
theorem MeetB_of_meet {x0 y0 x1 y1 : Int} {p q u v : Pt} (hx : x0 ≤ x1) (hy : y0 ≤ y1) (hp : HasB x0 y0 x1 y1 u) (hq : HasB x0 y0 x1 y1 v) (h : Meet p q u v) : MeetB x0 y0 x1 y1 p q :=
  (MeetB_iff hx hy).2 (side_met hp hq (fun w hw => by unfold Btw at hw; unfold HasB at *; omega) h)
end Go.Proofs.Ytjblhppbjebagaa.Geo

namespace Go.Proofs.Ytjblhppbjebagaa.AE
set_option linter.unusedVariables false
set_option linter.unusedSimpArgs false
set_option linter.constructorNameAsVariable false
open Go Go.Proofs.Ytjblhppbjebagaa.Geo

abbrev Bx := Pt × Pt
abbrev bx (b : Bx) : AV := .agg [.int .i64 b.1.1, .int .i64 b.1.2, .int .i64 b.2.1, .int .i64 b.2.2]
def rightX (b : Bx) : Bool := okb b.1 && (okb b.2 && (decide (b.1.1 ≤ b.2.1) && decide (b.1.2 ≤ b.2.2)))
def hasX (b : Bx) (p : Pt) : Bool := rightX b && (okb p && (decide (b.1.1 ≤ p.1) && (decide (p.1 ≤ b.2.1) && (decide (b.1.2 ≤ p.2) && decide (p.2 ≤ b.2.2)))))
def inX (a b : Bx) : Bool := rightX a && (hasX b a.1 && hasX b a.2)
theorem rightX_t {b : Bx} : rightX b = true ↔ OkP b.1 ∧ OkP b.2 ∧ b.1.1 ≤ b.2.1 ∧ b.1.2 ≤ b.2.2 := by
  unfold rightX; simp only [Bool.and_eq_true, okb_t, decide_eq_true_iff]
theorem hasX_t {b : Bx} {p : Pt} : hasX b p = true ↔ rightX b = true ∧ OkP p ∧ HasB b.1.1 b.1.2 b.2.1 b.2.2 p := by
  unfold hasX HasB; simp only [Bool.and_eq_true, okb_t, decide_eq_true_iff]
theorem s12 (d : Nat) (b : Bx) : pcall M (d + 3) 12 [bx b] = some (.bool (rightX b)) := told (r12 C0 (d + 2) _ _ _ _) (by
  refine Eq.trans (pl_bool (s35 d b.1)) ?_
  unfold rightX
  change cnd (okb b.1) _ _ = _
  cases okb b.1
  · rfl
  · refine Eq.trans (pl_len (by rfl)) ?_
    refine Eq.trans (pl_bool (s35 d b.2)) ?_
    change cnd (okb b.2) _ _ = _
    cases okb b.2
    · rfl
    · refine Eq.trans (pl_len (by rfl)) ?_; cases decide (b.1.1 ≤ b.2.1) <;> rfl)
theorem s13 (d : Nat) (b : Bx) : pcall M (d + 2) 13 [bx b] = some (.bool (rightX b)) := told (r13 C0 (d + 1) _ _ _ _) (by
  refine Eq.trans (pl_bool (s26 d b.1)) ?_
  unfold rightX
  change cnd (okb b.1) _ _ = _
  cases okb b.1
  · rfl
  · refine Eq.trans (pl_len (by rfl)) ?_
    refine Eq.trans (pl_bool (s26 d b.2)) ?_
    change cnd (okb b.2) _ _ = _
    cases okb b.2
    · rfl
    · refine Eq.trans (pl_len (by rfl)) ?_; cases decide (b.1.1 ≤ b.2.1) <;> rfl)
theorem s15 (d : Nat) (b : Bx) (p : Pt) : pcall M (d + 4) 15 [bx b, pt p] = some (.bool (hasX b p)) := told (r15 C0 (d + 3) _ _ _ _ _ _) (by
  refine Eq.trans (pl_bool (s12 d b)) ?_
  unfold hasX
  cases rightX b
  · rfl
  · refine Eq.trans (pl_len (by rfl)) ?_
    refine Eq.trans (pl_bool (s35 (d + 1) p)) ?_
    change cnd (okb p) _ _ = _
    cases okb p
    · rfl
    · refine Eq.trans (pl_len (by rfl)) ?_; cases decide (b.1.1 ≤ p.1) <;> cases decide (p.1 ≤ b.2.1) <;> cases decide (b.1.2 ≤ p.2) <;> rfl)
theorem s16 (d : Nat) (b : Bx) (p : Pt) : pcall M (d + 3) 16 [bx b, pt p] = some (.bool (hasX b p)) := told (r16 C0 (d + 2) _ _ _ _ _ _) (by
  refine Eq.trans (pl_bool (s13 d b)) ?_
  unfold hasX
  cases rightX b
  · rfl
  · refine Eq.trans (pl_len (by rfl)) ?_
    refine Eq.trans (pl_bool (s26 (d + 1) p)) ?_
    change cnd (okb p) _ _ = _
    cases okb p
    · rfl
    · refine Eq.trans (pl_len (by rfl)) ?_
      change cnd (decide (b.1.1 ≤ p.1)) (cnd (decide (p.1 ≤ b.2.1)) (cnd (decide (b.1.2 ≤ p.2)) (some (.bool (decide (p.2 ≤ b.2.2)))) _) _) _ = _
      cases decide (b.1.1 ≤ p.1) <;> cases decide (p.1 ≤ b.2.1) <;> cases decide (b.1.2 ≤ p.2) <;> rfl)
theorem s17 (d : Nat) (a b : Bx) : pcall M (d + 5) 17 [bx a, bx b] = some (.bool (inX a b)) := told (r17 C0 (d + 4) _ _ _ _ _ _ _ _) (by
  refine Eq.trans (pl_bool (s12 (d + 1) a)) ?_
  unfold inX
  cases rightX a
  · rfl
  · refine Eq.trans (pl_len (by rfl)) ?_
    refine Eq.trans (pl_bool (s15 d b a.1)) ?_
    cases hasX b a.1
    · rfl
    · refine Eq.trans (pl_len (by rfl)) ?_
      exact pl_bool (s15 d b a.2))
def cornersX (b : Bx) : List Pt := [b.1, (b.2.1, b.1.2), b.2, (b.1.1, b.2.2)]
theorem s22 (d : Nat) (b : Bx) (h : rightX b = true) : pcall M (d + 4) 22 [bx b] = some (.lst ((cornersX b).map pt)) := told (r22 C0 (d + 3) _ _ _ _) (by
  refine Eq.trans (pl_bool (s12 d b)) ?_
  rw [h]; rfl)
theorem s23 (d : Nat) (b : Bx) (h : rightX b = true) : pcall M (d + 3) 23 [bx b] = some (.lst ((cornersX b).map pt)) := told (r23 C0 (d + 2) _ _ _ _) (by
  refine Eq.trans (pl_bool (s13 d b)) ?_
  rw [h]; rfl)

/-! A way and a box -/
instance (x0 y0 x1 y1 : Int) (p q : Pt) : Decidable (MeetB x0 y0 x1 y1 p q) := by unfold MeetB; infer_instance
def meetsX (b : Bx) (p q : Pt) : Bool := rightX b && (okb p && (okb q && decide (MeetB b.1.1 b.1.2 b.2.1 b.2.2 p q)))
abbrev capS (p q : Pt) : AV := .fn 38 [] [.fptr (pt p) 0, .fptr (pt q) 0]
theorem s38 (d : Nat) (c p q : Pt) : pcall M (d + 8) 38 [pt c, .fptr (pt p) 0, .fptr (pt q) 0] = some (.int .i64 (tn3 p q c)) := told (r38 C0 (d + 7) _ _ _ _ _ _) (by
  exact pl_int (s39 d p q c))
theorem s41 (d : Nat) (c p q : Pt) (f : Int) : pcall M (d + 9) 41 [pt c, .fptr (capS p q) 0, .fptr (.int .i64 f) 0] = some (.bool (tn3 p q c != f)) := told (r41 C0 (d + 8) _ _ _ _ _ _ _) (by
  exact pl_int (s38 d c p q))
theorem cidx (d : Nat) (p q : Pt) (g : Int) (ps : List Pt) (hl : ps.length ≤ 140737488355328) : ∀ (l2 : List Pt) (i f : Nat), ps.drop i = l2 → l2.length < f →
    L53f41_0 (d + 9) (ps.map pt) p.1 p.2 q.1 q.2 g f (i : Nat) = some (.int .i64 (fiG (fun c => tn3 p q c != g) l2 (i : Nat))) := by
  intro l2
  induction l2 with
  | nil =>
    intro i f hd hf
    obtain ⟨f, rfl⟩ : ∃ m, f = m + 1 := ⟨f - 1, by omega⟩
    have : ps.length ≤ i := List.drop_eq_nil_iff.mp hd
    rw [L53f41_0, decide_eq_false (by rw [pmap_len]; omega), cnd_f]; rfl
  | cons c l2 ih =>
    intro i f hd hf
    obtain ⟨f, rfl⟩ : ∃ m, f = m + 1 := ⟨f - 1, by simp at hf; omega⟩
    have hi : i < ps.length := by
      rcases Nat.lt_or_ge i ps.length with h | h
      · exact h
      · rw [List.drop_eq_nil_of_le h] at hd; cases hd
    have hp : ps[i] = c := by have := List.drop_eq_getElem_cons hi; rw [hd] at this; exact (List.cons.inj this).1.symm
    have hd2 : ps.drop (i + 1) = l2 := by have := List.drop_eq_getElem_cons hi; rw [hd] at this; exact (List.cons.inj this).2.symm
    rw [L53f41_0, decide_eq_true (by rw [pmap_len]; omega), cnd_t, decide_eq_true (by omega), cnd_t, pts_at hi, hp]
    refine Eq.trans (pl_agg (by rfl) (by rfl)) ?_; refine Eq.trans (pl_int (by rfl)) ?_; refine Eq.trans (pl_int (by rfl)) ?_
    refine Eq.trans (pl_bool (s41 d c p q g)) ?_
    simp only [fiG]
    cases (tn3 p q c != g)
    · refine Eq.trans (pl_f (by rfl)) ?_
      rw [show IntKind.wrap .i64 ((i : Int) + 1) = ((i + 1 : Nat) : Int) by rw [IntKind.wrap_i64]; omega]
      exact (ih (i + 1) f hd2 (by simp at hf; omega)).trans (by simp)
    · rfl
theorem cany (d : Nat) (p q : Pt) (g : Int) (ps : List Pt) (hl : ps.length ≤ 140737488355328) :
    pcall M (d + 11) 40 [.lst (ps.map pt), .fn 41 [] [.fptr (capS p q) 0, .fptr (.int .i64 g) 0]] = some (.bool (ps.any fun c => tn3 p q c != g)) := told (r40f41 C0 (d + 10) _ .nilp _ _ _ _ _) (by
  have h : pcall M (d + 10) 53 [.lst (ps.map pt), .fn 41 [] [.fptr (capS p q) 0, .fptr (.int .i64 g) 0]] = some (.int .i64 (fiG (fun c => tn3 p q c != g) ps 0)) :=
    told (q53f41 (d + 9) (ps.map pt) .nilp _ _ _ _ _) (cidx d p q g ps hl ps 0 _ rfl (by omega))
  refine Eq.trans (pl_int h) ?_
  rw [fiG_any _ ps 0 (by decide)])
theorem sg_ne {u v : Int} (hv : v ≠ 0) : (sg u != sg v) = !decide ((v > 0 ∧ u > 0) ∨ (v < 0 ∧ u < 0)) := by
  rcases sg_cases u with ⟨h, e⟩ | ⟨h, e⟩ | ⟨h, e⟩ <;> rcases sg_cases v with ⟨h', e'⟩ | ⟨h', e'⟩ | ⟨h', e'⟩ <;> rw [e, e']
  all_goals first | (exfalso; exact hv h') | skip
  all_goals first | (rw [decide_eq_true (by omega)]; rfl) | (rw [decide_eq_false (by omega)]; rfl)
theorem s24 (d : Nat) (b : Bx) (p q : Pt) : pcall M (d + 12) 24 [bx b, pt p, pt q] = some (.bool (meetsX b p q)) := told (r24 C0 (d + 11) _ _ _ _ _ _ _ _) (by
  refine Eq.trans (pl_bool (s12 (d + 8) b)) ?_
  unfold meetsX
  cases hr : rightX b
  · rfl
  · refine Eq.trans (pl_f (by rfl)) ?_
    refine Eq.trans (pl_bool (s35 (d + 9) p)) ?_
    change cnd (!okb p) _ _ = _
    cases hp : okb p
    · rfl
    · refine Eq.trans (pl_f (by rfl)) ?_
      refine Eq.trans (pl_bool (s35 (d + 9) q)) ?_
      change cnd (!okb q) _ _ = _
      cases hq : okb q
      · rfl
      · refine Eq.trans (pl_f (by rfl)) ?_
        obtain ⟨o1, o2, hx, hy⟩ := rightX_t.mp hr
        have op := okb_t.mp hp
        have oq := okb_t.mp hq
        have iff := MeetB_iff (p := p) (q := q) hx hy
        have noOvl : ¬ Ovl b.1.1 b.1.2 b.2.1 b.2.2 p q → decide (MeetB b.1.1 b.1.2 b.2.1 b.2.2 p q) = false := fun h => decide_eq_false fun g => h (iff.mp g).1
        have m1 : ∀ x y : Int, (if y > x then y else x) = max x y := fun x y => by omega
        have m2 : ∀ x y : Int, (if y < x then y else x) = min x y := fun x y => by omega
        rw [m1, m1, m2, m2]
        simp only [Bool.true_and]
        by_cases c1 : max p.1 q.1 < b.1.1
        · rw [decide_eq_true c1, cnd_t, noOvl (by unfold Ovl; omega)]
        · rw [decide_eq_false c1, cnd_f]
          by_cases c2 : min p.1 q.1 > b.2.1
          · rw [decide_eq_true c2, cnd_t, noOvl (by unfold Ovl; omega)]
          · rw [decide_eq_false c2, cnd_f]
            by_cases c3 : max p.2 q.2 < b.1.2
            · rw [decide_eq_true c3, cnd_t, noOvl (by unfold Ovl; omega)]
            · rw [decide_eq_false c3, cnd_f]
              by_cases c4 : min p.2 q.2 > b.2.2
              · rw [decide_eq_true c4, cnd_t, noOvl (by unfold Ovl; omega)]
              · rw [decide_eq_false c4, cnd_f]
                have ovl : Ovl b.1.1 b.1.2 b.2.1 b.2.2 p q := by unfold Ovl; omega
                refine Eq.trans (pl_int (s38 (d + 3) b.1 p q)) ?_
                have ok2 : OkP (b.2.1, b.1.2) := ⟨o2.1, o1.2⟩
                have ok4 : OkP (b.1.1, b.2.2) := ⟨o1.1, o2.2⟩
                rw [tn3_sg ⟨op, oq, o1⟩]
                by_cases z : TN p q b.1 = 0
                · rw [show (sg (TN p q b.1) == 0) = true by simp [sg_zero, z], cnd_t, decide_eq_true (iff.mpr ⟨ovl, fun h => by unfold Side1 at h; simp only [show ((b.1.1, b.1.2) : Pt) = b.1 from rfl, show ((b.2.1, b.2.2) : Pt) = b.2 from rfl] at h; omega⟩)]
                · rw [show (sg (TN p q b.1) == 0) = false by simp [sg_zero, z], cnd_f]
                  refine Eq.trans (pl_lst (s22 (d + 7) b hr)) ?_
                  refine Eq.trans (pl_bool (cany d p q (sg (TN p q b.1)) (cornersX b) (by simp [cornersX]))) ?_
                  congr 2
                  simp only [cornersX, List.any_cons, List.any_nil, Bool.or_false]
                  rw [tn3_sg ⟨op, oq, o1⟩, tn3_sg ⟨op, oq, ok2⟩, tn3_sg ⟨op, oq, o2⟩, tn3_sg ⟨op, oq, ok4⟩, sg_ne z, sg_ne z, sg_ne z, sg_ne z]
                  rw [Bool.eq_iff_iff]
                  simp only [Bool.or_eq_true, Bool.not_eq_true', decide_eq_false_iff_not, decide_eq_true_iff, iff]
                  unfold Side1
                  simp only [show ((b.1.1, b.1.2) : Pt) = b.1 from rfl, show ((b.2.1, b.2.2) : Pt) = b.2 from rfl]
                  constructor
                  · intro h; exact ⟨ovl, by omega⟩
                  · rintro ⟨_, h⟩; omega)
end Go.Proofs.Ytjblhppbjebagaa.AE

namespace Go.Proofs.Ytjblhppbjebagaa.AE
set_option linter.unusedVariables false
set_option linter.unusedSimpArgs false
set_option linter.constructorNameAsVariable false
open Go Go.Proofs.Ytjblhppbjebagaa.Geo

def upAny (f : Nat → Bool) : Nat → Nat → Bool
  | 0, _ => false
  | m + 1, i => f i || upAny f m (i + 1)
theorem upAny_iff (f : Nat → Bool) : ∀ (m i : Nat), upAny f m i = true ↔ ∃ j, i ≤ j ∧ j < i + m ∧ f j = true
  | 0, i => by simp only [upAny]; exact ⟨fun h => (by cases h), fun ⟨j, h1, h2, _⟩ => (by omega)⟩
  | m + 1, i => by
    simp only [upAny, Bool.or_eq_true, upAny_iff f m (i + 1)]
    constructor
    · rintro (h | ⟨j, h1, h2, h3⟩)
      · exact ⟨i, Nat.le_refl _, by omega, h⟩
      · exact ⟨j, by omega, by omega, h3⟩
    · rintro ⟨j, h1, h2, h3⟩
      by_cases hj : j = i
      · subst hj; exact .inl h3
      · exact .inr ⟨j, by omega, by omega, h3⟩
theorem rmeet (d : Nat) (cs : List Pt) (hcs : cs.length = 4) (p q : Pt) : ∀ (m i f : Nat), i + m = 4 → m < f →
    L25_0 (d + 7) p.1 p.2 q.1 q.2 (cs.map pt) f (i : Nat) = some (.bool (upAny (fun i => meetB p q (vv cs i) (vv cs (nx cs i))) m i)) := by
  intro m
  induction m with
  | zero =>
    intro i f hi hf
    obtain ⟨f, rfl⟩ : ∃ g, f = g + 1 := ⟨f - 1, by omega⟩
    rw [L25_0, decide_eq_false (by omega), cnd_f]; rfl
  | succ m ih =>
    intro i f hi hf
    obtain ⟨f, rfl⟩ : ∃ g, f = g + 1 := ⟨f - 1, by omega⟩
    have hil : i < cs.length := by omega
    have e := nx_int hil (by omega)
    rw [pmap_len, hcs] at e
    rw [L25_0, decide_eq_true (by omega), cnd_t, decide_eq_true (by omega), cnd_t, vv_at hil]
    refine Eq.trans (pl_agg (by rfl) (by rfl)) ?_; refine Eq.trans (pl_int (by rfl)) ?_; refine Eq.trans (pl_int (by rfl)) ?_
    rw [show (4 : Int) = ((4 : Nat) : Int) from rfl, e, decide_eq_true (by omega), cnd_t, vv_at (nx_lt hil)]
    refine Eq.trans (pl_agg (by rfl) (by rfl)) ?_; refine Eq.trans (pl_int (by rfl)) ?_; refine Eq.trans (pl_int (by rfl)) ?_
    refine Eq.trans (pl_bool (s42 d p q (vv cs i) (vv cs (nx cs i)))) ?_
    simp only [upAny]
    cases meetB p q (vv cs i) (vv cs (nx cs i))
    · refine Eq.trans (pl_f (by rfl)) ?_
      rw [show IntKind.wrap .i64 ((i : Int) + 1) = ((i + 1 : Nat) : Int) by rw [IntKind.wrap_i64]; omega, ih (i + 1) f (by omega) (by omega)]; rfl
    · rfl
theorem s25 (d : Nat) (b : Bx) (p q : Pt) : pcall M (d + 8) 25 [bx b, pt p, pt q] = some (.bool (meetsX b p q)) := told (q25 (d + 7) _ _ _ _ _ _ _ _) (by
  refine Eq.trans (pl_bool (s13 (d + 5) b)) ?_
  unfold meetsX
  cases hr : rightX b
  · rfl
  · refine Eq.trans (pl_f (by rfl)) ?_
    refine Eq.trans (pl_bool (s26 (d + 6) p)) ?_
    change cnd (!okb p) _ _ = _
    cases hp : okb p
    · rfl
    · refine Eq.trans (pl_f (by rfl)) ?_
      refine Eq.trans (pl_bool (s26 (d + 6) q)) ?_
      change cnd (!okb q) _ _ = _
      cases hq : okb q
      · rfl
      · refine Eq.trans (pl_f (by rfl)) ?_
        obtain ⟨o1, o2, hx, hy⟩ := rightX_t.mp hr
        have op := okb_t.mp hp
        have oq := okb_t.mp hq
        have ok2 : OkP (b.2.1, b.1.2) := ⟨o2.1, o1.2⟩
        have ok4 : OkP (b.1.1, b.2.2) := ⟨o1.1, o2.2⟩
        have mt : ∀ u v, OkP u → OkP v → (meetB p q u v = true ↔ Meet p q u v) := fun u v hu hv => by rw [meetB_t]; exact ⟨fun h => h.2, fun h => ⟨⟨op, oq, hu, hv⟩, h⟩⟩
        refine Eq.trans (pl_bool (s16 (d + 4) b p)) ?_
        simp only [Bool.true_and]
        cases h1 : hasX b p
        · refine Eq.trans (pl_f (by rfl)) ?_
          refine Eq.trans (pl_bool (s16 (d + 4) b q)) ?_
          cases h2 : hasX b q
          · refine Eq.trans (pl_f (by rfl)) ?_
            refine Eq.trans (pl_lst (s23 (d + 4) b hr)) ?_
            refine (rmeet d (cornersX b) rfl p q 4 0 1000000000000000000 (by omega) (by omega)).trans ?_
            congr 2
            rw [Bool.eq_iff_iff, decide_eq_true_iff]
            have n1 : ¬ HasB b.1.1 b.1.2 b.2.1 b.2.2 p := fun h => by rw [hasX_t.mpr ⟨hr, op, h⟩] at h1; cases h1
            have n2 : ¬ HasB b.1.1 b.1.2 b.2.1 b.2.2 q := fun h => by rw [hasX_t.mpr ⟨hr, oq, h⟩] at h2; cases h2
            have e0 : nx (cornersX b) 0 = 1 := rfl
            have e1 : nx (cornersX b) 1 = 2 := rfl
            have e2 : nx (cornersX b) 2 = 3 := rfl
            have e3 : nx (cornersX b) 3 = 0 := by simp [nx, cornersX]
            have v0 : vv (cornersX b) 0 = b.1 := rfl
            have v1 : vv (cornersX b) 1 = (b.2.1, b.1.2) := rfl
            have v2 : vv (cornersX b) 2 = b.2 := rfl
            have v3 : vv (cornersX b) 3 = (b.1.1, b.2.2) := rfl
            simp only [upAny, Nat.zero_add, Nat.reduceAdd, e0, e1, e2, e3, v0, v1, v2, v3]
            simp only [Bool.or_eq_true, Bool.or_false, mt _ _ o1 ok2, mt _ _ ok2 o2, mt _ _ o2 ok4, mt _ _ ok4 o1]
            unfold MeetB
            simp only [n1, n2, false_or]
          · refine Eq.trans (pl_len (by rfl)) ?_
            rw [decide_eq_true (show MeetB b.1.1 b.1.2 b.2.1 b.2.2 p q from .inr (.inl (hasX_t.mp h2).2.2))]
        · refine Eq.trans (pl_len (by rfl)) ?_
          rw [decide_eq_true (show MeetB b.1.1 b.1.2 b.2.1 b.2.2 p q from .inl (hasX_t.mp h1).2.2)])
/-- Inside (1), outside (-1), or at an edge (0)? -/
def relX (b : Bx) (ps : List Pt) : Int := bif rightX b then bif rightB ps then bif upAny (fun i => meetsX b (vv ps i) (vv ps (nx ps i))) ps.length 0 then 0 else sideB ps b.1 else -1 else -1
theorem rrel (d : Nat) (b : Bx) (ps : List Pt) (hl : ps.length ≤ 140737488355328) : ∀ (m i f : Nat), i + m = ps.length → m < f →
    L28_0 (d + 10) b.1.1 b.1.2 b.2.1 b.2.2 (ps.map pt) f (i : Nat) = some (.int .i64 (bif upAny (fun i => meetsX b (vv ps i) (vv ps (nx ps i))) m i then 0 else sideB ps b.1)) := by
  intro m
  induction m with
  | zero =>
    intro i f hi hf
    obtain ⟨f, rfl⟩ : ∃ g, f = g + 1 := ⟨f - 1, by omega⟩
    rw [L28_0, decide_eq_false (by rw [pmap_len]; omega), cnd_f]
    exact pl_int (s44 d ps b.1 hl)
  | succ m ih =>
    intro i f hi hf
    obtain ⟨f, rfl⟩ : ∃ g, f = g + 1 := ⟨f - 1, by omega⟩
    have hil : i < ps.length := by omega
    rw [L28_0, decide_eq_true (by rw [pmap_len]; omega), cnd_t, decide_eq_true (by omega), cnd_t, vv_at hil]
    refine Eq.trans (pl_agg (by rfl) (by rfl)) ?_; refine Eq.trans (pl_int (by rfl)) ?_; refine Eq.trans (pl_int (by rfl)) ?_
    rw [decide_eq_false (by rw [pmap_len]; omega), cnd_f, nx_int hil hl, decide_eq_true (by omega), cnd_t, vv_at (nx_lt hil)]
    refine Eq.trans (pl_agg (by rfl) (by rfl)) ?_; refine Eq.trans (pl_int (by rfl)) ?_; refine Eq.trans (pl_int (by rfl)) ?_
    refine Eq.trans (pl_bool (s25 (d + 2) b (vv ps i) (vv ps (nx ps i)))) ?_
    simp only [upAny]
    cases meetsX b (vv ps i) (vv ps (nx ps i))
    · refine Eq.trans (pl_f (by rfl)) ?_
      rw [show IntKind.wrap .i64 ((i : Int) + 1) = ((i + 1 : Nat) : Int) by rw [IntKind.wrap_i64]; omega, ih (i + 1) f (by omega) (by omega)]; rfl
    · rfl
theorem s28 (d : Nat) (b : Bx) (ps : List Pt) (hl : ps.length ≤ 140737488355328) : pcall M (d + 11) 28 [bx b, .lst (ps.map pt)] = some (.int .i64 (relX b ps)) := told (q28 (d + 10) _ _ _ _ _) (by
  refine Eq.trans (pl_bool (s13 (d + 8) b)) ?_
  unfold relX
  cases rightX b
  · rfl
  · refine Eq.trans (pl_f (by rfl)) ?_
    refine Eq.trans (pl_bool (s29 (d + 1) ps hl)) ?_
    cases rightB ps
    · rfl
    · refine Eq.trans (pl_f (by rfl)) ?_
      exact rrel d b ps hl ps.length 0 1000000000000000000 (by omega) (by omega))
theorem prel (d : Nat) (b : Bx) (ps : List Pt) (hl : ps.length ≤ 140737488355328) : ∀ (m i f : Nat) (H : Heap), i + m = ps.length → m < f → hget H 0 = some ⟨E25, [bx b]⟩ →
    L27_0 (d + 13) (ps.map pt) (.ptr 0 0 0) (ps.length : Nat) f (i : Nat) H = some (.int .i64 (bif upAny (fun i => meetsX b (vv ps i) (vv ps (nx ps i))) m i then 0 else sideB ps b.1)) := by
  intro m
  induction m with
  | zero =>
    intro i f H hi hf h0
    obtain ⟨f, rfl⟩ : ∃ g, f = g + 1 := ⟨f - 1, by omega⟩
    rw [L27_0, decide_eq_false (by omega), cnd_f, X27_0_0]
    refine Eq.trans sh_ptr ?_
    refine Eq.trans (ld_ptr h0 (by rfl) (by rfl)) ?_
    refine Eq.trans (pl_agg (by rfl) (by rfl)) ?_; refine Eq.trans (pl_int (by rfl)) ?_; refine Eq.trans (pl_int (by rfl)) ?_; refine Eq.trans (snp_free (by rfl)) ?_
    refine Eq.trans (pl_int (s31 d ps b.1 hl)) ?_
    refine Eq.trans (pl_len (by rfl)) ?_; rfl
  | succ m ih =>
    intro i f H hi hf h0
    obtain ⟨f, rfl⟩ : ∃ g, f = g + 1 := ⟨f - 1, by omega⟩
    have hil : i < ps.length := by omega
    have e := nx_int hil hl
    rw [L27_0, decide_eq_true (by omega), cnd_t]
    refine Eq.trans (ix_lst (by omega) (vv_at hil) (by rfl)) ?_
    refine Eq.trans (hop_eq (by rfl)) ?_; refine Eq.trans (pl_agg (by rfl) (by rfl)) ?_; refine Eq.trans (pl_int (by rfl)) ?_; refine Eq.trans (pl_int (by rfl)) ?_; refine Eq.trans al_n ?_; refine Eq.trans (st_s (by rfl) (by rfl) (by rfl)) ?_; refine Eq.trans (ld_ptr (hget_app h0) (by rfl) (by rfl)) ?_; refine Eq.trans (pl_agg (by rfl) (by rfl)) ?_; refine Eq.trans (pl_int (by rfl)) ?_; refine Eq.trans (pl_int (by rfl)) ?_; refine Eq.trans (pl_int (by rfl)) ?_; refine Eq.trans (pl_int (by rfl)) ?_; refine Eq.trans (ld_s (by rfl) (by rfl) (by rfl)) ?_; refine Eq.trans (pl_agg (by rfl) (by rfl)) ?_; refine Eq.trans (pl_int (by rfl)) ?_; refine Eq.trans (pl_int (by rfl)) ?_; refine Eq.trans (hop_eq (by rfl)) ?_; refine Eq.trans (pl_int (by rfl)) ?_
    rw [decide_eq_false (by rw [pmap_len]; omega), cnd_f, e]
    refine Eq.trans (ix_lst (by omega) (vv_at (nx_lt hil)) (by rfl)) ?_
    refine Eq.trans (hop_eq (by rfl)) ?_; refine Eq.trans (pl_agg (by rfl) (by rfl)) ?_; refine Eq.trans (pl_int (by rfl)) ?_; refine Eq.trans (pl_int (by rfl)) ?_
    refine Eq.trans (pl_bool (s24 (d + 1) b (vv ps i) (vv ps (nx ps i)))) ?_
    simp only [upAny]
    cases meetsX b (vv ps i) (vv ps (nx ps i))
    · refine Eq.trans (pl_f (by rfl)) ?_
      rw [show IntKind.wrap .i64 ((i : Int) + 1) = ((i + 1 : Nat) : Int) by rw [IntKind.wrap_i64]; omega, ih (i + 1) f _ (by omega) (by omega) (hget_app h0)]; rfl
    · rfl
theorem s27 (d : Nat) (b : Bx) (ps : List Pt) (hl : ps.length ≤ 140737488355328) : pcall M (d + 14) 27 [bx b, .lst (ps.map pt)] = some (.int .i64 (relX b ps)) := told (q27 (d + 13) _ _ _ _ _) (by
  refine Eq.trans (hop_eq (by rfl)) ?_; refine Eq.trans (hop_eq (by rfl)) ?_; refine Eq.trans (pl_agg (by rfl) (by rfl)) ?_; refine Eq.trans (pl_int (by rfl)) ?_; refine Eq.trans (pl_int (by rfl)) ?_; refine Eq.trans (pl_int (by rfl)) ?_; refine Eq.trans (pl_int (by rfl)) ?_
  refine Eq.trans (pl_bool (s12 (d + 10) b)) ?_
  unfold relX
  cases rightX b
  · rfl
  · refine Eq.trans (pl_f (by rfl)) ?_; refine Eq.trans (snp_free (by rfl)) ?_
    refine Eq.trans (pl_bool (s43 (d + 1) ps hl)) ?_
    refine Eq.trans (pl_len (by rfl)) ?_
    cases rightB ps
    · rfl
    · refine Eq.trans (pl_f (by rfl)) ?_; refine Eq.trans (hop_eq (by rfl)) ?_; refine Eq.trans (pl_int (by rfl)) ?_
      rw [pmap_len]
      exact prel d b ps hl ps.length 0 1000000000000000000 _ (by omega) (by omega) rfl)
end Go.Proofs.Ytjblhppbjebagaa.AE

namespace Go.Proofs.Ytjblhppbjebagaa.AE
set_option linter.unusedVariables false
set_option linter.unusedSimpArgs false
set_option linter.constructorNameAsVariable false
open Go Go.Proofs.Ytjblhppbjebagaa.Geo

theorem s61 (d : Nat) (x : Int) (h : -9223372036854775808 ≤ x) (h' : x < 9223372036854775808) : pcall M (d + 1) 61 [.int .i64 x] = some (.agg [.int .i64 (hiw x), .int .u64 (low x)]) := told (r61 C0 d x) (by
  rw [show ((2 : Int) ^ (min (Int.toNat 63) 64)) = 9223372036854775808 from by decide, Int.fdiv_eq_ediv_of_nonneg x (by decide)]
  have e1 : x / 9223372036854775808 = hiw x := by unfold hiw; rw [i64w]; omega
  have e2 : IntKind.wrap .u64 x = low x := by unfold low; rw [u64w]
  rw [e1, e2])
def fitB (v : Int) : Bool := decide (-9223372036854775808 ≤ v ∧ v < 9223372036854775808)
theorem s72 (d : Nat) (v : Int) (h : -170141183460469231731687303715884105728 ≤ v) (h' : v < 170141183460469231731687303715884105728) : pcall M (d + 2) 72 [.agg [.int .i64 (hiw v), .int .u64 (low v)]] = some (.tup [.int .i64 (if fitB v then v else 0), .bool (fitB v)]) := told (r72 C0 (d + 1) _ _) (by
  have hw : -9223372036854775808 ≤ IntKind.wrap .i64 (low v) ∧ IntKind.wrap .i64 (low v) < 9223372036854775808 := by rw [i64w]; omega
  rw [s61 d _ hw.1 hw.2, C0_agg2]
  simp only [at0, at1, C0_int]
  by_cases hf : fitB v = true
  · have h2 := of_decide_eq_true hf
    have e : IntKind.wrap .i64 (low v) = v := by unfold low; rw [i64w]; omega
    rw [e, hf]
    simp [cnd_f]
  · have h2 : ¬ (-9223372036854775808 ≤ v ∧ v < 9223372036854775808) := fun g => hf (decide_eq_true g)
    have e : (hiw (IntKind.wrap .i64 (low v)) == hiw v) = false := by
      rw [beq_eq_false_iff_ne]
      unfold hiw low
      rw [i64w, i64w, i64w]
      omega
    rw [e, Bool.eq_false_iff.mpr hf]
    simp [cnd_t])
theorem s60 (d : Nat) (v : Int) (h : -170141183460469231731687303715884105728 ≤ v) (h' : v < 170141183460469231731687303715884105728) : pcall M (d + 3) 60 [.agg [.int .i64 (hiw v), .int .u64 (low v)], .bool true] = some (.tup [.int .i64 (if fitB v then v else 0), .bool (fitB v)]) := told (r60 C0 (d + 2) _ _ true) (by
  rw [s72 d v h h', C0_tup2]
  simp only [at0, at1, C0_int, C0_bool, Bool.not_true, cnd_f])
end Go.Proofs.Ytjblhppbjebagaa.AE

namespace Go.Proofs.Ytjblhppbjebagaa.AE
set_option linter.unusedVariables false
set_option linter.unusedSimpArgs false
set_option linter.constructorNameAsVariable false
open Go Go.Proofs.Ytjblhppbjebagaa.Geo

theorem add64_e (x y c : Int) (hx : 0 ≤ x) (hy : 0 ≤ y) (hc : 0 ≤ c) (hc' : c ≤ 1) : add64E [.int .u64 x, .int .u64 y, .int .u64 c] = some (.tup [.int .u64 ((x + y + c) % 18446744073709551616), .int .u64 ((x + y + c) / 18446744073709551616)]) := by
  simp [add64E, hx, hy, hc, hc']
theorem s62 (d : Nat) (x y : Int) (hx : -9223372036854775808 ≤ x) (hx' : x < 9223372036854775808) (hy : -9223372036854775808 ≤ y) (hy' : y < 9223372036854775808) :
    pcall M (d + 1) 62 [.agg [.int .i64 (hiw x), .int .u64 (low x)], .agg [.int .i64 (hiw y), .int .u64 (low y)]] = some (.tup [.agg [.int .i64 (hiw (x + y)), .int .u64 (low (x + y))], .bool true]) := told (r62 C0 d _ _ _ _) (by
  have l0 : 0 ≤ low x ∧ low x < 18446744073709551616 := by unfold low; omega
  have l1 : 0 ≤ low y ∧ low y < 18446744073709551616 := by unfold low; omega
  have hhx : hiw x = if x < 0 then -1 else 0 := by unfold hiw; rw [i64w]; split <;> omega
  have hhy : hiw y = if y < 0 then -1 else 0 := by unfold hiw; rw [i64w]; split <;> omega
  rw [add64_e _ _ _ l0.1 l1.1 (by decide) (by decide), C0_tup2]
  simp only [at0, at1, C0_int]
  rw [add64_e _ _ _ (by rw [u64w]; omega) (by rw [u64w]; omega) (by omega) (by omega), C0_tup2]
  simp only [at0, at1, C0_int, Int.add_zero]
  have e1 : (low x + low y) % 18446744073709551616 = low (x + y) := by unfold low; omega
  have e2 : IntKind.wrap .i64 ((IntKind.wrap .u64 (hiw x) + IntKind.wrap .u64 (hiw y) + (low x + low y) / 18446744073709551616) % 18446744073709551616) = hiw (x + y) := by
    rw [u64w, u64w, i64w]
    have : hiw (x + y) = (x + y) / 18446744073709551616 := by unfold hiw; rw [i64_small (by omega) (by omega)]
    rw [this, hhx, hhy]
    unfold low
    split <;> split <;> omega
  rw [e1, e2]
  have hs : hiw (x + y) = if x + y < 0 then -1 else 0 := by unfold hiw; rw [i64w]; split <;> omega
  have b1 := bits_rng_i64 .xor (hiw x) (hiw (x + y))
  have b2 := bits_rng_i64 .xor (hiw y) (hiw (x + y))
  have key : ¬ Go.bits .and .i64 (Go.bits .xor .i64 (hiw x) (hiw (x + y))) (Go.bits .xor .i64 (hiw y) (hiw (x + y))) < 0 := by
    rw [bits_and_sgn _ _ b1.1 b1.2 b2.1 b2.2, bits_xor_sgn _ _ (by rw [hhx]; split <;> omega) (by rw [hhx]; split <;> omega) (by rw [hs]; split <;> omega) (by rw [hs]; split <;> omega), bits_xor_sgn _ _ (by rw [hhy]; split <;> omega) (by rw [hhy]; split <;> omega) (by rw [hs]; split <;> omega) (by rw [hs]; split <;> omega), hhx, hhy, hs]
    split <;> split <;> split <;> omega
  rw [decide_eq_false key, cnd_f])
theorem s48 (d : Nat) (x y : Int) (hx : -9223372036854775808 ≤ x) (hx' : x < 9223372036854775808) (hy : -9223372036854775808 ≤ y) (hy' : y < 9223372036854775808) :
    pcall M (d + 4) 48 [.int .i64 x, .int .i64 y] = some (.tup [.int .i64 (if fitB (x + y) then x + y else 0), .bool (fitB (x + y))]) := told (r48 C0 (d + 3) _ _) (by
  rw [s61 (d + 2) x hx hx', s61 (d + 2) y hy hy', C0_agg2]
  simp only [at0, at1, C0_int, C0_agg2]
  rw [s62 (d + 2) x y hx hx' hy hy', C0_tup2]
  simp only [at0, at1, C0_int, C0_agg2, C0_bool]
  rw [s60 d (x + y) (by omega) (by omega), C0_tup2]
  simp only [at0, at1, C0_int, C0_bool])
end Go.Proofs.Ytjblhppbjebagaa.AE

namespace Go.Proofs.Ytjblhppbjebagaa.AE
set_option linter.unusedVariables false
set_option linter.unusedSimpArgs false
set_option linter.constructorNameAsVariable false
open Go Go.Proofs.Ytjblhppbjebagaa.Geo
/-- Inside of 64 bits. -/
def In64 (x : Int) : Prop := -9223372036854775808 ≤ x ∧ x < 9223372036854775808
def mvB (p : Pt) (x y : Int) : Bool := decide (OkP p ∧ OkP (mv p x y))
theorem mvB_t {p : Pt} {x y : Int} : mvB p x y = true ↔ OkP p ∧ OkP (mv p x y) := decide_eq_true_iff
theorem fit_ok {x : Int} (h : Okc x) : fitB x = true := decide_eq_true (by unfold Okc at h; omega)
theorem s32 (d : Nat) (p : Pt) (x y : Int) (h1 : In64 p.1) (h2 : In64 p.2) (h3 : In64 x) (h4 : In64 y) :
    pcall M (d + 7) 32 [pt p, .int .i64 x, .int .i64 y] = some (if mvB p x y then .tup [pt (mv p x y), .bool true] else .tup [pt (0, 0), .bool false]) := told (r32 C0 (d + 6) _ _ _ _) (by
  rw [s48 (d + 2) _ _ h1.1 h1.2 h3.1 h3.2, C0_tup2]
  simp only [at0, at1, C0_int, C0_bool]
  rw [s48 (d + 2) _ _ h2.1 h2.2 h4.1 h4.2, C0_tup2]
  simp only [at0, at1, C0_int, C0_bool]
  by_cases f1 : fitB (p.1 + x) = true
  · by_cases f2 : fitB (p.2 + y) = true
    · rw [f1, f2]
      simp only [if_true]
      have h22 : pcall M (d + 6) 49 [.lst [.agg [.int .i64 p.1, .int .i64 p.2], .agg [.int .i64 (p.1 + x), .int .i64 (p.2 + y)]]] = some (.bool (okB [p, mv p x y])) := s49 d [p, mv p x y] (by simp)
      rw [h22, C0_bool]
      have hk : okB [p, mv p x y] = mvB p x y := by rw [Bool.eq_iff_iff, okB_t, mvB_t]; simp
      rw [hk]
      cases mvB p x y <;> rfl
    · have hm : ¬ mvB p x y = true := fun g => f2 (fit_ok (mvB_t.mp g).2.2)
      rw [if_neg hm, f1, Bool.eq_false_iff.mpr f2]; rfl
  · have hm : ¬ mvB p x y = true := fun g => f1 (fit_ok (mvB_t.mp g).2.1)
    rw [if_neg hm, Bool.eq_false_iff.mpr f1]; rfl)
end Go.Proofs.Ytjblhppbjebagaa.AE

namespace Go.Proofs.Ytjblhppbjebagaa.AE
set_option linter.unusedVariables false
set_option linter.unusedSimpArgs false
set_option linter.constructorNameAsVariable false
open Go Go.Proofs.Ytjblhppbjebagaa.Geo

theorem s34 (d : Nat) (a b c e : Int) : pcall M (d + 1) 34 [.int .i64 a, .int .i64 b, .int .i64 c, .int .i64 e] = some (bx ((a, b), (c, e))) := told (r34 C0 d _ _ _ _) rfl
def clampX (n lo hi : Int) : Int := if n < lo then lo else if n > hi then hi else n
theorem s36 (d : Nat) (n lo hi : Int) : pcall M (d + 1) 36 [.int .i64 n, .int .i64 lo, .int .i64 hi] = some (.int .i64 (clampX n lo hi)) := told (r36 C0 d _ _ _) (by
  unfold clampX
  by_cases h : n < lo
  · rw [decide_eq_true h, cnd_t, if_pos h]
  · rw [decide_eq_false h, cnd_f, if_neg h]
    by_cases h2 : n > hi
    · rw [decide_eq_true h2, cnd_t, if_pos h2]
    · rw [decide_eq_false h2, cnd_f, if_neg h2])
def holdX (n : Int) : Int := clampX n (-1099511627776) 1099511627776
theorem s37 (d : Nat) (n : Int) : pcall M (d + 2) 37 [.int .i64 n] = some (.int .i64 (holdX n)) := told (r37 C0 (d + 1) _) (by
  exact pl_int (s36 d n _ _))
def ofX (p : Pt) (n : Int) : Bx := bif okb p then ((holdX (p.1 - clampX n 0 4398046511104), holdX (p.2 - clampX n 0 4398046511104)), (holdX (p.1 + clampX n 0 4398046511104), holdX (p.2 + clampX n 0 4398046511104))) else ((0, 0), (0, 0))
theorem clamp_rng (n : Int) : 0 ≤ clampX n 0 4398046511104 ∧ clampX n 0 4398046511104 ≤ 4398046511104 := by unfold clampX; split <;> (try split) <;> omega
theorem s14 (d : Nat) (p : Pt) (n : Int) : pcall M (d + 3) 14 [pt p, .int .i64 n] = some (bx (ofX p n)) := told (r14 C0 (d + 2) _ _ _) (by
  refine Eq.trans (pl_bool (s35 d p)) ?_
  change cnd (!okb p) _ _ = _
  unfold ofX
  cases hp : okb p
  · rfl
  · refine Eq.trans (pl_f (by rfl)) ?_
    obtain ⟨⟨h1, h2⟩, h3, h4⟩ := okb_t.mp hp
    have c := clamp_rng n
    refine Eq.trans (pl_int (s36 (d + 1) n 0 4398046511104)) ?_
    rw [i64_small (n := p.1 - clampX n 0 4398046511104) (by omega) (by omega), i64_small (n := p.2 - clampX n 0 4398046511104) (by omega) (by omega), i64_small (n := p.1 + clampX n 0 4398046511104) (by omega) (by omega), i64_small (n := p.2 + clampX n 0 4398046511104) (by omega) (by omega)]
    refine Eq.trans (pl_int (s37 d _)) ?_
    refine Eq.trans (pl_int (s37 d _)) ?_
    refine Eq.trans (pl_int (s37 d _)) ?_
    exact pl_int (s37 d _))
def zB : Bx := ((0, 0), (0, 0))
def joinX (a b : Bx) : Bx := bif rightX a then bif rightX b then ((min a.1.1 b.1.1, min a.1.2 b.1.2), (max a.2.1 b.2.1, max a.2.2 b.2.2)) else a else bif rightX b then b else zB
theorem mn (x y : Int) : (if y < x then y else x) = min x y := by omega
theorem mx (x y : Int) : (if y > x then y else x) = max x y := by omega
theorem s19 (d : Nat) (a b : Bx) : pcall M (d + 4) 19 [bx a, bx b] = some (bx (joinX a b)) := told (r19 C0 (d + 3) _ _ _ _ _ _ _ _) (by
  refine Eq.trans (pl_bool (s12 d a)) ?_
  unfold joinX
  cases h1 : rightX a
  · refine Eq.trans (pl_f (by rfl)) ?_
    refine Eq.trans (pl_bool (s12 d a)) ?_
    rw [h1]
    refine Eq.trans (pl_f (by rfl)) ?_
    refine Eq.trans (pl_bool (s12 d b)) ?_
    cases rightX b <;> rfl
  · refine Eq.trans (pl_len (by rfl)) ?_
    refine Eq.trans (pl_bool (s12 d b)) ?_
    cases h2 : rightX b
    · refine Eq.trans (pl_f (by rfl)) ?_
      refine Eq.trans (pl_bool (s12 d a)) ?_
      rw [h1]; rfl
    · refine Eq.trans (pl_len (by rfl)) ?_
      rw [mn, mn, mx, mx]; rfl)
def growB (b : Bx) (n : Int) : Bool := decide (0 ≤ n) && (rightX b && (mvB b.1 (-n) (-n) && mvB b.2 n n))
def growX (b : Bx) (n : Int) : Bx := bif growB b n then (mv b.1 (-n) (-n), mv b.2 n n) else zB
theorem neg64 {n : Int} (h : In64 n) : In64 (IntKind.wrap .i64 (0 - n)) := by unfold In64; rw [i64w]; omega
theorem s9 (d : Nat) (b : Bx) (n : Int) (h1 : In64 b.1.1) (h2 : In64 b.1.2) (h3 : In64 b.2.1) (h4 : In64 b.2.2) (h5 : In64 n) :
    pcall M (d + 8) 9 [bx b, .int .i64 n] = some (.tup [bx (growX b n), .bool (growB b n)]) := told (r9 C0 (d + 7) _ _ _ _ _) (by
  have m1 := s32 d b.1 (IntKind.wrap .i64 (0 - n)) (IntKind.wrap .i64 (0 - n)) h1 h2 (neg64 h5) (neg64 h5)
  have m2 := s32 d b.2 n n h3 h4 h5 h5
  simp only [pt] at m1 m2
  rw [m1, m2]
  have fin : (some (AV.tup [.agg [.int .i64 0, .int .i64 0, .int .i64 0, .int .i64 0], .bool false]) : Ans) = some (.tup [bx (growX b n), .bool (growB b n)]) ↔ growB b n = false := by
    constructor
    · intro h; simp at h; exact h.2
    · intro h; unfold growX; rw [h]; rfl
  by_cases c0 : n < 0
  · have g : growB b n = false := by unfold growB; rw [decide_eq_false (by omega)]; rfl
    cases mvB b.1 (IntKind.wrap .i64 (0 - n)) (IntKind.wrap .i64 (0 - n)) <;> cases mvB b.2 n n <;> (refine Eq.trans (pl_tup (by rfl) (by rfl)) ?_; refine Eq.trans (pl_agg (by rfl) (by rfl)) ?_; refine Eq.trans (pl_int (by rfl)) ?_; refine Eq.trans (pl_int (by rfl)) ?_; refine Eq.trans (pl_bool (by rfl)) ?_; refine Eq.trans (pl_tup (by rfl) (by rfl)) ?_; refine Eq.trans (pl_agg (by rfl) (by rfl)) ?_; refine Eq.trans (pl_int (by rfl)) ?_; refine Eq.trans (pl_int (by rfl)) ?_; refine Eq.trans (pl_bool (by rfl)) ?_; rw [decide_eq_true c0, cnd_t]; exact fin.mpr g)
  · have e : IntKind.wrap .i64 (0 - n) = -n := by rw [i64w]; unfold In64 at h5; omega
    rw [e, decide_eq_false c0]
    have g : growB b n = (rightX b && (mvB b.1 (-n) (-n) && mvB b.2 n n)) := by unfold growB; rw [decide_eq_true (by omega), Bool.true_and]
    have r := s12 (d + 4) b
    simp only [bx] at r
    rw [r]
    cases hr : rightX b <;> cases hm1 : mvB b.1 (-n) (-n) <;> cases hm2 : mvB b.2 n n
    all_goals rw [hr, hm1, hm2] at g
    all_goals first
      | (refine Eq.trans (pl_tup (by rfl) (by rfl)) ?_; refine Eq.trans (pl_agg (by rfl) (by rfl)) ?_; refine Eq.trans (pl_int (by rfl)) ?_; refine Eq.trans (pl_int (by rfl)) ?_; refine Eq.trans (pl_bool (by rfl)) ?_; refine Eq.trans (pl_tup (by rfl) (by rfl)) ?_; refine Eq.trans (pl_agg (by rfl) (by rfl)) ?_; refine Eq.trans (pl_int (by rfl)) ?_; refine Eq.trans (pl_int (by rfl)) ?_; refine Eq.trans (pl_bool (by rfl)) ?_; refine Eq.trans (pl_f (by rfl)) ?_; refine Eq.trans (pl_bool (by rfl)) ?_; exact fin.mpr g)
      | (refine Eq.trans (pl_tup (by rfl) (by rfl)) ?_; refine Eq.trans (pl_agg (by rfl) (by rfl)) ?_; refine Eq.trans (pl_int (by rfl)) ?_; refine Eq.trans (pl_int (by rfl)) ?_; refine Eq.trans (pl_bool (by rfl)) ?_; refine Eq.trans (pl_tup (by rfl) (by rfl)) ?_; refine Eq.trans (pl_agg (by rfl) (by rfl)) ?_; refine Eq.trans (pl_int (by rfl)) ?_; refine Eq.trans (pl_int (by rfl)) ?_; refine Eq.trans (pl_bool (by rfl)) ?_; refine Eq.trans (pl_f (by rfl)) ?_; refine Eq.trans (pl_bool (by rfl)) ?_; unfold growX; rw [g]; rfl))
end Go.Proofs.Ytjblhppbjebagaa.AE

namespace Go.Proofs.Ytjblhppbjebagaa.AE
set_option linter.unusedVariables false
set_option linter.unusedSimpArgs false
set_option linter.constructorNameAsVariable false
open Go Go.Proofs.Ytjblhppbjebagaa.Geo

theorem sideUp_on (ps : List Pt) (p : Pt) : ∀ (m i : Nat) (o : Bool), (∃ j, i ≤ j ∧ j < i + m ∧ onB p (vv ps j) (vv ps (nx ps j)) = true) → sideUp ps p m i o = 0
  | 0, i, o, ⟨j, h1, h2, _⟩ => (by omega)
  | m + 1, i, o, ⟨j, h1, h2, h3⟩ => by
    simp only [sideUp]
    cases h : onB p (vv ps i) (vv ps (nx ps i))
    · have hj : j ≠ i := fun e => by subst e; rw [h] at h3; cases h3
      exact sideUp_on ps p m (i + 1) _ ⟨j, by omega, by omega, h3⟩
    · rfl
theorem MeetB_one {p a b : Pt} : MeetB p.1 p.2 p.1 p.2 a b ↔ On p a b := by
  have hb : ∀ q : Pt, HasB p.1 p.2 p.1 p.2 q ↔ q = p := fun q => by
    unfold HasB
    exact ⟨fun h => Prod.ext (by omega) (by omega), fun h => by subst h; omega⟩
  unfold MeetB
  rw [hb, hb, show ((p.1, p.2) : Pt) = p from rfl]
  simp only [Meet_cc, or_self]
  constructor
  · rintro (h | h | h)
    · subst h; exact On_a _ _
    · subst h; exact On_b _ _
    · exact h
  · intro h; exact .inr (.inr h)
theorem relX_one {ps : List Pt} {p : Pt} (hr : rightB ps = true) (hp : okb p = true) : relX (p, p) ps = sideB ps p := by
  have ok := (right_ok hr).2.2
  have op := okb_t.mp hp
  have hx : rightX (p, p) = true := rightX_t.mpr ⟨op, op, Int.le_refl _, Int.le_refl _⟩
  have on : ∀ i, i < ps.length → meetsX (p, p) (vv ps i) (vv ps (nx ps i)) = onB p (vv ps i) (vv ps (nx ps i)) := by
    intro i hi
    have oa := vv_ok ok hi
    have ob := vv_ok ok (nx_lt hi)
    rw [Bool.eq_iff_iff, onB_t]
    unfold meetsX
    simp only [Bool.and_eq_true, okb_t, decide_eq_true_iff, hx, MeetB_one]
    exact ⟨fun h => ⟨⟨op, oa, ob⟩, h.2.2.2⟩, fun h => ⟨trivial, oa, ob, h.2⟩⟩
  unfold relX
  rw [hx, hr]
  simp only [cond_true]
  cases hu : upAny (fun i => meetsX (p, p) (vv ps i) (vv ps (nx ps i))) ps.length 0
  · rfl
  · obtain ⟨j, h1, h2, h3⟩ := (upAny_iff _ _ _).mp hu
    rw [on j (by omega)] at h3
    unfold sideB
    rw [hr, hp]
    exact (sideUp_on ps p ps.length 0 false ⟨j, h1, h2, h3⟩).symm
theorem ofX_one {p : Pt} (hp : okb p = true) : ofX p 0 = (p, p) := by
  obtain ⟨⟨h1, h2⟩, h3, h4⟩ := okb_t.mp hp
  have hold : ∀ x, -1099511627776 ≤ x → x ≤ 1099511627776 → holdX x = x := fun x a b => by unfold holdX clampX; rw [if_neg (by omega), if_neg (by omega)]
  have c : clampX 0 0 4398046511104 = 0 := by decide
  unfold ofX
  rw [hp, c]
  simp only [cond_true, Int.sub_zero, Int.add_zero]
  rw [hold _ h1 h2, hold _ h3 h4]
end Go.Proofs.Ytjblhppbjebagaa.AE

namespace Go.Proofs.Ytjblhppbjebagaa.AE
set_option linter.unusedVariables false
set_option linter.unusedSimpArgs false
set_option linter.constructorNameAsVariable false
open Go
set_option maxRecDepth 100000
/-- apogee/apogeelaw12.awake -/
theorem r11 (C : Cb) (d : Nat)  : xcall C M unr d 11 [] =
  C.agg 4 (pcall M d 34 [(.int .i64 1), (.int .i64 1), (.int .i64 2), (.int .i64 2)]) fun l0 =>
  C.int .i64 l0[0]? fun x1 =>
  C.int .i64 l0[1]? fun x2 =>
  C.int .i64 l0[2]? fun x3 =>
  C.int .i64 l0[3]? fun x4 =>
  C.tup 2 (pcall M d 9 [(.agg [(.int .i64 x1), (.int .i64 x2), (.int .i64 x3), (.int .i64 x4)]), (.int .i64 1)]) fun l5 =>
  C.agg 4 l5[0]? fun l6 =>
  C.int .i64 l6[0]? fun x7 =>
  C.int .i64 l6[1]? fun x8 =>
  C.int .i64 l6[2]? fun x9 =>
  C.int .i64 l6[3]? fun x10 =>
  C.bool l5[1]? fun b11 =>
  C.agg 4 (pcall M d 34 [(.int .i64 1), (.int .i64 1), (.int .i64 2), (.int .i64 2)]) fun l12 =>
  C.int .i64 l12[0]? fun x13 =>
  C.int .i64 l12[1]? fun x14 =>
  C.int .i64 l12[2]? fun x15 =>
  C.int .i64 l12[3]? fun x16 =>
  C.tup 2 (pcall M d 9 [(.agg [(.int .i64 x13), (.int .i64 x14), (.int .i64 x15), (.int .i64 x16)]), (.int .i64 (-1))]) fun l17 =>
  C.agg 4 l17[0]? fun l18 =>
  C.int .i64 l18[0]? fun x19 =>
  C.int .i64 l18[1]? fun x20 =>
  C.int .i64 l18[2]? fun x21 =>
  C.int .i64 l18[3]? fun x22 =>
  C.bool l17[1]? fun b23 =>
  C.agg 4 (pcall M d 34 [(.int .i64 1), (.int .i64 1), (.int .i64 2), (.int .i64 2)]) fun l24 =>
  C.int .i64 l24[0]? fun x25 =>
  C.int .i64 l24[1]? fun x26 =>
  C.int .i64 l24[2]? fun x27 =>
  C.int .i64 l24[3]? fun x28 =>
  C.bool (pcall M d 12 [(.agg [(.int .i64 x25), (.int .i64 x26), (.int .i64 x27), (.int .i64 x28)])]) fun b29 =>
  cnd b29
   (C.agg 4 (pcall M d 34 [(.int .i64 2), (.int .i64 1), (.int .i64 1), (.int .i64 2)]) fun l30 =>
   C.int .i64 l30[0]? fun x31 =>
   C.int .i64 l30[1]? fun x32 =>
   C.int .i64 l30[2]? fun x33 =>
   C.int .i64 l30[3]? fun x34 =>
   C.bool (pcall M d 12 [(.agg [(.int .i64 x31), (.int .i64 x32), (.int .i64 x33), (.int .i64 x34)])]) fun b35 =>
   cnd (!b35)
   (C.agg 4 (pcall M d 14 [(.agg [(.int .i64 5), (.int .i64 0)]), (.int .i64 2)]) fun l36 =>
   C.int .i64 l36[0]? fun x37 =>
   C.int .i64 l36[1]? fun x38 =>
   C.int .i64 l36[2]? fun x39 =>
   C.int .i64 l36[3]? fun x40 =>
   C.agg 4 (pcall M d 34 [(.int .i64 3), (.int .i64 (-2)), (.int .i64 7), (.int .i64 2)]) fun l41 =>
   C.int .i64 l41[0]? fun x42 =>
   C.int .i64 l41[1]? fun x43 =>
   C.int .i64 l41[2]? fun x44 =>
   C.int .i64 l41[3]? fun x45 =>
   cnd (xor false ((x37 == x42) && ((x38 == x43) && ((x39 == x44) && ((x40 == x45) && true)))))
   (C.agg 4 (pcall M d 34 [(.int .i64 1), (.int .i64 1), (.int .i64 2), (.int .i64 2)]) fun l46 =>
   C.int .i64 l46[0]? fun x47 =>
   C.int .i64 l46[1]? fun x48 =>
   C.int .i64 l46[2]? fun x49 =>
   C.int .i64 l46[3]? fun x50 =>
   C.bool (pcall M d 15 [(.agg [(.int .i64 x47), (.int .i64 x48), (.int .i64 x49), (.int .i64 x50)]), (.agg [(.int .i64 2), (.int .i64 1)])]) fun b51 =>
   cnd b51
   (C.agg 4 (pcall M d 34 [(.int .i64 1), (.int .i64 1), (.int .i64 2), (.int .i64 2)]) fun l52 =>
   C.int .i64 l52[0]? fun x53 =>
   C.int .i64 l52[1]? fun x54 =>
   C.int .i64 l52[2]? fun x55 =>
   C.int .i64 l52[3]? fun x56 =>
   C.agg 4 (pcall M d 34 [(.int .i64 0), (.int .i64 1), (.int .i64 3), (.int .i64 3)]) fun l57 =>
   C.int .i64 l57[0]? fun x58 =>
   C.int .i64 l57[1]? fun x59 =>
   C.int .i64 l57[2]? fun x60 =>
   C.int .i64 l57[3]? fun x61 =>
   C.bool (pcall M d 17 [(.agg [(.int .i64 x53), (.int .i64 x54), (.int .i64 x55), (.int .i64 x56)]), (.agg [(.int .i64 x58), (.int .i64 x59), (.int .i64 x60), (.int .i64 x61)])]) fun b62 =>
   cnd b62
   (C.agg 4 (pcall M d 34 [(.int .i64 0), (.int .i64 1), (.int .i64 3), (.int .i64 3)]) fun l63 =>
   C.int .i64 l63[0]? fun x64 =>
   C.int .i64 l63[1]? fun x65 =>
   C.int .i64 l63[2]? fun x66 =>
   C.int .i64 l63[3]? fun x67 =>
   C.agg 4 (pcall M d 34 [(.int .i64 1), (.int .i64 1), (.int .i64 2), (.int .i64 2)]) fun l68 =>
   C.int .i64 l68[0]? fun x69 =>
   C.int .i64 l68[1]? fun x70 =>
   C.int .i64 l68[2]? fun x71 =>
   C.int .i64 l68[3]? fun x72 =>
   C.bool (pcall M d 17 [(.agg [(.int .i64 x64), (.int .i64 x65), (.int .i64 x66), (.int .i64 x67)]), (.agg [(.int .i64 x69), (.int .i64 x70), (.int .i64 x71), (.int .i64 x72)])]) fun b73 =>
   cnd (!b73)
   (C.agg 4 (pcall M d 34 [(.int .i64 0), (.int .i64 0), (.int .i64 1), (.int .i64 1)]) fun l74 =>
   C.int .i64 l74[0]? fun x75 =>
   C.int .i64 l74[1]? fun x76 =>
   C.int .i64 l74[2]? fun x77 =>
   C.int .i64 l74[3]? fun x78 =>
   C.agg 4 (pcall M d 34 [(.int .i64 3), (.int .i64 3), (.int .i64 4), (.int .i64 4)]) fun l79 =>
   C.int .i64 l79[0]? fun x80 =>
   C.int .i64 l79[1]? fun x81 =>
   C.int .i64 l79[2]? fun x82 =>
   C.int .i64 l79[3]? fun x83 =>
   C.agg 4 (pcall M d 19 [(.agg [(.int .i64 x75), (.int .i64 x76), (.int .i64 x77), (.int .i64 x78)]), (.agg [(.int .i64 x80), (.int .i64 x81), (.int .i64 x82), (.int .i64 x83)])]) fun l84 =>
   C.int .i64 l84[0]? fun x85 =>
   C.int .i64 l84[1]? fun x86 =>
   C.int .i64 l84[2]? fun x87 =>
   C.int .i64 l84[3]? fun x88 =>
   C.agg 4 (pcall M d 34 [(.int .i64 0), (.int .i64 0), (.int .i64 4), (.int .i64 4)]) fun l89 =>
   C.int .i64 l89[0]? fun x90 =>
   C.int .i64 l89[1]? fun x91 =>
   C.int .i64 l89[2]? fun x92 =>
   C.int .i64 l89[3]? fun x93 =>
   cnd (xor false ((x85 == x90) && ((x86 == x91) && ((x87 == x92) && ((x88 == x93) && true)))))
   (C.agg 4 (pcall M d 34 [(.int .i64 0), (.int .i64 0), (.int .i64 3), (.int .i64 3)]) fun l94 =>
   C.int .i64 l94[0]? fun x95 =>
   C.int .i64 l94[1]? fun x96 =>
   C.int .i64 l94[2]? fun x97 =>
   C.int .i64 l94[3]? fun x98 =>
   cnd (xor false ((x7 == x95) && ((x8 == x96) && ((x9 == x97) && ((x10 == x98) && true)))))
   (cnd b11
   (cnd (!b23)
   (C.agg 4 (pcall M d 34 [(.int .i64 1), (.int .i64 1), (.int .i64 2), (.int .i64 2)]) fun l99 =>
   C.int .i64 l99[0]? fun x100 =>
   C.int .i64 l99[1]? fun x101 =>
   C.int .i64 l99[2]? fun x102 =>
   C.int .i64 l99[3]? fun x103 =>
   C.bool (pcall M d 24 [(.agg [(.int .i64 x100), (.int .i64 x101), (.int .i64 x102), (.int .i64 x103)]), (.agg [(.int .i64 0), (.int .i64 0)]), (.agg [(.int .i64 3), (.int .i64 3)])]) fun b104 =>
   cnd b104
   (C.agg 4 (pcall M d 34 [(.int .i64 1), (.int .i64 1), (.int .i64 2), (.int .i64 2)]) fun l105 =>
   C.int .i64 l105[0]? fun x106 =>
   C.int .i64 l105[1]? fun x107 =>
   C.int .i64 l105[2]? fun x108 =>
   C.int .i64 l105[3]? fun x109 =>
   C.bool (pcall M d 24 [(.agg [(.int .i64 x106), (.int .i64 x107), (.int .i64 x108), (.int .i64 x109)]), (.agg [(.int .i64 0), (.int .i64 0)]), (.agg [(.int .i64 3), (.int .i64 0)])]) fun b110 =>
   cnd (!b110)
   (C.agg 4 (pcall M d 34 [(.int .i64 1), (.int .i64 1), (.int .i64 2), (.int .i64 2)]) fun l111 =>
   C.int .i64 l111[0]? fun x112 =>
   C.int .i64 l111[1]? fun x113 =>
   C.int .i64 l111[2]? fun x114 =>
   C.int .i64 l111[3]? fun x115 =>
   C.int .i64 (pcall M d 27 [(.agg [(.int .i64 x112), (.int .i64 x113), (.int .i64 x114), (.int .i64 x115)]), (.lst [(.agg [(.int .i64 0), (.int .i64 0)]), (.agg [(.int .i64 4), (.int .i64 0)]), (.agg [(.int .i64 4), (.int .i64 4)]), (.agg [(.int .i64 0), (.int .i64 4)])])]) fun x116 =>
   cnd (x116 == 1)
   (C.agg 4 (pcall M d 34 [(.int .i64 3), (.int .i64 3), (.int .i64 5), (.int .i64 5)]) fun l117 =>
   C.int .i64 l117[0]? fun x118 =>
   C.int .i64 l117[1]? fun x119 =>
   C.int .i64 l117[2]? fun x120 =>
   C.int .i64 l117[3]? fun x121 =>
   C.int .i64 (pcall M d 27 [(.agg [(.int .i64 x118), (.int .i64 x119), (.int .i64 x120), (.int .i64 x121)]), (.lst [(.agg [(.int .i64 0), (.int .i64 0)]), (.agg [(.int .i64 4), (.int .i64 0)]), (.agg [(.int .i64 4), (.int .i64 4)]), (.agg [(.int .i64 0), (.int .i64 4)])])]) fun x122 =>
   cnd (x122 == 0)
   (C.agg 4 (pcall M d 34 [(.int .i64 6), (.int .i64 6), (.int .i64 7), (.int .i64 7)]) fun l123 =>
   C.int .i64 l123[0]? fun x124 =>
   C.int .i64 l123[1]? fun x125 =>
   C.int .i64 l123[2]? fun x126 =>
   C.int .i64 l123[3]? fun x127 =>
   C.int .i64 (pcall M d 27 [(.agg [(.int .i64 x124), (.int .i64 x125), (.int .i64 x126), (.int .i64 x127)]), (.lst [(.agg [(.int .i64 0), (.int .i64 0)]), (.agg [(.int .i64 4), (.int .i64 0)]), (.agg [(.int .i64 4), (.int .i64 4)]), (.agg [(.int .i64 0), (.int .i64 4)])])]) fun x128 =>
   cnd (x128 == (-1))
   (C.agg 4 (pcall M d 34 [(.int .i64 1), (.int .i64 1), (.int .i64 2), (.int .i64 2)]) fun l129 =>
   C.int .i64 l129[0]? fun x130 =>
   C.int .i64 l129[1]? fun x131 =>
   C.int .i64 l129[2]? fun x132 =>
   C.int .i64 l129[3]? fun x133 =>
   C.lst (pcall M d 22 [(.agg [(.int .i64 x130), (.int .i64 x131), (.int .i64 x132), (.int .i64 x133)])]) (fun l134 =>
   some (.bool ((((List.length l134) : Nat) : Int) == 4)))
   (fun z135 =>
   some (.bool false)))
   (some (.bool false)))
   (some (.bool false)))
   (some (.bool false)))
   (some (.bool false)))
   (some (.bool false)))
   (some (.bool false)))
   (some (.bool false)))
   (some (.bool false)))
   (some (.bool false)))
   (some (.bool false)))
   (some (.bool false)))
   (some (.bool false)))
   (some (.bool false)))
   (some (.bool false)))
   (some (.bool false)) := by kernel_rfl
end Go.Proofs.Ytjblhppbjebagaa.AE

namespace Go.Proofs.Ytjblhppbjebagaa.AE
set_option linter.unusedVariables false
set_option linter.unusedSimpArgs false
set_option linter.constructorNameAsVariable false
open Go Go.Proofs.Ytjblhppbjebagaa.Geo
set_option maxRecDepth 100000
def sq4 : List Pt := [(0, 0), (4, 0), (4, 4), (0, 4)]
theorem awake : pcall M 40 11 [] = some (.bool true) := told (r11 C0 39) (by
  have i1 : In64 1 := by unfold In64; omega
  have i2 : In64 2 := by unfold In64; omega
  have im : In64 (-1) := by unfold In64; omega
  refine Eq.trans (pl_agg (s34 38 _ _ _ _) (by rfl)) ?_
  refine Eq.trans (pl_int (by rfl)) ?_; refine Eq.trans (pl_int (by rfl)) ?_; refine Eq.trans (pl_int (by rfl)) ?_; refine Eq.trans (pl_int (by rfl)) ?_
  refine Eq.trans (pl_tup (s9 31 ((1, 1), (2, 2)) 1 i1 i1 i2 i2 i1) (by rfl)) ?_
  rw [show growX ((1, 1), (2, 2)) 1 = ((0, 0), (3, 3)) by kernel_rfl, show growB ((1, 1), (2, 2)) 1 = true by kernel_rfl]
  refine Eq.trans (pl_agg (by rfl) (by rfl)) ?_; refine Eq.trans (pl_int (by rfl)) ?_; refine Eq.trans (pl_int (by rfl)) ?_; refine Eq.trans (pl_int (by rfl)) ?_; refine Eq.trans (pl_int (by rfl)) ?_; refine Eq.trans (pl_bool (by rfl)) ?_
  refine Eq.trans (pl_agg (s34 38 _ _ _ _) (by rfl)) ?_
  refine Eq.trans (pl_int (by rfl)) ?_; refine Eq.trans (pl_int (by rfl)) ?_; refine Eq.trans (pl_int (by rfl)) ?_; refine Eq.trans (pl_int (by rfl)) ?_
  refine Eq.trans (pl_tup (s9 31 ((1, 1), (2, 2)) (-1) i1 i1 i2 i2 im) (by rfl)) ?_
  rw [show growX ((1, 1), (2, 2)) (-1) = ((0, 0), (0, 0)) by kernel_rfl, show growB ((1, 1), (2, 2)) (-1) = false by kernel_rfl]
  refine Eq.trans (pl_agg (by rfl) (by rfl)) ?_; refine Eq.trans (pl_int (by rfl)) ?_; refine Eq.trans (pl_int (by rfl)) ?_; refine Eq.trans (pl_int (by rfl)) ?_; refine Eq.trans (pl_int (by rfl)) ?_; refine Eq.trans (pl_bool (by rfl)) ?_
  refine Eq.trans (pl_agg (s34 38 _ _ _ _) (by rfl)) ?_
  refine Eq.trans (pl_int (by rfl)) ?_; refine Eq.trans (pl_int (by rfl)) ?_; refine Eq.trans (pl_int (by rfl)) ?_; refine Eq.trans (pl_int (by rfl)) ?_
  refine Eq.trans (pl_bool (s12 36 ((1, 1), (2, 2)))) ?_
  rw [show rightX ((1, 1), (2, 2)) = true by kernel_rfl]
  refine Eq.trans (pl_len (by rfl)) ?_
  refine Eq.trans (pl_agg (s34 38 _ _ _ _) (by rfl)) ?_
  refine Eq.trans (pl_int (by rfl)) ?_; refine Eq.trans (pl_int (by rfl)) ?_; refine Eq.trans (pl_int (by rfl)) ?_; refine Eq.trans (pl_int (by rfl)) ?_
  refine Eq.trans (pl_bool (s12 36 ((2, 1), (1, 2)))) ?_
  rw [show rightX ((2, 1), (1, 2)) = false by kernel_rfl]
  refine Eq.trans (pl_len (by rfl)) ?_
  refine Eq.trans (pl_agg (s14 36 (5, 0) 2) (by rfl)) ?_
  rw [show ofX (5, 0) 2 = ((3, -2), (7, 2)) by kernel_rfl]
  refine Eq.trans (pl_int (by rfl)) ?_; refine Eq.trans (pl_int (by rfl)) ?_; refine Eq.trans (pl_int (by rfl)) ?_; refine Eq.trans (pl_int (by rfl)) ?_
  refine Eq.trans (pl_agg (s34 38 _ _ _ _) (by rfl)) ?_
  refine Eq.trans (pl_int (by rfl)) ?_; refine Eq.trans (pl_int (by rfl)) ?_; refine Eq.trans (pl_int (by rfl)) ?_; refine Eq.trans (pl_int (by rfl)) ?_; refine Eq.trans (pl_len (by rfl)) ?_
  refine Eq.trans (pl_agg (s34 38 _ _ _ _) (by rfl)) ?_
  refine Eq.trans (pl_int (by rfl)) ?_; refine Eq.trans (pl_int (by rfl)) ?_; refine Eq.trans (pl_int (by rfl)) ?_; refine Eq.trans (pl_int (by rfl)) ?_
  refine Eq.trans (pl_bool (s15 35 ((1, 1), (2, 2)) (2, 1))) ?_
  rw [show hasX ((1, 1), (2, 2)) (2, 1) = true by kernel_rfl]
  refine Eq.trans (pl_len (by rfl)) ?_
  refine Eq.trans (pl_agg (s34 38 _ _ _ _) (by rfl)) ?_
  refine Eq.trans (pl_int (by rfl)) ?_; refine Eq.trans (pl_int (by rfl)) ?_; refine Eq.trans (pl_int (by rfl)) ?_; refine Eq.trans (pl_int (by rfl)) ?_
  refine Eq.trans (pl_agg (s34 38 _ _ _ _) (by rfl)) ?_
  refine Eq.trans (pl_int (by rfl)) ?_; refine Eq.trans (pl_int (by rfl)) ?_; refine Eq.trans (pl_int (by rfl)) ?_; refine Eq.trans (pl_int (by rfl)) ?_
  refine Eq.trans (pl_bool (s17 34 ((1, 1), (2, 2)) ((0, 1), (3, 3)))) ?_
  rw [show inX ((1, 1), (2, 2)) ((0, 1), (3, 3)) = true by kernel_rfl]
  refine Eq.trans (pl_len (by rfl)) ?_
  refine Eq.trans (pl_agg (s34 38 _ _ _ _) (by rfl)) ?_
  refine Eq.trans (pl_int (by rfl)) ?_; refine Eq.trans (pl_int (by rfl)) ?_; refine Eq.trans (pl_int (by rfl)) ?_; refine Eq.trans (pl_int (by rfl)) ?_
  refine Eq.trans (pl_agg (s34 38 _ _ _ _) (by rfl)) ?_
  refine Eq.trans (pl_int (by rfl)) ?_; refine Eq.trans (pl_int (by rfl)) ?_; refine Eq.trans (pl_int (by rfl)) ?_; refine Eq.trans (pl_int (by rfl)) ?_
  refine Eq.trans (pl_bool (s17 34 ((0, 1), (3, 3)) ((1, 1), (2, 2)))) ?_
  rw [show inX ((0, 1), (3, 3)) ((1, 1), (2, 2)) = false by kernel_rfl]
  refine Eq.trans (pl_len (by rfl)) ?_
  refine Eq.trans (pl_agg (s34 38 _ _ _ _) (by rfl)) ?_
  refine Eq.trans (pl_int (by rfl)) ?_; refine Eq.trans (pl_int (by rfl)) ?_; refine Eq.trans (pl_int (by rfl)) ?_; refine Eq.trans (pl_int (by rfl)) ?_
  refine Eq.trans (pl_agg (s34 38 _ _ _ _) (by rfl)) ?_
  refine Eq.trans (pl_int (by rfl)) ?_; refine Eq.trans (pl_int (by rfl)) ?_; refine Eq.trans (pl_int (by rfl)) ?_; refine Eq.trans (pl_int (by rfl)) ?_
  refine Eq.trans (pl_agg (s19 35 ((0, 0), (1, 1)) ((3, 3), (4, 4))) (by rfl)) ?_
  rw [show joinX ((0, 0), (1, 1)) ((3, 3), (4, 4)) = ((0, 0), (4, 4)) by kernel_rfl]
  refine Eq.trans (pl_int (by rfl)) ?_; refine Eq.trans (pl_int (by rfl)) ?_; refine Eq.trans (pl_int (by rfl)) ?_; refine Eq.trans (pl_int (by rfl)) ?_
  refine Eq.trans (pl_agg (s34 38 _ _ _ _) (by rfl)) ?_
  refine Eq.trans (pl_int (by rfl)) ?_; refine Eq.trans (pl_int (by rfl)) ?_; refine Eq.trans (pl_int (by rfl)) ?_; refine Eq.trans (pl_int (by rfl)) ?_; refine Eq.trans (pl_len (by rfl)) ?_
  refine Eq.trans (pl_agg (s34 38 _ _ _ _) (by rfl)) ?_
  refine Eq.trans (pl_int (by rfl)) ?_; refine Eq.trans (pl_int (by rfl)) ?_; refine Eq.trans (pl_int (by rfl)) ?_; refine Eq.trans (pl_int (by rfl)) ?_; refine Eq.trans (pl_len (by rfl)) ?_; refine Eq.trans (pl_len (by rfl)) ?_; refine Eq.trans (pl_len (by rfl)) ?_
  refine Eq.trans (pl_agg (s34 38 _ _ _ _) (by rfl)) ?_
  refine Eq.trans (pl_int (by rfl)) ?_; refine Eq.trans (pl_int (by rfl)) ?_; refine Eq.trans (pl_int (by rfl)) ?_; refine Eq.trans (pl_int (by rfl)) ?_
  refine Eq.trans (pl_bool (s24 27 ((1, 1), (2, 2)) (0, 0) (3, 3))) ?_
  rw [show meetsX ((1, 1), (2, 2)) (0, 0) (3, 3) = true by kernel_rfl]
  refine Eq.trans (pl_len (by rfl)) ?_
  refine Eq.trans (pl_agg (s34 38 _ _ _ _) (by rfl)) ?_
  refine Eq.trans (pl_int (by rfl)) ?_; refine Eq.trans (pl_int (by rfl)) ?_; refine Eq.trans (pl_int (by rfl)) ?_; refine Eq.trans (pl_int (by rfl)) ?_
  refine Eq.trans (pl_bool (s24 27 ((1, 1), (2, 2)) (0, 0) (3, 0))) ?_
  rw [show meetsX ((1, 1), (2, 2)) (0, 0) (3, 0) = false by kernel_rfl]
  refine Eq.trans (pl_len (by rfl)) ?_
  refine Eq.trans (pl_agg (s34 38 _ _ _ _) (by rfl)) ?_
  refine Eq.trans (pl_int (by rfl)) ?_; refine Eq.trans (pl_int (by rfl)) ?_; refine Eq.trans (pl_int (by rfl)) ?_; refine Eq.trans (pl_int (by rfl)) ?_
  refine Eq.trans (pl_int (s27 25 ((1, 1), (2, 2)) sq4 (by decide))) ?_
  rw [show relX ((1, 1), (2, 2)) sq4 = 1 by kernel_rfl]
  refine Eq.trans (pl_len (by rfl)) ?_
  refine Eq.trans (pl_agg (s34 38 _ _ _ _) (by rfl)) ?_
  refine Eq.trans (pl_int (by rfl)) ?_; refine Eq.trans (pl_int (by rfl)) ?_; refine Eq.trans (pl_int (by rfl)) ?_; refine Eq.trans (pl_int (by rfl)) ?_
  refine Eq.trans (pl_int (s27 25 ((3, 3), (5, 5)) sq4 (by decide))) ?_
  rw [show relX ((3, 3), (5, 5)) sq4 = 0 by kernel_rfl]
  refine Eq.trans (pl_len (by rfl)) ?_
  refine Eq.trans (pl_agg (s34 38 _ _ _ _) (by rfl)) ?_
  refine Eq.trans (pl_int (by rfl)) ?_; refine Eq.trans (pl_int (by rfl)) ?_; refine Eq.trans (pl_int (by rfl)) ?_; refine Eq.trans (pl_int (by rfl)) ?_
  refine Eq.trans (pl_int (s27 25 ((6, 6), (7, 7)) sq4 (by decide))) ?_
  rw [show relX ((6, 6), (7, 7)) sq4 = -1 by kernel_rfl]
  refine Eq.trans (pl_len (by rfl)) ?_
  refine Eq.trans (pl_agg (s34 38 _ _ _ _) (by rfl)) ?_
  refine Eq.trans (pl_int (by rfl)) ?_; refine Eq.trans (pl_int (by rfl)) ?_; refine Eq.trans (pl_int (by rfl)) ?_; refine Eq.trans (pl_int (by rfl)) ?_
  refine Eq.trans (pl_lst (s22 35 ((1, 1), (2, 2)) (by kernel_rfl))) ?_
  rfl)
end Go.Proofs.Ytjblhppbjebagaa.AE

namespace Go.Proofs.Ytjblhppbjebagaa.AE
set_option linter.unusedVariables false
set_option linter.unusedSimpArgs false
set_option linter.constructorNameAsVariable false
open Go
set_option maxRecDepth 100000
/-- apogee/apogeelaw12.BoxPoint -/
theorem r7 (C : Cb) (d : Nat) (a0 : List AV) (a1 : Int) (a2 : Int) : xcall C M unr d 7 [(.lst a0), (.agg [(.int .i64 a1), (.int .i64 a2)])] =
  C.bool (pcall M d 11 []) fun b0 =>
  cnd (!b0)
   (C.bool (pcall M d 11 []) fun b1 =>
   some (.bool b1))
   (cnd (decide ((((List.length a0) : Nat) : Int) > 12))
   (C.bool (pcall M d 11 []) fun b2 =>
   some (.bool b2))
   (C.bool (pcall M d 29 [(.lst a0)]) fun b3 =>
   cnd (!b3)
   (C.bool (pcall M d 11 []) fun b4 =>
   some (.bool b4))
   (C.bool (pcall M d 26 [(.agg [(.int .i64 a1), (.int .i64 a2)])]) fun b5 =>
   cnd (!b5)
   (C.bool (pcall M d 11 []) fun b6 =>
   some (.bool b6))
   (C.int .i64 (pcall M d 27 [(.agg [(.int .i64 a1), (.int .i64 a2), (.int .i64 a1), (.int .i64 a2)]), (.lst a0)]) fun x7 =>
   C.int .i64 (pcall M d 31 [(.lst a0), (.agg [(.int .i64 a1), (.int .i64 a2)])]) fun x8 =>
   cnd (x7 == x8)
   (C.agg 4 (pcall M d 14 [(.agg [(.int .i64 a1), (.int .i64 a2)]), (.int .i64 0)]) fun l9 =>
   C.int .i64 l9[0]? fun x10 =>
   C.int .i64 l9[1]? fun x11 =>
   C.int .i64 l9[2]? fun x12 =>
   C.int .i64 l9[3]? fun x13 =>
   C.int .i64 (pcall M d 27 [(.agg [(.int .i64 x10), (.int .i64 x11), (.int .i64 x12), (.int .i64 x13)]), (.lst a0)]) fun x14 =>
   C.int .i64 (pcall M d 31 [(.lst a0), (.agg [(.int .i64 a1), (.int .i64 a2)])]) fun x15 =>
   some (.bool (x14 == x15)))
   (some (.bool false)))))) := by kernel_rfl
end Go.Proofs.Ytjblhppbjebagaa.AE

namespace Go.Proofs.Ytjblhppbjebagaa.AE
set_option linter.unusedVariables false
set_option linter.unusedSimpArgs false
set_option linter.constructorNameAsVariable false
open Go Go.Proofs.Ytjblhppbjebagaa.Geo
theorem maxLen_eq : Go.maxLen = 9223372036854775807 := by decide
theorem rows_pts : ∀ l : List AV, (∀ x ∈ l, ∃ cs, x = .agg cs ∧ CTall [(.i .i64), (.i .i64)] cs) → ∃ ps : List Pt, l = ps.map pt
  | [], _ => ⟨[], rfl⟩
  | x :: l, h => by
    obtain ⟨ps, rfl⟩ := rows_pts l fun y hy => h y (List.mem_cons_of_mem _ hy)
    obtain ⟨_, rfl, _, _, rfl, ⟨a, rfl, _⟩, _, _, rfl, ⟨b, rfl, _⟩, rfl⟩ := h x (List.mem_cons_self ..)
    exact ⟨(a, b) :: ps, rfl⟩
theorem ty_pts {v : AV} (h : TyOK false [(.sl true [(.i .i64), (.i .i64)])] v) : ∃ ps : List Pt, v = .lst (ps.map pt) ∧ ps.length ≤ 9223372036854775807 := by
  obtain ⟨_, rfl, _, _, e, ⟨l, rfl, hl, hx⟩, rfl⟩ := h
  injection e with e _
  subst e
  obtain ⟨ps, rfl⟩ := rows_pts l hx
  exact ⟨ps, rfl, by rw [← maxLen_eq]; simpa using hl⟩
end Go.Proofs.Ytjblhppbjebagaa.AE

namespace Go.Proofs.Ytjblhppbjebagaa.AE
set_option linter.unusedVariables false
set_option linter.unusedSimpArgs false
set_option linter.constructorNameAsVariable false
open Go Go.Proofs.Ytjblhppbjebagaa.Geo
set_option maxRecDepth 100000
theorem point_core (ps : List Pt) (p : Pt) : pcall M 41 7 [.lst (ps.map pt), pt p] = some (.bool true) := told (r7 C0 40 _ _ _) (by
  refine Eq.trans (pl_bool awake) ?_
  refine Eq.trans (pl_f (by rfl)) ?_
  rw [pmap_len]
  by_cases h : (ps.length : Int) > 12
  · rw [decide_eq_true h, cnd_t]
    exact pl_bool awake
  · rw [decide_eq_false h, cnd_f]
    have hl : ps.length ≤ 140737488355328 := by omega
    refine Eq.trans (pl_bool (s29 31 ps hl)) ?_
    cases hr : rightB ps
    · refine Eq.trans (pl_len (by rfl)) ?_; exact pl_bool awake
    · refine Eq.trans (pl_f (by rfl)) ?_
      refine Eq.trans (pl_bool (s26 39 p)) ?_
      change cnd (!okb p) _ _ = _
      cases hp : okb p
      · refine Eq.trans (pl_len (by rfl)) ?_; exact pl_bool awake
      · refine Eq.trans (pl_f (by rfl)) ?_
        refine Eq.trans (pl_int (s27 26 (p, p) ps hl)) ?_
        refine Eq.trans (pl_int (s31 27 ps p hl)) ?_
        rw [relX_one hr hp, beq_self_eq_true]
        refine Eq.trans (pl_len (by rfl)) ?_
        refine Eq.trans (pl_agg (s14 37 p 0) (by rfl)) ?_
        refine Eq.trans (pl_int (by rfl)) ?_; refine Eq.trans (pl_int (by rfl)) ?_; refine Eq.trans (pl_int (by rfl)) ?_; refine Eq.trans (pl_int (by rfl)) ?_
        rw [ofX_one hp]
        refine Eq.trans (pl_int (s27 26 (p, p) ps hl)) ?_
        refine Eq.trans (pl_int (s31 27 ps p hl)) ?_
        rw [relX_one hr hp, beq_self_eq_true])
theorem law_BoxPoint (a0 : AV) (a1_0 : Int) (a1_1 : Int) (w0 : TyOK false [(.sl true [(.i .i64), (.i .i64)])] a0) (w1_0 : (Lit.int .i64 a1_0).wf = true) (w1_1 : (Lit.int .i64 a1_1).wf = true) :
    pcall M 41 7 [a0, .agg [.int .i64 a1_0, .int .i64 a1_1]] = some (.bool true) := by
  obtain ⟨ps, rfl, hl⟩ := ty_pts w0
  exact point_core ps (a1_0, a1_1)
end Go.Proofs.Ytjblhppbjebagaa.AE
