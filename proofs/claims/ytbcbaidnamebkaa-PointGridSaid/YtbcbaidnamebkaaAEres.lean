/- What each function tells, told forwards. No conditions. -/
import Derived.Test.YtbcbaidnamebkaaAEmod
namespace Go.Proofs.Ytbcbaidnamebkaa.AE
set_option linter.unusedVariables false
set_option linter.unusedSimpArgs false
set_option linter.constructorNameAsVariable false
open Go
set_option maxRecDepth 100000
/-- apogee/apogeelaw10.PointTells -/
theorem r3 (C : Cb) (d : Nat) (a0 : Int) (a1 : Int) (a2 : Int) (a3 : Int) (a4 : Int) (a5 : Int) (a6 : Int) (a7 : Int) : xcall C M unr d 3 [(.agg [(.int .i64 a0), (.int .i64 a1)]), (.agg [(.int .i64 a2), (.int .i64 a3)]), (.agg [(.int .i64 a4), (.int .i64 a5)]), (.agg [(.int .i64 a6), (.int .i64 a7)])] =
  C.bool (pcall M d 9 []) fun b0 =>
  cnd b0
   (C.bool (pcall M d 10 [(.agg [(.int .i64 a0), (.int .i64 a1)])]) fun b1 =>
    C.bool (pcall M d 11 [(.agg [(.int .i64 a0), (.int .i64 a1)])]) fun b2 =>
    cnd (xor false (b1 == b2))
     (C.int .i64 (pcall M d 12 [(.agg [(.int .i64 a0), (.int .i64 a1)]), (.agg [(.int .i64 a2), (.int .i64 a3)]), (.agg [(.int .i64 a4), (.int .i64 a5)])]) fun x3 =>
      C.int .i64 (pcall M d 13 [(.agg [(.int .i64 a0), (.int .i64 a1)]), (.agg [(.int .i64 a2), (.int .i64 a3)]), (.agg [(.int .i64 a4), (.int .i64 a5)])]) fun x4 =>
      cnd (x3 == x4)
       (C.bool (pcall M d 14 [(.agg [(.int .i64 a0), (.int .i64 a1)]), (.agg [(.int .i64 a2), (.int .i64 a3)]), (.agg [(.int .i64 a4), (.int .i64 a5)])]) fun b5 =>
        C.bool (pcall M d 15 [(.agg [(.int .i64 a0), (.int .i64 a1)]), (.agg [(.int .i64 a2), (.int .i64 a3)]), (.agg [(.int .i64 a4), (.int .i64 a5)])]) fun b6 =>
        cnd (xor false (b5 == b6))
         (C.bool (pcall M d 16 [(.agg [(.int .i64 a0), (.int .i64 a1)]), (.agg [(.int .i64 a2), (.int .i64 a3)]), (.agg [(.int .i64 a4), (.int .i64 a5)]), (.agg [(.int .i64 a6), (.int .i64 a7)])]) fun b7 =>
          C.bool (pcall M d 17 [(.agg [(.int .i64 a0), (.int .i64 a1)]), (.agg [(.int .i64 a2), (.int .i64 a3)]), (.agg [(.int .i64 a4), (.int .i64 a5)]), (.agg [(.int .i64 a6), (.int .i64 a7)])]) fun b8 =>
          some (.bool (xor false (b7 == b8))))
         (some (.bool false)))
       (some (.bool false)))
     (some (.bool false)))
   (some (.bool false)) := by kernel_rfl
/-- apogee/apogeelaw10.PointTurns -/
theorem r4 (C : Cb) (d : Nat) (a0 : Int) (a1 : Int) (a2 : Int) (a3 : Int) (a4 : Int) (a5 : Int) : xcall C M unr d 4 [(.agg [(.int .i64 a0), (.int .i64 a1)]), (.agg [(.int .i64 a2), (.int .i64 a3)]), (.agg [(.int .i64 a4), (.int .i64 a5)])] =
  C.int .i64 (pcall M d 12 [(.agg [(.int .i64 a0), (.int .i64 a1)]), (.agg [(.int .i64 a2), (.int .i64 a3)]), (.agg [(.int .i64 a4), (.int .i64 a5)])]) fun x0 =>
  C.bool (pcall M d 9 []) fun b1 =>
  cnd b1
   (C.int .i64 (pcall M d 12 [(.agg [(.int .i64 a2), (.int .i64 a3)]), (.agg [(.int .i64 a4), (.int .i64 a5)]), (.agg [(.int .i64 a0), (.int .i64 a1)])]) fun x2 =>
    cnd (x2 == x0)
     (C.int .i64 (pcall M d 12 [(.agg [(.int .i64 a4), (.int .i64 a5)]), (.agg [(.int .i64 a2), (.int .i64 a3)]), (.agg [(.int .i64 a0), (.int .i64 a1)])]) fun x3 =>
      cnd (x3 == (IntKind.wrap .i64 (0 - x0)))
       (C.int .i64 (pcall M d 12 [(.agg [(.int .i64 a0), (.int .i64 a1)]), (.agg [(.int .i64 a0), (.int .i64 a1)]), (.agg [(.int .i64 a2), (.int .i64 a3)])]) fun x4 =>
        cnd (x4 == 0)
         (C.int .i64 (pcall M d 12 [(.agg [(.int .i64 a0), (.int .i64 a1)]), (.agg [(.int .i64 a2), (.int .i64 a3)]), (.agg [(.int .i64 a2), (.int .i64 a3)])]) fun x5 =>
          some (.bool (x5 == 0)))
         (some (.bool false)))
       (some (.bool false)))
     (some (.bool false)))
   (some (.bool false)) := by kernel_rfl
/-- apogee/apogeelaw10.PointMoves -/
theorem r5 (C : Cb) (d : Nat) (a0 : Int) (a1 : Int) (a2 : Int) (a3 : Int) (a4 : Int) (a5 : Int) (a6 : Int) (a7 : Int) (a8 : Int) (a9 : Int) : xcall C M unr d 5 [(.agg [(.int .i64 a0), (.int .i64 a1)]), (.agg [(.int .i64 a2), (.int .i64 a3)]), (.agg [(.int .i64 a4), (.int .i64 a5)]), (.agg [(.int .i64 a6), (.int .i64 a7)]), (.int .i64 a8), (.int .i64 a9)] =
  C.bool (pcall M d 9 []) fun b0 =>
  cnd (!b0)
   (some (.bool false))
   (C.tup 2 (pcall M d 18 [(.agg [(.int .i64 a0), (.int .i64 a1)]), (.int .i64 a8), (.int .i64 a9)]) fun l1 =>
    C.agg 2 l1[0]? fun l2 =>
    C.int .i64 l2[0]? fun x3 =>
    C.int .i64 l2[1]? fun x4 =>
    C.bool l1[1]? fun b5 =>
    cnd (!b5)
     (some (.bool true))
     (C.tup 2 (pcall M d 18 [(.agg [(.int .i64 x3), (.int .i64 x4)]), (.int .i64 (IntKind.wrap .i64 (0 - a8))), (.int .i64 (IntKind.wrap .i64 (0 - a9)))]) fun l6 =>
      C.agg 2 l6[0]? fun l7 =>
      C.int .i64 l7[0]? fun x8 =>
      C.int .i64 l7[1]? fun x9 =>
      C.bool l6[1]? fun b10 =>
      cnd (!b10)
       (some (.bool false))
       (cnd (xor true ((x8 == a0) && ((x9 == a1) && true)))
         (some (.bool false))
         (C.tup 2 (pcall M d 18 [(.agg [(.int .i64 a2), (.int .i64 a3)]), (.int .i64 a8), (.int .i64 a9)]) fun l11 =>
          C.agg 2 l11[0]? fun l12 =>
          C.int .i64 l12[0]? fun x13 =>
          C.int .i64 l12[1]? fun x14 =>
          C.bool l11[1]? fun b15 =>
          cnd (!b15)
           (some (.bool true))
           (C.tup 2 (pcall M d 18 [(.agg [(.int .i64 x13), (.int .i64 x14)]), (.int .i64 (IntKind.wrap .i64 (0 - a8))), (.int .i64 (IntKind.wrap .i64 (0 - a9)))]) fun l16 =>
            C.agg 2 l16[0]? fun l17 =>
            C.int .i64 l17[0]? fun x18 =>
            C.int .i64 l17[1]? fun x19 =>
            C.bool l16[1]? fun b20 =>
            cnd (!b20)
             (some (.bool false))
             (cnd (xor true ((x18 == a2) && ((x19 == a3) && true)))
               (some (.bool false))
               (C.tup 2 (pcall M d 18 [(.agg [(.int .i64 a4), (.int .i64 a5)]), (.int .i64 a8), (.int .i64 a9)]) fun l21 =>
                C.agg 2 l21[0]? fun l22 =>
                C.int .i64 l22[0]? fun x23 =>
                C.int .i64 l22[1]? fun x24 =>
                C.bool l21[1]? fun b25 =>
                cnd (!b25)
                 (some (.bool true))
                 (C.tup 2 (pcall M d 18 [(.agg [(.int .i64 x23), (.int .i64 x24)]), (.int .i64 (IntKind.wrap .i64 (0 - a8))), (.int .i64 (IntKind.wrap .i64 (0 - a9)))]) fun l26 =>
                  C.agg 2 l26[0]? fun l27 =>
                  C.int .i64 l27[0]? fun x28 =>
                  C.int .i64 l27[1]? fun x29 =>
                  C.bool l26[1]? fun b30 =>
                  cnd (!b30)
                   (some (.bool false))
                   (cnd (xor true ((x28 == a4) && ((x29 == a5) && true)))
                     (some (.bool false))
                     (C.tup 2 (pcall M d 18 [(.agg [(.int .i64 a6), (.int .i64 a7)]), (.int .i64 a8), (.int .i64 a9)]) fun l31 =>
                      C.agg 2 l31[0]? fun l32 =>
                      C.int .i64 l32[0]? fun x33 =>
                      C.int .i64 l32[1]? fun x34 =>
                      C.bool l31[1]? fun b35 =>
                      cnd (!b35)
                       (some (.bool true))
                       (C.tup 2 (pcall M d 18 [(.agg [(.int .i64 x33), (.int .i64 x34)]), (.int .i64 (IntKind.wrap .i64 (0 - a8))), (.int .i64 (IntKind.wrap .i64 (0 - a9)))]) fun l36 =>
                        C.agg 2 l36[0]? fun l37 =>
                        C.int .i64 l37[0]? fun x38 =>
                        C.int .i64 l37[1]? fun x39 =>
                        C.bool l36[1]? fun b40 =>
                        cnd (!b40)
                         (some (.bool false))
                         (cnd (xor true ((x38 == a6) && ((x39 == a7) && true)))
                           (some (.bool false))
                           (C.int .i64 (pcall M d 12 [(.agg [(.int .i64 a0), (.int .i64 a1)]), (.agg [(.int .i64 a2), (.int .i64 a3)]), (.agg [(.int .i64 a4), (.int .i64 a5)])]) fun x41 =>
                            C.int .i64 (pcall M d 12 [(.agg [(.int .i64 x3), (.int .i64 x4)]), (.agg [(.int .i64 x13), (.int .i64 x14)]), (.agg [(.int .i64 x23), (.int .i64 x24)])]) fun x42 =>
                            cnd (x41 == x42)
                             (C.bool (pcall M d 14 [(.agg [(.int .i64 a0), (.int .i64 a1)]), (.agg [(.int .i64 a2), (.int .i64 a3)]), (.agg [(.int .i64 a4), (.int .i64 a5)])]) fun b43 =>
                              C.bool (pcall M d 14 [(.agg [(.int .i64 x3), (.int .i64 x4)]), (.agg [(.int .i64 x13), (.int .i64 x14)]), (.agg [(.int .i64 x23), (.int .i64 x24)])]) fun b44 =>
                              cnd (xor false (b43 == b44))
                               (C.bool (pcall M d 16 [(.agg [(.int .i64 a0), (.int .i64 a1)]), (.agg [(.int .i64 a2), (.int .i64 a3)]), (.agg [(.int .i64 a4), (.int .i64 a5)]), (.agg [(.int .i64 a6), (.int .i64 a7)])]) fun b45 =>
                                C.bool (pcall M d 16 [(.agg [(.int .i64 x3), (.int .i64 x4)]), (.agg [(.int .i64 x13), (.int .i64 x14)]), (.agg [(.int .i64 x23), (.int .i64 x24)]), (.agg [(.int .i64 x33), (.int .i64 x34)])]) fun b46 =>
                                some (.bool (xor false (b45 == b46))))
                               (some (.bool false)))
                             (some (.bool false))))))))))))))) := by kernel_rfl
/-- apogee/apogeelaw10.PointMeets -/
theorem r6 (C : Cb) (d : Nat) (a0 : Int) (a1 : Int) (a2 : Int) (a3 : Int) (a4 : Int) (a5 : Int) (a6 : Int) (a7 : Int) : xcall C M unr d 6 [(.agg [(.int .i64 a0), (.int .i64 a1)]), (.agg [(.int .i64 a2), (.int .i64 a3)]), (.agg [(.int .i64 a4), (.int .i64 a5)]), (.agg [(.int .i64 a6), (.int .i64 a7)])] =
  C.bool (pcall M d 16 [(.agg [(.int .i64 a0), (.int .i64 a1)]), (.agg [(.int .i64 a2), (.int .i64 a3)]), (.agg [(.int .i64 a4), (.int .i64 a5)]), (.agg [(.int .i64 a6), (.int .i64 a7)])]) fun b0 =>
  C.bool (pcall M d 9 []) fun b1 =>
  cnd (!b1)
   (some (.bool false))
   (C.bool (pcall M d 16 [(.agg [(.int .i64 a4), (.int .i64 a5)]), (.agg [(.int .i64 a6), (.int .i64 a7)]), (.agg [(.int .i64 a0), (.int .i64 a1)]), (.agg [(.int .i64 a2), (.int .i64 a3)])]) fun b2 =>
    cnd (xor true (b0 == b2))
     (some (.bool false))
     (C.bool (pcall M d 16 [(.agg [(.int .i64 a2), (.int .i64 a3)]), (.agg [(.int .i64 a0), (.int .i64 a1)]), (.agg [(.int .i64 a4), (.int .i64 a5)]), (.agg [(.int .i64 a6), (.int .i64 a7)])]) fun b3 =>
      cnd (xor true (b0 == b3))
       (some (.bool false))
       (C.bool (pcall M d 16 [(.agg [(.int .i64 a0), (.int .i64 a1)]), (.agg [(.int .i64 a2), (.int .i64 a3)]), (.agg [(.int .i64 a6), (.int .i64 a7)]), (.agg [(.int .i64 a4), (.int .i64 a5)])]) fun b4 =>
        cnd (xor true (b0 == b4))
         (some (.bool false))
         (C.bool (pcall M d 11 [(.agg [(.int .i64 a0), (.int .i64 a1)])]) fun b5 =>
          cnd (!b5)
           (some (.bool true))
           (C.bool (pcall M d 11 [(.agg [(.int .i64 a2), (.int .i64 a3)])]) fun b6 =>
            cnd (!b6)
             (some (.bool true))
             (C.bool (pcall M d 11 [(.agg [(.int .i64 a4), (.int .i64 a5)])]) fun b7 =>
              cnd (!b7)
               (some (.bool true))
               (C.bool (pcall M d 16 [(.agg [(.int .i64 a0), (.int .i64 a1)]), (.agg [(.int .i64 a2), (.int .i64 a3)]), (.agg [(.int .i64 a0), (.int .i64 a1)]), (.agg [(.int .i64 a2), (.int .i64 a3)])]) fun b8 =>
                cnd b8
                 (C.bool (pcall M d 14 [(.agg [(.int .i64 a0), (.int .i64 a1)]), (.agg [(.int .i64 a0), (.int .i64 a1)]), (.agg [(.int .i64 a2), (.int .i64 a3)])]) fun b9 =>
                  cnd b9
                   (C.bool (pcall M d 14 [(.agg [(.int .i64 a2), (.int .i64 a3)]), (.agg [(.int .i64 a0), (.int .i64 a1)]), (.agg [(.int .i64 a2), (.int .i64 a3)])]) fun b10 =>
                    cnd b10
                     (C.bool (pcall M d 16 [(.agg [(.int .i64 a0), (.int .i64 a1)]), (.agg [(.int .i64 a2), (.int .i64 a3)]), (.agg [(.int .i64 a4), (.int .i64 a5)]), (.agg [(.int .i64 a4), (.int .i64 a5)])]) fun b11 =>
                      C.bool (pcall M d 14 [(.agg [(.int .i64 a4), (.int .i64 a5)]), (.agg [(.int .i64 a0), (.int .i64 a1)]), (.agg [(.int .i64 a2), (.int .i64 a3)])]) fun b12 =>
                      some (.bool (xor false (b11 == b12))))
                     (some (.bool false)))
                   (some (.bool false)))
                 (some (.bool false))))))))) := by kernel_rfl
/-- apogee/apogeelaw10.PointMirror -/
theorem r7 (C : Cb) (d : Nat) (a0 : Int) (a1 : Int) (a2 : Int) (a3 : Int) (a4 : Int) (a5 : Int) (a6 : Int) (a7 : Int) : xcall C M unr d 7 [(.agg [(.int .i64 a0), (.int .i64 a1)]), (.agg [(.int .i64 a2), (.int .i64 a3)]), (.agg [(.int .i64 a4), (.int .i64 a5)]), (.agg [(.int .i64 a6), (.int .i64 a7)])] =
  C.bool (pcall M d 9 []) fun b0 =>
  cnd (!b0)
   (C.bool (pcall M d 9 []) fun b1 =>
    some (.bool b1))
   (C.bool (pcall M d 11 [(.agg [(.int .i64 a0), (.int .i64 a1)])]) fun b2 =>
    cnd (!b2)
     (C.bool (pcall M d 9 []) fun b3 =>
      some (.bool b3))
     (C.bool (pcall M d 11 [(.agg [(.int .i64 a2), (.int .i64 a3)])]) fun b4 =>
      cnd (!b4)
       (C.bool (pcall M d 9 []) fun b5 =>
        some (.bool b5))
       (C.bool (pcall M d 11 [(.agg [(.int .i64 a4), (.int .i64 a5)])]) fun b6 =>
        cnd (!b6)
         (C.bool (pcall M d 9 []) fun b7 =>
          some (.bool b7))
         (C.bool (pcall M d 11 [(.agg [(.int .i64 a6), (.int .i64 a7)])]) fun b8 =>
          cnd (!b8)
           (C.bool (pcall M d 9 []) fun b9 =>
            some (.bool b9))
           (C.int .i64 (pcall M d 12 [(.agg [(.int .i64 (IntKind.wrap .i64 (0 - a0))), (.int .i64 a1)]), (.agg [(.int .i64 (IntKind.wrap .i64 (0 - a2))), (.int .i64 a3)]), (.agg [(.int .i64 (IntKind.wrap .i64 (0 - a4))), (.int .i64 a5)])]) fun x10 =>
            C.int .i64 (pcall M d 12 [(.agg [(.int .i64 a0), (.int .i64 a1)]), (.agg [(.int .i64 a2), (.int .i64 a3)]), (.agg [(.int .i64 a4), (.int .i64 a5)])]) fun x11 =>
            cnd (x10 == (IntKind.wrap .i64 (0 - x11)))
             (C.bool (pcall M d 16 [(.agg [(.int .i64 (IntKind.wrap .i64 (0 - a0))), (.int .i64 a1)]), (.agg [(.int .i64 (IntKind.wrap .i64 (0 - a2))), (.int .i64 a3)]), (.agg [(.int .i64 (IntKind.wrap .i64 (0 - a4))), (.int .i64 a5)]), (.agg [(.int .i64 (IntKind.wrap .i64 (0 - a6))), (.int .i64 a7)])]) fun b12 =>
              C.bool (pcall M d 16 [(.agg [(.int .i64 a0), (.int .i64 a1)]), (.agg [(.int .i64 a2), (.int .i64 a3)]), (.agg [(.int .i64 a4), (.int .i64 a5)]), (.agg [(.int .i64 a6), (.int .i64 a7)])]) fun b13 =>
              cnd (xor false (b12 == b13))
               (C.int .i64 (pcall M d 12 [(.agg [(.int .i64 (IntKind.wrap .i64 (0 - a1))), (.int .i64 a0)]), (.agg [(.int .i64 (IntKind.wrap .i64 (0 - a3))), (.int .i64 a2)]), (.agg [(.int .i64 (IntKind.wrap .i64 (0 - a5))), (.int .i64 a4)])]) fun x14 =>
                C.int .i64 (pcall M d 12 [(.agg [(.int .i64 a0), (.int .i64 a1)]), (.agg [(.int .i64 a2), (.int .i64 a3)]), (.agg [(.int .i64 a4), (.int .i64 a5)])]) fun x15 =>
                cnd (x14 == x15)
                 (C.bool (pcall M d 16 [(.agg [(.int .i64 (IntKind.wrap .i64 (0 - a1))), (.int .i64 a0)]), (.agg [(.int .i64 (IntKind.wrap .i64 (0 - a3))), (.int .i64 a2)]), (.agg [(.int .i64 (IntKind.wrap .i64 (0 - a5))), (.int .i64 a4)]), (.agg [(.int .i64 (IntKind.wrap .i64 (0 - a7))), (.int .i64 a6)])]) fun b16 =>
                  C.bool (pcall M d 16 [(.agg [(.int .i64 a0), (.int .i64 a1)]), (.agg [(.int .i64 a2), (.int .i64 a3)]), (.agg [(.int .i64 a4), (.int .i64 a5)]), (.agg [(.int .i64 a6), (.int .i64 a7)])]) fun b17 =>
                  some (.bool (xor false (b16 == b17))))
                 (some (.bool false)))
               (some (.bool false)))
             (some (.bool false))))))) := by kernel_rfl
def r8R0 (C : Cb) (d : Nat) (a0 : Int) (a1 : Int) (a2 : Int) (a3 : Int) (a4 : Int) (a5 : Int) (x0 : Int) (x1 : Int) (x2 : Int) (x3 : Int) (x4 : Int) (x5 : Int) : St → (Ex → St → Ans) → Ans := fun s6 k7 =>
  cnd ((List.length (St.env s6)) == 133)
   (C.same (St.env s6)[0]? (.agg [(.int .i64 a0), (.int .i64 a1)]) <|
    C.same (St.env s6)[1]? (.agg [(.int .i64 a2), (.int .i64 a3)]) <|
    C.same (St.env s6)[2]? (.agg [(.int .i64 a4), (.int .i64 a5)]) <|
    C.same (St.env s6)[3]? (.ptr 0 0 0) <|
    C.same (St.env s6)[4]? (.ptr 1 0 0) <|
    C.same (St.env s6)[5]? (.ptr 2 0 0) <|
    C.same (St.env s6)[6]? (.bool false) <|
    C.same (St.env s6)[7]? (.fn 19 [] []) <|
    C.bool (St.env s6)[8]? fun b9 =>
    C.int .i64 (St.env s6)[9]? fun x10 =>
    C.any (St.env s6)[10]? fun v11 =>
    C.any (St.env s6)[11]? fun v12 =>
    C.same (St.env s6)[12]? (.tup []) <|
    C.same (St.env s6)[13]? (.fn 19 [] []) <|
    C.same (St.env s6)[14]? (.ptr 0 0 0) <|
    C.same (St.env s6)[15]? (.int .i64 a0) <|
    C.same (St.env s6)[16]? (.int .i64 x0) <|
    C.same (St.env s6)[17]? (.fn 19 [] []) <|
    C.same (St.env s6)[18]? (.ptr 0 0 1) <|
    C.same (St.env s6)[19]? (.int .i64 a1) <|
    C.same (St.env s6)[20]? (.int .i64 x1) <|
    C.same (St.env s6)[21]? (.agg [(.int .i64 x0), (.int .i64 x1)]) <|
    C.same (St.env s6)[22]? (.fn 19 [] []) <|
    C.same (St.env s6)[23]? (.ptr 1 0 0) <|
    C.same (St.env s6)[24]? (.int .i64 a2) <|
    C.same (St.env s6)[25]? (.int .i64 x2) <|
    C.same (St.env s6)[26]? (.fn 19 [] []) <|
    C.same (St.env s6)[27]? (.ptr 1 0 1) <|
    C.same (St.env s6)[28]? (.int .i64 a3) <|
    C.same (St.env s6)[29]? (.int .i64 x3) <|
    C.same (St.env s6)[30]? (.agg [(.int .i64 x2), (.int .i64 x3)]) <|
    C.same (St.env s6)[31]? (.fn 19 [] []) <|
    C.same (St.env s6)[32]? (.ptr 2 0 0) <|
    C.same (St.env s6)[33]? (.int .i64 a4) <|
    C.same (St.env s6)[34]? (.int .i64 x4) <|
    C.same (St.env s6)[35]? (.fn 19 [] []) <|
    C.same (St.env s6)[36]? (.ptr 2 0 1) <|
    C.same (St.env s6)[37]? (.int .i64 a5) <|
    C.same (St.env s6)[38]? (.int .i64 x5) <|
    C.same (St.env s6)[39]? (.agg [(.int .i64 x4), (.int .i64 x5)]) <|
    C.any (St.env s6)[40]? fun v13 =>
    C.any (St.env s6)[41]? fun v14 =>
    C.any (St.env s6)[42]? fun v15 =>
    C.any (St.env s6)[43]? fun v16 =>
    C.any (St.env s6)[44]? fun v17 =>
    C.any (St.env s6)[45]? fun v18 =>
    C.any (St.env s6)[46]? fun v19 =>
    C.any (St.env s6)[47]? fun v20 =>
    C.any (St.env s6)[48]? fun v21 =>
    C.any (St.env s6)[49]? fun v22 =>
    C.any (St.env s6)[50]? fun v23 =>
    C.any (St.env s6)[51]? fun v24 =>
    C.any (St.env s6)[52]? fun v25 =>
    C.any (St.env s6)[53]? fun v26 =>
    C.any (St.env s6)[54]? fun v27 =>
    C.any (St.env s6)[55]? fun v28 =>
    C.any (St.env s6)[56]? fun v29 =>
    C.any (St.env s6)[57]? fun v30 =>
    C.any (St.env s6)[58]? fun v31 =>
    C.any (St.env s6)[59]? fun v32 =>
    C.any (St.env s6)[60]? fun v33 =>
    C.any (St.env s6)[61]? fun v34 =>
    C.any (St.env s6)[62]? fun v35 =>
    C.any (St.env s6)[63]? fun v36 =>
    C.any (St.env s6)[64]? fun v37 =>
    C.any (St.env s6)[65]? fun v38 =>
    C.any (St.env s6)[66]? fun v39 =>
    C.any (St.env s6)[67]? fun v40 =>
    C.any (St.env s6)[68]? fun v41 =>
    C.any (St.env s6)[69]? fun v42 =>
    C.any (St.env s6)[70]? fun v43 =>
    C.any (St.env s6)[71]? fun v44 =>
    C.any (St.env s6)[72]? fun v45 =>
    C.any (St.env s6)[73]? fun v46 =>
    C.any (St.env s6)[74]? fun v47 =>
    C.any (St.env s6)[75]? fun v48 =>
    C.any (St.env s6)[76]? fun v49 =>
    C.any (St.env s6)[77]? fun v50 =>
    C.any (St.env s6)[78]? fun v51 =>
    C.any (St.env s6)[79]? fun v52 =>
    C.any (St.env s6)[80]? fun v53 =>
    C.same (St.env s6)[81]? (.tup []) <|
    C.same (St.env s6)[82]? (.tup []) <|
    C.same (St.env s6)[83]? (.tup []) <|
    C.same (St.env s6)[84]? (.tup []) <|
    C.same (St.env s6)[85]? (.tup []) <|
    C.same (St.env s6)[86]? (.tup []) <|
    C.same (St.env s6)[87]? (.tup []) <|
    C.same (St.env s6)[88]? (.tup []) <|
    C.same (St.env s6)[89]? (.tup []) <|
    C.same (St.env s6)[90]? (.tup []) <|
    C.same (St.env s6)[91]? (.tup []) <|
    C.same (St.env s6)[92]? (.tup []) <|
    C.same (St.env s6)[93]? (.tup []) <|
    C.same (St.env s6)[94]? (.tup []) <|
    C.same (St.env s6)[95]? (.tup []) <|
    C.same (St.env s6)[96]? (.tup []) <|
    C.same (St.env s6)[97]? (.tup []) <|
    C.same (St.env s6)[98]? (.tup []) <|
    C.same (St.env s6)[99]? (.tup []) <|
    C.same (St.env s6)[100]? (.tup []) <|
    C.same (St.env s6)[101]? (.tup []) <|
    C.same (St.env s6)[102]? (.tup []) <|
    C.same (St.env s6)[103]? (.tup []) <|
    C.same (St.env s6)[104]? (.tup []) <|
    C.same (St.env s6)[105]? (.tup []) <|
    C.same (St.env s6)[106]? (.tup []) <|
    C.same (St.env s6)[107]? (.tup []) <|
    C.same (St.env s6)[108]? (.tup []) <|
    C.same (St.env s6)[109]? (.tup []) <|
    C.same (St.env s6)[110]? (.tup []) <|
    C.same (St.env s6)[111]? (.tup []) <|
    C.same (St.env s6)[112]? (.tup []) <|
    C.same (St.env s6)[113]? (.tup []) <|
    C.same (St.env s6)[114]? (.tup []) <|
    C.same (St.env s6)[115]? (.tup []) <|
    C.same (St.env s6)[116]? (.tup []) <|
    C.same (St.env s6)[117]? (.tup []) <|
    C.same (St.env s6)[118]? (.tup []) <|
    C.same (St.env s6)[119]? (.tup []) <|
    C.same (St.env s6)[120]? (.tup []) <|
    C.same (St.env s6)[121]? (.tup []) <|
    C.same (St.env s6)[122]? (.tup []) <|
    C.same (St.env s6)[123]? (.tup []) <|
    C.same (St.env s6)[124]? (.tup []) <|
    C.same (St.env s6)[125]? (.tup []) <|
    C.same (St.env s6)[126]? (.tup []) <|
    C.same (St.env s6)[127]? (.tup []) <|
    C.same (St.env s6)[128]? (.tup []) <|
    C.same (St.env s6)[129]? (.tup []) <|
    C.same (St.env s6)[130]? (.tup []) <|
    C.same (St.env s6)[131]? (.tup []) <|
    C.same (St.env s6)[132]? (.tup []) <|
    C.sameH (St.H s6) [some ⟨E23, [(.agg [(.int .i64 x0), (.int .i64 x1)])]⟩, some ⟨E23, [(.agg [(.int .i64 x2), (.int .i64 x3)])]⟩, some ⟨E23, [(.agg [(.int .i64 x4), (.int .i64 x5)])]⟩] <|
    cnd (decide (x10 ≤ 240))
     (cnd b9
       (k7 .normal ⟨[(.agg [(.int .i64 a0), (.int .i64 a1)]), (.agg [(.int .i64 a2), (.int .i64 a3)]), (.agg [(.int .i64 a4), (.int .i64 a5)]), (.ptr 0 0 0), (.ptr 1 0 0), (.ptr 2 0 0), (.bool false), (.fn 19 [] []), (.bool true), (.int .i64 (IntKind.wrap .i64 (x10 + 1))), (.int .i64 (IntKind.wrap .i64 ((IntKind.wrap .i64 (240 * x0)) + (IntKind.wrap .i64 (x10 * (IntKind.wrap .i64 (x2 - x0))))))), (.int .i64 (IntKind.wrap .i64 ((IntKind.wrap .i64 (240 * x1)) + (IntKind.wrap .i64 (x10 * (IntKind.wrap .i64 (x3 - x1))))))), (.tup []), (.fn 19 [] []), (.ptr 0 0 0), (.int .i64 a0), (.int .i64 x0), (.fn 19 [] []), (.ptr 0 0 1), (.int .i64 a1), (.int .i64 x1), (.agg [(.int .i64 x0), (.int .i64 x1)]), (.fn 19 [] []), (.ptr 1 0 0), (.int .i64 a2), (.int .i64 x2), (.fn 19 [] []), (.ptr 1 0 1), (.int .i64 a3), (.int .i64 x3), (.agg [(.int .i64 x2), (.int .i64 x3)]), (.fn 19 [] []), (.ptr 2 0 0), (.int .i64 a4), (.int .i64 x4), (.fn 19 [] []), (.ptr 2 0 1), (.int .i64 a5), (.int .i64 x5), (.agg [(.int .i64 x4), (.int .i64 x5)]), (.int .i64 x10), (.bool true), (.int .i64 x10), (.int .i64 (IntKind.wrap .i64 (x10 + 1))), (.ptr 0 0 0), (.int .i64 x0), (.int .i64 (IntKind.wrap .i64 (240 * x0))), (.int .i64 x10), (.ptr 1 0 0), (.int .i64 x2), (.ptr 0 0 0), (.int .i64 x0), (.int .i64 (IntKind.wrap .i64 (x2 - x0))), (.int .i64 (IntKind.wrap .i64 (x10 * (IntKind.wrap .i64 (x2 - x0))))), (.int .i64 (IntKind.wrap .i64 ((IntKind.wrap .i64 (240 * x0)) + (IntKind.wrap .i64 (x10 * (IntKind.wrap .i64 (x2 - x0))))))), (.ptr 0 0 1), (.int .i64 x1), (.int .i64 (IntKind.wrap .i64 (240 * x1))), (.int .i64 x10), (.ptr 1 0 1), (.int .i64 x3), (.ptr 0 0 1), (.int .i64 x1), (.int .i64 (IntKind.wrap .i64 (x3 - x1))), (.int .i64 (IntKind.wrap .i64 (x10 * (IntKind.wrap .i64 (x3 - x1))))), (.int .i64 (IntKind.wrap .i64 ((IntKind.wrap .i64 (240 * x1)) + (IntKind.wrap .i64 (x10 * (IntKind.wrap .i64 (x3 - x1))))))), (.bool b9), (.bool true), (.tup []), (.tup []), (.tup []), (.tup []), (.tup []), (.tup []), (.tup []), (.tup []), (.tup []), (.tup []), (.tup []), (.tup []), (.bool true), (.tup []), (.tup []), (.tup []), (.tup []), (.tup []), (.tup []), (.tup []), (.tup []), (.tup []), (.tup []), (.tup []), (.tup []), (.tup []), (.tup []), (.tup []), (.tup []), (.tup []), (.tup []), (.tup []), (.tup []), (.tup []), (.tup []), (.tup []), (.tup []), (.tup []), (.tup []), (.tup []), (.tup []), (.tup []), (.tup []), (.tup []), (.tup []), (.tup []), (.tup []), (.tup []), (.tup []), (.tup []), (.tup []), (.tup []), (.tup []), (.tup []), (.tup []), (.tup []), (.tup []), (.tup []), (.tup []), (.tup []), (.tup []), (.tup []), (.tup []), (.tup []), (.tup [])], [some ⟨E23, [(.agg [(.int .i64 x0), (.int .i64 x1)])]⟩, some ⟨E23, [(.agg [(.int .i64 x2), (.int .i64 x3)])]⟩, some ⟨E23, [(.agg [(.int .i64 x4), (.int .i64 x5)])]⟩]⟩)
       (cnd ((IntKind.wrap .i64 ((IntKind.wrap .i64 (240 * x0)) + (IntKind.wrap .i64 (x10 * (IntKind.wrap .i64 (x2 - x0)))))) == (IntKind.wrap .i64 (240 * x4)))
         (k7 .normal ⟨[(.agg [(.int .i64 a0), (.int .i64 a1)]), (.agg [(.int .i64 a2), (.int .i64 a3)]), (.agg [(.int .i64 a4), (.int .i64 a5)]), (.ptr 0 0 0), (.ptr 1 0 0), (.ptr 2 0 0), (.bool false), (.fn 19 [] []), (.bool ((IntKind.wrap .i64 ((IntKind.wrap .i64 (240 * x1)) + (IntKind.wrap .i64 (x10 * (IntKind.wrap .i64 (x3 - x1)))))) == (IntKind.wrap .i64 (240 * x5)))), (.int .i64 (IntKind.wrap .i64 (x10 + 1))), (.int .i64 (IntKind.wrap .i64 ((IntKind.wrap .i64 (240 * x0)) + (IntKind.wrap .i64 (x10 * (IntKind.wrap .i64 (x2 - x0))))))), (.int .i64 (IntKind.wrap .i64 ((IntKind.wrap .i64 (240 * x1)) + (IntKind.wrap .i64 (x10 * (IntKind.wrap .i64 (x3 - x1))))))), (.tup []), (.fn 19 [] []), (.ptr 0 0 0), (.int .i64 a0), (.int .i64 x0), (.fn 19 [] []), (.ptr 0 0 1), (.int .i64 a1), (.int .i64 x1), (.agg [(.int .i64 x0), (.int .i64 x1)]), (.fn 19 [] []), (.ptr 1 0 0), (.int .i64 a2), (.int .i64 x2), (.fn 19 [] []), (.ptr 1 0 1), (.int .i64 a3), (.int .i64 x3), (.agg [(.int .i64 x2), (.int .i64 x3)]), (.fn 19 [] []), (.ptr 2 0 0), (.int .i64 a4), (.int .i64 x4), (.fn 19 [] []), (.ptr 2 0 1), (.int .i64 a5), (.int .i64 x5), (.agg [(.int .i64 x4), (.int .i64 x5)]), (.int .i64 x10), (.bool true), (.int .i64 x10), (.int .i64 (IntKind.wrap .i64 (x10 + 1))), (.ptr 0 0 0), (.int .i64 x0), (.int .i64 (IntKind.wrap .i64 (240 * x0))), (.int .i64 x10), (.ptr 1 0 0), (.int .i64 x2), (.ptr 0 0 0), (.int .i64 x0), (.int .i64 (IntKind.wrap .i64 (x2 - x0))), (.int .i64 (IntKind.wrap .i64 (x10 * (IntKind.wrap .i64 (x2 - x0))))), (.int .i64 (IntKind.wrap .i64 ((IntKind.wrap .i64 (240 * x0)) + (IntKind.wrap .i64 (x10 * (IntKind.wrap .i64 (x2 - x0))))))), (.ptr 0 0 1), (.int .i64 x1), (.int .i64 (IntKind.wrap .i64 (240 * x1))), (.int .i64 x10), (.ptr 1 0 1), (.int .i64 x3), (.ptr 0 0 1), (.int .i64 x1), (.int .i64 (IntKind.wrap .i64 (x3 - x1))), (.int .i64 (IntKind.wrap .i64 (x10 * (IntKind.wrap .i64 (x3 - x1))))), (.int .i64 (IntKind.wrap .i64 ((IntKind.wrap .i64 (240 * x1)) + (IntKind.wrap .i64 (x10 * (IntKind.wrap .i64 (x3 - x1))))))), (.bool b9), (.bool false), (.int .i64 (IntKind.wrap .i64 ((IntKind.wrap .i64 (240 * x0)) + (IntKind.wrap .i64 (x10 * (IntKind.wrap .i64 (x2 - x0))))))), (.ptr 2 0 0), (.int .i64 x4), (.int .i64 (IntKind.wrap .i64 (240 * x4))), (.bool ((IntKind.wrap .i64 ((IntKind.wrap .i64 (240 * x0)) + (IntKind.wrap .i64 (x10 * (IntKind.wrap .i64 (x2 - x0)))))) == (IntKind.wrap .i64 (240 * x4)))), (.bool true), (.int .i64 (IntKind.wrap .i64 ((IntKind.wrap .i64 (240 * x1)) + (IntKind.wrap .i64 (x10 * (IntKind.wrap .i64 (x3 - x1))))))), (.ptr 2 0 1), (.int .i64 x5), (.int .i64 (IntKind.wrap .i64 (240 * x5))), (.bool ((IntKind.wrap .i64 ((IntKind.wrap .i64 (240 * x1)) + (IntKind.wrap .i64 (x10 * (IntKind.wrap .i64 (x3 - x1)))))) == (IntKind.wrap .i64 (240 * x5)))), (.bool ((IntKind.wrap .i64 ((IntKind.wrap .i64 (240 * x1)) + (IntKind.wrap .i64 (x10 * (IntKind.wrap .i64 (x3 - x1)))))) == (IntKind.wrap .i64 (240 * x5)))), (.bool ((IntKind.wrap .i64 ((IntKind.wrap .i64 (240 * x1)) + (IntKind.wrap .i64 (x10 * (IntKind.wrap .i64 (x3 - x1)))))) == (IntKind.wrap .i64 (240 * x5)))), (.tup []), (.tup []), (.tup []), (.tup []), (.tup []), (.tup []), (.tup []), (.tup []), (.tup []), (.tup []), (.tup []), (.tup []), (.tup []), (.tup []), (.tup []), (.tup []), (.tup []), (.tup []), (.tup []), (.tup []), (.tup []), (.tup []), (.tup []), (.tup []), (.tup []), (.tup []), (.tup []), (.tup []), (.tup []), (.tup []), (.tup []), (.tup []), (.tup []), (.tup []), (.tup []), (.tup []), (.tup []), (.tup []), (.tup []), (.tup []), (.tup []), (.tup []), (.tup []), (.tup []), (.tup []), (.tup []), (.tup []), (.tup []), (.tup []), (.tup []), (.tup []), (.tup [])], [some ⟨E23, [(.agg [(.int .i64 x0), (.int .i64 x1)])]⟩, some ⟨E23, [(.agg [(.int .i64 x2), (.int .i64 x3)])]⟩, some ⟨E23, [(.agg [(.int .i64 x4), (.int .i64 x5)])]⟩]⟩)
         (k7 .normal ⟨[(.agg [(.int .i64 a0), (.int .i64 a1)]), (.agg [(.int .i64 a2), (.int .i64 a3)]), (.agg [(.int .i64 a4), (.int .i64 a5)]), (.ptr 0 0 0), (.ptr 1 0 0), (.ptr 2 0 0), (.bool false), (.fn 19 [] []), (.bool false), (.int .i64 (IntKind.wrap .i64 (x10 + 1))), (.int .i64 (IntKind.wrap .i64 ((IntKind.wrap .i64 (240 * x0)) + (IntKind.wrap .i64 (x10 * (IntKind.wrap .i64 (x2 - x0))))))), (.int .i64 (IntKind.wrap .i64 ((IntKind.wrap .i64 (240 * x1)) + (IntKind.wrap .i64 (x10 * (IntKind.wrap .i64 (x3 - x1))))))), (.tup []), (.fn 19 [] []), (.ptr 0 0 0), (.int .i64 a0), (.int .i64 x0), (.fn 19 [] []), (.ptr 0 0 1), (.int .i64 a1), (.int .i64 x1), (.agg [(.int .i64 x0), (.int .i64 x1)]), (.fn 19 [] []), (.ptr 1 0 0), (.int .i64 a2), (.int .i64 x2), (.fn 19 [] []), (.ptr 1 0 1), (.int .i64 a3), (.int .i64 x3), (.agg [(.int .i64 x2), (.int .i64 x3)]), (.fn 19 [] []), (.ptr 2 0 0), (.int .i64 a4), (.int .i64 x4), (.fn 19 [] []), (.ptr 2 0 1), (.int .i64 a5), (.int .i64 x5), (.agg [(.int .i64 x4), (.int .i64 x5)]), (.int .i64 x10), (.bool true), (.int .i64 x10), (.int .i64 (IntKind.wrap .i64 (x10 + 1))), (.ptr 0 0 0), (.int .i64 x0), (.int .i64 (IntKind.wrap .i64 (240 * x0))), (.int .i64 x10), (.ptr 1 0 0), (.int .i64 x2), (.ptr 0 0 0), (.int .i64 x0), (.int .i64 (IntKind.wrap .i64 (x2 - x0))), (.int .i64 (IntKind.wrap .i64 (x10 * (IntKind.wrap .i64 (x2 - x0))))), (.int .i64 (IntKind.wrap .i64 ((IntKind.wrap .i64 (240 * x0)) + (IntKind.wrap .i64 (x10 * (IntKind.wrap .i64 (x2 - x0))))))), (.ptr 0 0 1), (.int .i64 x1), (.int .i64 (IntKind.wrap .i64 (240 * x1))), (.int .i64 x10), (.ptr 1 0 1), (.int .i64 x3), (.ptr 0 0 1), (.int .i64 x1), (.int .i64 (IntKind.wrap .i64 (x3 - x1))), (.int .i64 (IntKind.wrap .i64 (x10 * (IntKind.wrap .i64 (x3 - x1))))), (.int .i64 (IntKind.wrap .i64 ((IntKind.wrap .i64 (240 * x1)) + (IntKind.wrap .i64 (x10 * (IntKind.wrap .i64 (x3 - x1))))))), (.bool b9), (.bool false), (.int .i64 (IntKind.wrap .i64 ((IntKind.wrap .i64 (240 * x0)) + (IntKind.wrap .i64 (x10 * (IntKind.wrap .i64 (x2 - x0))))))), (.ptr 2 0 0), (.int .i64 x4), (.int .i64 (IntKind.wrap .i64 (240 * x4))), (.bool ((IntKind.wrap .i64 ((IntKind.wrap .i64 (240 * x0)) + (IntKind.wrap .i64 (x10 * (IntKind.wrap .i64 (x2 - x0)))))) == (IntKind.wrap .i64 (240 * x4)))), (.bool false), (.tup []), (.tup []), (.tup []), (.tup []), (.tup []), (.bool false), (.bool false), (.tup []), (.tup []), (.tup []), (.tup []), (.tup []), (.tup []), (.tup []), (.tup []), (.tup []), (.tup []), (.tup []), (.tup []), (.tup []), (.tup []), (.tup []), (.tup []), (.tup []), (.tup []), (.tup []), (.tup []), (.tup []), (.tup []), (.tup []), (.tup []), (.tup []), (.tup []), (.tup []), (.tup []), (.tup []), (.tup []), (.tup []), (.tup []), (.tup []), (.tup []), (.tup []), (.tup []), (.tup []), (.tup []), (.tup []), (.tup []), (.tup []), (.tup []), (.tup []), (.tup []), (.tup []), (.tup []), (.tup []), (.tup []), (.tup []), (.tup []), (.tup []), (.tup [])], [some ⟨E23, [(.agg [(.int .i64 x0), (.int .i64 x1)])]⟩, some ⟨E23, [(.agg [(.int .i64 x2), (.int .i64 x3)])]⟩, some ⟨E23, [(.agg [(.int .i64 x4), (.int .i64 x5)])]⟩]⟩)))
     (k7 (.exit 0) ⟨[(.agg [(.int .i64 a0), (.int .i64 a1)]), (.agg [(.int .i64 a2), (.int .i64 a3)]), (.agg [(.int .i64 a4), (.int .i64 a5)]), (.ptr 0 0 0), (.ptr 1 0 0), (.ptr 2 0 0), (.bool false), (.fn 19 [] []), (.bool b9), (.int .i64 x10), v11, v12, (.tup []), (.fn 19 [] []), (.ptr 0 0 0), (.int .i64 a0), (.int .i64 x0), (.fn 19 [] []), (.ptr 0 0 1), (.int .i64 a1), (.int .i64 x1), (.agg [(.int .i64 x0), (.int .i64 x1)]), (.fn 19 [] []), (.ptr 1 0 0), (.int .i64 a2), (.int .i64 x2), (.fn 19 [] []), (.ptr 1 0 1), (.int .i64 a3), (.int .i64 x3), (.agg [(.int .i64 x2), (.int .i64 x3)]), (.fn 19 [] []), (.ptr 2 0 0), (.int .i64 a4), (.int .i64 x4), (.fn 19 [] []), (.ptr 2 0 1), (.int .i64 a5), (.int .i64 x5), (.agg [(.int .i64 x4), (.int .i64 x5)]), (.int .i64 x10), (.bool false), v15, v16, v17, v18, v19, v20, v21, v22, v23, v24, v25, v26, v27, v28, v29, v30, v31, v32, v33, v34, v35, v36, v37, v38, v39, v40, v41, v42, v43, v44, v45, v46, v47, v48, v49, v50, v51, v52, v53, (.tup []), (.tup []), (.tup []), (.tup []), (.tup []), (.tup []), (.tup []), (.tup []), (.tup []), (.tup []), (.tup []), (.tup []), (.tup []), (.tup []), (.tup []), (.tup []), (.tup []), (.tup []), (.tup []), (.tup []), (.tup []), (.tup []), (.tup []), (.tup []), (.tup []), (.tup []), (.tup []), (.tup []), (.tup []), (.tup []), (.tup []), (.tup []), (.tup []), (.tup []), (.tup []), (.tup []), (.tup []), (.tup []), (.tup []), (.tup []), (.tup []), (.tup []), (.tup []), (.tup []), (.tup []), (.tup []), (.tup []), (.tup []), (.tup []), (.tup []), (.tup []), (.tup [])], [some ⟨E23, [(.agg [(.int .i64 x0), (.int .i64 x1)])]⟩, some ⟨E23, [(.agg [(.int .i64 x2), (.int .i64 x3)])]⟩, some ⟨E23, [(.agg [(.int .i64 x4), (.int .i64 x5)])]⟩]⟩))
   (none)
def r8X0_0 (C : Cb) (d : Nat) (a0 : Int) (a1 : Int) (a2 : Int) (a3 : Int) (a4 : Int) (a5 : Int) (x0 : Int) (x1 : Int) (x2 : Int) (x3 : Int) (x4 : Int) (x5 : Int) : St → Ans := fun s54 =>
  cnd ((List.length (St.env s54)) == 133)
   (C.same (St.env s54)[0]? (.agg [(.int .i64 a0), (.int .i64 a1)]) <|
    C.same (St.env s54)[1]? (.agg [(.int .i64 a2), (.int .i64 a3)]) <|
    C.same (St.env s54)[2]? (.agg [(.int .i64 a4), (.int .i64 a5)]) <|
    C.same (St.env s54)[3]? (.ptr 0 0 0) <|
    C.same (St.env s54)[4]? (.ptr 1 0 0) <|
    C.same (St.env s54)[5]? (.ptr 2 0 0) <|
    C.same (St.env s54)[6]? (.bool false) <|
    C.same (St.env s54)[7]? (.fn 19 [] []) <|
    C.bool (St.env s54)[8]? fun b55 =>
    C.int .i64 (St.env s54)[9]? fun x56 =>
    C.any (St.env s54)[10]? fun v57 =>
    C.any (St.env s54)[11]? fun v58 =>
    C.same (St.env s54)[12]? (.tup []) <|
    C.same (St.env s54)[13]? (.fn 19 [] []) <|
    C.same (St.env s54)[14]? (.ptr 0 0 0) <|
    C.same (St.env s54)[15]? (.int .i64 a0) <|
    C.same (St.env s54)[16]? (.int .i64 x0) <|
    C.same (St.env s54)[17]? (.fn 19 [] []) <|
    C.same (St.env s54)[18]? (.ptr 0 0 1) <|
    C.same (St.env s54)[19]? (.int .i64 a1) <|
    C.same (St.env s54)[20]? (.int .i64 x1) <|
    C.same (St.env s54)[21]? (.agg [(.int .i64 x0), (.int .i64 x1)]) <|
    C.same (St.env s54)[22]? (.fn 19 [] []) <|
    C.same (St.env s54)[23]? (.ptr 1 0 0) <|
    C.same (St.env s54)[24]? (.int .i64 a2) <|
    C.same (St.env s54)[25]? (.int .i64 x2) <|
    C.same (St.env s54)[26]? (.fn 19 [] []) <|
    C.same (St.env s54)[27]? (.ptr 1 0 1) <|
    C.same (St.env s54)[28]? (.int .i64 a3) <|
    C.same (St.env s54)[29]? (.int .i64 x3) <|
    C.same (St.env s54)[30]? (.agg [(.int .i64 x2), (.int .i64 x3)]) <|
    C.same (St.env s54)[31]? (.fn 19 [] []) <|
    C.same (St.env s54)[32]? (.ptr 2 0 0) <|
    C.same (St.env s54)[33]? (.int .i64 a4) <|
    C.same (St.env s54)[34]? (.int .i64 x4) <|
    C.same (St.env s54)[35]? (.fn 19 [] []) <|
    C.same (St.env s54)[36]? (.ptr 2 0 1) <|
    C.same (St.env s54)[37]? (.int .i64 a5) <|
    C.same (St.env s54)[38]? (.int .i64 x5) <|
    C.same (St.env s54)[39]? (.agg [(.int .i64 x4), (.int .i64 x5)]) <|
    C.int .i64 (St.env s54)[40]? fun x59 =>
    C.bool (St.env s54)[41]? fun b60 =>
    C.any (St.env s54)[42]? fun v61 =>
    C.any (St.env s54)[43]? fun v62 =>
    C.any (St.env s54)[44]? fun v63 =>
    C.any (St.env s54)[45]? fun v64 =>
    C.any (St.env s54)[46]? fun v65 =>
    C.any (St.env s54)[47]? fun v66 =>
    C.any (St.env s54)[48]? fun v67 =>
    C.any (St.env s54)[49]? fun v68 =>
    C.any (St.env s54)[50]? fun v69 =>
    C.any (St.env s54)[51]? fun v70 =>
    C.any (St.env s54)[52]? fun v71 =>
    C.any (St.env s54)[53]? fun v72 =>
    C.any (St.env s54)[54]? fun v73 =>
    C.any (St.env s54)[55]? fun v74 =>
    C.any (St.env s54)[56]? fun v75 =>
    C.any (St.env s54)[57]? fun v76 =>
    C.any (St.env s54)[58]? fun v77 =>
    C.any (St.env s54)[59]? fun v78 =>
    C.any (St.env s54)[60]? fun v79 =>
    C.any (St.env s54)[61]? fun v80 =>
    C.any (St.env s54)[62]? fun v81 =>
    C.any (St.env s54)[63]? fun v82 =>
    C.any (St.env s54)[64]? fun v83 =>
    C.any (St.env s54)[65]? fun v84 =>
    C.any (St.env s54)[66]? fun v85 =>
    C.any (St.env s54)[67]? fun v86 =>
    C.any (St.env s54)[68]? fun v87 =>
    C.any (St.env s54)[69]? fun v88 =>
    C.any (St.env s54)[70]? fun v89 =>
    C.any (St.env s54)[71]? fun v90 =>
    C.any (St.env s54)[72]? fun v91 =>
    C.any (St.env s54)[73]? fun v92 =>
    C.any (St.env s54)[74]? fun v93 =>
    C.any (St.env s54)[75]? fun v94 =>
    C.any (St.env s54)[76]? fun v95 =>
    C.any (St.env s54)[77]? fun v96 =>
    C.any (St.env s54)[78]? fun v97 =>
    C.any (St.env s54)[79]? fun v98 =>
    C.any (St.env s54)[80]? fun v99 =>
    C.same (St.env s54)[81]? (.tup []) <|
    C.same (St.env s54)[82]? (.tup []) <|
    C.same (St.env s54)[83]? (.tup []) <|
    C.same (St.env s54)[84]? (.tup []) <|
    C.same (St.env s54)[85]? (.tup []) <|
    C.same (St.env s54)[86]? (.tup []) <|
    C.same (St.env s54)[87]? (.tup []) <|
    C.same (St.env s54)[88]? (.tup []) <|
    C.same (St.env s54)[89]? (.tup []) <|
    C.same (St.env s54)[90]? (.tup []) <|
    C.same (St.env s54)[91]? (.tup []) <|
    C.same (St.env s54)[92]? (.tup []) <|
    C.same (St.env s54)[93]? (.tup []) <|
    C.same (St.env s54)[94]? (.tup []) <|
    C.same (St.env s54)[95]? (.tup []) <|
    C.same (St.env s54)[96]? (.tup []) <|
    C.same (St.env s54)[97]? (.tup []) <|
    C.same (St.env s54)[98]? (.tup []) <|
    C.same (St.env s54)[99]? (.tup []) <|
    C.same (St.env s54)[100]? (.tup []) <|
    C.same (St.env s54)[101]? (.tup []) <|
    C.same (St.env s54)[102]? (.tup []) <|
    C.same (St.env s54)[103]? (.tup []) <|
    C.same (St.env s54)[104]? (.tup []) <|
    C.same (St.env s54)[105]? (.tup []) <|
    C.same (St.env s54)[106]? (.tup []) <|
    C.same (St.env s54)[107]? (.tup []) <|
    C.same (St.env s54)[108]? (.tup []) <|
    C.same (St.env s54)[109]? (.tup []) <|
    C.same (St.env s54)[110]? (.tup []) <|
    C.same (St.env s54)[111]? (.tup []) <|
    C.same (St.env s54)[112]? (.tup []) <|
    C.same (St.env s54)[113]? (.tup []) <|
    C.same (St.env s54)[114]? (.tup []) <|
    C.same (St.env s54)[115]? (.tup []) <|
    C.same (St.env s54)[116]? (.tup []) <|
    C.same (St.env s54)[117]? (.tup []) <|
    C.same (St.env s54)[118]? (.tup []) <|
    C.same (St.env s54)[119]? (.tup []) <|
    C.same (St.env s54)[120]? (.tup []) <|
    C.same (St.env s54)[121]? (.tup []) <|
    C.same (St.env s54)[122]? (.tup []) <|
    C.same (St.env s54)[123]? (.tup []) <|
    C.same (St.env s54)[124]? (.tup []) <|
    C.same (St.env s54)[125]? (.tup []) <|
    C.same (St.env s54)[126]? (.tup []) <|
    C.same (St.env s54)[127]? (.tup []) <|
    C.same (St.env s54)[128]? (.tup []) <|
    C.same (St.env s54)[129]? (.tup []) <|
    C.same (St.env s54)[130]? (.tup []) <|
    C.same (St.env s54)[131]? (.tup []) <|
    C.same (St.env s54)[132]? (.tup []) <|
    C.sameH (St.H s54) [some ⟨E23, [(.agg [(.int .i64 x0), (.int .i64 x1)])]⟩, some ⟨E23, [(.agg [(.int .i64 x2), (.int .i64 x3)])]⟩, some ⟨E23, [(.agg [(.int .i64 x4), (.int .i64 x5)])]⟩] <|
    cnd ((if ((IntKind.wrap .i64 (x1 - x3)) > (if ((IntKind.wrap .i64 (x3 - x1)) > (if ((IntKind.wrap .i64 (x0 - x2)) > (IntKind.wrap .i64 (x2 - x0))) then (IntKind.wrap .i64 (x0 - x2)) else (IntKind.wrap .i64 (x2 - x0)))) then (IntKind.wrap .i64 (x3 - x1)) else (if ((IntKind.wrap .i64 (x0 - x2)) > (IntKind.wrap .i64 (x2 - x0))) then (IntKind.wrap .i64 (x0 - x2)) else (IntKind.wrap .i64 (x2 - x0))))) then (IntKind.wrap .i64 (x1 - x3)) else (if ((IntKind.wrap .i64 (x3 - x1)) > (if ((IntKind.wrap .i64 (x0 - x2)) > (IntKind.wrap .i64 (x2 - x0))) then (IntKind.wrap .i64 (x0 - x2)) else (IntKind.wrap .i64 (x2 - x0)))) then (IntKind.wrap .i64 (x3 - x1)) else (if ((IntKind.wrap .i64 (x0 - x2)) > (IntKind.wrap .i64 (x2 - x0))) then (IntKind.wrap .i64 (x0 - x2)) else (IntKind.wrap .i64 (x2 - x0))))) == 0)
     (C.bool (pcall M d 9 []) fun b100 =>
      cnd b100
       (cnd ((if ((IntKind.wrap .i64 (x1 - x3)) > (if ((IntKind.wrap .i64 (x3 - x1)) > (if ((IntKind.wrap .i64 (x0 - x2)) > (IntKind.wrap .i64 (x2 - x0))) then (IntKind.wrap .i64 (x0 - x2)) else (IntKind.wrap .i64 (x2 - x0)))) then (IntKind.wrap .i64 (x3 - x1)) else (if ((IntKind.wrap .i64 (x0 - x2)) > (IntKind.wrap .i64 (x2 - x0))) then (IntKind.wrap .i64 (x0 - x2)) else (IntKind.wrap .i64 (x2 - x0))))) then (IntKind.wrap .i64 (x1 - x3)) else (if ((IntKind.wrap .i64 (x3 - x1)) > (if ((IntKind.wrap .i64 (x0 - x2)) > (IntKind.wrap .i64 (x2 - x0))) then (IntKind.wrap .i64 (x0 - x2)) else (IntKind.wrap .i64 (x2 - x0)))) then (IntKind.wrap .i64 (x3 - x1)) else (if ((IntKind.wrap .i64 (x0 - x2)) > (IntKind.wrap .i64 (x2 - x0))) then (IntKind.wrap .i64 (x0 - x2)) else (IntKind.wrap .i64 (x2 - x0))))) != 0)
         (some (.bool true))
         (C.bool (pcall M d 14 [(.agg [(.int .i64 x4), (.int .i64 x5)]), (.agg [(.int .i64 x0), (.int .i64 x1)]), (.agg [(.int .i64 x2), (.int .i64 x3)])]) fun b101 =>
          some (.bool (xor false (b101 == (xor false ((x4 == x0) && ((x5 == x1) && true))))))))
       (some (.bool false)))
     (cnd (decide ((if ((IntKind.wrap .i64 (x1 - x3)) > (if ((IntKind.wrap .i64 (x3 - x1)) > (if ((IntKind.wrap .i64 (x0 - x2)) > (IntKind.wrap .i64 (x2 - x0))) then (IntKind.wrap .i64 (x0 - x2)) else (IntKind.wrap .i64 (x2 - x0)))) then (IntKind.wrap .i64 (x3 - x1)) else (if ((IntKind.wrap .i64 (x0 - x2)) > (IntKind.wrap .i64 (x2 - x0))) then (IntKind.wrap .i64 (x0 - x2)) else (IntKind.wrap .i64 (x2 - x0))))) then (IntKind.wrap .i64 (x1 - x3)) else (if ((IntKind.wrap .i64 (x3 - x1)) > (if ((IntKind.wrap .i64 (x0 - x2)) > (IntKind.wrap .i64 (x2 - x0))) then (IntKind.wrap .i64 (x0 - x2)) else (IntKind.wrap .i64 (x2 - x0)))) then (IntKind.wrap .i64 (x3 - x1)) else (if ((IntKind.wrap .i64 (x0 - x2)) > (IntKind.wrap .i64 (x2 - x0))) then (IntKind.wrap .i64 (x0 - x2)) else (IntKind.wrap .i64 (x2 - x0))))) = 0))
       (none)
       (cnd ((Int.tmod 240 (if ((IntKind.wrap .i64 (x1 - x3)) > (if ((IntKind.wrap .i64 (x3 - x1)) > (if ((IntKind.wrap .i64 (x0 - x2)) > (IntKind.wrap .i64 (x2 - x0))) then (IntKind.wrap .i64 (x0 - x2)) else (IntKind.wrap .i64 (x2 - x0)))) then (IntKind.wrap .i64 (x3 - x1)) else (if ((IntKind.wrap .i64 (x0 - x2)) > (IntKind.wrap .i64 (x2 - x0))) then (IntKind.wrap .i64 (x0 - x2)) else (IntKind.wrap .i64 (x2 - x0))))) then (IntKind.wrap .i64 (x1 - x3)) else (if ((IntKind.wrap .i64 (x3 - x1)) > (if ((IntKind.wrap .i64 (x0 - x2)) > (IntKind.wrap .i64 (x2 - x0))) then (IntKind.wrap .i64 (x0 - x2)) else (IntKind.wrap .i64 (x2 - x0)))) then (IntKind.wrap .i64 (x3 - x1)) else (if ((IntKind.wrap .i64 (x0 - x2)) > (IntKind.wrap .i64 (x2 - x0))) then (IntKind.wrap .i64 (x0 - x2)) else (IntKind.wrap .i64 (x2 - x0)))))) != 0)
         (C.bool (pcall M d 9 []) fun b102 =>
          cnd b102
           (cnd ((if ((IntKind.wrap .i64 (x1 - x3)) > (if ((IntKind.wrap .i64 (x3 - x1)) > (if ((IntKind.wrap .i64 (x0 - x2)) > (IntKind.wrap .i64 (x2 - x0))) then (IntKind.wrap .i64 (x0 - x2)) else (IntKind.wrap .i64 (x2 - x0)))) then (IntKind.wrap .i64 (x3 - x1)) else (if ((IntKind.wrap .i64 (x0 - x2)) > (IntKind.wrap .i64 (x2 - x0))) then (IntKind.wrap .i64 (x0 - x2)) else (IntKind.wrap .i64 (x2 - x0))))) then (IntKind.wrap .i64 (x1 - x3)) else (if ((IntKind.wrap .i64 (x3 - x1)) > (if ((IntKind.wrap .i64 (x0 - x2)) > (IntKind.wrap .i64 (x2 - x0))) then (IntKind.wrap .i64 (x0 - x2)) else (IntKind.wrap .i64 (x2 - x0)))) then (IntKind.wrap .i64 (x3 - x1)) else (if ((IntKind.wrap .i64 (x0 - x2)) > (IntKind.wrap .i64 (x2 - x0))) then (IntKind.wrap .i64 (x0 - x2)) else (IntKind.wrap .i64 (x2 - x0))))) != 0)
             (some (.bool true))
             (C.bool (pcall M d 14 [(.agg [(.int .i64 x4), (.int .i64 x5)]), (.agg [(.int .i64 x0), (.int .i64 x1)]), (.agg [(.int .i64 x2), (.int .i64 x3)])]) fun b103 =>
              some (.bool (xor false (b103 == (xor false ((x4 == x0) && ((x5 == x1) && true))))))))
           (some (.bool false)))
         (C.bool (pcall M d 9 []) fun b104 =>
          cnd b104
           (C.bool (pcall M d 14 [(.agg [(.int .i64 x4), (.int .i64 x5)]), (.agg [(.int .i64 x0), (.int .i64 x1)]), (.agg [(.int .i64 x2), (.int .i64 x3)])]) fun b105 =>
            some (.bool (xor false (b105 == b55))))
           (some (.bool false))))))
   (none)
def r8E0 (C : Cb) (d : Nat) (a0 : Int) (a1 : Int) (a2 : Int) (a3 : Int) (a4 : Int) (a5 : Int) (x0 : Int) (x1 : Int) (x2 : Int) (x3 : Int) (x4 : Int) (x5 : Int) : St → Ans := fun s8 =>
  cnd ((List.length (St.env s8)) == 133)
   (C.same (St.env s8)[0]? (.agg [(.int .i64 a0), (.int .i64 a1)]) <|
    C.same (St.env s8)[1]? (.agg [(.int .i64 a2), (.int .i64 a3)]) <|
    C.same (St.env s8)[2]? (.agg [(.int .i64 a4), (.int .i64 a5)]) <|
    C.same (St.env s8)[3]? (.ptr 0 0 0) <|
    C.same (St.env s8)[4]? (.ptr 1 0 0) <|
    C.same (St.env s8)[5]? (.ptr 2 0 0) <|
    C.same (St.env s8)[6]? (.bool false) <|
    C.same (St.env s8)[7]? (.fn 19 [] []) <|
    C.bool (St.env s8)[8]? fun b106 =>
    C.int .i64 (St.env s8)[9]? fun x107 =>
    C.any (St.env s8)[10]? fun v108 =>
    C.any (St.env s8)[11]? fun v109 =>
    C.same (St.env s8)[12]? (.tup []) <|
    C.same (St.env s8)[13]? (.fn 19 [] []) <|
    C.same (St.env s8)[14]? (.ptr 0 0 0) <|
    C.same (St.env s8)[15]? (.int .i64 a0) <|
    C.same (St.env s8)[16]? (.int .i64 x0) <|
    C.same (St.env s8)[17]? (.fn 19 [] []) <|
    C.same (St.env s8)[18]? (.ptr 0 0 1) <|
    C.same (St.env s8)[19]? (.int .i64 a1) <|
    C.same (St.env s8)[20]? (.int .i64 x1) <|
    C.same (St.env s8)[21]? (.agg [(.int .i64 x0), (.int .i64 x1)]) <|
    C.same (St.env s8)[22]? (.fn 19 [] []) <|
    C.same (St.env s8)[23]? (.ptr 1 0 0) <|
    C.same (St.env s8)[24]? (.int .i64 a2) <|
    C.same (St.env s8)[25]? (.int .i64 x2) <|
    C.same (St.env s8)[26]? (.fn 19 [] []) <|
    C.same (St.env s8)[27]? (.ptr 1 0 1) <|
    C.same (St.env s8)[28]? (.int .i64 a3) <|
    C.same (St.env s8)[29]? (.int .i64 x3) <|
    C.same (St.env s8)[30]? (.agg [(.int .i64 x2), (.int .i64 x3)]) <|
    C.same (St.env s8)[31]? (.fn 19 [] []) <|
    C.same (St.env s8)[32]? (.ptr 2 0 0) <|
    C.same (St.env s8)[33]? (.int .i64 a4) <|
    C.same (St.env s8)[34]? (.int .i64 x4) <|
    C.same (St.env s8)[35]? (.fn 19 [] []) <|
    C.same (St.env s8)[36]? (.ptr 2 0 1) <|
    C.same (St.env s8)[37]? (.int .i64 a5) <|
    C.same (St.env s8)[38]? (.int .i64 x5) <|
    C.same (St.env s8)[39]? (.agg [(.int .i64 x4), (.int .i64 x5)]) <|
    C.any (St.env s8)[40]? fun v110 =>
    C.any (St.env s8)[41]? fun v111 =>
    C.any (St.env s8)[42]? fun v112 =>
    C.any (St.env s8)[43]? fun v113 =>
    C.any (St.env s8)[44]? fun v114 =>
    C.any (St.env s8)[45]? fun v115 =>
    C.any (St.env s8)[46]? fun v116 =>
    C.any (St.env s8)[47]? fun v117 =>
    C.any (St.env s8)[48]? fun v118 =>
    C.any (St.env s8)[49]? fun v119 =>
    C.any (St.env s8)[50]? fun v120 =>
    C.any (St.env s8)[51]? fun v121 =>
    C.any (St.env s8)[52]? fun v122 =>
    C.any (St.env s8)[53]? fun v123 =>
    C.any (St.env s8)[54]? fun v124 =>
    C.any (St.env s8)[55]? fun v125 =>
    C.any (St.env s8)[56]? fun v126 =>
    C.any (St.env s8)[57]? fun v127 =>
    C.any (St.env s8)[58]? fun v128 =>
    C.any (St.env s8)[59]? fun v129 =>
    C.any (St.env s8)[60]? fun v130 =>
    C.any (St.env s8)[61]? fun v131 =>
    C.any (St.env s8)[62]? fun v132 =>
    C.any (St.env s8)[63]? fun v133 =>
    C.any (St.env s8)[64]? fun v134 =>
    C.any (St.env s8)[65]? fun v135 =>
    C.any (St.env s8)[66]? fun v136 =>
    C.any (St.env s8)[67]? fun v137 =>
    C.any (St.env s8)[68]? fun v138 =>
    C.any (St.env s8)[69]? fun v139 =>
    C.any (St.env s8)[70]? fun v140 =>
    C.any (St.env s8)[71]? fun v141 =>
    C.any (St.env s8)[72]? fun v142 =>
    C.any (St.env s8)[73]? fun v143 =>
    C.any (St.env s8)[74]? fun v144 =>
    C.any (St.env s8)[75]? fun v145 =>
    C.any (St.env s8)[76]? fun v146 =>
    C.any (St.env s8)[77]? fun v147 =>
    C.any (St.env s8)[78]? fun v148 =>
    C.any (St.env s8)[79]? fun v149 =>
    C.any (St.env s8)[80]? fun v150 =>
    C.same (St.env s8)[81]? (.tup []) <|
    C.same (St.env s8)[82]? (.tup []) <|
    C.same (St.env s8)[83]? (.tup []) <|
    C.same (St.env s8)[84]? (.tup []) <|
    C.same (St.env s8)[85]? (.tup []) <|
    C.same (St.env s8)[86]? (.tup []) <|
    C.same (St.env s8)[87]? (.tup []) <|
    C.same (St.env s8)[88]? (.tup []) <|
    C.same (St.env s8)[89]? (.tup []) <|
    C.same (St.env s8)[90]? (.tup []) <|
    C.same (St.env s8)[91]? (.tup []) <|
    C.same (St.env s8)[92]? (.tup []) <|
    C.same (St.env s8)[93]? (.tup []) <|
    C.same (St.env s8)[94]? (.tup []) <|
    C.same (St.env s8)[95]? (.tup []) <|
    C.same (St.env s8)[96]? (.tup []) <|
    C.same (St.env s8)[97]? (.tup []) <|
    C.same (St.env s8)[98]? (.tup []) <|
    C.same (St.env s8)[99]? (.tup []) <|
    C.same (St.env s8)[100]? (.tup []) <|
    C.same (St.env s8)[101]? (.tup []) <|
    C.same (St.env s8)[102]? (.tup []) <|
    C.same (St.env s8)[103]? (.tup []) <|
    C.same (St.env s8)[104]? (.tup []) <|
    C.same (St.env s8)[105]? (.tup []) <|
    C.same (St.env s8)[106]? (.tup []) <|
    C.same (St.env s8)[107]? (.tup []) <|
    C.same (St.env s8)[108]? (.tup []) <|
    C.same (St.env s8)[109]? (.tup []) <|
    C.same (St.env s8)[110]? (.tup []) <|
    C.same (St.env s8)[111]? (.tup []) <|
    C.same (St.env s8)[112]? (.tup []) <|
    C.same (St.env s8)[113]? (.tup []) <|
    C.same (St.env s8)[114]? (.tup []) <|
    C.same (St.env s8)[115]? (.tup []) <|
    C.same (St.env s8)[116]? (.tup []) <|
    C.same (St.env s8)[117]? (.tup []) <|
    C.same (St.env s8)[118]? (.tup []) <|
    C.same (St.env s8)[119]? (.tup []) <|
    C.same (St.env s8)[120]? (.tup []) <|
    C.same (St.env s8)[121]? (.tup []) <|
    C.same (St.env s8)[122]? (.tup []) <|
    C.same (St.env s8)[123]? (.tup []) <|
    C.same (St.env s8)[124]? (.tup []) <|
    C.same (St.env s8)[125]? (.tup []) <|
    C.same (St.env s8)[126]? (.tup []) <|
    C.same (St.env s8)[127]? (.tup []) <|
    C.same (St.env s8)[128]? (.tup []) <|
    C.same (St.env s8)[129]? (.tup []) <|
    C.same (St.env s8)[130]? (.tup []) <|
    C.same (St.env s8)[131]? (.tup []) <|
    C.same (St.env s8)[132]? (.tup []) <|
    C.sameH (St.H s8) [some ⟨E23, [(.agg [(.int .i64 x0), (.int .i64 x1)])]⟩, some ⟨E23, [(.agg [(.int .i64 x2), (.int .i64 x3)])]⟩, some ⟨E23, [(.agg [(.int .i64 x4), (.int .i64 x5)])]⟩] <|
    some (.bool false))
   (none)
/-- apogee/apogeelaw10.PointGrid -/
theorem r8 (C : Cb) (d : Nat) (a0 : Int) (a1 : Int) (a2 : Int) (a3 : Int) (a4 : Int) (a5 : Int) : xcall C M unr d 8 [(.agg [(.int .i64 a0), (.int .i64 a1)]), (.agg [(.int .i64 a2), (.int .i64 a3)]), (.agg [(.int .i64 a4), (.int .i64 a5)])] =
  C.int .i64 (pcall M d 19 [(.int .i64 a0)]) fun x0 =>
  C.int .i64 (pcall M d 19 [(.int .i64 a1)]) fun x1 =>
  C.int .i64 (pcall M d 19 [(.int .i64 a2)]) fun x2 =>
  C.int .i64 (pcall M d 19 [(.int .i64 a3)]) fun x3 =>
  C.int .i64 (pcall M d 19 [(.int .i64 a4)]) fun x4 =>
  C.int .i64 (pcall M d 19 [(.int .i64 a5)]) fun x5 =>
  C.iter (r8R0 C d a0 a1 a2 a3 a4 a5 x0 x1 x2 x3 x4 x5) 1000000000000000000 ⟨[(.agg [(.int .i64 a0), (.int .i64 a1)]), (.agg [(.int .i64 a2), (.int .i64 a3)]), (.agg [(.int .i64 a4), (.int .i64 a5)]), (.ptr 0 0 0), (.ptr 1 0 0), (.ptr 2 0 0), (.bool false), (.fn 19 [] []), (.bool false), (.int .i64 0), (.tup []), (.tup []), (.tup []), (.fn 19 [] []), (.ptr 0 0 0), (.int .i64 a0), (.int .i64 x0), (.fn 19 [] []), (.ptr 0 0 1), (.int .i64 a1), (.int .i64 x1), (.agg [(.int .i64 x0), (.int .i64 x1)]), (.fn 19 [] []), (.ptr 1 0 0), (.int .i64 a2), (.int .i64 x2), (.fn 19 [] []), (.ptr 1 0 1), (.int .i64 a3), (.int .i64 x3), (.agg [(.int .i64 x2), (.int .i64 x3)]), (.fn 19 [] []), (.ptr 2 0 0), (.int .i64 a4), (.int .i64 x4), (.fn 19 [] []), (.ptr 2 0 1), (.int .i64 a5), (.int .i64 x5), (.agg [(.int .i64 x4), (.int .i64 x5)]), (.tup []), (.tup []), (.tup []), (.tup []), (.tup []), (.tup []), (.tup []), (.tup []), (.tup []), (.tup []), (.tup []), (.tup []), (.tup []), (.tup []), (.tup []), (.tup []), (.tup []), (.tup []), (.tup []), (.tup []), (.tup []), (.tup []), (.tup []), (.tup []), (.tup []), (.tup []), (.tup []), (.tup []), (.tup []), (.tup []), (.tup []), (.tup []), (.tup []), (.tup []), (.tup []), (.tup []), (.tup []), (.tup []), (.tup []), (.tup []), (.tup []), (.tup []), (.tup []), (.tup []), (.tup []), (.tup []), (.tup []), (.tup []), (.tup []), (.tup []), (.tup []), (.tup []), (.tup []), (.tup []), (.tup []), (.tup []), (.tup []), (.tup []), (.tup []), (.tup []), (.tup []), (.tup []), (.tup []), (.tup []), (.tup []), (.tup []), (.tup []), (.tup []), (.tup []), (.tup []), (.tup []), (.tup []), (.tup []), (.tup []), (.tup []), (.tup []), (.tup []), (.tup []), (.tup []), (.tup []), (.tup []), (.tup []), (.tup []), (.tup []), (.tup []), (.tup []), (.tup []), (.tup []), (.tup []), (.tup []), (.tup []), (.tup []), (.tup [])], [some ⟨E23, [(.agg [(.int .i64 x0), (.int .i64 x1)])]⟩, some ⟨E23, [(.agg [(.int .i64 x2), (.int .i64 x3)])]⟩, some ⟨E23, [(.agg [(.int .i64 x4), (.int .i64 x5)])]⟩]⟩ [0] [r8X0_0 C d a0 a1 a2 a3 a4 a5 x0 x1 x2 x3 x4 x5] (r8E0 C d a0 a1 a2 a3 a4 a5 x0 x1 x2 x3 x4 x5) := by kernel_rfl
/-- apogee/apogeelaw10.awake -/
theorem r9 (C : Cb) (d : Nat)  : xcall C M unr d 9 [] =
  C.tup 2 (pcall M d 18 [(.agg [(.int .i64 2), (.int .i64 0)]), (.int .i64 1), (.int .i64 (-1))]) fun l0 =>
  C.agg 2 l0[0]? fun l1 =>
  C.int .i64 l1[0]? fun x2 =>
  C.int .i64 l1[1]? fun x3 =>
  C.bool l0[1]? fun b4 =>
  C.tup 2 (pcall M d 18 [(.agg [(.int .i64 2), (.int .i64 0)]), (.int .i64 1099511627776), (.int .i64 0)]) fun l5 =>
  C.agg 2 l5[0]? fun l6 =>
  C.int .i64 l6[0]? fun x7 =>
  C.int .i64 l6[1]? fun x8 =>
  C.bool l5[1]? fun b9 =>
  C.int .i64 (pcall M d 12 [(.agg [(.int .i64 0), (.int .i64 0)]), (.agg [(.int .i64 2), (.int .i64 0)]), (.agg [(.int .i64 2), (.int .i64 2)])]) fun x10 =>
  cnd (x10 == 1)
   (C.int .i64 (pcall M d 12 [(.agg [(.int .i64 2), (.int .i64 2)]), (.agg [(.int .i64 2), (.int .i64 0)]), (.agg [(.int .i64 0), (.int .i64 0)])]) fun x11 =>
    cnd (x11 == (-1))
     (C.bool (pcall M d 14 [(.agg [(.int .i64 1), (.int .i64 1)]), (.agg [(.int .i64 0), (.int .i64 0)]), (.agg [(.int .i64 2), (.int .i64 2)])]) fun b12 =>
      cnd b12
       (C.bool (pcall M d 14 [(.agg [(.int .i64 2), (.int .i64 0)]), (.agg [(.int .i64 0), (.int .i64 0)]), (.agg [(.int .i64 2), (.int .i64 2)])]) fun b13 =>
        cnd (!b13)
         (C.bool (pcall M d 16 [(.agg [(.int .i64 0), (.int .i64 0)]), (.agg [(.int .i64 2), (.int .i64 2)]), (.agg [(.int .i64 2), (.int .i64 0)]), (.agg [(.int .i64 0), (.int .i64 2)])]) fun b14 =>
          cnd b14
           (C.bool (pcall M d 16 [(.agg [(.int .i64 0), (.int .i64 0)]), (.agg [(.int .i64 1), (.int .i64 0)]), (.agg [(.int .i64 2), (.int .i64 0)]), (.agg [(.int .i64 2), (.int .i64 2)])]) fun b15 =>
            cnd (!b15)
             (C.bool (pcall M d 10 [(.agg [(.int .i64 2), (.int .i64 2)])]) fun b16 =>
              cnd b16
               (C.bool (pcall M d 10 [(.agg [(.int .i64 1099511627777), (.int .i64 0)])]) fun b17 =>
                cnd (!b17)
                 (cnd (xor false ((x2 == 3) && ((x3 == (-1)) && true)))
                   (cnd b4
                     (cnd (!b9)
                       (C.bool (pcall M d 20 [(.lst []), (.lst [])]) fun b18 =>
                        some (.bool b18))
                       (some (.bool false)))
                     (some (.bool false)))
                   (some (.bool false)))
                 (some (.bool false)))
               (some (.bool false)))
             (some (.bool false)))
           (some (.bool false)))
         (some (.bool false)))
       (some (.bool false)))
     (some (.bool false)))
   (some (.bool false)) := by kernel_rfl
/-- apogee/point.Right -/
theorem r10 (C : Cb) (d : Nat) (a0 : Int) (a1 : Int) : xcall C M unr d 10 [(.agg [(.int .i64 a0), (.int .i64 a1)])] =
  C.bool (pcall M d 21 [(.int .i64 a0)]) fun b0 =>
  cnd b0
   (C.bool (pcall M d 21 [(.int .i64 a1)]) fun b1 =>
    some (.bool b1))
   (some (.bool false)) := by kernel_rfl
/-- apogee/apogeeref10.Right -/
theorem r11 (C : Cb) (d : Nat) (a0 : Int) (a1 : Int) : xcall C M unr d 11 [(.agg [(.int .i64 a0), (.int .i64 a1)])] =
  cnd (decide (a0 ≥ (-1099511627776)))
   (cnd (decide (a0 ≤ 1099511627776))
     (cnd (decide (a1 ≥ (-1099511627776)))
       (some (.bool (decide (a1 ≤ 1099511627776))))
       (some (.bool false)))
     (some (.bool false)))
   (some (.bool false)) := by kernel_rfl
/-- apogee/point.Turn -/
theorem r12 (C : Cb) (d : Nat) (a0 : Int) (a1 : Int) (a2 : Int) (a3 : Int) (a4 : Int) (a5 : Int) : xcall C M unr d 12 [(.agg [(.int .i64 a0), (.int .i64 a1)]), (.agg [(.int .i64 a2), (.int .i64 a3)]), (.agg [(.int .i64 a4), (.int .i64 a5)])] =
  C.bool (pcall M d 22 [(.lst [(.agg [(.int .i64 a0), (.int .i64 a1)]), (.agg [(.int .i64 a2), (.int .i64 a3)]), (.agg [(.int .i64 a4), (.int .i64 a5)])])]) fun b0 =>
  cnd (!b0)
   (some (.int .i64 0))
   (C.agg 2 (pcall M d 23 [(.int .i64 (IntKind.wrap .i64 (a2 - a0))), (.int .i64 (IntKind.wrap .i64 (a5 - a1)))]) fun l1 =>
    C.int .i64 l1[0]? fun x2 =>
    C.int .u64 l1[1]? fun x3 =>
    C.agg 2 (pcall M d 23 [(.int .i64 (IntKind.wrap .i64 (a3 - a1))), (.int .i64 (IntKind.wrap .i64 (a4 - a0)))]) fun l4 =>
    C.int .i64 l4[0]? fun x5 =>
    C.int .u64 l4[1]? fun x6 =>
    C.int .i64 (pcall M d 24 [(.agg [(.int .i64 x2), (.int .u64 x3)]), (.agg [(.int .i64 x5), (.int .u64 x6)])]) fun x7 =>
    some (.int .i64 x7)) := by kernel_rfl
/-- apogee/apogeeref10.Turn -/
theorem r13 (C : Cb) (d : Nat) (a0 : Int) (a1 : Int) (a2 : Int) (a3 : Int) (a4 : Int) (a5 : Int) : xcall C M unr d 13 [(.agg [(.int .i64 a0), (.int .i64 a1)]), (.agg [(.int .i64 a2), (.int .i64 a3)]), (.agg [(.int .i64 a4), (.int .i64 a5)])] =
  C.bool (pcall M d 11 [(.agg [(.int .i64 a0), (.int .i64 a1)])]) fun b0 =>
  cnd (!b0)
   (some (.int .i64 0))
   (C.bool (pcall M d 11 [(.agg [(.int .i64 a2), (.int .i64 a3)])]) fun b1 =>
    cnd (!b1)
     (some (.int .i64 0))
     (C.bool (pcall M d 11 [(.agg [(.int .i64 a4), (.int .i64 a5)])]) fun b2 =>
      cnd (!b2)
       (some (.int .i64 0))
       (C.agg 2 (pcall M d 26 [(.int .i64 (IntKind.wrap .i64 (a2 - a0))), (.int .i64 (IntKind.wrap .i64 (a5 - a1)))]) fun l3 =>
        C.int .i64 l3[0]? fun x4 =>
        C.int .u64 l3[1]? fun x5 =>
        C.agg 2 (pcall M d 26 [(.int .i64 (IntKind.wrap .i64 (a3 - a1))), (.int .i64 (IntKind.wrap .i64 (a4 - a0)))]) fun l6 =>
        C.int .i64 l6[0]? fun x7 =>
        C.int .u64 l6[1]? fun x8 =>
        C.int .i64 (pcall M d 25 [(.agg [(.int .i64 x4), (.int .u64 x5)]), (.agg [(.int .i64 x7), (.int .u64 x8)])]) fun x9 =>
        some (.int .i64 x9)))) := by kernel_rfl
/-- apogee/point.On -/
theorem r14 (C : Cb) (d : Nat) (a0 : Int) (a1 : Int) (a2 : Int) (a3 : Int) (a4 : Int) (a5 : Int) : xcall C M unr d 14 [(.agg [(.int .i64 a0), (.int .i64 a1)]), (.agg [(.int .i64 a2), (.int .i64 a3)]), (.agg [(.int .i64 a4), (.int .i64 a5)])] =
  C.bool (pcall M d 22 [(.lst [(.agg [(.int .i64 a0), (.int .i64 a1)]), (.agg [(.int .i64 a2), (.int .i64 a3)]), (.agg [(.int .i64 a4), (.int .i64 a5)])])]) fun b0 =>
  cnd b0
   (C.int .i64 (pcall M d 12 [(.agg [(.int .i64 a2), (.int .i64 a3)]), (.agg [(.int .i64 a4), (.int .i64 a5)]), (.agg [(.int .i64 a0), (.int .i64 a1)])]) fun x1 =>
    cnd (x1 == 0)
     (C.bool (pcall M d 27 [(.int .i64 a0), (.int .i64 a2), (.int .i64 a4)]) fun b2 =>
      cnd b2
       (C.bool (pcall M d 27 [(.int .i64 a1), (.int .i64 a3), (.int .i64 a5)]) fun b3 =>
        some (.bool b3))
       (some (.bool false)))
     (some (.bool false)))
   (some (.bool false)) := by kernel_rfl
/-- apogee/apogeeref10.On -/
theorem r15 (C : Cb) (d : Nat) (a0 : Int) (a1 : Int) (a2 : Int) (a3 : Int) (a4 : Int) (a5 : Int) : xcall C M unr d 15 [(.agg [(.int .i64 a0), (.int .i64 a1)]), (.agg [(.int .i64 a2), (.int .i64 a3)]), (.agg [(.int .i64 a4), (.int .i64 a5)])] =
  C.bool (pcall M d 11 [(.agg [(.int .i64 a2), (.int .i64 a3)])]) fun b0 =>
  cnd (!b0)
   (some (.bool false))
   (C.bool (pcall M d 11 [(.agg [(.int .i64 a4), (.int .i64 a5)])]) fun b1 =>
    cnd (!b1)
     (some (.bool false))
     (C.bool (pcall M d 11 [(.agg [(.int .i64 a0), (.int .i64 a1)])]) fun b2 =>
      cnd (!b2)
       (some (.bool false))
       (C.int .i64 (pcall M d 13 [(.agg [(.int .i64 a2), (.int .i64 a3)]), (.agg [(.int .i64 a4), (.int .i64 a5)]), (.agg [(.int .i64 a0), (.int .i64 a1)])]) fun x3 =>
        cnd (x3 != 0)
         (some (.bool false))
         (cnd (decide (a0 ≥ (if (a4 < a2) then a4 else a2)))
           (cnd (decide (a0 ≤ (if (a4 > a2) then a4 else a2)))
             (cnd (decide (a1 ≥ (if (a5 < a3) then a5 else a3)))
               (some (.bool (decide (a1 ≤ (if (a5 > a3) then a5 else a3)))))
               (some (.bool false)))
             (some (.bool false)))
           (some (.bool false)))))) := by kernel_rfl
/-- apogee/point.Meet -/
theorem r16 (C : Cb) (d : Nat) (a0 : Int) (a1 : Int) (a2 : Int) (a3 : Int) (a4 : Int) (a5 : Int) (a6 : Int) (a7 : Int) : xcall C M unr d 16 [(.agg [(.int .i64 a0), (.int .i64 a1)]), (.agg [(.int .i64 a2), (.int .i64 a3)]), (.agg [(.int .i64 a4), (.int .i64 a5)]), (.agg [(.int .i64 a6), (.int .i64 a7)])] =
  C.bool (pcall M d 22 [(.lst [(.agg [(.int .i64 a0), (.int .i64 a1)]), (.agg [(.int .i64 a2), (.int .i64 a3)]), (.agg [(.int .i64 a4), (.int .i64 a5)]), (.agg [(.int .i64 a6), (.int .i64 a7)])])]) fun b0 =>
  cnd (!b0)
   (some (.bool false))
   (C.bool (pcall M d 14 [(.agg [(.int .i64 a0), (.int .i64 a1)]), (.agg [(.int .i64 a4), (.int .i64 a5)]), (.agg [(.int .i64 a6), (.int .i64 a7)])]) fun b1 =>
    cnd b1
     (some (.bool true))
     (C.bool (pcall M d 14 [(.agg [(.int .i64 a2), (.int .i64 a3)]), (.agg [(.int .i64 a4), (.int .i64 a5)]), (.agg [(.int .i64 a6), (.int .i64 a7)])]) fun b2 =>
      cnd b2
       (some (.bool true))
       (C.bool (pcall M d 14 [(.agg [(.int .i64 a4), (.int .i64 a5)]), (.agg [(.int .i64 a0), (.int .i64 a1)]), (.agg [(.int .i64 a2), (.int .i64 a3)])]) fun b3 =>
        cnd b3
         (some (.bool true))
         (C.bool (pcall M d 14 [(.agg [(.int .i64 a6), (.int .i64 a7)]), (.agg [(.int .i64 a0), (.int .i64 a1)]), (.agg [(.int .i64 a2), (.int .i64 a3)])]) fun b4 =>
          cnd b4
           (some (.bool true))
           (C.int .i64 (pcall M d 12 [(.agg [(.int .i64 a0), (.int .i64 a1)]), (.agg [(.int .i64 a2), (.int .i64 a3)]), (.agg [(.int .i64 a4), (.int .i64 a5)])]) fun x5 =>
            C.int .i64 (pcall M d 12 [(.agg [(.int .i64 a0), (.int .i64 a1)]), (.agg [(.int .i64 a2), (.int .i64 a3)]), (.agg [(.int .i64 a6), (.int .i64 a7)])]) fun x6 =>
            cnd (decide ((IntKind.wrap .i64 (x5 * x6)) < 0))
             (C.int .i64 (pcall M d 12 [(.agg [(.int .i64 a4), (.int .i64 a5)]), (.agg [(.int .i64 a6), (.int .i64 a7)]), (.agg [(.int .i64 a0), (.int .i64 a1)])]) fun x7 =>
              C.int .i64 (pcall M d 12 [(.agg [(.int .i64 a4), (.int .i64 a5)]), (.agg [(.int .i64 a6), (.int .i64 a7)]), (.agg [(.int .i64 a2), (.int .i64 a3)])]) fun x8 =>
              some (.bool (decide ((IntKind.wrap .i64 (x7 * x8)) < 0))))
             (some (.bool false))))))) := by kernel_rfl
/-- apogee/apogeeref10.Meet -/
theorem r17 (C : Cb) (d : Nat) (a0 : Int) (a1 : Int) (a2 : Int) (a3 : Int) (a4 : Int) (a5 : Int) (a6 : Int) (a7 : Int) : xcall C M unr d 17 [(.agg [(.int .i64 a0), (.int .i64 a1)]), (.agg [(.int .i64 a2), (.int .i64 a3)]), (.agg [(.int .i64 a4), (.int .i64 a5)]), (.agg [(.int .i64 a6), (.int .i64 a7)])] =
  C.bool (pcall M d 11 [(.agg [(.int .i64 a0), (.int .i64 a1)])]) fun b0 =>
  cnd (!b0)
   (some (.bool false))
   (C.bool (pcall M d 11 [(.agg [(.int .i64 a2), (.int .i64 a3)])]) fun b1 =>
    cnd (!b1)
     (some (.bool false))
     (C.bool (pcall M d 11 [(.agg [(.int .i64 a4), (.int .i64 a5)])]) fun b2 =>
      cnd (!b2)
       (some (.bool false))
       (C.bool (pcall M d 11 [(.agg [(.int .i64 a6), (.int .i64 a7)])]) fun b3 =>
        cnd (!b3)
         (some (.bool false))
         (C.bool (pcall M d 15 [(.agg [(.int .i64 a0), (.int .i64 a1)]), (.agg [(.int .i64 a4), (.int .i64 a5)]), (.agg [(.int .i64 a6), (.int .i64 a7)])]) fun b4 =>
          cnd b4
           (some (.bool true))
           (C.bool (pcall M d 15 [(.agg [(.int .i64 a2), (.int .i64 a3)]), (.agg [(.int .i64 a4), (.int .i64 a5)]), (.agg [(.int .i64 a6), (.int .i64 a7)])]) fun b5 =>
            cnd b5
             (some (.bool true))
             (C.bool (pcall M d 15 [(.agg [(.int .i64 a4), (.int .i64 a5)]), (.agg [(.int .i64 a0), (.int .i64 a1)]), (.agg [(.int .i64 a2), (.int .i64 a3)])]) fun b6 =>
              cnd b6
               (some (.bool true))
               (C.bool (pcall M d 15 [(.agg [(.int .i64 a6), (.int .i64 a7)]), (.agg [(.int .i64 a0), (.int .i64 a1)]), (.agg [(.int .i64 a2), (.int .i64 a3)])]) fun b7 =>
                cnd b7
                 (some (.bool true))
                 (C.int .i64 (pcall M d 13 [(.agg [(.int .i64 a0), (.int .i64 a1)]), (.agg [(.int .i64 a2), (.int .i64 a3)]), (.agg [(.int .i64 a4), (.int .i64 a5)])]) fun x8 =>
                  C.int .i64 (pcall M d 13 [(.agg [(.int .i64 a0), (.int .i64 a1)]), (.agg [(.int .i64 a2), (.int .i64 a3)]), (.agg [(.int .i64 a6), (.int .i64 a7)])]) fun x9 =>
                  cnd (decide ((IntKind.wrap .i64 (x8 * x9)) < 0))
                   (C.int .i64 (pcall M d 13 [(.agg [(.int .i64 a4), (.int .i64 a5)]), (.agg [(.int .i64 a6), (.int .i64 a7)]), (.agg [(.int .i64 a0), (.int .i64 a1)])]) fun x10 =>
                    C.int .i64 (pcall M d 13 [(.agg [(.int .i64 a4), (.int .i64 a5)]), (.agg [(.int .i64 a6), (.int .i64 a7)]), (.agg [(.int .i64 a2), (.int .i64 a3)])]) fun x11 =>
                    some (.bool (decide ((IntKind.wrap .i64 (x10 * x11)) < 0))))
                   (some (.bool false)))))))))) := by kernel_rfl
/-- apogee/point.Move -/
theorem r18 (C : Cb) (d : Nat) (a0 : Int) (a1 : Int) (a2 : Int) (a3 : Int) : xcall C M unr d 18 [(.agg [(.int .i64 a0), (.int .i64 a1)]), (.int .i64 a2), (.int .i64 a3)] =
  C.tup 2 (pcall M d 28 [(.int .i64 a0), (.int .i64 a2)]) fun l0 =>
  C.int .i64 l0[0]? fun x1 =>
  C.bool l0[1]? fun b2 =>
  C.tup 2 (pcall M d 28 [(.int .i64 a1), (.int .i64 a3)]) fun l3 =>
  C.int .i64 l3[0]? fun x4 =>
  C.bool l3[1]? fun b5 =>
  cnd (!b2)
   (some (.tup [(.agg [(.int .i64 0), (.int .i64 0)]), (.bool false)]))
   (cnd (!b5)
     (some (.tup [(.agg [(.int .i64 0), (.int .i64 0)]), (.bool false)]))
     (C.bool (pcall M d 22 [(.lst [(.agg [(.int .i64 a0), (.int .i64 a1)]), (.agg [(.int .i64 x1), (.int .i64 x4)])])]) fun b6 =>
      cnd (!b6)
       (some (.tup [(.agg [(.int .i64 0), (.int .i64 0)]), (.bool false)]))
       (some (.tup [(.agg [(.int .i64 x1), (.int .i64 x4)]), (.bool true)])))) := by kernel_rfl
/-- apogee/apogeelaw10.PointGrid$1 -/
theorem r19 (C : Cb) (d : Nat) (a0 : Int) : xcall C M unr d 19 [(.int .i64 a0)] =
  some (.int .i64 (bits .and .i64 a0 15)) := by kernel_rfl
/-- apogee/point.Same -/
theorem r20 (C : Cb) (d : Nat) (a0 : List AV) (a1 : List AV) : xcall C M unr d 20 [(.lst a0), (.lst a1)] =
  C.bool (pcall M d 29 [(.lst a0), (.lst a1)]) fun b0 =>
  some (.bool b0) := by kernel_rfl
/-- apogee/point.within -/
theorem r21 (C : Cb) (d : Nat) (a0 : Int) : xcall C M unr d 21 [(.int .i64 a0)] =
  cnd (decide (a0 ≥ (-1099511627776)))
   (some (.bool (decide (a0 ≤ 1099511627776))))
   (some (.bool false)) := by kernel_rfl
/-- apogee/point.right -/
theorem r22 (C : Cb) (d : Nat) (a0 : List AV) : xcall C M unr d 22 [(.lst a0)] =
  C.bool (pcall M d 30 [(.lst a0), (.fn 31 [] [])]) fun b0 =>
  some (.bool (!b0)) := by kernel_rfl
/-- apogee/wide.Mul -/
theorem r23 (C : Cb) (d : Nat) (a0 : Int) (a1 : Int) : xcall C M unr d 23 [(.int .i64 a0), (.int .i64 a1)] =
  C.tup 2 (pcall M d 32 [(.int .u64 (IntKind.wrap .u64 a0)), (.int .u64 (IntKind.wrap .u64 a1))]) fun l0 =>
  C.int .u64 l0[0]? fun x1 =>
  C.int .u64 l0[1]? fun x2 =>
  cnd (decide (a0 < 0))
   (cnd (decide (a1 < 0))
     (some (.agg [(.int .i64 (IntKind.wrap .i64 (IntKind.wrap .u64 ((IntKind.wrap .u64 (x1 - (IntKind.wrap .u64 a1))) - (IntKind.wrap .u64 a0))))), (.int .u64 x2)]))
     (some (.agg [(.int .i64 (IntKind.wrap .i64 (IntKind.wrap .u64 (x1 - (IntKind.wrap .u64 a1))))), (.int .u64 x2)])))
   (cnd (decide (a1 < 0))
     (some (.agg [(.int .i64 (IntKind.wrap .i64 (IntKind.wrap .u64 (x1 - (IntKind.wrap .u64 a0))))), (.int .u64 x2)]))
     (some (.agg [(.int .i64 (IntKind.wrap .i64 x1)), (.int .u64 x2)]))) := by kernel_rfl
/-- (apogee/wide.Wide).Cmp -/
theorem r24 (C : Cb) (d : Nat) (a0 : Int) (a1 : Int) (a2 : Int) (a3 : Int) : xcall C M unr d 24 [(.agg [(.int .i64 a0), (.int .u64 a1)]), (.agg [(.int .i64 a2), (.int .u64 a3)])] =
  C.int .i64 (pcall M d 34 [(.int .i64 a0), (.int .i64 a2)]) fun x0 =>
  C.int .i64 (pcall M d 35 [(.int .u64 a1), (.int .u64 a3)]) fun x1 =>
  C.int .i64 (pcall M d 33 [(.lst [(.int .i64 x0), (.int .i64 x1)])]) fun x2 =>
  some (.int .i64 x2) := by kernel_rfl
/-- apogee/apogeeref01.Cmp -/
theorem r25 (C : Cb) (d : Nat) (a0 : Int) (a1 : Int) (a2 : Int) (a3 : Int) : xcall C M unr d 25 [(.agg [(.int .i64 a0), (.int .u64 a1)]), (.agg [(.int .i64 a2), (.int .u64 a3)])] =
  cnd (decide (a0 < a2))
   (some (.int .i64 (-1)))
   (cnd (a0 == a2)
     (cnd (decide (a1 < a3))
       (some (.int .i64 (-1)))
       (cnd (xor false ((a0 == a2) && ((a1 == a3) && true)))
         (some (.int .i64 0))
         (some (.int .i64 1))))
     (cnd (xor false ((a0 == a2) && ((a1 == a3) && true)))
       (some (.int .i64 0))
       (some (.int .i64 1)))) := by kernel_rfl
def r26R0 (C : Cb) (d : Nat) (a0 : Int) (a1 : Int) (v0 : AV) (x3 : Int) (x4 : Int) (v5 : AV) (v9 : AV) : St → (Ex → St → Ans) → Ans := fun s13 k14 =>
  cnd ((List.length (St.env s13)) == 36)
   (C.same (St.env s13)[0]? (.int .i64 a0) <|
    C.same (St.env s13)[1]? (.int .i64 a1) <|
    C.same (St.env s13)[2]? (.tup []) <|
    C.same (St.env s13)[3]? (.tup []) <|
    C.same (St.env s13)[4]? v0 <|
    C.same (St.env s13)[5]? v5 <|
    C.same (St.env s13)[6]? v9 <|
    C.same (St.env s13)[7]? (.int .u64 (IntKind.wrap .u64 a1)) <|
    C.int .i64 (St.env s13)[8]? fun x16 =>
    C.same (St.env s13)[9]? (.int .i64 a0) <|
    C.same (St.env s13)[10]? (.agg [(.int .i64 x3), (.int .u64 x4)]) <|
    C.same (St.env s13)[11]? (.agg [(.int .i64 0), (.int .u64 0)]) <|
    C.same (St.env s13)[12]? (.int .i64 a1) <|
    C.same (St.env s13)[13]? (.int .u64 (IntKind.wrap .u64 a1)) <|
    C.any (St.env s13)[14]? fun v17 =>
    C.any (St.env s13)[15]? fun v18 =>
    C.any (St.env s13)[16]? fun v19 =>
    C.any (St.env s13)[17]? fun v20 =>
    C.any (St.env s13)[18]? fun v21 =>
    C.any (St.env s13)[19]? fun v22 =>
    C.any (St.env s13)[20]? fun v23 =>
    C.any (St.env s13)[21]? fun v24 =>
    C.any (St.env s13)[22]? fun v25 =>
    C.any (St.env s13)[23]? fun v26 =>
    C.any (St.env s13)[24]? fun v27 =>
    C.any (St.env s13)[25]? fun v28 =>
    C.any (St.env s13)[26]? fun v29 =>
    C.any (St.env s13)[27]? fun v30 =>
    C.any (St.env s13)[28]? fun v31 =>
    C.same (St.env s13)[29]? (.tup []) <|
    C.same (St.env s13)[30]? (.tup []) <|
    C.same (St.env s13)[31]? (.tup []) <|
    C.same (St.env s13)[32]? (.tup []) <|
    C.same (St.env s13)[33]? (.tup []) <|
    C.same (St.env s13)[34]? (.tup []) <|
    C.same (St.env s13)[35]? (.tup []) <|
    cnd (decide (x16 < 64))
     (cnd (decide (x16 < 0))
       (none)
       (cnd ((bits .and .u64 (Int.fdiv (IntKind.wrap .u64 a1) (2 ^ (min (Int.toNat x16) 64))) 1) == 1)
         (C.hop (St.H s13) (.load true 2 (.v v9)) fun v32 h33 =>
          C.agg 2 (some v32) fun l34 =>
          C.int .i64 l34[0]? fun x35 =>
          C.int .u64 l34[1]? fun x36 =>
          C.hop h33 (.load true 2 (.v v5)) fun v37 h38 =>
          C.agg 2 (some v37) fun l39 =>
          C.int .i64 l39[0]? fun x40 =>
          C.int .u64 l39[1]? fun x41 =>
          C.agg 2 (pcall M d 37 [(.agg [(.int .i64 x35), (.int .u64 x36)]), (.agg [(.int .i64 x40), (.int .u64 x41)])]) fun l42 =>
          C.int .i64 l42[0]? fun x43 =>
          C.int .u64 l42[1]? fun x44 =>
          C.hop h38 (.store 2 (.v v9) (.v (.agg [(.int .i64 x43), (.int .u64 x44)]))) fun v45 h46 =>
          C.hop h46 (.load true 2 (.v v5)) fun v47 h48 =>
          C.agg 2 (some v47) fun l49 =>
          C.int .i64 l49[0]? fun x50 =>
          C.int .u64 l49[1]? fun x51 =>
          C.hop h48 (.load true 2 (.v v5)) fun v52 h53 =>
          C.agg 2 (some v52) fun l54 =>
          C.int .i64 l54[0]? fun x55 =>
          C.int .u64 l54[1]? fun x56 =>
          C.agg 2 (pcall M d 37 [(.agg [(.int .i64 x50), (.int .u64 x51)]), (.agg [(.int .i64 x55), (.int .u64 x56)])]) fun l57 =>
          C.int .i64 l57[0]? fun x58 =>
          C.int .u64 l57[1]? fun x59 =>
          C.hop h53 (.store 2 (.v v5) (.v (.agg [(.int .i64 x58), (.int .u64 x59)]))) fun v60 h61 =>
          k14 .normal ⟨[(.int .i64 a0), (.int .i64 a1), (.tup []), (.tup []), v0, v5, v9, (.int .u64 (IntKind.wrap .u64 a1)), (.int .i64 (IntKind.wrap .i64 (x16 + 1))), (.int .i64 a0), (.agg [(.int .i64 x3), (.int .u64 x4)]), (.agg [(.int .i64 0), (.int .u64 0)]), (.int .i64 a1), (.int .u64 (IntKind.wrap .u64 a1)), (.int .i64 x16), (.bool true), (.int .i64 x16), (.int .i64 (IntKind.wrap .i64 (x16 + 1))), (.int .u64 (IntKind.wrap .u64 a1)), (.int .i64 x16), (.int .u64 (Int.fdiv (IntKind.wrap .u64 a1) (2 ^ (min (Int.toNat x16) 64)))), (.int .u64 (bits .and .u64 (Int.fdiv (IntKind.wrap .u64 a1) (2 ^ (min (Int.toNat x16) 64))) 1)), (.bool true), (.agg [(.int .i64 x35), (.int .u64 x36)]), (.agg [(.int .i64 x40), (.int .u64 x41)]), (.agg [(.int .i64 x43), (.int .u64 x44)]), (.agg [(.int .i64 x50), (.int .u64 x51)]), (.agg [(.int .i64 x55), (.int .u64 x56)]), (.agg [(.int .i64 x58), (.int .u64 x59)]), (.tup []), (.tup []), (.tup []), (.tup []), (.tup []), (.tup []), (.tup [])], h61⟩)
         (C.hop (St.H s13) (.load true 2 (.v v5)) fun v62 h63 =>
          C.agg 2 (some v62) fun l64 =>
          C.int .i64 l64[0]? fun x65 =>
          C.int .u64 l64[1]? fun x66 =>
          C.hop h63 (.load true 2 (.v v5)) fun v67 h68 =>
          C.agg 2 (some v67) fun l69 =>
          C.int .i64 l69[0]? fun x70 =>
          C.int .u64 l69[1]? fun x71 =>
          C.agg 2 (pcall M d 37 [(.agg [(.int .i64 x65), (.int .u64 x66)]), (.agg [(.int .i64 x70), (.int .u64 x71)])]) fun l72 =>
          C.int .i64 l72[0]? fun x73 =>
          C.int .u64 l72[1]? fun x74 =>
          C.hop h68 (.store 2 (.v v5) (.v (.agg [(.int .i64 x73), (.int .u64 x74)]))) fun v75 h76 =>
          k14 .normal ⟨[(.int .i64 a0), (.int .i64 a1), (.tup []), (.tup []), v0, v5, v9, (.int .u64 (IntKind.wrap .u64 a1)), (.int .i64 (IntKind.wrap .i64 (x16 + 1))), (.int .i64 a0), (.agg [(.int .i64 x3), (.int .u64 x4)]), (.agg [(.int .i64 0), (.int .u64 0)]), (.int .i64 a1), (.int .u64 (IntKind.wrap .u64 a1)), (.int .i64 x16), (.bool true), (.int .i64 x16), (.int .i64 (IntKind.wrap .i64 (x16 + 1))), (.int .u64 (IntKind.wrap .u64 a1)), (.int .i64 x16), (.int .u64 (Int.fdiv (IntKind.wrap .u64 a1) (2 ^ (min (Int.toNat x16) 64)))), (.int .u64 (bits .and .u64 (Int.fdiv (IntKind.wrap .u64 a1) (2 ^ (min (Int.toNat x16) 64))) 1)), (.bool false), v26, v27, v28, (.agg [(.int .i64 x65), (.int .u64 x66)]), (.agg [(.int .i64 x70), (.int .u64 x71)]), (.agg [(.int .i64 x73), (.int .u64 x74)]), (.tup []), (.tup []), (.tup []), (.tup []), (.tup []), (.tup []), (.tup [])], h76⟩)))
     (k14 (.exit 0) ⟨[(.int .i64 a0), (.int .i64 a1), (.tup []), (.tup []), v0, v5, v9, (.int .u64 (IntKind.wrap .u64 a1)), (.int .i64 x16), (.int .i64 a0), (.agg [(.int .i64 x3), (.int .u64 x4)]), (.agg [(.int .i64 0), (.int .u64 0)]), (.int .i64 a1), (.int .u64 (IntKind.wrap .u64 a1)), (.int .i64 x16), (.bool false), v19, v20, v21, v22, v23, v24, v25, v26, v27, v28, v29, v30, v31, (.tup []), (.tup []), (.tup []), (.tup []), (.tup []), (.tup []), (.tup [])], (St.H s13)⟩))
   (none)
def r26X0_0 (C : Cb) (d : Nat) (a0 : Int) (a1 : Int) (v0 : AV) (x3 : Int) (x4 : Int) (v5 : AV) (v9 : AV) : St → Ans := fun s77 =>
  cnd ((List.length (St.env s77)) == 36)
   (C.same (St.env s77)[0]? (.int .i64 a0) <|
    C.same (St.env s77)[1]? (.int .i64 a1) <|
    C.same (St.env s77)[2]? (.tup []) <|
    C.same (St.env s77)[3]? (.tup []) <|
    C.same (St.env s77)[4]? v0 <|
    C.same (St.env s77)[5]? v5 <|
    C.same (St.env s77)[6]? v9 <|
    C.same (St.env s77)[7]? (.int .u64 (IntKind.wrap .u64 a1)) <|
    C.int .i64 (St.env s77)[8]? fun x78 =>
    C.same (St.env s77)[9]? (.int .i64 a0) <|
    C.same (St.env s77)[10]? (.agg [(.int .i64 x3), (.int .u64 x4)]) <|
    C.same (St.env s77)[11]? (.agg [(.int .i64 0), (.int .u64 0)]) <|
    C.same (St.env s77)[12]? (.int .i64 a1) <|
    C.same (St.env s77)[13]? (.int .u64 (IntKind.wrap .u64 a1)) <|
    C.int .i64 (St.env s77)[14]? fun x79 =>
    C.bool (St.env s77)[15]? fun b80 =>
    C.any (St.env s77)[16]? fun v81 =>
    C.any (St.env s77)[17]? fun v82 =>
    C.any (St.env s77)[18]? fun v83 =>
    C.any (St.env s77)[19]? fun v84 =>
    C.any (St.env s77)[20]? fun v85 =>
    C.any (St.env s77)[21]? fun v86 =>
    C.any (St.env s77)[22]? fun v87 =>
    C.any (St.env s77)[23]? fun v88 =>
    C.any (St.env s77)[24]? fun v89 =>
    C.any (St.env s77)[25]? fun v90 =>
    C.any (St.env s77)[26]? fun v91 =>
    C.any (St.env s77)[27]? fun v92 =>
    C.any (St.env s77)[28]? fun v93 =>
    C.same (St.env s77)[29]? (.tup []) <|
    C.same (St.env s77)[30]? (.tup []) <|
    C.same (St.env s77)[31]? (.tup []) <|
    C.same (St.env s77)[32]? (.tup []) <|
    C.same (St.env s77)[33]? (.tup []) <|
    C.same (St.env s77)[34]? (.tup []) <|
    C.same (St.env s77)[35]? (.tup []) <|
    cnd (decide (a1 < 0))
     (C.hop (St.H s77) (.load true 2 (.v v9)) fun v94 h95 =>
      C.agg 2 (some v94) fun l96 =>
      C.int .i64 l96[0]? fun x97 =>
      C.int .u64 l96[1]? fun x98 =>
      C.hop h95 (.load true 2 (.v v5)) fun v99 h100 =>
      C.agg 2 (some v99) fun l101 =>
      C.int .i64 l101[0]? fun x102 =>
      C.int .u64 l101[1]? fun x103 =>
      C.agg 2 (pcall M d 38 [(.agg [(.int .i64 x102), (.int .u64 x103)])]) fun l104 =>
      C.int .i64 l104[0]? fun x105 =>
      C.int .u64 l104[1]? fun x106 =>
      C.agg 2 (pcall M d 37 [(.agg [(.int .i64 x97), (.int .u64 x98)]), (.agg [(.int .i64 x105), (.int .u64 x106)])]) fun l107 =>
      C.int .i64 l107[0]? fun x108 =>
      C.int .u64 l107[1]? fun x109 =>
      C.hop h100 (.store 2 (.v v9) (.v (.agg [(.int .i64 x108), (.int .u64 x109)]))) fun v110 h111 =>
      C.hop h111 (.load true 2 (.v v9)) fun v112 h113 =>
      C.agg 2 (some v112) fun l114 =>
      C.int .i64 l114[0]? fun x115 =>
      C.int .u64 l114[1]? fun x116 =>
      C.hop h113 (.store 2 (.v v0) (.v (.agg [(.int .i64 x115), (.int .u64 x116)]))) fun v117 h118 =>
      C.hop h118 (.load true 2 (.v v0)) fun v119 h120 =>
      some (snap 12 h118 v119))
     (C.hop (St.H s77) (.load true 2 (.v v9)) fun v121 h122 =>
      C.agg 2 (some v121) fun l123 =>
      C.int .i64 l123[0]? fun x124 =>
      C.int .u64 l123[1]? fun x125 =>
      C.hop h122 (.store 2 (.v v0) (.v (.agg [(.int .i64 x124), (.int .u64 x125)]))) fun v126 h127 =>
      C.hop h127 (.load true 2 (.v v0)) fun v128 h129 =>
      some (snap 12 h127 v128)))
   (none)
def r26E0 (C : Cb) (d : Nat) (a0 : Int) (a1 : Int) (v0 : AV) (x3 : Int) (x4 : Int) (v5 : AV) (v9 : AV) : St → Ans := fun s15 =>
  cnd ((List.length (St.env s15)) == 36)
   (C.same (St.env s15)[0]? (.int .i64 a0) <|
    C.same (St.env s15)[1]? (.int .i64 a1) <|
    C.same (St.env s15)[2]? (.tup []) <|
    C.same (St.env s15)[3]? (.tup []) <|
    C.same (St.env s15)[4]? v0 <|
    C.same (St.env s15)[5]? v5 <|
    C.same (St.env s15)[6]? v9 <|
    C.same (St.env s15)[7]? (.int .u64 (IntKind.wrap .u64 a1)) <|
    C.int .i64 (St.env s15)[8]? fun x130 =>
    C.same (St.env s15)[9]? (.int .i64 a0) <|
    C.same (St.env s15)[10]? (.agg [(.int .i64 x3), (.int .u64 x4)]) <|
    C.same (St.env s15)[11]? (.agg [(.int .i64 0), (.int .u64 0)]) <|
    C.same (St.env s15)[12]? (.int .i64 a1) <|
    C.same (St.env s15)[13]? (.int .u64 (IntKind.wrap .u64 a1)) <|
    C.any (St.env s15)[14]? fun v131 =>
    C.any (St.env s15)[15]? fun v132 =>
    C.any (St.env s15)[16]? fun v133 =>
    C.any (St.env s15)[17]? fun v134 =>
    C.any (St.env s15)[18]? fun v135 =>
    C.any (St.env s15)[19]? fun v136 =>
    C.any (St.env s15)[20]? fun v137 =>
    C.any (St.env s15)[21]? fun v138 =>
    C.any (St.env s15)[22]? fun v139 =>
    C.any (St.env s15)[23]? fun v140 =>
    C.any (St.env s15)[24]? fun v141 =>
    C.any (St.env s15)[25]? fun v142 =>
    C.any (St.env s15)[26]? fun v143 =>
    C.any (St.env s15)[27]? fun v144 =>
    C.any (St.env s15)[28]? fun v145 =>
    C.same (St.env s15)[29]? (.tup []) <|
    C.same (St.env s15)[30]? (.tup []) <|
    C.same (St.env s15)[31]? (.tup []) <|
    C.same (St.env s15)[32]? (.tup []) <|
    C.same (St.env s15)[33]? (.tup []) <|
    C.same (St.env s15)[34]? (.tup []) <|
    C.same (St.env s15)[35]? (.tup []) <|
    C.hop (St.H s15) (.load true 2 (.v v0)) fun v146 h147 =>
    some (snap 12 (St.H s15) v146))
   (none)
/-- apogee/apogeeref01.Mul -/
theorem r26 (C : Cb) (d : Nat) (a0 : Int) (a1 : Int) : xcall C M unr d 26 [(.int .i64 a0), (.int .i64 a1)] =
  C.hop [] (.alloc E43) fun v0 h1 =>
  C.agg 2 (pcall M d 36 [(.int .i64 a0)]) fun l2 =>
  C.int .i64 l2[0]? fun x3 =>
  C.int .u64 l2[1]? fun x4 =>
  C.hop h1 (.alloc E43) fun v5 h6 =>
  C.hop h6 (.store 2 (.v v5) (.v (.agg [(.int .i64 x3), (.int .u64 x4)]))) fun v7 h8 =>
  C.hop h8 (.alloc E43) fun v9 h10 =>
  C.hop h10 (.store 2 (.v v9) (.v (.agg [(.int .i64 0), (.int .u64 0)]))) fun v11 h12 =>
  C.iter (r26R0 C d a0 a1 v0 x3 x4 v5 v9) 1000000000000000000 ⟨[(.int .i64 a0), (.int .i64 a1), (.tup []), (.tup []), v0, v5, v9, (.int .u64 (IntKind.wrap .u64 a1)), (.int .i64 0), (.int .i64 a0), (.agg [(.int .i64 x3), (.int .u64 x4)]), (.agg [(.int .i64 0), (.int .u64 0)]), (.int .i64 a1), (.int .u64 (IntKind.wrap .u64 a1)), (.tup []), (.tup []), (.tup []), (.tup []), (.tup []), (.tup []), (.tup []), (.tup []), (.tup []), (.tup []), (.tup []), (.tup []), (.tup []), (.tup []), (.tup []), (.tup []), (.tup []), (.tup []), (.tup []), (.tup []), (.tup []), (.tup [])], h12⟩ [0] [r26X0_0 C d a0 a1 v0 x3 x4 v5 v9] (r26E0 C d a0 a1 v0 x3 x4 v5 v9) := by kernel_rfl
/-- apogee/point.between -/
theorem r27 (C : Cb) (d : Nat) (a0 : Int) (a1 : Int) (a2 : Int) : xcall C M unr d 27 [(.int .i64 a0), (.int .i64 a1), (.int .i64 a2)] =
  cnd (decide ((if (a2 < a1) then a2 else a1) ≤ a0))
   (some (.bool (decide (a0 ≤ (if (a2 > a1) then a2 else a1)))))
   (some (.bool false)) := by kernel_rfl
/-- apogee/fix.Add -/
theorem r28 (C : Cb) (d : Nat) (a0 : Int) (a1 : Int) : xcall C M unr d 28 [(.int .i64 a0), (.int .i64 a1)] =
  C.agg 2 (pcall M d 40 [(.int .i64 a0)]) fun l0 =>
  C.int .i64 l0[0]? fun x1 =>
  C.int .u64 l0[1]? fun x2 =>
  C.agg 2 (pcall M d 40 [(.int .i64 a1)]) fun l3 =>
  C.int .i64 l3[0]? fun x4 =>
  C.int .u64 l3[1]? fun x5 =>
  C.tup 2 (pcall M d 41 [(.agg [(.int .i64 x1), (.int .u64 x2)]), (.agg [(.int .i64 x4), (.int .u64 x5)])]) fun l6 =>
  C.agg 2 l6[0]? fun l7 =>
  C.int .i64 l7[0]? fun x8 =>
  C.int .u64 l7[1]? fun x9 =>
  C.bool l6[1]? fun b10 =>
  C.tup 2 (pcall M d 39 [(.agg [(.int .i64 x8), (.int .u64 x9)]), (.bool b10)]) fun l11 =>
  C.int .i64 l11[0]? fun x12 =>
  C.bool l11[1]? fun b13 =>
  some (.tup [(.int .i64 x12), (.bool b13)]) := by kernel_rfl
def r29R0 (C : Cb) (d : Nat) (a0 : List AV) (a1 : List AV) : St → (Ex → St → Ans) → Ans := fun s0 k1 =>
  cnd ((List.length (St.env s0)) == 26)
   (C.same (St.env s0)[0]? (.lst a0) <|
    C.same (St.env s0)[1]? (.lst a1) <|
    C.same (St.env s0)[2]? (.tup []) <|
    C.same (St.env s0)[3]? (.tup []) <|
    C.bool (St.env s0)[4]? fun b3 =>
    C.any (St.env s0)[5]? fun v4 =>
    C.same (St.env s0)[6]? (.lst a0) <|
    C.same (St.env s0)[7]? (.int .i64 (((List.length a0) : Nat) : Int)) <|
    C.same (St.env s0)[8]? (.lst a1) <|
    C.same (St.env s0)[9]? (.int .i64 (((List.length a1) : Nat) : Int)) <|
    C.same (St.env s0)[10]? (.bool false) <|
    C.same (St.env s0)[11]? (.lst a0) <|
    C.same (St.env s0)[12]? (.int .i64 (((List.length a0) : Nat) : Int)) <|
    C.int .i64 (St.env s0)[13]? fun x5 =>
    C.any (St.env s0)[14]? fun v6 =>
    C.any (St.env s0)[15]? fun v7 =>
    C.any (St.env s0)[16]? fun v8 =>
    C.any (St.env s0)[17]? fun v9 =>
    C.any (St.env s0)[18]? fun v10 =>
    C.any (St.env s0)[19]? fun v11 =>
    C.any (St.env s0)[20]? fun v12 =>
    C.any (St.env s0)[21]? fun v13 =>
    C.any (St.env s0)[22]? fun v14 =>
    C.any (St.env s0)[23]? fun v15 =>
    C.any (St.env s0)[24]? fun v16 =>
    C.any (St.env s0)[25]? fun v17 =>
    C.sameH (St.H s0) [] <|
    cnd (decide (x5 < (((List.length a0) : Nat) : Int)))
     (cnd (decide (0 ≤ x5))
       (C.agg 2 a0[(Int.toNat x5)]? fun l18 =>
        C.int .i64 l18[0]? fun x19 =>
        C.int .i64 l18[1]? fun x20 =>
        cnd (decide (0 ≤ x5))
         (C.agg 2 a1[(Int.toNat x5)]? fun l21 =>
          C.int .i64 l21[0]? fun x22 =>
          C.int .i64 l21[1]? fun x23 =>
          cnd (xor true ((x19 == x22) && ((x20 == x23) && true)))
           (k1 .ret ⟨[(.lst a0), (.lst a1), (.tup []), (.tup []), (.bool false), (.int .i64 x5), (.lst a0), (.int .i64 (((List.length a0) : Nat) : Int)), (.lst a1), (.int .i64 (((List.length a1) : Nat) : Int)), (.bool false), (.lst a0), (.int .i64 (((List.length a0) : Nat) : Int)), (.int .i64 x5), (.bool true), (.int .i64 x5), (.lst a0), (.int .i64 x5), (.fptr (.agg [(.int .i64 x19), (.int .i64 x20)]) 0), (.agg [(.int .i64 x19), (.int .i64 x20)]), (.lst a1), (.int .i64 x5), (.fptr (.agg [(.int .i64 x22), (.int .i64 x23)]) 0), (.agg [(.int .i64 x22), (.int .i64 x23)]), (.bool true), v17], []⟩)
           (k1 .normal ⟨[(.lst a0), (.lst a1), (.tup []), (.tup []), (.bool b3), (.int .i64 x5), (.lst a0), (.int .i64 (((List.length a0) : Nat) : Int)), (.lst a1), (.int .i64 (((List.length a1) : Nat) : Int)), (.bool false), (.lst a0), (.int .i64 (((List.length a0) : Nat) : Int)), (.int .i64 (IntKind.wrap .i64 (x5 + 1))), (.bool true), (.int .i64 x5), (.lst a0), (.int .i64 x5), (.fptr (.agg [(.int .i64 x19), (.int .i64 x20)]) 0), (.agg [(.int .i64 x19), (.int .i64 x20)]), (.lst a1), (.int .i64 x5), (.fptr (.agg [(.int .i64 x22), (.int .i64 x23)]) 0), (.agg [(.int .i64 x22), (.int .i64 x23)]), (.bool false), (.int .i64 (IntKind.wrap .i64 (x5 + 1)))], []⟩))
         (none))
       (none))
     (k1 (.exit 0) ⟨[(.lst a0), (.lst a1), (.tup []), (.tup []), (.bool b3), v4, (.lst a0), (.int .i64 (((List.length a0) : Nat) : Int)), (.lst a1), (.int .i64 (((List.length a1) : Nat) : Int)), (.bool false), (.lst a0), (.int .i64 (((List.length a0) : Nat) : Int)), (.int .i64 x5), (.bool false), v7, v8, v9, v10, v11, v12, v13, v14, v15, v16, v17], []⟩))
   (none)
def r29X0_0 (C : Cb) (d : Nat) (a0 : List AV) (a1 : List AV) : St → Ans := fun s24 =>
  cnd ((List.length (St.env s24)) == 26)
   (C.same (St.env s24)[0]? (.lst a0) <|
    C.same (St.env s24)[1]? (.lst a1) <|
    C.same (St.env s24)[2]? (.tup []) <|
    C.same (St.env s24)[3]? (.tup []) <|
    C.bool (St.env s24)[4]? fun b25 =>
    C.any (St.env s24)[5]? fun v26 =>
    C.same (St.env s24)[6]? (.lst a0) <|
    C.same (St.env s24)[7]? (.int .i64 (((List.length a0) : Nat) : Int)) <|
    C.same (St.env s24)[8]? (.lst a1) <|
    C.same (St.env s24)[9]? (.int .i64 (((List.length a1) : Nat) : Int)) <|
    C.same (St.env s24)[10]? (.bool false) <|
    C.same (St.env s24)[11]? (.lst a0) <|
    C.same (St.env s24)[12]? (.int .i64 (((List.length a0) : Nat) : Int)) <|
    C.int .i64 (St.env s24)[13]? fun x27 =>
    C.any (St.env s24)[14]? fun v28 =>
    C.any (St.env s24)[15]? fun v29 =>
    C.any (St.env s24)[16]? fun v30 =>
    C.any (St.env s24)[17]? fun v31 =>
    C.any (St.env s24)[18]? fun v32 =>
    C.any (St.env s24)[19]? fun v33 =>
    C.any (St.env s24)[20]? fun v34 =>
    C.any (St.env s24)[21]? fun v35 =>
    C.any (St.env s24)[22]? fun v36 =>
    C.any (St.env s24)[23]? fun v37 =>
    C.any (St.env s24)[24]? fun v38 =>
    C.any (St.env s24)[25]? fun v39 =>
    C.sameH (St.H s24) [] <|
    some (.bool true))
   (none)
def r29E0 (C : Cb) (d : Nat) (a0 : List AV) (a1 : List AV) : St → Ans := fun s2 =>
  cnd ((List.length (St.env s2)) == 26)
   (C.same (St.env s2)[0]? (.lst a0) <|
    C.same (St.env s2)[1]? (.lst a1) <|
    C.same (St.env s2)[2]? (.tup []) <|
    C.same (St.env s2)[3]? (.tup []) <|
    C.bool (St.env s2)[4]? fun b40 =>
    C.int .i64 (St.env s2)[5]? fun x41 =>
    C.same (St.env s2)[6]? (.lst a0) <|
    C.same (St.env s2)[7]? (.int .i64 (((List.length a0) : Nat) : Int)) <|
    C.same (St.env s2)[8]? (.lst a1) <|
    C.same (St.env s2)[9]? (.int .i64 (((List.length a1) : Nat) : Int)) <|
    C.same (St.env s2)[10]? (.bool false) <|
    C.same (St.env s2)[11]? (.lst a0) <|
    C.same (St.env s2)[12]? (.int .i64 (((List.length a0) : Nat) : Int)) <|
    C.int .i64 (St.env s2)[13]? fun x42 =>
    C.any (St.env s2)[14]? fun v43 =>
    C.int .i64 (St.env s2)[15]? fun x44 =>
    C.any (St.env s2)[16]? fun v45 =>
    C.int .i64 (St.env s2)[17]? fun x46 =>
    C.any (St.env s2)[18]? fun v47 =>
    C.agg 2 (St.env s2)[19]? fun l48 =>
    C.int .i64 l48[0]? fun x49 =>
    C.int .i64 l48[1]? fun x50 =>
    C.any (St.env s2)[20]? fun v51 =>
    C.int .i64 (St.env s2)[21]? fun x52 =>
    C.any (St.env s2)[22]? fun v53 =>
    C.agg 2 (St.env s2)[23]? fun l54 =>
    C.int .i64 l54[0]? fun x55 =>
    C.int .i64 l54[1]? fun x56 =>
    C.bool (St.env s2)[24]? fun b57 =>
    C.any (St.env s2)[25]? fun v58 =>
    C.sameH (St.H s2) [] <|
    some (.bool b40))
   (none)
/-- slices.Equal[[]apogee/api.Point,apogee/api.Point] -/
theorem r29 (C : Cb) (d : Nat) (a0 : List AV) (a1 : List AV) : xcall C M unr d 29 [(.lst a0), (.lst a1)] =
  cnd ((((List.length a0) : Nat) : Int) != (((List.length a1) : Nat) : Int))
   (some (.bool false))
   (C.iter (r29R0 C d a0 a1) 1000000000000000000 ⟨[(.lst a0), (.lst a1), (.tup []), (.tup []), (.bool false), (.tup []), (.lst a0), (.int .i64 (((List.length a0) : Nat) : Int)), (.lst a1), (.int .i64 (((List.length a1) : Nat) : Int)), (.bool false), (.lst a0), (.int .i64 (((List.length a0) : Nat) : Int)), (.int .i64 0), (.tup []), (.tup []), (.tup []), (.tup []), (.tup []), (.tup []), (.tup []), (.tup []), (.tup []), (.tup []), (.tup []), (.tup [])], []⟩ [0] [r29X0_0 C d a0 a1] (r29E0 C d a0 a1)) := by kernel_rfl
/-- slices.ContainsFunc[[]apogee/api.Point,apogee/api.Point] -/
theorem r30f31 (C : Cb) (d : Nat) (a0 : List AV) (a1 : AV) : xcall C M unr d 30 [(.lst a0), (.fn 31 [] [])] =
  C.int .i64 (pcall M d 42 [(.lst a0), (.fn 31 [] [])]) fun x0 =>
  some (.bool (decide (x0 ≥ 0))) := by kernel_rfl
/-- apogee/point.right$1 -/
theorem r31 (C : Cb) (d : Nat) (a0 : Int) (a1 : Int) : xcall C M unr d 31 [(.agg [(.int .i64 a0), (.int .i64 a1)])] =
  C.bool (pcall M d 10 [(.agg [(.int .i64 a0), (.int .i64 a1)])]) fun b0 =>
  some (.bool (!b0)) := by kernel_rfl
/-- math/bits.Mul64 -/
theorem r32 (C : Cb) (d : Nat) (a0 : Int) (a1 : Int) : xcall C M unr d 32 [(.int .u64 a0), (.int .u64 a1)] =
  some (.tup [(.int .u64 (IntKind.wrap .u64 ((IntKind.wrap .u64 ((IntKind.wrap .u64 ((Int.fdiv a0 (2 ^ (min (Int.toNat 32) 64))) * (Int.fdiv a1 (2 ^ (min (Int.toNat 32) 64))))) + (Int.fdiv (IntKind.wrap .u64 ((IntKind.wrap .u64 ((Int.fdiv a0 (2 ^ (min (Int.toNat 32) 64))) * (bits .and .u64 a1 4294967295))) + (Int.fdiv (IntKind.wrap .u64 ((bits .and .u64 a0 4294967295) * (bits .and .u64 a1 4294967295))) (2 ^ (min (Int.toNat 32) 64))))) (2 ^ (min (Int.toNat 32) 64))))) + (Int.fdiv (IntKind.wrap .u64 ((bits .and .u64 (IntKind.wrap .u64 ((IntKind.wrap .u64 ((Int.fdiv a0 (2 ^ (min (Int.toNat 32) 64))) * (bits .and .u64 a1 4294967295))) + (Int.fdiv (IntKind.wrap .u64 ((bits .and .u64 a0 4294967295) * (bits .and .u64 a1 4294967295))) (2 ^ (min (Int.toNat 32) 64))))) 4294967295) + (IntKind.wrap .u64 ((bits .and .u64 a0 4294967295) * (Int.fdiv a1 (2 ^ (min (Int.toNat 32) 64))))))) (2 ^ (min (Int.toNat 32) 64)))))), (.int .u64 (IntKind.wrap .u64 (a0 * a1)))]) := by kernel_rfl
def r33R0 (C : Cb) (d : Nat) (a0 : List AV) : St → (Ex → St → Ans) → Ans := fun s0 k1 =>
  cnd ((List.length (St.env s0)) == 18)
   (C.same (St.env s0)[0]? (.lst a0) <|
    C.same (St.env s0)[1]? (.tup []) <|
    C.int .i64 (St.env s0)[2]? fun x3 =>
    C.same (St.env s0)[3]? (.int .i64 0) <|
    C.same (St.env s0)[4]? (.tup []) <|
    C.any (St.env s0)[5]? fun v4 =>
    C.same (St.env s0)[6]? (.lst a0) <|
    C.same (St.env s0)[7]? (.int .i64 (((List.length a0) : Nat) : Int)) <|
    C.int .i64 (St.env s0)[8]? fun x5 =>
    C.any (St.env s0)[9]? fun v6 =>
    C.any (St.env s0)[10]? fun v7 =>
    C.any (St.env s0)[11]? fun v8 =>
    C.any (St.env s0)[12]? fun v9 =>
    C.any (St.env s0)[13]? fun v10 =>
    C.any (St.env s0)[14]? fun v11 =>
    C.any (St.env s0)[15]? fun v12 =>
    C.any (St.env s0)[16]? fun v13 =>
    C.same (St.env s0)[17]? (.tup []) <|
    C.sameH (St.H s0) [] <|
    cnd (decide (x5 < (((List.length a0) : Nat) : Int)))
     (cnd (decide (0 ≤ x5))
       (C.int .i64 a0[(Int.toNat x5)]? fun x14 =>
        cnd (x14 != 0)
         (k1 .ret ⟨[(.lst a0), (.tup []), (.int .i64 x14), (.int .i64 0), (.tup []), (.int .i64 x14), (.lst a0), (.int .i64 (((List.length a0) : Nat) : Int)), (.int .i64 x5), (.bool true), (.fptr (.int .i64 x14) 0), (.int .i64 x14), (.int .i64 x14), (.int .i64 0), (.bool true), (.int .i64 x14), v13, (.tup [])], []⟩)
         (k1 .normal ⟨[(.lst a0), (.tup []), (.int .i64 x3), (.int .i64 0), (.tup []), (.int .i64 x14), (.lst a0), (.int .i64 (((List.length a0) : Nat) : Int)), (.int .i64 (IntKind.wrap .i64 (x5 + 1))), (.bool true), (.fptr (.int .i64 x14) 0), (.int .i64 x14), (.int .i64 x14), (.int .i64 0), (.bool false), v12, (.int .i64 (IntKind.wrap .i64 (x5 + 1))), (.tup [])], []⟩))
       (none))
     (k1 (.exit 0) ⟨[(.lst a0), (.tup []), (.int .i64 x3), (.int .i64 0), (.tup []), v4, (.lst a0), (.int .i64 (((List.length a0) : Nat) : Int)), (.int .i64 x5), (.bool false), v7, v8, v9, v10, v11, v12, v13, (.tup [])], []⟩))
   (none)
def r33X0_0 (C : Cb) (d : Nat) (a0 : List AV) : St → Ans := fun s15 =>
  cnd ((List.length (St.env s15)) == 18)
   (C.same (St.env s15)[0]? (.lst a0) <|
    C.same (St.env s15)[1]? (.tup []) <|
    C.int .i64 (St.env s15)[2]? fun x16 =>
    C.same (St.env s15)[3]? (.int .i64 0) <|
    C.same (St.env s15)[4]? (.tup []) <|
    C.any (St.env s15)[5]? fun v17 =>
    C.same (St.env s15)[6]? (.lst a0) <|
    C.same (St.env s15)[7]? (.int .i64 (((List.length a0) : Nat) : Int)) <|
    C.int .i64 (St.env s15)[8]? fun x18 =>
    C.any (St.env s15)[9]? fun v19 =>
    C.any (St.env s15)[10]? fun v20 =>
    C.any (St.env s15)[11]? fun v21 =>
    C.any (St.env s15)[12]? fun v22 =>
    C.any (St.env s15)[13]? fun v23 =>
    C.any (St.env s15)[14]? fun v24 =>
    C.any (St.env s15)[15]? fun v25 =>
    C.any (St.env s15)[16]? fun v26 =>
    C.same (St.env s15)[17]? (.tup []) <|
    C.sameH (St.H s15) [] <|
    some (.int .i64 0))
   (none)
def r33E0 (C : Cb) (d : Nat) (a0 : List AV) : St → Ans := fun s2 =>
  cnd ((List.length (St.env s2)) == 18)
   (C.same (St.env s2)[0]? (.lst a0) <|
    C.same (St.env s2)[1]? (.tup []) <|
    C.int .i64 (St.env s2)[2]? fun x27 =>
    C.same (St.env s2)[3]? (.int .i64 0) <|
    C.same (St.env s2)[4]? (.tup []) <|
    C.int .i64 (St.env s2)[5]? fun x28 =>
    C.same (St.env s2)[6]? (.lst a0) <|
    C.same (St.env s2)[7]? (.int .i64 (((List.length a0) : Nat) : Int)) <|
    C.int .i64 (St.env s2)[8]? fun x29 =>
    C.any (St.env s2)[9]? fun v30 =>
    C.any (St.env s2)[10]? fun v31 =>
    C.int .i64 (St.env s2)[11]? fun x32 =>
    C.int .i64 (St.env s2)[12]? fun x33 =>
    C.int .i64 (St.env s2)[13]? fun x34 =>
    C.bool (St.env s2)[14]? fun b35 =>
    C.int .i64 (St.env s2)[15]? fun x36 =>
    C.any (St.env s2)[16]? fun v37 =>
    C.same (St.env s2)[17]? (.tup []) <|
    C.sameH (St.H s2) [] <|
    some (.int .i64 x27))
   (none)
/-- cmp.Or[int] -/
theorem r33 (C : Cb) (d : Nat) (a0 : List AV) : xcall C M unr d 33 [(.lst a0)] =
  C.iter (r33R0 C d a0) 1000000000000000000 ⟨[(.lst a0), (.tup []), (.int .i64 0), (.int .i64 0), (.tup []), (.tup []), (.lst a0), (.int .i64 (((List.length a0) : Nat) : Int)), (.int .i64 0), (.tup []), (.tup []), (.tup []), (.tup []), (.tup []), (.tup []), (.tup []), (.tup []), (.tup [])], []⟩ [0] [r33X0_0 C d a0] (r33E0 C d a0) := by kernel_rfl
/-- cmp.Compare[int64] -/
theorem r34 (C : Cb) (d : Nat) (a0 : Int) (a1 : Int) : xcall C M unr d 34 [(.int .i64 a0), (.int .i64 a1)] =
  C.bool (pcall M d 43 [(.int .i64 a0)]) fun b0 =>
  C.bool (pcall M d 43 [(.int .i64 a1)]) fun b1 =>
  cnd b0
   (cnd b1
     (some (.int .i64 0))
     (some (.int .i64 (-1))))
   (cnd b1
     (some (.int .i64 1))
     (cnd (decide (a0 < a1))
       (some (.int .i64 (-1)))
       (cnd (decide (a0 > a1))
         (some (.int .i64 1))
         (some (.int .i64 0))))) := by kernel_rfl
/-- cmp.Compare[uint64] -/
theorem r35 (C : Cb) (d : Nat) (a0 : Int) (a1 : Int) : xcall C M unr d 35 [(.int .u64 a0), (.int .u64 a1)] =
  C.bool (pcall M d 44 [(.int .u64 a0)]) fun b0 =>
  C.bool (pcall M d 44 [(.int .u64 a1)]) fun b1 =>
  cnd b0
   (cnd b1
     (some (.int .i64 0))
     (some (.int .i64 (-1))))
   (cnd b1
     (some (.int .i64 1))
     (cnd (decide (a0 < a1))
       (some (.int .i64 (-1)))
       (cnd (decide (a0 > a1))
         (some (.int .i64 1))
         (some (.int .i64 0))))) := by kernel_rfl
/-- apogee/apogeeref01.Of -/
theorem r36 (C : Cb) (d : Nat) (a0 : Int) : xcall C M unr d 36 [(.int .i64 a0)] =
  cnd (decide (a0 < 0))
   (some (.agg [(.int .i64 (-1)), (.int .u64 (IntKind.wrap .u64 a0))]))
   (some (.agg [(.int .i64 0), (.int .u64 (IntKind.wrap .u64 a0))])) := by kernel_rfl
def r37R0 (C : Cb) (d : Nat) (a0 : Int) (a1 : Int) (a2 : Int) (a3 : Int) (v0 : AV) (v2 : AV) (v4 : AV) (x9 : Int) (x10 : Int) (v11 : AV) (x15 : Int) (x16 : Int) (v17 : AV) : St → (Ex → St → Ans) → Ans := fun s18 k19 =>
  cnd ((List.length (St.env s18)) == 39)
   (C.same (St.env s18)[0]? (.agg [(.int .i64 a0), (.int .u64 a1)]) <|
    C.same (St.env s18)[1]? (.agg [(.int .i64 a2), (.int .u64 a3)]) <|
    C.same (St.env s18)[2]? v0 <|
    C.same (St.env s18)[3]? v2 <|
    C.same (St.env s18)[4]? v4 <|
    C.same (St.env s18)[5]? v11 <|
    C.same (St.env s18)[6]? v17 <|
    C.any (St.env s18)[7]? fun v21 =>
    C.int .i64 (St.env s18)[8]? fun x22 =>
    C.int .i64 (St.env s18)[9]? fun x23 =>
    C.any (St.env s18)[10]? fun v24 =>
    C.same (St.env s18)[11]? (.agg [(.int .i64 x9), (.int .u64 x10)]) <|
    C.same (St.env s18)[12]? v11 <|
    C.same (St.env s18)[13]? (.agg [(.int .i64 x15), (.int .u64 x16)]) <|
    C.same (St.env s18)[14]? v17 <|
    C.any (St.env s18)[15]? fun v25 =>
    C.any (St.env s18)[16]? fun v26 =>
    C.any (St.env s18)[17]? fun v27 =>
    C.any (St.env s18)[18]? fun v28 =>
    C.any (St.env s18)[19]? fun v29 =>
    C.any (St.env s18)[20]? fun v30 =>
    C.any (St.env s18)[21]? fun v31 =>
    C.any (St.env s18)[22]? fun v32 =>
    C.any (St.env s18)[23]? fun v33 =>
    C.any (St.env s18)[24]? fun v34 =>
    C.any (St.env s18)[25]? fun v35 =>
    C.any (St.env s18)[26]? fun v36 =>
    C.any (St.env s18)[27]? fun v37 =>
    C.any (St.env s18)[28]? fun v38 =>
    C.any (St.env s18)[29]? fun v39 =>
    C.any (St.env s18)[30]? fun v40 =>
    C.any (St.env s18)[31]? fun v41 =>
    C.any (St.env s18)[32]? fun v42 =>
    C.any (St.env s18)[33]? fun v43 =>
    C.any (St.env s18)[34]? fun v44 =>
    C.any (St.env s18)[35]? fun v45 =>
    C.any (St.env s18)[36]? fun v46 =>
    C.same (St.env s18)[37]? (.tup []) <|
    C.same (St.env s18)[38]? (.tup []) <|
    cnd (decide (x23 < 128))
     (C.hop (St.H s18) (.ixAS .any 1 (.v v11) (.v (.int .i64 x23))) fun v47 h48 =>
      C.hop h48 (.load false 1 (.v v47)) fun v49 h50 =>
      C.int .i64 (some v49) fun x51 =>
      C.hop h50 (.ixAS .any 1 (.v v17) (.v (.int .i64 x23))) fun v52 h53 =>
      C.hop h53 (.load false 1 (.v v52)) fun v54 h55 =>
      C.int .i64 (some v54) fun x56 =>
      C.hop h55 (.mkrow E3 1 [(0, (.v (.int .i64 (Int.tmod (IntKind.wrap .i64 ((IntKind.wrap .i64 (x51 + x56)) + x22)) 2))))]) fun v57 h58 =>
      C.hop h58 (.app E3 (.v v21) (.v v57)) fun v59 h60 =>
      k19 .normal ⟨[(.agg [(.int .i64 a0), (.int .u64 a1)]), (.agg [(.int .i64 a2), (.int .u64 a3)]), v0, v2, v4, v11, v17, v59, (.int .i64 (IntKind.wrap .i64 (Int.tdiv (IntKind.wrap .i64 ((IntKind.wrap .i64 (x51 + x56)) + x22)) 2))), (.int .i64 (IntKind.wrap .i64 (x23 + 1))), (.int .i64 (IntKind.wrap .i64 ((IntKind.wrap .i64 (x51 + x56)) + x22))), (.agg [(.int .i64 x9), (.int .u64 x10)]), v11, (.agg [(.int .i64 x15), (.int .u64 x16)]), v17, (.int .i64 x23), (.bool true), (.int .i64 x23), (.int .i64 (IntKind.wrap .i64 (x23 + 1))), v11, (.int .i64 x23), v47, (.int .i64 x51), v17, (.int .i64 x23), v52, (.int .i64 x56), (.int .i64 (IntKind.wrap .i64 (x51 + x56))), (.int .i64 x22), (.int .i64 (IntKind.wrap .i64 ((IntKind.wrap .i64 (x51 + x56)) + x22))), v21, (.int .i64 (IntKind.wrap .i64 ((IntKind.wrap .i64 (x51 + x56)) + x22))), (.int .i64 (Int.tmod (IntKind.wrap .i64 ((IntKind.wrap .i64 (x51 + x56)) + x22)) 2)), v57, v59, (.int .i64 (IntKind.wrap .i64 ((IntKind.wrap .i64 (x51 + x56)) + x22))), (.int .i64 (IntKind.wrap .i64 (Int.tdiv (IntKind.wrap .i64 ((IntKind.wrap .i64 (x51 + x56)) + x22)) 2))), (.tup []), (.tup [])], h60⟩)
     (k19 (.exit 0) ⟨[(.agg [(.int .i64 a0), (.int .u64 a1)]), (.agg [(.int .i64 a2), (.int .u64 a3)]), v0, v2, v4, v11, v17, v21, (.int .i64 x22), (.int .i64 x23), v24, (.agg [(.int .i64 x9), (.int .u64 x10)]), v11, (.agg [(.int .i64 x15), (.int .u64 x16)]), v17, (.int .i64 x23), (.bool false), v27, v28, v29, v30, v31, v32, v33, v34, v35, v36, v37, v38, v39, v40, v41, v42, v43, v44, v45, v46, (.tup []), (.tup [])], (St.H s18)⟩))
   (none)
def r37X0_0 (C : Cb) (d : Nat) (a0 : Int) (a1 : Int) (a2 : Int) (a3 : Int) (v0 : AV) (v2 : AV) (v4 : AV) (x9 : Int) (x10 : Int) (v11 : AV) (x15 : Int) (x16 : Int) (v17 : AV) : St → Ans := fun s61 =>
  cnd ((List.length (St.env s61)) == 39)
   (C.same (St.env s61)[0]? (.agg [(.int .i64 a0), (.int .u64 a1)]) <|
    C.same (St.env s61)[1]? (.agg [(.int .i64 a2), (.int .u64 a3)]) <|
    C.same (St.env s61)[2]? v0 <|
    C.same (St.env s61)[3]? v2 <|
    C.same (St.env s61)[4]? v4 <|
    C.same (St.env s61)[5]? v11 <|
    C.same (St.env s61)[6]? v17 <|
    C.any (St.env s61)[7]? fun v62 =>
    C.int .i64 (St.env s61)[8]? fun x63 =>
    C.int .i64 (St.env s61)[9]? fun x64 =>
    C.any (St.env s61)[10]? fun v65 =>
    C.same (St.env s61)[11]? (.agg [(.int .i64 x9), (.int .u64 x10)]) <|
    C.same (St.env s61)[12]? v11 <|
    C.same (St.env s61)[13]? (.agg [(.int .i64 x15), (.int .u64 x16)]) <|
    C.same (St.env s61)[14]? v17 <|
    C.int .i64 (St.env s61)[15]? fun x66 =>
    C.bool (St.env s61)[16]? fun b67 =>
    C.any (St.env s61)[17]? fun v68 =>
    C.any (St.env s61)[18]? fun v69 =>
    C.any (St.env s61)[19]? fun v70 =>
    C.any (St.env s61)[20]? fun v71 =>
    C.any (St.env s61)[21]? fun v72 =>
    C.any (St.env s61)[22]? fun v73 =>
    C.any (St.env s61)[23]? fun v74 =>
    C.any (St.env s61)[24]? fun v75 =>
    C.any (St.env s61)[25]? fun v76 =>
    C.any (St.env s61)[26]? fun v77 =>
    C.any (St.env s61)[27]? fun v78 =>
    C.any (St.env s61)[28]? fun v79 =>
    C.any (St.env s61)[29]? fun v80 =>
    C.any (St.env s61)[30]? fun v81 =>
    C.any (St.env s61)[31]? fun v82 =>
    C.any (St.env s61)[32]? fun v83 =>
    C.any (St.env s61)[33]? fun v84 =>
    C.any (St.env s61)[34]? fun v85 =>
    C.any (St.env s61)[35]? fun v86 =>
    C.any (St.env s61)[36]? fun v87 =>
    C.same (St.env s61)[37]? (.tup []) <|
    C.same (St.env s61)[38]? (.tup []) <|
    C.snp (St.H s61) [v62] fun l88 b89 =>
    C.agg 2 (pcall M d 46 l88) fun l90 =>
    C.int .i64 l90[0]? fun x91 =>
    C.int .u64 l90[1]? fun x92 =>
    cnd (b89 || true)
     (C.hop (St.H s61) (.store 2 (.v v4) (.v (.agg [(.int .i64 x91), (.int .u64 x92)]))) fun v93 h94 =>
      C.hop h94 (.load true 2 (.v v4)) fun v95 h96 =>
      some (snap 12 h94 v95))
     (none))
   (none)
def r37E0 (C : Cb) (d : Nat) (a0 : Int) (a1 : Int) (a2 : Int) (a3 : Int) (v0 : AV) (v2 : AV) (v4 : AV) (x9 : Int) (x10 : Int) (v11 : AV) (x15 : Int) (x16 : Int) (v17 : AV) : St → Ans := fun s20 =>
  cnd ((List.length (St.env s20)) == 39)
   (C.same (St.env s20)[0]? (.agg [(.int .i64 a0), (.int .u64 a1)]) <|
    C.same (St.env s20)[1]? (.agg [(.int .i64 a2), (.int .u64 a3)]) <|
    C.same (St.env s20)[2]? v0 <|
    C.same (St.env s20)[3]? v2 <|
    C.same (St.env s20)[4]? v4 <|
    C.same (St.env s20)[5]? v11 <|
    C.same (St.env s20)[6]? v17 <|
    C.any (St.env s20)[7]? fun v97 =>
    C.int .i64 (St.env s20)[8]? fun x98 =>
    C.int .i64 (St.env s20)[9]? fun x99 =>
    C.any (St.env s20)[10]? fun v100 =>
    C.same (St.env s20)[11]? (.agg [(.int .i64 x9), (.int .u64 x10)]) <|
    C.same (St.env s20)[12]? v11 <|
    C.same (St.env s20)[13]? (.agg [(.int .i64 x15), (.int .u64 x16)]) <|
    C.same (St.env s20)[14]? v17 <|
    C.any (St.env s20)[15]? fun v101 =>
    C.any (St.env s20)[16]? fun v102 =>
    C.any (St.env s20)[17]? fun v103 =>
    C.any (St.env s20)[18]? fun v104 =>
    C.any (St.env s20)[19]? fun v105 =>
    C.any (St.env s20)[20]? fun v106 =>
    C.any (St.env s20)[21]? fun v107 =>
    C.any (St.env s20)[22]? fun v108 =>
    C.any (St.env s20)[23]? fun v109 =>
    C.any (St.env s20)[24]? fun v110 =>
    C.any (St.env s20)[25]? fun v111 =>
    C.any (St.env s20)[26]? fun v112 =>
    C.any (St.env s20)[27]? fun v113 =>
    C.any (St.env s20)[28]? fun v114 =>
    C.any (St.env s20)[29]? fun v115 =>
    C.any (St.env s20)[30]? fun v116 =>
    C.any (St.env s20)[31]? fun v117 =>
    C.any (St.env s20)[32]? fun v118 =>
    C.any (St.env s20)[33]? fun v119 =>
    C.any (St.env s20)[34]? fun v120 =>
    C.any (St.env s20)[35]? fun v121 =>
    C.any (St.env s20)[36]? fun v122 =>
    C.same (St.env s20)[37]? (.tup []) <|
    C.same (St.env s20)[38]? (.tup []) <|
    C.hop (St.H s20) (.load true 2 (.v v4)) fun v123 h124 =>
    some (snap 12 (St.H s20) v123))
   (none)
/-- apogee/apogeeref01.plus -/
theorem r37 (C : Cb) (d : Nat) (a0 : Int) (a1 : Int) (a2 : Int) (a3 : Int) : xcall C M unr d 37 [(.agg [(.int .i64 a0), (.int .u64 a1)]), (.agg [(.int .i64 a2), (.int .u64 a3)])] =
  C.hop [] (.box E43 (.v (.agg [(.int .i64 a0), (.int .u64 a1)]))) fun v0 h1 =>
  C.hop h1 (.box E43 (.v (.agg [(.int .i64 a2), (.int .u64 a3)]))) fun v2 h3 =>
  C.hop h3 (.alloc E43) fun v4 h5 =>
  C.hop h5 (.load true 2 (.v v0)) fun v6 h7 =>
  C.agg 2 (some v6) fun l8 =>
  C.int .i64 l8[0]? fun x9 =>
  C.int .u64 l8[1]? fun x10 =>
  C.any (pcall M d 45 [(.agg [(.int .i64 x9), (.int .u64 x10)])]) fun v11 =>
  C.hop h7 (.load true 2 (.v v2)) fun v12 h13 =>
  C.agg 2 (some v12) fun l14 =>
  C.int .i64 l14[0]? fun x15 =>
  C.int .u64 l14[1]? fun x16 =>
  C.any (pcall M d 45 [(.agg [(.int .i64 x15), (.int .u64 x16)])]) fun v17 =>
  C.iter (r37R0 C d a0 a1 a2 a3 v0 v2 v4 x9 x10 v11 x15 x16 v17) 1000000000000000000 ⟨[(.agg [(.int .i64 a0), (.int .u64 a1)]), (.agg [(.int .i64 a2), (.int .u64 a3)]), v0, v2, v4, v11, v17, (.zsl true), (.int .i64 0), (.int .i64 0), (.tup []), (.agg [(.int .i64 x9), (.int .u64 x10)]), v11, (.agg [(.int .i64 x15), (.int .u64 x16)]), v17, (.tup []), (.tup []), (.tup []), (.tup []), (.tup []), (.tup []), (.tup []), (.tup []), (.tup []), (.tup []), (.tup []), (.tup []), (.tup []), (.tup []), (.tup []), (.tup []), (.tup []), (.tup []), (.tup []), (.tup []), (.tup []), (.tup []), (.tup []), (.tup [])], h13⟩ [0] [r37X0_0 C d a0 a1 a2 a3 v0 v2 v4 x9 x10 v11 x15 x16 v17] (r37E0 C d a0 a1 a2 a3 v0 v2 v4 x9 x10 v11 x15 x16 v17) := by kernel_rfl
/-- apogee/apogeeref01.Flip -/
theorem r38 (C : Cb) (d : Nat) (a0 : Int) (a1 : Int) : xcall C M unr d 38 [(.agg [(.int .i64 a0), (.int .u64 a1)])] =
  C.agg 2 (pcall M d 37 [(.agg [(.int .i64 (bits .xor .i64 (if (true = true) then (-1) else (IntKind.max .i64)) a0)), (.int .u64 (bits .xor .u64 (if (false = true) then (-1) else (IntKind.max .u64)) a1))]), (.agg [(.int .i64 0), (.int .u64 1)])]) fun l0 =>
  C.int .i64 l0[0]? fun x1 =>
  C.int .u64 l0[1]? fun x2 =>
  some (.agg [(.int .i64 x1), (.int .u64 x2)]) := by kernel_rfl
/-- apogee/fix.told -/
theorem r39 (C : Cb) (d : Nat) (a0 : Int) (a1 : Int) (a2 : Bool) : xcall C M unr d 39 [(.agg [(.int .i64 a0), (.int .u64 a1)]), (.bool a2)] =
  cnd (!a2)
   (some (.tup [(.int .i64 0), (.bool false)]))
   (C.tup 2 (pcall M d 47 [(.agg [(.int .i64 a0), (.int .u64 a1)])]) fun l0 =>
    C.int .i64 l0[0]? fun x1 =>
    C.bool l0[1]? fun b2 =>
    some (.tup [(.int .i64 x1), (.bool b2)])) := by kernel_rfl
/-- apogee/wide.Of -/
theorem r40 (C : Cb) (d : Nat) (a0 : Int) : xcall C M unr d 40 [(.int .i64 a0)] =
  some (.agg [(.int .i64 (Int.fdiv a0 (2 ^ (min (Int.toNat 63) 64)))), (.int .u64 (IntKind.wrap .u64 a0))]) := by kernel_rfl
/-- (apogee/wide.Wide).Add -/
theorem r41 (C : Cb) (d : Nat) (a0 : Int) (a1 : Int) (a2 : Int) (a3 : Int) : xcall C M unr d 41 [(.agg [(.int .i64 a0), (.int .u64 a1)]), (.agg [(.int .i64 a2), (.int .u64 a3)])] =
  C.tup 2 (add64E [(.int .u64 a1), (.int .u64 a3), (.int .u64 0)]) fun l0 =>
  C.int .u64 l0[0]? fun x1 =>
  C.int .u64 l0[1]? fun x2 =>
  C.tup 2 (add64E [(.int .u64 (IntKind.wrap .u64 a0)), (.int .u64 (IntKind.wrap .u64 a2)), (.int .u64 x2)]) fun l3 =>
  C.int .u64 l3[0]? fun x4 =>
  C.int .u64 l3[1]? fun x5 =>
  cnd (decide ((bits .and .i64 (bits .xor .i64 a0 (IntKind.wrap .i64 x4)) (bits .xor .i64 a2 (IntKind.wrap .i64 x4))) < 0))
   (some (.tup [(.agg [(.int .i64 0), (.int .u64 0)]), (.bool false)]))
   (some (.tup [(.agg [(.int .i64 (IntKind.wrap .i64 x4)), (.int .u64 x1)]), (.bool true)])) := by kernel_rfl
def r42f31R0 (C : Cb) (d : Nat) (a0 : List AV) : St → (Ex → St → Ans) → Ans := fun s0 k1 =>
  cnd ((List.length (St.env s0)) == 19)
   (C.same (St.env s0)[0]? (.lst a0) <|
    C.same (St.env s0)[1]? (.fn 31 [] []) <|
    C.same (St.env s0)[2]? (.tup []) <|
    C.same (St.env s0)[3]? (.tup []) <|
    C.int .i64 (St.env s0)[4]? fun x3 =>
    C.any (St.env s0)[5]? fun v4 =>
    C.same (St.env s0)[6]? (.lst a0) <|
    C.same (St.env s0)[7]? (.int .i64 (((List.length a0) : Nat) : Int)) <|
    C.int .i64 (St.env s0)[8]? fun x5 =>
    C.any (St.env s0)[9]? fun v6 =>
    C.any (St.env s0)[10]? fun v7 =>
    C.any (St.env s0)[11]? fun v8 =>
    C.any (St.env s0)[12]? fun v9 =>
    C.any (St.env s0)[13]? fun v10 =>
    C.any (St.env s0)[14]? fun v11 =>
    C.any (St.env s0)[15]? fun v12 =>
    C.any (St.env s0)[16]? fun v13 =>
    C.any (St.env s0)[17]? fun v14 =>
    C.any (St.env s0)[18]? fun v15 =>
    C.sameH (St.H s0) [] <|
    cnd (decide (x5 < (((List.length a0) : Nat) : Int)))
     (cnd (decide (0 ≤ x5))
       (C.agg 2 a0[(Int.toNat x5)]? fun l16 =>
        C.int .i64 l16[0]? fun x17 =>
        C.int .i64 l16[1]? fun x18 =>
        C.bool (pcall M d 31 [(.agg [(.int .i64 x17), (.int .i64 x18)])]) fun b19 =>
        cnd b19
         (k1 .ret ⟨[(.lst a0), (.fn 31 [] []), (.tup []), (.tup []), (.int .i64 x5), (.int .i64 x5), (.lst a0), (.int .i64 (((List.length a0) : Nat) : Int)), (.int .i64 x5), (.bool true), (.int .i64 x5), (.fn 31 [] []), (.lst a0), (.int .i64 x5), (.fptr (.agg [(.int .i64 x17), (.int .i64 x18)]) 0), (.agg [(.int .i64 x17), (.int .i64 x18)]), (.bool true), (.int .i64 x5), v15], []⟩)
         (k1 .normal ⟨[(.lst a0), (.fn 31 [] []), (.tup []), (.tup []), (.int .i64 x3), (.int .i64 x5), (.lst a0), (.int .i64 (((List.length a0) : Nat) : Int)), (.int .i64 (IntKind.wrap .i64 (x5 + 1))), (.bool true), (.int .i64 x5), (.fn 31 [] []), (.lst a0), (.int .i64 x5), (.fptr (.agg [(.int .i64 x17), (.int .i64 x18)]) 0), (.agg [(.int .i64 x17), (.int .i64 x18)]), (.bool false), v14, (.int .i64 (IntKind.wrap .i64 (x5 + 1)))], []⟩))
       (none))
     (k1 (.exit 0) ⟨[(.lst a0), (.fn 31 [] []), (.tup []), (.tup []), (.int .i64 x3), v4, (.lst a0), (.int .i64 (((List.length a0) : Nat) : Int)), (.int .i64 x5), (.bool false), v7, v8, v9, v10, v11, v12, v13, v14, v15], []⟩))
   (none)
def r42f31X0_0 (C : Cb) (d : Nat) (a0 : List AV) : St → Ans := fun s20 =>
  cnd ((List.length (St.env s20)) == 19)
   (C.same (St.env s20)[0]? (.lst a0) <|
    C.same (St.env s20)[1]? (.fn 31 [] []) <|
    C.same (St.env s20)[2]? (.tup []) <|
    C.same (St.env s20)[3]? (.tup []) <|
    C.int .i64 (St.env s20)[4]? fun x21 =>
    C.any (St.env s20)[5]? fun v22 =>
    C.same (St.env s20)[6]? (.lst a0) <|
    C.same (St.env s20)[7]? (.int .i64 (((List.length a0) : Nat) : Int)) <|
    C.int .i64 (St.env s20)[8]? fun x23 =>
    C.any (St.env s20)[9]? fun v24 =>
    C.any (St.env s20)[10]? fun v25 =>
    C.any (St.env s20)[11]? fun v26 =>
    C.any (St.env s20)[12]? fun v27 =>
    C.any (St.env s20)[13]? fun v28 =>
    C.any (St.env s20)[14]? fun v29 =>
    C.any (St.env s20)[15]? fun v30 =>
    C.any (St.env s20)[16]? fun v31 =>
    C.any (St.env s20)[17]? fun v32 =>
    C.any (St.env s20)[18]? fun v33 =>
    C.sameH (St.H s20) [] <|
    some (.int .i64 (-1)))
   (none)
def r42f31E0 (C : Cb) (d : Nat) (a0 : List AV) : St → Ans := fun s2 =>
  cnd ((List.length (St.env s2)) == 19)
   (C.same (St.env s2)[0]? (.lst a0) <|
    C.same (St.env s2)[1]? (.fn 31 [] []) <|
    C.same (St.env s2)[2]? (.tup []) <|
    C.same (St.env s2)[3]? (.tup []) <|
    C.int .i64 (St.env s2)[4]? fun x34 =>
    C.int .i64 (St.env s2)[5]? fun x35 =>
    C.same (St.env s2)[6]? (.lst a0) <|
    C.same (St.env s2)[7]? (.int .i64 (((List.length a0) : Nat) : Int)) <|
    C.int .i64 (St.env s2)[8]? fun x36 =>
    C.any (St.env s2)[9]? fun v37 =>
    C.int .i64 (St.env s2)[10]? fun x38 =>
    C.any (St.env s2)[11]? fun v39 =>
    C.any (St.env s2)[12]? fun v40 =>
    C.int .i64 (St.env s2)[13]? fun x41 =>
    C.any (St.env s2)[14]? fun v42 =>
    C.agg 2 (St.env s2)[15]? fun l43 =>
    C.int .i64 l43[0]? fun x44 =>
    C.int .i64 l43[1]? fun x45 =>
    C.bool (St.env s2)[16]? fun b46 =>
    C.int .i64 (St.env s2)[17]? fun x47 =>
    C.any (St.env s2)[18]? fun v48 =>
    C.sameH (St.H s2) [] <|
    some (.int .i64 x34))
   (none)
/-- slices.IndexFunc[[]apogee/api.Point,apogee/api.Point] -/
theorem r42f31 (C : Cb) (d : Nat) (a0 : List AV) (a1 : AV) : xcall C M unr d 42 [(.lst a0), (.fn 31 [] [])] =
  C.iter (r42f31R0 C d a0) 1000000000000000000 ⟨[(.lst a0), (.fn 31 [] []), (.tup []), (.tup []), (.int .i64 0), (.tup []), (.lst a0), (.int .i64 (((List.length a0) : Nat) : Int)), (.int .i64 0), (.tup []), (.tup []), (.tup []), (.tup []), (.tup []), (.tup []), (.tup []), (.tup []), (.tup []), (.tup [])], []⟩ [0] [r42f31X0_0 C d a0] (r42f31E0 C d a0) := by kernel_rfl
/-- cmp.isNaN[int64] -/
theorem r43 (C : Cb) (d : Nat) (a0 : Int) : xcall C M unr d 43 [(.int .i64 a0)] =
  some (.bool (a0 != a0)) := by kernel_rfl
/-- cmp.isNaN[uint64] -/
theorem r44 (C : Cb) (d : Nat) (a0 : Int) : xcall C M unr d 44 [(.int .u64 a0)] =
  some (.bool (a0 != a0)) := by kernel_rfl
def r45R1 (C : Cb) (d : Nat) (a0 : Int) (a1 : Int) (v0 : AV) (x31 : Int) (x32 : Int) (b33 : Bool) (v34 : AV) (v35 : AV) (v36 : AV) (v37 : AV) (v38 : AV) (v39 : AV) (v40 : AV) (v41 : AV) (v42 : AV) (v43 : AV) (v44 : AV) : St → (Ex → St → Ans) → Ans := fun s45 k46 =>
  cnd ((List.length (St.env s45)) == 34)
   (C.same (St.env s45)[0]? (.agg [(.int .i64 a0), (.int .u64 a1)]) <|
    C.same (St.env s45)[1]? v0 <|
    C.same (St.env s45)[2]? (.zsl true) <|
    C.any (St.env s45)[3]? fun v48 =>
    C.same (St.env s45)[4]? (.int .i64 x31) <|
    C.int .i64 (St.env s45)[5]? fun x49 =>
    C.same (St.env s45)[6]? (.int .i64 x32) <|
    C.same (St.env s45)[7]? (.bool b33) <|
    C.same (St.env s45)[8]? v34 <|
    C.same (St.env s45)[9]? v35 <|
    C.same (St.env s45)[10]? v36 <|
    C.same (St.env s45)[11]? v37 <|
    C.same (St.env s45)[12]? v38 <|
    C.same (St.env s45)[13]? v39 <|
    C.same (St.env s45)[14]? v40 <|
    C.same (St.env s45)[15]? v41 <|
    C.same (St.env s45)[16]? v42 <|
    C.same (St.env s45)[17]? v43 <|
    C.same (St.env s45)[18]? v44 <|
    C.any (St.env s45)[19]? fun v50 =>
    C.any (St.env s45)[20]? fun v51 =>
    C.any (St.env s45)[21]? fun v52 =>
    C.any (St.env s45)[22]? fun v53 =>
    C.any (St.env s45)[23]? fun v54 =>
    C.any (St.env s45)[24]? fun v55 =>
    C.any (St.env s45)[25]? fun v56 =>
    C.any (St.env s45)[26]? fun v57 =>
    C.any (St.env s45)[27]? fun v58 =>
    C.any (St.env s45)[28]? fun v59 =>
    C.any (St.env s45)[29]? fun v60 =>
    C.any (St.env s45)[30]? fun v61 =>
    C.any (St.env s45)[31]? fun v62 =>
    C.any (St.env s45)[32]? fun v63 =>
    C.same (St.env s45)[33]? (.tup []) <|
    cnd (decide (x49 < 64))
     (C.hop (St.H s45) (.fldA 0 (.v v0)) fun v64 h65 =>
      C.hop h65 (.load false 1 (.v v64)) fun v66 h67 =>
      C.int .i64 (some v66) fun x68 =>
      cnd (decide (x49 < 0))
       (none)
       (C.hop h67 (.mkrow E3 1 [(0, (.v (.int .i64 (IntKind.wrap .i64 (bits .and .u64 (Int.fdiv (IntKind.wrap .u64 x68) (2 ^ (min (Int.toNat x49) 64))) 1)))))]) fun v69 h70 =>
        C.hop h70 (.app E3 (.v v48) (.v v69)) fun v71 h72 =>
        k46 .normal ⟨[(.agg [(.int .i64 a0), (.int .u64 a1)]), v0, (.zsl true), v71, (.int .i64 x31), (.int .i64 (IntKind.wrap .i64 (x49 + 1))), (.int .i64 x32), (.bool b33), v34, v35, v36, v37, v38, v39, v40, v41, v42, v43, v44, (.int .i64 x49), (.bool true), (.int .i64 x49), (.int .i64 (IntKind.wrap .i64 (x49 + 1))), v48, v64, (.int .i64 x68), (.int .u64 (IntKind.wrap .u64 x68)), (.int .i64 x49), (.int .u64 (Int.fdiv (IntKind.wrap .u64 x68) (2 ^ (min (Int.toNat x49) 64)))), (.int .u64 (bits .and .u64 (Int.fdiv (IntKind.wrap .u64 x68) (2 ^ (min (Int.toNat x49) 64))) 1)), (.int .i64 (IntKind.wrap .i64 (bits .and .u64 (Int.fdiv (IntKind.wrap .u64 x68) (2 ^ (min (Int.toNat x49) 64))) 1))), v69, v71, (.tup [])], h72⟩))
     (k46 (.exit 2) ⟨[(.agg [(.int .i64 a0), (.int .u64 a1)]), v0, (.zsl true), v48, (.int .i64 x31), (.int .i64 x49), (.int .i64 x32), (.bool b33), v34, v35, v36, v37, v38, v39, v40, v41, v42, v43, v44, (.int .i64 x49), (.bool false), v52, v53, v54, v55, v56, v57, v58, v59, v60, v61, v62, v63, (.tup [])], (St.H s45)⟩))
   (none)
def r45X1_0 (C : Cb) (d : Nat) (a0 : Int) (a1 : Int) (v0 : AV) (x31 : Int) (x32 : Int) (b33 : Bool) (v34 : AV) (v35 : AV) (v36 : AV) (v37 : AV) (v38 : AV) (v39 : AV) (v40 : AV) (v41 : AV) (v42 : AV) (v43 : AV) (v44 : AV) : St → Ans := fun s73 =>
  cnd ((List.length (St.env s73)) == 34)
   (C.same (St.env s73)[0]? (.agg [(.int .i64 a0), (.int .u64 a1)]) <|
    C.same (St.env s73)[1]? v0 <|
    C.same (St.env s73)[2]? (.zsl true) <|
    C.any (St.env s73)[3]? fun v74 =>
    C.same (St.env s73)[4]? (.int .i64 x31) <|
    C.int .i64 (St.env s73)[5]? fun x75 =>
    C.same (St.env s73)[6]? (.int .i64 x32) <|
    C.same (St.env s73)[7]? (.bool b33) <|
    C.same (St.env s73)[8]? v34 <|
    C.same (St.env s73)[9]? v35 <|
    C.same (St.env s73)[10]? v36 <|
    C.same (St.env s73)[11]? v37 <|
    C.same (St.env s73)[12]? v38 <|
    C.same (St.env s73)[13]? v39 <|
    C.same (St.env s73)[14]? v40 <|
    C.same (St.env s73)[15]? v41 <|
    C.same (St.env s73)[16]? v42 <|
    C.same (St.env s73)[17]? v43 <|
    C.same (St.env s73)[18]? v44 <|
    C.int .i64 (St.env s73)[19]? fun x76 =>
    C.bool (St.env s73)[20]? fun b77 =>
    C.any (St.env s73)[21]? fun v78 =>
    C.any (St.env s73)[22]? fun v79 =>
    C.any (St.env s73)[23]? fun v80 =>
    C.any (St.env s73)[24]? fun v81 =>
    C.any (St.env s73)[25]? fun v82 =>
    C.any (St.env s73)[26]? fun v83 =>
    C.any (St.env s73)[27]? fun v84 =>
    C.any (St.env s73)[28]? fun v85 =>
    C.any (St.env s73)[29]? fun v86 =>
    C.any (St.env s73)[30]? fun v87 =>
    C.any (St.env s73)[31]? fun v88 =>
    C.any (St.env s73)[32]? fun v89 =>
    C.same (St.env s73)[33]? (.tup []) <|
    some (snap 12 (St.H s73) v74))
   (none)
def r45E1 (C : Cb) (d : Nat) (a0 : Int) (a1 : Int) (v0 : AV) (x31 : Int) (x32 : Int) (b33 : Bool) (v34 : AV) (v35 : AV) (v36 : AV) (v37 : AV) (v38 : AV) (v39 : AV) (v40 : AV) (v41 : AV) (v42 : AV) (v43 : AV) (v44 : AV) : St → Ans := fun s47 =>
  cnd ((List.length (St.env s47)) == 34)
   (C.same (St.env s47)[0]? (.agg [(.int .i64 a0), (.int .u64 a1)]) <|
    C.same (St.env s47)[1]? v0 <|
    C.same (St.env s47)[2]? (.zsl true) <|
    C.any (St.env s47)[3]? fun v90 =>
    C.same (St.env s47)[4]? (.int .i64 x31) <|
    C.int .i64 (St.env s47)[5]? fun x91 =>
    C.same (St.env s47)[6]? (.int .i64 x32) <|
    C.same (St.env s47)[7]? (.bool b33) <|
    C.same (St.env s47)[8]? v34 <|
    C.same (St.env s47)[9]? v35 <|
    C.same (St.env s47)[10]? v36 <|
    C.same (St.env s47)[11]? v37 <|
    C.same (St.env s47)[12]? v38 <|
    C.same (St.env s47)[13]? v39 <|
    C.same (St.env s47)[14]? v40 <|
    C.same (St.env s47)[15]? v41 <|
    C.same (St.env s47)[16]? v42 <|
    C.same (St.env s47)[17]? v43 <|
    C.same (St.env s47)[18]? v44 <|
    C.any (St.env s47)[19]? fun v92 =>
    C.any (St.env s47)[20]? fun v93 =>
    C.any (St.env s47)[21]? fun v94 =>
    C.any (St.env s47)[22]? fun v95 =>
    C.any (St.env s47)[23]? fun v96 =>
    C.any (St.env s47)[24]? fun v97 =>
    C.any (St.env s47)[25]? fun v98 =>
    C.any (St.env s47)[26]? fun v99 =>
    C.any (St.env s47)[27]? fun v100 =>
    C.any (St.env s47)[28]? fun v101 =>
    C.any (St.env s47)[29]? fun v102 =>
    C.any (St.env s47)[30]? fun v103 =>
    C.any (St.env s47)[31]? fun v104 =>
    C.any (St.env s47)[32]? fun v105 =>
    C.same (St.env s47)[33]? (.tup []) <|
    some (.lst []))
   (none)
def r45R0 (C : Cb) (d : Nat) (a0 : Int) (a1 : Int) (v0 : AV) : St → (Ex → St → Ans) → Ans := fun s2 k3 =>
  cnd ((List.length (St.env s2)) == 34)
   (C.same (St.env s2)[0]? (.agg [(.int .i64 a0), (.int .u64 a1)]) <|
    C.same (St.env s2)[1]? v0 <|
    C.same (St.env s2)[2]? (.zsl true) <|
    C.any (St.env s2)[3]? fun v5 =>
    C.int .i64 (St.env s2)[4]? fun x6 =>
    C.same (St.env s2)[5]? (.tup []) <|
    C.any (St.env s2)[6]? fun v7 =>
    C.any (St.env s2)[7]? fun v8 =>
    C.any (St.env s2)[8]? fun v9 =>
    C.any (St.env s2)[9]? fun v10 =>
    C.any (St.env s2)[10]? fun v11 =>
    C.any (St.env s2)[11]? fun v12 =>
    C.any (St.env s2)[12]? fun v13 =>
    C.any (St.env s2)[13]? fun v14 =>
    C.any (St.env s2)[14]? fun v15 =>
    C.any (St.env s2)[15]? fun v16 =>
    C.any (St.env s2)[16]? fun v17 =>
    C.any (St.env s2)[17]? fun v18 =>
    C.any (St.env s2)[18]? fun v19 =>
    C.same (St.env s2)[19]? (.tup []) <|
    C.same (St.env s2)[20]? (.tup []) <|
    C.same (St.env s2)[21]? (.tup []) <|
    C.same (St.env s2)[22]? (.tup []) <|
    C.same (St.env s2)[23]? (.tup []) <|
    C.same (St.env s2)[24]? (.tup []) <|
    C.same (St.env s2)[25]? (.tup []) <|
    C.same (St.env s2)[26]? (.tup []) <|
    C.same (St.env s2)[27]? (.tup []) <|
    C.same (St.env s2)[28]? (.tup []) <|
    C.same (St.env s2)[29]? (.tup []) <|
    C.same (St.env s2)[30]? (.tup []) <|
    C.same (St.env s2)[31]? (.tup []) <|
    C.same (St.env s2)[32]? (.tup []) <|
    C.same (St.env s2)[33]? (.tup []) <|
    cnd (decide (x6 < 64))
     (C.hop (St.H s2) (.fldA 1 (.v v0)) fun v20 h21 =>
      C.hop h21 (.load false 1 (.v v20)) fun v22 h23 =>
      C.int .u64 (some v22) fun x24 =>
      cnd (decide (x6 < 0))
       (none)
       (C.hop h23 (.mkrow E3 1 [(0, (.v (.int .i64 (IntKind.wrap .i64 (bits .and .u64 (Int.fdiv x24 (2 ^ (min (Int.toNat x6) 64))) 1)))))]) fun v25 h26 =>
        C.hop h26 (.app E3 (.v v5) (.v v25)) fun v27 h28 =>
        k3 .normal ⟨[(.agg [(.int .i64 a0), (.int .u64 a1)]), v0, (.zsl true), v27, (.int .i64 (IntKind.wrap .i64 (x6 + 1))), (.tup []), (.int .i64 x6), (.bool true), (.int .i64 x6), (.int .i64 (IntKind.wrap .i64 (x6 + 1))), v5, v20, (.int .u64 x24), (.int .i64 x6), (.int .u64 (Int.fdiv x24 (2 ^ (min (Int.toNat x6) 64)))), (.int .u64 (bits .and .u64 (Int.fdiv x24 (2 ^ (min (Int.toNat x6) 64))) 1)), (.int .i64 (IntKind.wrap .i64 (bits .and .u64 (Int.fdiv x24 (2 ^ (min (Int.toNat x6) 64))) 1))), v25, v27, (.tup []), (.tup []), (.tup []), (.tup []), (.tup []), (.tup []), (.tup []), (.tup []), (.tup []), (.tup []), (.tup []), (.tup []), (.tup []), (.tup []), (.tup [])], h28⟩))
     (k3 (.exit 0) ⟨[(.agg [(.int .i64 a0), (.int .u64 a1)]), v0, (.zsl true), v5, (.int .i64 x6), (.tup []), (.int .i64 x6), (.bool false), v9, v10, v11, v12, v13, v14, v15, v16, v17, v18, v19, (.tup []), (.tup []), (.tup []), (.tup []), (.tup []), (.tup []), (.tup []), (.tup []), (.tup []), (.tup []), (.tup []), (.tup []), (.tup []), (.tup []), (.tup [])], (St.H s2)⟩))
   (none)
def r45X0_0 (C : Cb) (d : Nat) (a0 : Int) (a1 : Int) (v0 : AV) : St → Ans := fun s29 =>
  cnd ((List.length (St.env s29)) == 34)
   (C.same (St.env s29)[0]? (.agg [(.int .i64 a0), (.int .u64 a1)]) <|
    C.same (St.env s29)[1]? v0 <|
    C.same (St.env s29)[2]? (.zsl true) <|
    C.any (St.env s29)[3]? fun v30 =>
    C.int .i64 (St.env s29)[4]? fun x31 =>
    C.same (St.env s29)[5]? (.tup []) <|
    C.int .i64 (St.env s29)[6]? fun x32 =>
    C.bool (St.env s29)[7]? fun b33 =>
    C.any (St.env s29)[8]? fun v34 =>
    C.any (St.env s29)[9]? fun v35 =>
    C.any (St.env s29)[10]? fun v36 =>
    C.any (St.env s29)[11]? fun v37 =>
    C.any (St.env s29)[12]? fun v38 =>
    C.any (St.env s29)[13]? fun v39 =>
    C.any (St.env s29)[14]? fun v40 =>
    C.any (St.env s29)[15]? fun v41 =>
    C.any (St.env s29)[16]? fun v42 =>
    C.any (St.env s29)[17]? fun v43 =>
    C.any (St.env s29)[18]? fun v44 =>
    C.same (St.env s29)[19]? (.tup []) <|
    C.same (St.env s29)[20]? (.tup []) <|
    C.same (St.env s29)[21]? (.tup []) <|
    C.same (St.env s29)[22]? (.tup []) <|
    C.same (St.env s29)[23]? (.tup []) <|
    C.same (St.env s29)[24]? (.tup []) <|
    C.same (St.env s29)[25]? (.tup []) <|
    C.same (St.env s29)[26]? (.tup []) <|
    C.same (St.env s29)[27]? (.tup []) <|
    C.same (St.env s29)[28]? (.tup []) <|
    C.same (St.env s29)[29]? (.tup []) <|
    C.same (St.env s29)[30]? (.tup []) <|
    C.same (St.env s29)[31]? (.tup []) <|
    C.same (St.env s29)[32]? (.tup []) <|
    C.same (St.env s29)[33]? (.tup []) <|
    C.iter (r45R1 C d a0 a1 v0 x31 x32 b33 v34 v35 v36 v37 v38 v39 v40 v41 v42 v43 v44) 1000000000000000000 ⟨[(.agg [(.int .i64 a0), (.int .u64 a1)]), v0, (.zsl true), v30, (.int .i64 x31), (.int .i64 0), (.int .i64 x32), (.bool b33), v34, v35, v36, v37, v38, v39, v40, v41, v42, v43, v44, (.tup []), (.tup []), (.tup []), (.tup []), (.tup []), (.tup []), (.tup []), (.tup []), (.tup []), (.tup []), (.tup []), (.tup []), (.tup []), (.tup []), (.tup [])], (St.H s29)⟩ [2] [r45X1_0 C d a0 a1 v0 x31 x32 b33 v34 v35 v36 v37 v38 v39 v40 v41 v42 v43 v44] (r45E1 C d a0 a1 v0 x31 x32 b33 v34 v35 v36 v37 v38 v39 v40 v41 v42 v43 v44))
   (none)
def r45E0 (C : Cb) (d : Nat) (a0 : Int) (a1 : Int) (v0 : AV) : St → Ans := fun s4 =>
  cnd ((List.length (St.env s4)) == 34)
   (C.same (St.env s4)[0]? (.agg [(.int .i64 a0), (.int .u64 a1)]) <|
    C.same (St.env s4)[1]? v0 <|
    C.same (St.env s4)[2]? (.zsl true) <|
    C.any (St.env s4)[3]? fun v106 =>
    C.int .i64 (St.env s4)[4]? fun x107 =>
    C.same (St.env s4)[5]? (.tup []) <|
    C.any (St.env s4)[6]? fun v108 =>
    C.any (St.env s4)[7]? fun v109 =>
    C.any (St.env s4)[8]? fun v110 =>
    C.any (St.env s4)[9]? fun v111 =>
    C.any (St.env s4)[10]? fun v112 =>
    C.any (St.env s4)[11]? fun v113 =>
    C.any (St.env s4)[12]? fun v114 =>
    C.any (St.env s4)[13]? fun v115 =>
    C.any (St.env s4)[14]? fun v116 =>
    C.any (St.env s4)[15]? fun v117 =>
    C.any (St.env s4)[16]? fun v118 =>
    C.any (St.env s4)[17]? fun v119 =>
    C.any (St.env s4)[18]? fun v120 =>
    C.same (St.env s4)[19]? (.tup []) <|
    C.same (St.env s4)[20]? (.tup []) <|
    C.same (St.env s4)[21]? (.tup []) <|
    C.same (St.env s4)[22]? (.tup []) <|
    C.same (St.env s4)[23]? (.tup []) <|
    C.same (St.env s4)[24]? (.tup []) <|
    C.same (St.env s4)[25]? (.tup []) <|
    C.same (St.env s4)[26]? (.tup []) <|
    C.same (St.env s4)[27]? (.tup []) <|
    C.same (St.env s4)[28]? (.tup []) <|
    C.same (St.env s4)[29]? (.tup []) <|
    C.same (St.env s4)[30]? (.tup []) <|
    C.same (St.env s4)[31]? (.tup []) <|
    C.same (St.env s4)[32]? (.tup []) <|
    C.same (St.env s4)[33]? (.tup []) <|
    some (.lst []))
   (none)
/-- apogee/apogeeref01.bits -/
theorem r45 (C : Cb) (d : Nat) (a0 : Int) (a1 : Int) : xcall C M unr d 45 [(.agg [(.int .i64 a0), (.int .u64 a1)])] =
  C.hop [] (.box E43 (.v (.agg [(.int .i64 a0), (.int .u64 a1)]))) fun v0 h1 =>
  C.iter (r45R0 C d a0 a1 v0) 1000000000000000000 ⟨[(.agg [(.int .i64 a0), (.int .u64 a1)]), v0, (.zsl true), (.zsl true), (.int .i64 0), (.tup []), (.tup []), (.tup []), (.tup []), (.tup []), (.tup []), (.tup []), (.tup []), (.tup []), (.tup []), (.tup []), (.tup []), (.tup []), (.tup []), (.tup []), (.tup []), (.tup []), (.tup []), (.tup []), (.tup []), (.tup []), (.tup []), (.tup []), (.tup []), (.tup []), (.tup []), (.tup []), (.tup []), (.tup [])], h1⟩ [0] [r45X0_0 C d a0 a1 v0] (r45E0 C d a0 a1 v0) := by kernel_rfl
def r46R0 (C : Cb) (d : Nat) (a0 : List AV) (v0 : AV) (v2 : AV) : St → (Ex → St → Ans) → Ans := fun s6 k7 =>
  cnd ((List.length (St.env s6)) == 36)
   (C.same (St.env s6)[0]? (.lst a0) <|
    C.same (St.env s6)[1]? (.tup []) <|
    C.same (St.env s6)[2]? v0 <|
    C.same (St.env s6)[3]? v2 <|
    C.int .u64 (St.env s6)[4]? fun x9 =>
    C.int .i64 (St.env s6)[5]? fun x10 =>
    C.same (St.env s6)[6]? (.agg [(.int .i64 0), (.int .u64 0)]) <|
    C.any (St.env s6)[7]? fun v11 =>
    C.any (St.env s6)[8]? fun v12 =>
    C.any (St.env s6)[9]? fun v13 =>
    C.any (St.env s6)[10]? fun v14 =>
    C.any (St.env s6)[11]? fun v15 =>
    C.any (St.env s6)[12]? fun v16 =>
    C.any (St.env s6)[13]? fun v17 =>
    C.any (St.env s6)[14]? fun v18 =>
    C.any (St.env s6)[15]? fun v19 =>
    C.any (St.env s6)[16]? fun v20 =>
    C.any (St.env s6)[17]? fun v21 =>
    C.any (St.env s6)[18]? fun v22 =>
    C.any (St.env s6)[19]? fun v23 =>
    C.any (St.env s6)[20]? fun v24 =>
    C.any (St.env s6)[21]? fun v25 =>
    C.any (St.env s6)[22]? fun v26 =>
    C.any (St.env s6)[23]? fun v27 =>
    C.any (St.env s6)[24]? fun v28 =>
    C.any (St.env s6)[25]? fun v29 =>
    C.any (St.env s6)[26]? fun v30 =>
    C.any (St.env s6)[27]? fun v31 =>
    C.any (St.env s6)[28]? fun v32 =>
    C.any (St.env s6)[29]? fun v33 =>
    C.any (St.env s6)[30]? fun v34 =>
    C.any (St.env s6)[31]? fun v35 =>
    C.same (St.env s6)[32]? (.tup []) <|
    C.same (St.env s6)[33]? (.tup []) <|
    C.same (St.env s6)[34]? (.tup []) <|
    C.same (St.env s6)[35]? (.tup []) <|
    cnd (decide (x10 < 64))
     (C.hop (St.H s6) (.ixAS .any 1 (.v (.lst a0)) (.v (.int .i64 x10))) fun v36 h37 =>
      C.hop h37 (.load false 1 (.v v36)) fun v38 h39 =>
      C.int .i64 (some v38) fun x40 =>
      cnd (x40 == 1)
       (C.hop h39 (.fldA 1 (.v v2)) fun v41 h42 =>
        C.hop h42 (.load false 1 (.v v41)) fun v43 h44 =>
        C.int .u64 (some v43) fun x45 =>
        cnd (decide (x10 < 0))
         (none)
         (C.hop h44 (.fldA 1 (.v v2)) fun v46 h47 =>
          C.hop h47 (.store 1 (.v v46) (.v (.int .u64 (bits .or .u64 x45 (IntKind.wrap .u64 (1 * (2 ^ (min (Int.toNat x10) 64)))))))) fun v48 h49 =>
          C.hop h49 (.ixAS .any 1 (.v (.lst a0)) (.v (.int .i64 (IntKind.wrap .i64 (64 + x10))))) fun v50 h51 =>
          C.hop h51 (.load false 1 (.v v50)) fun v52 h53 =>
          C.int .i64 (some v52) fun x54 =>
          cnd (x54 == 1)
           (cnd (decide (x10 < 0))
             (none)
             (k7 .normal ⟨[(.lst a0), (.tup []), v0, v2, (.int .u64 (bits .or .u64 x9 (IntKind.wrap .u64 (1 * (2 ^ (min (Int.toNat x10) 64)))))), (.int .i64 (IntKind.wrap .i64 (x10 + 1))), (.agg [(.int .i64 0), (.int .u64 0)]), (.int .i64 x10), (.bool true), (.int .i64 x10), (.int .i64 (IntKind.wrap .i64 (x10 + 1))), (.lst a0), (.int .i64 x10), v36, (.int .i64 x40), (.bool true), v41, (.int .u64 x45), (.int .i64 x10), (.int .u64 (IntKind.wrap .u64 (1 * (2 ^ (min (Int.toNat x10) 64))))), (.int .u64 (bits .or .u64 x45 (IntKind.wrap .u64 (1 * (2 ^ (min (Int.toNat x10) 64)))))), v46, (.lst a0), (.int .i64 x10), (.int .i64 (IntKind.wrap .i64 (64 + x10))), v50, (.int .i64 x54), (.bool true), (.int .u64 x9), (.int .i64 x10), (.int .u64 (IntKind.wrap .u64 (1 * (2 ^ (min (Int.toNat x10) 64))))), (.int .u64 (bits .or .u64 x9 (IntKind.wrap .u64 (1 * (2 ^ (min (Int.toNat x10) 64)))))), (.tup []), (.tup []), (.tup []), (.tup [])], h53⟩))
           (k7 .normal ⟨[(.lst a0), (.tup []), v0, v2, (.int .u64 x9), (.int .i64 (IntKind.wrap .i64 (x10 + 1))), (.agg [(.int .i64 0), (.int .u64 0)]), (.int .i64 x10), (.bool true), (.int .i64 x10), (.int .i64 (IntKind.wrap .i64 (x10 + 1))), (.lst a0), (.int .i64 x10), v36, (.int .i64 x40), (.bool true), v41, (.int .u64 x45), (.int .i64 x10), (.int .u64 (IntKind.wrap .u64 (1 * (2 ^ (min (Int.toNat x10) 64))))), (.int .u64 (bits .or .u64 x45 (IntKind.wrap .u64 (1 * (2 ^ (min (Int.toNat x10) 64)))))), v46, (.lst a0), (.int .i64 x10), (.int .i64 (IntKind.wrap .i64 (64 + x10))), v50, (.int .i64 x54), (.bool false), v32, v33, v34, v35, (.tup []), (.tup []), (.tup []), (.tup [])], h53⟩)))
       (C.hop h39 (.ixAS .any 1 (.v (.lst a0)) (.v (.int .i64 (IntKind.wrap .i64 (64 + x10))))) fun v55 h56 =>
        C.hop h56 (.load false 1 (.v v55)) fun v57 h58 =>
        C.int .i64 (some v57) fun x59 =>
        cnd (x59 == 1)
         (cnd (decide (x10 < 0))
           (none)
           (k7 .normal ⟨[(.lst a0), (.tup []), v0, v2, (.int .u64 (bits .or .u64 x9 (IntKind.wrap .u64 (1 * (2 ^ (min (Int.toNat x10) 64)))))), (.int .i64 (IntKind.wrap .i64 (x10 + 1))), (.agg [(.int .i64 0), (.int .u64 0)]), (.int .i64 x10), (.bool true), (.int .i64 x10), (.int .i64 (IntKind.wrap .i64 (x10 + 1))), (.lst a0), (.int .i64 x10), v36, (.int .i64 x40), (.bool false), v20, v21, v22, v23, v24, v25, (.lst a0), (.int .i64 x10), (.int .i64 (IntKind.wrap .i64 (64 + x10))), v55, (.int .i64 x59), (.bool true), (.int .u64 x9), (.int .i64 x10), (.int .u64 (IntKind.wrap .u64 (1 * (2 ^ (min (Int.toNat x10) 64))))), (.int .u64 (bits .or .u64 x9 (IntKind.wrap .u64 (1 * (2 ^ (min (Int.toNat x10) 64)))))), (.tup []), (.tup []), (.tup []), (.tup [])], h58⟩))
         (k7 .normal ⟨[(.lst a0), (.tup []), v0, v2, (.int .u64 x9), (.int .i64 (IntKind.wrap .i64 (x10 + 1))), (.agg [(.int .i64 0), (.int .u64 0)]), (.int .i64 x10), (.bool true), (.int .i64 x10), (.int .i64 (IntKind.wrap .i64 (x10 + 1))), (.lst a0), (.int .i64 x10), v36, (.int .i64 x40), (.bool false), v20, v21, v22, v23, v24, v25, (.lst a0), (.int .i64 x10), (.int .i64 (IntKind.wrap .i64 (64 + x10))), v55, (.int .i64 x59), (.bool false), v32, v33, v34, v35, (.tup []), (.tup []), (.tup []), (.tup [])], h58⟩)))
     (k7 (.exit 0) ⟨[(.lst a0), (.tup []), v0, v2, (.int .u64 x9), (.int .i64 x10), (.agg [(.int .i64 0), (.int .u64 0)]), (.int .i64 x10), (.bool false), v13, v14, v15, v16, v17, v18, v19, v20, v21, v22, v23, v24, v25, v26, v27, v28, v29, v30, v31, v32, v33, v34, v35, (.tup []), (.tup []), (.tup []), (.tup [])], (St.H s6)⟩))
   (none)
def r46X0_0 (C : Cb) (d : Nat) (a0 : List AV) (v0 : AV) (v2 : AV) : St → Ans := fun s60 =>
  cnd ((List.length (St.env s60)) == 36)
   (C.same (St.env s60)[0]? (.lst a0) <|
    C.same (St.env s60)[1]? (.tup []) <|
    C.same (St.env s60)[2]? v0 <|
    C.same (St.env s60)[3]? v2 <|
    C.int .u64 (St.env s60)[4]? fun x61 =>
    C.int .i64 (St.env s60)[5]? fun x62 =>
    C.same (St.env s60)[6]? (.agg [(.int .i64 0), (.int .u64 0)]) <|
    C.int .i64 (St.env s60)[7]? fun x63 =>
    C.bool (St.env s60)[8]? fun b64 =>
    C.any (St.env s60)[9]? fun v65 =>
    C.any (St.env s60)[10]? fun v66 =>
    C.any (St.env s60)[11]? fun v67 =>
    C.any (St.env s60)[12]? fun v68 =>
    C.any (St.env s60)[13]? fun v69 =>
    C.any (St.env s60)[14]? fun v70 =>
    C.any (St.env s60)[15]? fun v71 =>
    C.any (St.env s60)[16]? fun v72 =>
    C.any (St.env s60)[17]? fun v73 =>
    C.any (St.env s60)[18]? fun v74 =>
    C.any (St.env s60)[19]? fun v75 =>
    C.any (St.env s60)[20]? fun v76 =>
    C.any (St.env s60)[21]? fun v77 =>
    C.any (St.env s60)[22]? fun v78 =>
    C.any (St.env s60)[23]? fun v79 =>
    C.any (St.env s60)[24]? fun v80 =>
    C.any (St.env s60)[25]? fun v81 =>
    C.any (St.env s60)[26]? fun v82 =>
    C.any (St.env s60)[27]? fun v83 =>
    C.any (St.env s60)[28]? fun v84 =>
    C.any (St.env s60)[29]? fun v85 =>
    C.any (St.env s60)[30]? fun v86 =>
    C.any (St.env s60)[31]? fun v87 =>
    C.same (St.env s60)[32]? (.tup []) <|
    C.same (St.env s60)[33]? (.tup []) <|
    C.same (St.env s60)[34]? (.tup []) <|
    C.same (St.env s60)[35]? (.tup []) <|
    C.hop (St.H s60) (.fldA 0 (.v v2)) fun v88 h89 =>
    C.hop h89 (.store 1 (.v v88) (.v (.int .i64 (IntKind.wrap .i64 x61)))) fun v90 h91 =>
    C.hop h91 (.load true 2 (.v v2)) fun v92 h93 =>
    C.agg 2 (some v92) fun l94 =>
    C.int .i64 l94[0]? fun x95 =>
    C.int .u64 l94[1]? fun x96 =>
    C.hop h93 (.store 2 (.v v0) (.v (.agg [(.int .i64 x95), (.int .u64 x96)]))) fun v97 h98 =>
    C.hop h98 (.load true 2 (.v v0)) fun v99 h100 =>
    some (snap 12 h98 v99))
   (none)
def r46E0 (C : Cb) (d : Nat) (a0 : List AV) (v0 : AV) (v2 : AV) : St → Ans := fun s8 =>
  cnd ((List.length (St.env s8)) == 36)
   (C.same (St.env s8)[0]? (.lst a0) <|
    C.same (St.env s8)[1]? (.tup []) <|
    C.same (St.env s8)[2]? v0 <|
    C.same (St.env s8)[3]? v2 <|
    C.int .u64 (St.env s8)[4]? fun x101 =>
    C.int .i64 (St.env s8)[5]? fun x102 =>
    C.same (St.env s8)[6]? (.agg [(.int .i64 0), (.int .u64 0)]) <|
    C.any (St.env s8)[7]? fun v103 =>
    C.any (St.env s8)[8]? fun v104 =>
    C.any (St.env s8)[9]? fun v105 =>
    C.any (St.env s8)[10]? fun v106 =>
    C.any (St.env s8)[11]? fun v107 =>
    C.any (St.env s8)[12]? fun v108 =>
    C.any (St.env s8)[13]? fun v109 =>
    C.any (St.env s8)[14]? fun v110 =>
    C.any (St.env s8)[15]? fun v111 =>
    C.any (St.env s8)[16]? fun v112 =>
    C.any (St.env s8)[17]? fun v113 =>
    C.any (St.env s8)[18]? fun v114 =>
    C.any (St.env s8)[19]? fun v115 =>
    C.any (St.env s8)[20]? fun v116 =>
    C.any (St.env s8)[21]? fun v117 =>
    C.any (St.env s8)[22]? fun v118 =>
    C.any (St.env s8)[23]? fun v119 =>
    C.any (St.env s8)[24]? fun v120 =>
    C.any (St.env s8)[25]? fun v121 =>
    C.any (St.env s8)[26]? fun v122 =>
    C.any (St.env s8)[27]? fun v123 =>
    C.any (St.env s8)[28]? fun v124 =>
    C.any (St.env s8)[29]? fun v125 =>
    C.any (St.env s8)[30]? fun v126 =>
    C.any (St.env s8)[31]? fun v127 =>
    C.same (St.env s8)[32]? (.tup []) <|
    C.same (St.env s8)[33]? (.tup []) <|
    C.same (St.env s8)[34]? (.tup []) <|
    C.same (St.env s8)[35]? (.tup []) <|
    C.hop (St.H s8) (.load true 2 (.v v0)) fun v128 h129 =>
    some (snap 12 (St.H s8) v128))
   (none)
/-- apogee/apogeeref01.value -/
theorem r46 (C : Cb) (d : Nat) (a0 : List AV) : xcall C M unr d 46 [(.lst a0)] =
  C.hop [] (.alloc E43) fun v0 h1 =>
  C.hop h1 (.alloc E43) fun v2 h3 =>
  C.hop h3 (.store 2 (.v v2) (.v (.agg [(.int .i64 0), (.int .u64 0)]))) fun v4 h5 =>
  C.iter (r46R0 C d a0 v0 v2) 1000000000000000000 ⟨[(.lst a0), (.tup []), v0, v2, (.int .u64 0), (.int .i64 0), (.agg [(.int .i64 0), (.int .u64 0)]), (.tup []), (.tup []), (.tup []), (.tup []), (.tup []), (.tup []), (.tup []), (.tup []), (.tup []), (.tup []), (.tup []), (.tup []), (.tup []), (.tup []), (.tup []), (.tup []), (.tup []), (.tup []), (.tup []), (.tup []), (.tup []), (.tup []), (.tup []), (.tup []), (.tup []), (.tup []), (.tup []), (.tup []), (.tup [])], h5⟩ [0] [r46X0_0 C d a0 v0 v2] (r46E0 C d a0 v0 v2) := by kernel_rfl
/-- (apogee/wide.Wide).Int -/
theorem r47 (C : Cb) (d : Nat) (a0 : Int) (a1 : Int) : xcall C M unr d 47 [(.agg [(.int .i64 a0), (.int .u64 a1)])] =
  C.agg 2 (pcall M d 40 [(.int .i64 (IntKind.wrap .i64 a1))]) fun l0 =>
  C.int .i64 l0[0]? fun x1 =>
  C.int .u64 l0[1]? fun x2 =>
  cnd (xor true ((x1 == a0) && ((x2 == a1) && true)))
   (some (.tup [(.int .i64 0), (.bool false)]))
   (some (.tup [(.int .i64 (IntKind.wrap .i64 a1)), (.bool true)])) := by kernel_rfl
end Go.Proofs.Ytbcbaidnamebkaa.AE
