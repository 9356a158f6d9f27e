/- The texts that the law CrcGoes needs, part 0. No conditions. -/
import Derived.Test.YtcegcmjkkflhhaaMc2
namespace Go.Proofs.Ytcegcmjkkflhhaa.Geo
set_option linter.unusedVariables false
theorem moreH_app (x : BitVec 16) (s t : List UInt8) : moreH (moreH x s) t = moreH x (s ++ t) := by unfold moreH; rw [List.foldl_append]
end Go.Proofs.Ytcegcmjkkflhhaa.Geo

namespace Go.Proofs.Ytcegcmjkkflhhaa.AE
set_option linter.unusedVariables false
set_option linter.unusedSimpArgs false
set_option linter.constructorNameAsVariable false
open Go
set_option maxRecDepth 100000
/-- apogee/apogeelaw04.CrcGoes -/
theorem r4 (C : Cb) (d : Nat) (a0 : List UInt8) (a1 : List UInt8) : xcall C M unr d 4 [(.str a0), (.str a1)] =
 C.bool (pcall M d 9 []) fun b0 =>
 cnd (!b0)
 (C.bool (pcall M d 9 []) fun b1 =>
 some (.bool b1))
 (cnd (decide ((IntKind.wrap .i64 ((((List.length a0) : Nat) : Int) + (((List.length a1) : Nat) : Int))) > 2000))
 (C.bool (pcall M d 9 []) fun b2 =>
 some (.bool b2))
 (C.int .u16 (pcall M d 10 [(.str a0)]) fun x3 =>
 C.int .u16 (pcall M d 14 [(.int .u16 x3), (.str a1)]) fun x4 =>
 cnd (decide (((List.length a0) + (List.length a1)) ≤ 9223372036854775807))
 (C.int .u16 (pcall M d 10 [(.str (a0 ++ a1))]) fun x5 =>
 some (.bool (x4 == x5)))
 (none))) := by kernel_rfl
end Go.Proofs.Ytcegcmjkkflhhaa.AE

namespace Go.Proofs.Ytcegcmjkkflhhaa.AE
set_option linter.unusedVariables false
set_option linter.unusedSimpArgs false
set_option linter.constructorNameAsVariable false
open Go Go.Proofs.Ytcegcmjkkflhhaa.Geo
attribute [local irreducible] pcall C0
set_option maxRecDepth 100000
theorem goes_law (s t : List UInt8) (h1 : s.length ≤ 140737488351232) (h2 : t.length ≤ 140737488351232) : pcall M 41 4 [.str s, .str t] = some (.bool true) := told (r4 C0 40 _ _) (by
  refine Eq.trans (pl_bool awake) ?_
  refine Eq.trans (pl_f (by rfl)) ?_
  rw [i64_small (by omega) (by omega)]
  by_cases hl : s.length + t.length > 2000
  · rw [decide_eq_true (by omega), cnd_t]; exact Eq.trans (pl_bool awake) rfl
  rw [decide_eq_false (by omega), cnd_f]
  refine Eq.trans (pl_int (s10 37 s (by omega))) ?_
  refine Eq.trans (pl_int (s14 38 _ t (by omega))) ?_
  rw [decide_eq_true (by omega), cnd_t]
  refine Eq.trans (pl_int (s10 37 (s ++ t) (by simp; omega))) ?_
  have : moreH (sumH s) t = sumH (s ++ t) := moreH_app _ _ _
  rw [this, beq_self_eq_true])
theorem law_CrcGoes (a0 : List UInt8) (a1 : List UInt8) (w0 : a0.length ≤ 140737488351232) (w1 : a1.length ≤ 140737488351232) :
    pcall M 41 4 [.str a0, .str a1] = some (.bool true) := goes_law a0 a1 w0 w1
end Go.Proofs.Ytcegcmjkkflhhaa.AE
