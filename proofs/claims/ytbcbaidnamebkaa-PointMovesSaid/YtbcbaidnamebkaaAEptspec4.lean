/- What the functions of points tell: sums. No conditions. -/
import Derived.Test.YtbcbaidnamebkaaAEptspec3
namespace Go.Proofs.Ytbcbaidnamebkaa.AE
set_option linter.unusedVariables false
set_option linter.unusedSimpArgs false
set_option linter.constructorNameAsVariable false
open Go Go.Proofs.Ytbcbaidnamebkaa.Geo

theorem s40 (d : Nat) (x : Int) (h : -9223372036854775808 ≤ x) (h' : x < 9223372036854775808) : pcall M (d + 1) 40 [.int .i64 x] = some (.agg [.int .i64 (hiw x), .int .u64 (low x)]) := told (r40 C0 d x) (by
  rw [show ((2 : Int) ^ (min (Int.toNat 63) 64)) = 9223372036854775808 from by decide, Int.fdiv_eq_ediv_of_nonneg x (by decide)]
  have e1 : x / 9223372036854775808 = hiw x := by unfold hiw; rw [i64w]; omega
  have e2 : IntKind.wrap .u64 x = low x := by unfold low; rw [u64w]
  rw [e1, e2])
def fitB (v : Int) : Bool := decide (-9223372036854775808 ≤ v ∧ v < 9223372036854775808)
theorem s47 (d : Nat) (v : Int) (h : -170141183460469231731687303715884105728 ≤ v) (h' : v < 170141183460469231731687303715884105728) : pcall M (d + 2) 47 [.agg [.int .i64 (hiw v), .int .u64 (low v)]] = some (.tup [.int .i64 (if fitB v then v else 0), .bool (fitB v)]) := told (r47 C0 (d + 1) _ _) (by
  have hw : -9223372036854775808 ≤ IntKind.wrap .i64 (low v) ∧ IntKind.wrap .i64 (low v) < 9223372036854775808 := by rw [i64w]; omega
  rw [s40 d _ hw.1 hw.2, C0_agg2]
  simp only [at0, at1, C0_int]
  by_cases hf : fitB v = true
  · have h2 := of_decide_eq_true hf
    have e : IntKind.wrap .i64 (low v) = v := by unfold low; rw [i64w]; omega
    rw [e, hf]
    simp [cnd_f]
  · have h2 : ¬ (-9223372036854775808 ≤ v ∧ v < 9223372036854775808) := fun g => hf (decide_eq_true g)
    have e : (hiw (IntKind.wrap .i64 (low v)) == hiw v) = false := by
      rw [beq_eq_false_iff_ne]
      unfold hiw low
      rw [i64w, i64w, i64w]
      omega
    rw [e, Bool.eq_false_iff.mpr hf]
    simp [cnd_t])
theorem s39 (d : Nat) (v : Int) (h : -170141183460469231731687303715884105728 ≤ v) (h' : v < 170141183460469231731687303715884105728) : pcall M (d + 3) 39 [.agg [.int .i64 (hiw v), .int .u64 (low v)], .bool true] = some (.tup [.int .i64 (if fitB v then v else 0), .bool (fitB v)]) := told (r39 C0 (d + 2) _ _ true) (by
  rw [s47 d v h h', C0_tup2]
  simp only [at0, at1, C0_int, C0_bool, Bool.not_true, cnd_f])
end Go.Proofs.Ytbcbaidnamebkaa.AE
