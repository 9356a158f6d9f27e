/- Sums of 128 bits, and places that are moved. No conditions. -/
import Derived.Test.YtbcbaidnamebkaaAEptspec4
import Derived.Test.YtbcbaidnamebkaaAEsgn
namespace Go.Proofs.Ytbcbaidnamebkaa.AE
set_option linter.unusedVariables false
set_option linter.unusedSimpArgs false
set_option linter.constructorNameAsVariable false
open Go Go.Proofs.Ytbcbaidnamebkaa.Geo

theorem add64_e (x y c : Int) (hx : 0 ≤ x) (hy : 0 ≤ y) (hc : 0 ≤ c) (hc' : c ≤ 1) : add64E [.int .u64 x, .int .u64 y, .int .u64 c] = some (.tup [.int .u64 ((x + y + c) % 18446744073709551616), .int .u64 ((x + y + c) / 18446744073709551616)]) := by
  simp [add64E, hx, hy, hc, hc']
theorem s41 (d : Nat) (x y : Int) (hx : -9223372036854775808 ≤ x) (hx' : x < 9223372036854775808) (hy : -9223372036854775808 ≤ y) (hy' : y < 9223372036854775808) :
    pcall M (d + 1) 41 [.agg [.int .i64 (hiw x), .int .u64 (low x)], .agg [.int .i64 (hiw y), .int .u64 (low y)]] = some (.tup [.agg [.int .i64 (hiw (x + y)), .int .u64 (low (x + y))], .bool true]) := told (r41 C0 d _ _ _ _) (by
  have l0 : 0 ≤ low x ∧ low x < 18446744073709551616 := by unfold low; omega
  have l1 : 0 ≤ low y ∧ low y < 18446744073709551616 := by unfold low; omega
  have hhx : hiw x = if x < 0 then -1 else 0 := by unfold hiw; rw [i64w]; split <;> omega
  have hhy : hiw y = if y < 0 then -1 else 0 := by unfold hiw; rw [i64w]; split <;> omega
  rw [add64_e _ _ _ l0.1 l1.1 (by decide) (by decide), C0_tup2]
  simp only [at0, at1, C0_int]
  rw [add64_e _ _ _ (by rw [u64w]; omega) (by rw [u64w]; omega) (by omega) (by omega), C0_tup2]
  simp only [at0, at1, C0_int, Int.add_zero]
  have e1 : (low x + low y) % 18446744073709551616 = low (x + y) := by unfold low; omega
  have e2 : IntKind.wrap .i64 ((IntKind.wrap .u64 (hiw x) + IntKind.wrap .u64 (hiw y) + (low x + low y) / 18446744073709551616) % 18446744073709551616) = hiw (x + y) := by
    rw [u64w, u64w, i64w]
    have : hiw (x + y) = (x + y) / 18446744073709551616 := by unfold hiw; rw [i64_small (by omega) (by omega)]
    rw [this, hhx, hhy]
    unfold low
    split <;> split <;> omega
  rw [e1, e2]
  have hs : hiw (x + y) = if x + y < 0 then -1 else 0 := by unfold hiw; rw [i64w]; split <;> omega
  have b1 := bits_rng_i64 .xor (hiw x) (hiw (x + y))
  have b2 := bits_rng_i64 .xor (hiw y) (hiw (x + y))
  have key : ¬ Go.bits .and .i64 (Go.bits .xor .i64 (hiw x) (hiw (x + y))) (Go.bits .xor .i64 (hiw y) (hiw (x + y))) < 0 := by
    rw [bits_and_sgn _ _ b1.1 b1.2 b2.1 b2.2, bits_xor_sgn _ _ (by rw [hhx]; split <;> omega) (by rw [hhx]; split <;> omega) (by rw [hs]; split <;> omega) (by rw [hs]; split <;> omega), bits_xor_sgn _ _ (by rw [hhy]; split <;> omega) (by rw [hhy]; split <;> omega) (by rw [hs]; split <;> omega) (by rw [hs]; split <;> omega), hhx, hhy, hs]
    split <;> split <;> split <;> omega
  rw [decide_eq_false key, cnd_f])
theorem s28 (d : Nat) (x y : Int) (hx : -9223372036854775808 ≤ x) (hx' : x < 9223372036854775808) (hy : -9223372036854775808 ≤ y) (hy' : y < 9223372036854775808) :
    pcall M (d + 4) 28 [.int .i64 x, .int .i64 y] = some (.tup [.int .i64 (if fitB (x + y) then x + y else 0), .bool (fitB (x + y))]) := told (r28 C0 (d + 3) _ _) (by
  rw [s40 (d + 2) x hx hx', s40 (d + 2) y hy hy', C0_agg2]
  simp only [at0, at1, C0_int, C0_agg2]
  rw [s41 (d + 2) x y hx hx' hy hy', C0_tup2]
  simp only [at0, at1, C0_int, C0_agg2, C0_bool]
  rw [s39 d (x + y) (by omega) (by omega), C0_tup2]
  simp only [at0, at1, C0_int, C0_bool])
end Go.Proofs.Ytbcbaidnamebkaa.AE
