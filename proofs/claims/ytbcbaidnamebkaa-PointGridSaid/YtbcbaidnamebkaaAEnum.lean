/- Numbers of 64 bits: plain laws. No conditions. -/
import Derived.Test.YtbcbaidnamebkaaAEdef
namespace Go.Proofs.Ytbcbaidnamebkaa.AE
set_option linter.unusedVariables false
set_option linter.unusedSimpArgs false
set_option linter.constructorNameAsVariable false
open Go

theorem i64w (n : Int) : IntKind.i64.wrap n = (n + 9223372036854775808) % 18446744073709551616 - 9223372036854775808 := IntKind.wrap_i64 n
theorem u64w (n : Int) : IntKind.u64.wrap n = n % 18446744073709551616 := by simp [IntKind.wrap, IntKind.bits, IntKind.signed]
theorem u64_small {n : Int} (h : 0 ≤ n) (h' : n < 18446744073709551616) : IntKind.u64.wrap n = n := by rw [u64w]; omega
theorem i64_small {n : Int} (h : -9223372036854775808 ≤ n) (h' : n < 9223372036854775808) : IntKind.i64.wrap n = n := by rw [i64w]; omega
theorem u64_mask (k : Nat) (hk : k ≤ 64) {x : Int} (h : 0 ≤ x) (h' : x < 18446744073709551616) : Go.bits .and .u64 x (2 ^ k - 1) = x % 2 ^ k := by
  obtain ⟨n, rfl⟩ := Int.eq_ofNat_of_zero_le h
  have hn : n < 18446744073709551616 := by omega
  have hp : 1 ≤ 2 ^ k := Nat.one_le_two_pow
  have hm : ((2 : Int) ^ k - 1) = ((2 ^ k - 1 : Nat) : Int) := by
    rw [Int.natCast_sub hp]; simp
  have hk2 : 2 ^ k ≤ 18446744073709551616 := Nat.le_trans (Nat.pow_le_pow_right (by decide) hk) (by decide)
  show IntKind.u64.wrap ((BitVec.ofInt 64 (n : Int) &&& BitVec.ofInt 64 ((2 : Int) ^ k - 1)).toNat : Int) = _
  rw [hm, BitVec.toNat_and]
  rw [BitVec.ofInt_natCast, BitVec.ofInt_natCast, BitVec.toNat_ofNat, BitVec.toNat_ofNat, Nat.mod_eq_of_lt (by simpa using hn), Nat.mod_eq_of_lt (by simpa using (by omega : 2 ^ k - 1 < 18446744073709551616)), Nat.and_two_pow_sub_one_eq_mod]
  have : n % 2 ^ k ≤ n := Nat.mod_le _ _
  rw [u64_small (by omega) (by omega)]
  simp
theorem u64_and32 {x : Int} (h : 0 ≤ x) (h' : x < 18446744073709551616) : Go.bits .and .u64 x 4294967295 = x % 4294967296 := u64_mask 32 (by decide) h h'

def hiw (v : Int) : Int := IntKind.i64.wrap (v / 18446744073709551616)
def low (v : Int) : Int := v % 18446744073709551616

theorem mul_bd63 (a b : Int) (ha : -9223372036854775808 ≤ a) (ha' : a < 9223372036854775808) (hb : -9223372036854775808 ≤ b) (hb' : b < 9223372036854775808) :
    -85070591730234615865843651857942052864 ≤ a * b ∧ a * b ≤ 85070591730234615865843651857942052864 := by
  have h1 := Int.mul_nonneg (show 0 ≤ 9223372036854775808 - a by omega) (show 0 ≤ 9223372036854775808 + b by omega)
  have h2 := Int.mul_nonneg (show 0 ≤ 9223372036854775808 + a by omega) (show 0 ≤ 9223372036854775808 - b by omega)
  have h3 := Int.mul_nonneg (show 0 ≤ 9223372036854775808 - a by omega) (show 0 ≤ 9223372036854775808 - b by omega)
  have h4 := Int.mul_nonneg (show 0 ≤ 9223372036854775808 + a by omega) (show 0 ≤ 9223372036854775808 + b by omega)
  have e1 : (9223372036854775808 - a) * (9223372036854775808 + b) = 85070591730234615865843651857942052864 + 9223372036854775808 * b - 9223372036854775808 * a - a * b := by grind
  have e2 : (9223372036854775808 + a) * (9223372036854775808 - b) = 85070591730234615865843651857942052864 - 9223372036854775808 * b + 9223372036854775808 * a - a * b := by grind
  have e3 : (9223372036854775808 - a) * (9223372036854775808 - b) = 85070591730234615865843651857942052864 - 9223372036854775808 * b - 9223372036854775808 * a + a * b := by grind
  have e4 : (9223372036854775808 + a) * (9223372036854775808 + b) = 85070591730234615865843651857942052864 + 9223372036854775808 * b + 9223372036854775808 * a + a * b := by grind
  omega
theorem prod_bd {x y m : Int} (hx : -m ≤ x) (hx' : x ≤ m) (hy : -m ≤ y) (hy' : y ≤ m) : -(m * m) ≤ x * y ∧ x * y ≤ m * m := by
  have h1 := Int.mul_nonneg (show 0 ≤ m - x by omega) (show 0 ≤ m + y by omega)
  have h2 := Int.mul_nonneg (show 0 ≤ m + x by omega) (show 0 ≤ m - y by omega)
  have h3 := Int.mul_nonneg (show 0 ≤ m - x by omega) (show 0 ≤ m - y by omega)
  have h4 := Int.mul_nonneg (show 0 ≤ m + x by omega) (show 0 ≤ m + y by omega)
  have e1 : (m - x) * (m + y) = m * m + m * y - x * m - x * y := by grind
  have e2 : (m + x) * (m - y) = m * m - m * y + x * m - x * y := by grind
  have e3 : (m - x) * (m - y) = m * m - m * y - x * m + x * y := by grind
  have e4 : (m + x) * (m + y) = m * m + m * y + x * m + x * y := by grind
  generalize m * m = mm at *; generalize m * y = my at *; generalize x * m = xm at *; generalize x * y = xy at *
  omega
theorem prod_bd41 {x y : Int} (hx : -2199023255552 ≤ x) (hx' : x ≤ 2199023255552) (hy : -2199023255552 ≤ y) (hy' : y ≤ 2199023255552) : -4835703278458516698824704 ≤ x * y ∧ x * y ≤ 4835703278458516698824704 := prod_bd hx hx' hy hy'
def cmp (x y : Int) : Int := if x < y then -1 else if y < x then 1 else 0
end Go.Proofs.Ytbcbaidnamebkaa.AE
