/- The program's products of 128 bits, and which one is greater. -/
import Derived.Test.YtbcbaidnamebkaaQPointTurnsMul64
namespace Go.Proofs.Ytbcbaidnamebkaa.PPointTurns
open Go.RowKit Go.Proofs.YtbcbaidnamebkaaW.PrintWords Go.Proofs.YtbcbaidnamebkaaW.PrintLast

theorem mul_bd63 (a b : Int) (ha : -9223372036854775808 ≤ a) (ha' : a < 9223372036854775808) (hb : -9223372036854775808 ≤ b) (hb' : b < 9223372036854775808) :
    -85070591730234615865843651857942052864 ≤ a * b ∧ a * b ≤ 85070591730234615865843651857942052864 := by
  have h1 := Int.mul_nonneg (show 0 ≤ 9223372036854775808 - a by omega) (show 0 ≤ 9223372036854775808 + b by omega)
  have h2 := Int.mul_nonneg (show 0 ≤ 9223372036854775808 + a by omega) (show 0 ≤ 9223372036854775808 - b by omega)
  have h3 := Int.mul_nonneg (show 0 ≤ 9223372036854775808 - a by omega) (show 0 ≤ 9223372036854775808 - b by omega)
  have h4 := Int.mul_nonneg (show 0 ≤ 9223372036854775808 + a by omega) (show 0 ≤ 9223372036854775808 + b by omega)
  have e1 : (9223372036854775808 - a) * (9223372036854775808 + b) = 85070591730234615865843651857942052864 + 9223372036854775808 * b - 9223372036854775808 * a - a * b := by grind
  have e2 : (9223372036854775808 + a) * (9223372036854775808 - b) = 85070591730234615865843651857942052864 - 9223372036854775808 * b + 9223372036854775808 * a - a * b := by grind
  have e3 : (9223372036854775808 - a) * (9223372036854775808 - b) = 85070591730234615865843651857942052864 - 9223372036854775808 * b - 9223372036854775808 * a + a * b := by grind
  have e4 : (9223372036854775808 + a) * (9223372036854775808 + b) = 85070591730234615865843651857942052864 + 9223372036854775808 * b + 9223372036854775808 * a + a * b := by grind
  omega

theorem mul_spec (a b : Int) (ha : -9223372036854775808 ≤ a) (ha' : a < 9223372036854775808) (hb : -9223372036854775808 ≤ b) (hb' : b < 9223372036854775808) :
    wide_Mul.f a b = some (hiw (a * b), low (a * b)) := by
  obtain ⟨hi, lo, e, h0, l0, l1, i0, i1⟩ := mul64_spec (IntKind.u64.wrap a) (IntKind.u64.wrap b) (by rw [u64w]; omega) (by rw [u64w]; omega) (by rw [u64w]; omega) (by rw [u64w]; omega)
  have bd := mul_bd63 a b ha ha' hb hb'
  unfold wide_Mul.f
  rw [e]
  simp only [Option.bind_some, u64w]
  rw [u64w, u64w] at h0
  unfold hiw low
  have fin : ∀ h : Int, (h * 18446744073709551616 + lo - a * b) % 340282366920938463463374607431768211456 = 0 → (some (wrap64 h, lo) : Option (Int × Int)) = some (wrap64 (a * b / 18446744073709551616), a * b % 18446744073709551616) := by
    intro h hh
    generalize a * b = p at *
    have e2 : lo = p % 18446744073709551616 := by omega
    have e1 : wrap64 h = wrap64 (p / 18446744073709551616) := by unfold wrap64; omega
    rw [e1, e2]
  by_cases ca : a < 0
  · rw [if_pos ca]
    have ua : a % 18446744073709551616 = a + 18446744073709551616 := by omega
    by_cases cb : b < 0
    · rw [if_pos cb]
      have ub : b % 18446744073709551616 = b + 18446744073709551616 := by omega
      have hp : (a + 18446744073709551616) * (b + 18446744073709551616) = a * b + 18446744073709551616 * (a + b) + 340282366920938463463374607431768211456 := by grind
      rw [ua, ub, hp] at h0
      rw [ua, ub]
      refine fin _ ?_
      generalize a * b = p at *
      omega
    · rw [if_neg cb]
      have ub : b % 18446744073709551616 = b := by omega
      have hp : (a + 18446744073709551616) * b = a * b + 18446744073709551616 * b := by grind
      rw [ua, ub, hp] at h0
      rw [ub]
      refine fin _ ?_
      generalize a * b = p at *
      omega
  · rw [if_neg ca]
    have ua : a % 18446744073709551616 = a := by omega
    by_cases cb : b < 0
    · rw [if_pos cb]
      have ub : b % 18446744073709551616 = b + 18446744073709551616 := by omega
      have hp : a * (b + 18446744073709551616) = a * b + 18446744073709551616 * a := by grind
      rw [ua, ub, hp] at h0
      rw [ua]
      refine fin _ ?_
      generalize a * b = p at *
      omega
    · rw [if_neg cb]
      have ub : b % 18446744073709551616 = b := by omega
      rw [ua, ub] at h0
      refine fin _ ?_
      generalize a * b = p at *
      omega

theorem cmp_spec (k : Nat) (hk : 3 ≤ k) (a b : Int) (ha : -170141183460469231731687303715884105728 ≤ a) (ha' : a < 170141183460469231731687303715884105728) (hb : -170141183460469231731687303715884105728 ≤ b) (hb' : b < 170141183460469231731687303715884105728) :
    wide_Wide_Cmp.f k (hiw a) (low a) (hiw b) (low b) = some (sgn a b) := by
  obtain ⟨k, rfl⟩ : ∃ m, k = m + 3 := ⟨k - 3, by omega⟩
  have e1 : hiw a = a / 18446744073709551616 := by unfold hiw; rw [wrap64_small (by omega) (by omega)]
  have e2 : hiw b = b / 18446744073709551616 := by unfold hiw; rw [wrap64_small (by omega) (by omega)]
  have c1 : ∀ x y, cmp_Compare_int64.f x y = some (sgn x y) := by
    intro x y; unfold cmp_Compare_int64.f cmp_isNaN_int64.f sgn
    simp only [Option.bind_some, bne_self_eq_false, Bool.false_eq_true, if_false]
    split
    · rfl
    · split
      · rw [if_neg (by omega)]
      · rw [if_pos (by omega)]
  have c2 : ∀ x y, cmp_Compare_uint64.f x y = some (sgn x y) := by
    intro x y; unfold cmp_Compare_uint64.f cmp_isNaN_uint64.f sgn
    simp only [Option.bind_some, bne_self_eq_false, Bool.false_eq_true, if_false]
    split
    · rfl
    · split
      · rw [if_neg (by omega)]
      · rw [if_pos (by omega)]
  have hor : ∀ x y, cmp_Or_int.f (k + 3) [x, y] = some (if x = 0 then y else x) := by
    intro x y
    unfold cmp_Or_int.f
    have w1 : wrap64 (0 + 1) = 1 := by unfold wrap64; decide
    have w2 : wrap64 (1 + 1) = 2 := by unfold wrap64; decide
    have r0 : rd [x, y] 0 = x := rfl
    have r1 : rd [x, y] 1 = y := rfl
    simp only [cmp_Or_int.l0, List.length_cons, List.length_nil, r0]
    rw [if_pos (by omega), if_pos (by omega), if_pos (by omega)]
    by_cases h : x = 0
    · rw [if_pos h, if_pos h, w1, r1, if_pos (by omega), if_pos (by omega), if_pos (by omega)]
      by_cases h' : y = 0
      · rw [if_pos h', w2, if_neg (by omega), h']
      · rw [if_neg h']
    · rw [if_neg h, if_neg h]
  unfold wide_Wide_Cmp.f
  rw [c1, c2]
  simp only [Option.bind_some]
  rw [hor, e1, e2]
  simp only [Option.bind_some]
  refine congrArg some ?_
  unfold sgn low
  split <;> (try split) <;> (try split) <;> (try split) <;> omega
end Go.Proofs.Ytbcbaidnamebkaa.PPointTurns
