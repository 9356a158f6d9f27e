/- Plain laws of the printed number functions: the product of 64 bits, the square root. -/
import Derived.Test.YtejiaiincdamkaaPFallTellsx
namespace Go.Proofs.Ytejiaiincdamkaa.PFallTells
open Go.RowKit Go.Proofs.YtejiaiincdamkaaW.PrintWords Go.Proofs.YtejiaiincdamkaaW.PrintLast

theorem u64_small {n : Int} (h : 0 ≤ n) (h' : n < 18446744073709551616) : IntKind.u64.wrap n = n := by rw [u64w]; omega
theorem wrap64_small {n : Int} (h : -9223372036854775808 ≤ n) (h' : n < 9223372036854775808) : wrap64 n = n := by unfold wrap64; omega
theorem u64_and32 {x : Int} (h : 0 ≤ x) (h' : x < 18446744073709551616) : Go.bits .and .u64 x 4294967295 = x % 4294967296 :=
  bits_mask .u64 64 (by decide) (fun n h0 h1 => u64_small h0 (by simpa using h1)) 32 (by decide) x h (by simpa using h')

theorem mul64_spec (a b : Int) (ha : 0 ≤ a) (ha' : a < 18446744073709551616) (hb : 0 ≤ b) (hb' : b < 18446744073709551616) :
    ∃ hi lo, bits_Mul64.f a b = some (hi, lo) ∧ hi * 18446744073709551616 + lo = a * b ∧ 0 ≤ lo ∧ lo < 18446744073709551616 ∧ 0 ≤ hi ∧ hi < 18446744073709551616 := by
  unfold bits_Mul64.f
  refine ⟨_, _, rfl, ?_⟩
  rw [u64_and32 ha ha', u64_and32 hb hb']
  obtain ⟨a1, a0, e1, e2, e3, e4⟩ : ∃ a1 a0 : Int, a / 4294967296 = a1 ∧ a % 4294967296 = a0 ∧ a = a1 * 4294967296 + a0 ∧ (0 ≤ a0 ∧ a0 < 4294967296 ∧ 0 ≤ a1 ∧ a1 < 4294967296) := ⟨_, _, rfl, rfl, by omega, by omega⟩
  obtain ⟨b1, b0, f1, f2, f3, f4⟩ : ∃ a1 a0 : Int, b / 4294967296 = a1 ∧ b % 4294967296 = a0 ∧ b = a1 * 4294967296 + a0 ∧ (0 ≤ a0 ∧ a0 < 4294967296 ∧ 0 ≤ a1 ∧ a1 < 4294967296) := ⟨_, _, rfl, rfl, by omega, by omega⟩
  rw [e1, e2, f1, f2]
  have hp : a * b = (a1 * b1) * 18446744073709551616 + (a1 * b0 + a0 * b1) * 4294967296 + a0 * b0 := by rw [e3, f3]; grind
  rw [hp]
  have bd : ∀ x y : Int, 0 ≤ x → x < 4294967296 → 0 ≤ y → y < 4294967296 → 0 ≤ x * y ∧ x * y ≤ 18446744065119617025 := by
    intro x y h1 h2 h3 h4
    exact ⟨Int.mul_nonneg h1 h3, Int.le_trans (Int.mul_le_mul (show x ≤ 4294967295 by omega) (show y ≤ 4294967295 by omega) h3 (by omega)) (by decide)⟩
  have B11 := bd a1 b1 (by omega) (by omega) (by omega) (by omega)
  have B10 := bd a1 b0 (by omega) (by omega) (by omega) (by omega)
  have B01 := bd a0 b1 (by omega) (by omega) (by omega) (by omega)
  have B00 := bd a0 b0 (by omega) (by omega) (by omega) (by omega)
  generalize a1 * b1 = p11 at *
  generalize a1 * b0 = p10 at *
  generalize a0 * b1 = p01 at *
  generalize a0 * b0 = p00 at *
  simp only [u64w]
  rw [show ∀ x : Int, Go.bits .and .u64 (x % 18446744073709551616) 4294967295 = (x % 18446744073709551616) % 4294967296 from fun x => u64_and32 (by omega) (by omega)]
  omega

theorem above_spec (s hi lo : Int) (hs : 0 ≤ s) (hs' : s < 18446744073709551616) (h0 : 0 ≤ hi) (h1 : hi < 9223372036854775808) (l0 : 0 ≤ lo) (l1 : lo < 18446744073709551616) :
    wide_above.f s hi lo = some (decide (hi * 18446744073709551616 + lo < s * s)) := by
  obtain ⟨ph, pl, e, hp, b0, b1, b2, b3⟩ := mul64_spec s s hs hs' hs hs'
  unfold wide_above.f
  rw [e, u64_small h0 (by omega)]
  simp only [Option.bind_some]
  rw [← hp]
  by_cases c1 : ph > hi
  · rw [if_pos c1]; congr 1; symm; rw [decide_eq_true_iff]; omega
  · rw [if_neg c1]
    by_cases c2 : ph = hi
    · rw [if_pos c2]; subst c2; congr 1; apply decide_eq_decide.2; omega
    · rw [if_neg c2]; congr 1; symm; rw [decide_eq_false_iff_not]; omega

theorem or_add (s : Int) (j : Nat) (hj : j < 64) (hs : 0 ≤ s) (hs' : s < 18446744073709551616) (hm : s % 2 ^ (j + 1) = 0) : Go.bits .or .u64 s (2 ^ j) = s + 2 ^ j := by
  have hp : (0 : Int) < 2 ^ j := Int.pow_pos (by decide)
  have hp1 : (2 : Int) ^ (j + 1) = 2 * 2 ^ j := by rw [Int.pow_succ]; omega
  have hle : (2 : Int) ^ (j + 1) ≤ 2 ^ 64 := by
    have : (2 : Nat) ^ (j + 1) ≤ 2 ^ 64 := Nat.pow_le_pow_right (by decide) (by omega)
    exact_mod_cast this
  exact bits_join .u64 64 (by decide) (fun n h0 h1 => u64_small h0 (by simpa using h1)) (j + 1) s (2 ^ j) hs hm (by simpa using hs') (by omega) (by omega) (by omega)

theorem sqrt_loop (hi lo : Int) (h0 : 0 ≤ hi) (h1 : hi < 9223372036854775808) (l0 : 0 ≤ lo) (l1 : lo < 18446744073709551616) (j : Nat) :
    ∀ (k : Nat) (s b : Int), j < k → j ≤ 64 → b = (if j = 0 then 0 else 2 ^ (j - 1)) → 0 ≤ s → s < 18446744073709551616 → s % 2 ^ j = 0 →
      s * s ≤ hi * 18446744073709551616 + lo → hi * 18446744073709551616 + lo < (s + 2 ^ j) * (s + 2 ^ j) →
      ∃ r, wide_Wide_Sqrt.l0 k s b hi lo = some (r, true) ∧ 0 ≤ r ∧ r < 18446744073709551616 ∧ r * r ≤ hi * 18446744073709551616 + lo ∧ hi * 18446744073709551616 + lo < (r + 1) * (r + 1) := by
  induction j with
  | zero =>
    intro k s b hk _ hb hs hs' _ h2 h3
    obtain ⟨k, rfl⟩ : ∃ m, k = m + 1 := ⟨k - 1, by omega⟩
    rw [if_pos rfl] at hb; subst hb
    refine ⟨s, ?_, hs, hs', h2, by simpa using h3⟩
    simp only [wide_Wide_Sqrt.l0]; rw [if_neg (by decide)]
  | succ j ih =>
    intro k s b hk hj hb hs hs' hm h2 h3
    obtain ⟨k, rfl⟩ : ∃ m, k = m + 1 := ⟨k - 1, by omega⟩
    rw [if_neg (by omega)] at hb
    simp only [Nat.add_sub_cancel] at hb
    have hp : (0 : Int) < 2 ^ j := Int.pow_pos (by decide)
    have hp1 : (2 : Int) ^ (j + 1) = 2 * 2 ^ j := by rw [Int.pow_succ]; omega
    have hhalf : b / 2 = (if j = 0 then 0 else 2 ^ (j - 1)) := by
      subst hb
      by_cases e : j = 0
      · subst e; rfl
      · rw [if_neg e]
        obtain ⟨i, rfl⟩ : ∃ i, j = i + 1 := ⟨j - 1, by omega⟩
        simp only [Nat.add_sub_cancel]
        rw [Int.pow_succ]; omega
    have hmm : s % 2 ^ j = 0 := by
      have hd : (2 : Int) ^ (j + 1) ∣ s := Int.dvd_of_emod_eq_zero hm
      exact Int.emod_eq_zero_of_dvd (Int.dvd_trans ⟨2, by rw [hp1]; omega⟩ hd)
    have hor : Go.bits .or .u64 s b = s + 2 ^ j := by subst hb; exact or_add s j (by omega) hs hs' hm
    have hsum : s + 2 ^ j < 18446744073709551616 := by
      -- s is a multiple of 2^(j+1) below 2^64
      obtain ⟨q, hq⟩ := Int.dvd_of_emod_eq_zero hm
      obtain ⟨c, hc⟩ : ∃ c : Int, (18446744073709551616 : Int) = 2 ^ (j + 1) * c := ⟨2 ^ (63 - j), by rw [← Int.pow_add, show j + 1 + (63 - j) = 64 by omega]; rfl⟩
      have hpp : (0 : Int) < 2 ^ (j + 1) := Int.pow_pos (by decide)
      have hqc : q < c := by
        rw [hq, hc] at hs'
        exact Int.lt_of_mul_lt_mul_left hs' (Int.le_of_lt hpp)
      have h5 : 2 ^ (j + 1) * (q + 1) ≤ 2 ^ (j + 1) * c := Int.mul_le_mul_of_nonneg_left (by omega) (Int.le_of_lt hpp)
      rw [Int.mul_add, Int.mul_one, ← hq, ← hc] at h5
      omega
    have hb0 : b > 0 := by subst hb; exact hp
    simp only [wide_Wide_Sqrt.l0]
    rw [if_pos hb0, hor, above_spec (s + 2 ^ j) hi lo (by omega) hsum h0 h1 l0 l1]
    simp only [Option.bind_some]
    by_cases c : hi * 18446744073709551616 + lo < (s + 2 ^ j) * (s + 2 ^ j)
    · rw [if_pos (decide_eq_true c)]
      exact ih k s _ (by omega) (by omega) hhalf hs hs' hmm h2 c
    · rw [if_neg (by simpa using c)]
      refine ih k (s + 2 ^ j) _ (by omega) (by omega) hhalf (by omega) hsum ?_ (by omega) ?_
      · rw [Int.add_emod, hmm, Int.emod_self]; simp
      · rw [show s + 2 ^ j + 2 ^ j = s + 2 ^ (j + 1) by rw [hp1]; omega]; exact h3

theorem sqrt_spec (k : Nat) (hk : 65 ≤ k) (hi lo : Int) (h0 : 0 ≤ hi) (h1 : hi < 9223372036854775808) (l0 : 0 ≤ lo) (l1 : lo < 18446744073709551616) :
    ∃ r, wide_Wide_Sqrt.f k hi lo = some (r, true) ∧ 0 ≤ r ∧ r < 18446744073709551616 ∧ r * r ≤ hi * 18446744073709551616 + lo ∧ hi * 18446744073709551616 + lo < (r + 1) * (r + 1) := by
  unfold wide_Wide_Sqrt.f
  rw [if_neg (by omega)]
  exact sqrt_loop hi lo h0 h1 l0 l1 64 k 0 _ (by omega) (by omega) rfl (by omega) (by omega) (by simp) (by omega) (by simp; omega)

/-- A number's root, rounded down, is one alone. -/
theorem root_one {n r s : Int} (hr : 0 ≤ r) (hs : 0 ≤ s) (h1 : r * r ≤ n) (h2 : n < (r + 1) * (r + 1)) (h3 : s * s ≤ n) (h4 : n < (s + 1) * (s + 1)) : r = s := by
  have a : ¬ r + 1 ≤ s := fun h => by
    have := Int.mul_le_mul h h (by omega) hs
    omega
  have b : ¬ s + 1 ≤ r := fun h => by
    have := Int.mul_le_mul h h (by omega) hr
    omega
  omega
end Go.Proofs.Ytejiaiincdamkaa.PFallTells
