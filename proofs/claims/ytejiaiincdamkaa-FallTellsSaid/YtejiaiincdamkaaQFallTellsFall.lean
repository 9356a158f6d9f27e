/- Plain laws of the printed fall: how long, and how high. -/
import Derived.Test.YtejiaiincdamkaaQFallTellsNum
import Derived.Test.YtejiaiincdamkaaQFallTellsFix
namespace Go.Proofs.Ytejiaiincdamkaa.PFallTells
open Go.RowKit Go.Proofs.YtejiaiincdamkaaW.PrintWords Go.Proofs.YtejiaiincdamkaaW.PrintLast

/-- Twice the height behind s cycles. -/
def A (z v g s : Int) : Int := 2 * z + 2 * v * s - g * s * s

theorem sq_nonneg (x : Int) : 0 ≤ x * x := by
  rcases Int.le_total 0 x with h | h
  · exact Int.mul_nonneg h h
  · have := Int.mul_nonneg (show 0 ≤ -x by omega) (show 0 ≤ -x by omega)
    rw [Int.neg_mul_neg] at this; exact this
theorem sq_le {x y : Int} (h : -y ≤ x) (h' : x ≤ y) : x * x ≤ y * y := by
  have h1 := Int.mul_nonneg (show 0 ≤ y - x by omega) (show 0 ≤ y + x by omega)
  have : (y - x) * (y + x) = y * y - x * x := by grind
  omega
theorem mul_bd {x y a b : Int} (h : -a ≤ x) (h' : x ≤ a) (g : -b ≤ y) (g' : y ≤ b) : -(a * b) ≤ x * y ∧ x * y ≤ a * b := by
  have h1 := Int.mul_nonneg (show 0 ≤ a - x by omega) (show 0 ≤ b + y by omega)
  have h2 := Int.mul_nonneg (show 0 ≤ a + x by omega) (show 0 ≤ b - y by omega)
  have h3 := Int.mul_nonneg (show 0 ≤ a - x by omega) (show 0 ≤ b - y by omega)
  have h4 := Int.mul_nonneg (show 0 ≤ a + x by omega) (show 0 ≤ b + y by omega)
  have e1 : (a - x) * (b + y) = a * b + a * y - x * b - x * y := by grind
  have e2 : (a + x) * (b - y) = a * b - a * y + x * b - x * y := by grind
  have e3 : (a - x) * (b - y) = a * b - a * y - x * b + x * y := by grind
  have e4 : (a + x) * (b + y) = a * b + a * y + x * b + x * y := by grind
  omega

theorem fix_Sqrt_spec (k : Nat) (hk : 65 ≤ k) (n : Int) (h0 : 0 ≤ n) (h1 : n < 9223372036854775808) :
    ∃ r, fix_Sqrt.f k n = some (r, true) ∧ 0 ≤ r ∧ r * r ≤ n ∧ n < (r + 1) * (r + 1) := by
  obtain ⟨r, e, r0, r1, r2, r3⟩ := sqrt_spec k hk 0 n (by decide) (by decide) h0 (by omega)
  have hr : r < 9223372036854775808 := by
    refine Int.lt_of_not_ge fun h => ?_
    have := Int.mul_le_mul h h (by decide) r0
    omega
  refine ⟨r, ?_, r0, by omega, by omega⟩
  unfold fix_Sqrt.f wide_Of.f fix_root.f
  simp only [Option.bind_some]
  rw [show n / 9223372036854775808 = 0 by omega, u64_small h0 (by omega), e]
  simp only [Option.bind_some, if_true]
  rw [if_neg (by omega), wrap64_small (by omega) hr]
  rfl

theorem within_spec (a b c : Int) : fall_within.f a b c = some (decide (b ≤ a ∧ a ≤ c)) := by
  unfold fall_within.f
  by_cases h : a ≥ b
  · rw [if_pos h]; congr 1; apply decide_eq_decide.2; omega
  · rw [if_neg h]; congr 1; symm; rw [decide_eq_false_iff_not]; omega

/-- What may be reckoned with. -/
def May (z v g : Int) : Prop := -2147483648 ≤ z ∧ z ≤ 2147483648 ∧ -131072 ≤ v ∧ v ≤ 131072 ∧ 1 ≤ g ∧ g ≤ 100
instance (z v g : Int) : Decidable (May z v g) := by unfold May; infer_instance
theorem may_spec (z v g : Int) : fall_may.f z v g = some (decide (May z v g)) := by
  unfold fall_may.f
  simp only [within_spec, Option.bind_some]
  by_cases h1 : (-2147483648 ≤ z ∧ z ≤ 2147483648)
  · rw [if_pos (decide_eq_true h1)]
    by_cases h2 : (-131072 ≤ v ∧ v ≤ 131072)
    · rw [if_pos (decide_eq_true h2)]; exact congrArg some (decide_eq_decide.2 (by unfold May; omega))
    · rw [if_neg (by simpa using h2)]; exact congrArg some (decide_eq_false (by unfold May; omega)).symm
  · rw [if_neg (by simpa using h1)]; exact congrArg some (decide_eq_false (by unfold May; omega)).symm

/-- What is small enough to be reckoned with inside. -/
def Small (z v g : Int) : Prop := -2147487744 ≤ z ∧ z ≤ 2147487744 ∧ -135168 ≤ v ∧ v ≤ 135168 ∧ 1 ≤ g ∧ g ≤ 100
theorem May.small {z v g : Int} (h : May z v g) : Small z v g := by unfold May at h; unfold Small; omega

/-- IT FALLS: the answer is the last cycle behind which it isn't below the ground. -/
theorem fallen_spec (k : Nat) (hk : 65 ≤ k) (z v g : Int) (hs : Small z v g) :
    ∃ t, fall_fallen.f k z v g = some (t, true) ∧ 0 ≤ t ∧ t ≤ 1000000 ∧ (z < 0 → t = 0) ∧ (0 ≤ z → ∀ s, 0 ≤ s → (0 ≤ A z v g s ↔ s ≤ t)) := by
  obtain ⟨z0, z1, v0, v1, g0, g1⟩ := hs
  unfold fall_fallen.f
  by_cases hz : z < 0
  · exact ⟨0, by rw [if_pos hz], by omega, by omega, fun _ => rfl, fun h => by omega⟩
  · have hv := mul_bd v0 v1 v0 v1
    have hv' := sq_nonneg v
    have hgz := Int.mul_le_mul (show 2 * g ≤ 200 by omega) z1 (by omega) (by omega)
    have hgz' := Int.mul_nonneg (show 0 ≤ 2 * g by omega) (show 0 ≤ z by omega)
    rw [if_neg hz, wrap64_small (n := v * v) (by omega) (by omega), wrap64_small (n := 2 * g) (by omega) (by omega), wrap64_small (n := 2 * g * z) (by omega) (by omega), wrap64_small (by omega) (by omega)]
    obtain ⟨r, e, r0, r1, r2⟩ := fix_Sqrt_spec k hk (v * v + 2 * g * z) (by omega) (by omega)
    have hrv : -r ≤ v ∧ v ≤ r := by
      constructor
      · refine Int.not_lt.1 fun h => ?_
        have := Int.mul_le_mul (show r + 1 ≤ -v by omega) (show r + 1 ≤ -v by omega) (by omega) (by omega)
        rw [Int.neg_mul_neg] at this; omega
      · refine Int.not_lt.1 fun h => ?_
        have := Int.mul_le_mul (show r + 1 ≤ v by omega) (show r + 1 ≤ v by omega) (by omega) (by omega)
        omega
    have hr : r ≤ 700000 := by
      refine Int.not_lt.1 fun h => ?_
      have := Int.mul_le_mul (show 700000 ≤ r by omega) (show 700000 ≤ r by omega) (by omega) (by omega)
      omega
    rw [e]
    simp only [Option.bind_some]
    have hd0 : 0 ≤ (v + r) / g := Int.ediv_nonneg (by omega) (by omega)
    have hd1 : (v + r) / g ≤ v + r := Int.ediv_le_self _ (by omega)
    rw [if_neg (by omega), wrap64_small (n := v + r) (by omega) (by omega), Int.tdiv_eq_ediv_of_nonneg (by omega), wrap64_small (by omega) (by omega)]
    refine ⟨_, rfl, hd0, by omega, fun h => by omega, fun _ s hs0 => ?_⟩
    have key : g * A z v g s = (v * v + 2 * g * z) - (g * s - v) * (g * s - v) := by unfold A; grind
    have hgs := Int.mul_nonneg (show 0 ≤ g by omega) hs0
    have hd : s ≤ (v + r) / g ↔ s * g ≤ v + r := Int.le_ediv_iff_mul_le (by omega)
    rw [hd, Int.mul_comm s g]
    constructor
    · intro h
      have h2 := Int.mul_nonneg (show 0 ≤ g by omega) h
      refine Int.not_lt.1 fun h3 => ?_
      have h4 := Int.mul_le_mul (show r + 1 ≤ g * s - v by omega) (show r + 1 ≤ g * s - v by omega) (by omega) (by omega)
      omega
    · intro h
      have h4 := sq_le (show -r ≤ g * s - v by omega) (show g * s - v ≤ r by omega)
      refine Int.not_lt.1 fun h5 => ?_
      have h6 := Int.mul_le_mul_of_nonneg_left (show A z v g s ≤ -1 by omega) (show 0 ≤ g by omega)
      omega

theorem time_spec (k : Nat) (hk : 65 ≤ k) (z v g : Int) (hm : May z v g) :
    ∃ t, fall_Time.f k z v g = some (t, true) ∧ fall_fallen.f k z v g = some (t, true) := by
  obtain ⟨t, e, _⟩ := fallen_spec k hk z v g hm.small
  refine ⟨t, ?_, e⟩
  unfold fall_Time.f
  rw [may_spec, e]
  simp [hm]

theorem A_mono {z v g z' v' s : Int} (hz : z ≤ z') (hv : v ≤ v') (hs : 0 ≤ s) : A z v g s ≤ A z' v' g s := by
  unfold A
  have := Int.mul_le_mul_of_nonneg_right (show 2 * v ≤ 2 * v' by omega) hs
  omega

/-- More height, more speed: no less time. -/
theorem fallen_mono {z v g z' v' t t' : Int} (ht : 0 ≤ t) (ht' : 0 ≤ t') (hz : z ≤ z') (hv : v ≤ v') (a : z < 0 → t = 0) (b : 0 ≤ z → ∀ s, 0 ≤ s → (0 ≤ A z v g s ↔ s ≤ t))
    (b' : 0 ≤ z' → ∀ s, 0 ≤ s → (0 ≤ A z' v' g s ↔ s ≤ t')) : t ≤ t' := by
  by_cases h : z < 0
  · rw [a h]; exact ht'
  · have h1 := ((b (by omega)) t ht).2 (Int.le_refl _)
    exact ((b' (by omega)) t ht).1 (Int.le_trans h1 (A_mono hz hv ht))

/-- No number of a height is too great. -/
theorem A_parts (z v g s : Int) (hs : Small z v g) (h0 : 0 ≤ s) (h1 : s ≤ 16777220) :
    wrap64 (2 * z) = 2 * z ∧ wrap64 (wrap64 (2 * v) * s) = 2 * v * s ∧ wrap64 (wrap64 (wrap64 (-g) * s) * s) = -(g * s * s) ∧ wrap64 (wrap64 (g * s) * s) = g * s * s ∧
      -4294975488 ≤ 2 * z ∧ 2 * z ≤ 4294975488 ∧ -4535607795200 ≤ 2 * v * s ∧ 2 * v * s ≤ 4535607795200 ∧ 0 ≤ g * s * s ∧ g * s * s ≤ 28147511092840000 := by
  obtain ⟨z0, z1, v0, v1, g0, g1⟩ := hs
  have b1 := mul_bd (x := 2 * v) (a := 270336) (y := s) (b := 16777220) (by omega) (by omega) (by omega) (by omega)
  have b2 := mul_bd (x := g) (a := 100) (y := s) (b := 16777220) (by omega) (by omega) (by omega) (by omega)
  have b3 := Int.mul_nonneg (show 0 ≤ g by omega) h0
  have b4 := Int.mul_nonneg b3 h0
  have b5 := Int.mul_le_mul (show g * s ≤ 1677722000 by omega) h1 h0 (by omega)
  have e1 : wrap64 (2 * v) = 2 * v := wrap64_small (by omega) (by omega)
  have e2 : wrap64 (-g) = -g := wrap64_small (by omega) (by omega)
  have e3 : -g * s = -(g * s) := Int.neg_mul ..
  have e4 : -(g * s) * s = -(g * s * s) := Int.neg_mul ..
  rw [e1, e2, e3, wrap64_small (n := 2 * z) (by omega) (by omega), wrap64_small (n := 2 * v * s) (by omega) (by omega), wrap64_small (n := -(g * s)) (by omega) (by omega), e4,
    wrap64_small (n := -(g * s * s)) (by omega) (by omega), wrap64_small (n := g * s) (by omega) (by omega), wrap64_small (n := g * s * s) (by omega) (by omega)]
  exact ⟨rfl, rfl, rfl, rfl, by omega, by omega, by omega, by omega, b4, by omega⟩
end Go.Proofs.Ytejiaiincdamkaa.PFallTells
