/- Sums of three, the program's height, and the top. -/
import Derived.Test.YtejiaiincdamkaaQFallTellsFall
namespace Go.Proofs.Ytejiaiincdamkaa.PFallTells
open Go.RowKit Go.Proofs.YtejiaiincdamkaaW.PrintWords Go.Proofs.YtejiaiincdamkaaW.PrintLast
theorem sum3 (k : Nat) (hk : 4 ≤ k) (a b c : Int) (a0 : -4611686018427387904 ≤ a) (a1 : a < 4611686018427387904) (b0 : -2305843009213693952 ≤ b) (b1 : b < 2305843009213693952) (c0 : -2305843009213693952 ≤ c) (c1 : c < 2305843009213693952) :
    fix_Sum.f k [a, b, c] = some (a + b + c, true) := by
  obtain ⟨k, rfl⟩ : ∃ m, k = m + 4 := ⟨k - 4, by omega⟩
  unfold fix_Sum.f
  have r0 : rd [a, b, c] 0 = a := rfl
  have r1 : rd [a, b, c] 1 = b := rfl
  have r2 : rd [a, b, c] 2 = c := rfl
  have w1 : wrap64 (0 + 1) = 1 := by unfold wrap64; decide
  have w2 : wrap64 (1 + 1) = 2 := by unfold wrap64; decide
  have w3 : wrap64 (2 + 1) = 3 := by unfold wrap64; decide
  simp only [fix_Sum.l0, List.length_cons, List.length_nil]
  rw [if_pos (by omega), if_pos (by omega), if_pos (by omega), r0, fix_Add_in 0 a (by omega) (by omega) (by omega) (by omega) (by omega) (by omega)]
  simp only [Option.bind_some, if_true, w1]
  rw [if_pos (by omega), if_pos (by omega), if_pos (by omega), r1, fix_Add_in (0 + a) b (by omega) (by omega) (by omega) (by omega) (by omega) (by omega)]
  simp only [Option.bind_some, if_true, w2]
  rw [if_pos (by omega), if_pos (by omega), if_pos (by omega), r2, fix_Add_in (0 + a + b) c (by omega) (by omega) (by omega) (by omega) (by omega) (by omega)]
  simp only [Option.bind_some, if_true, w3]
  rw [if_neg (by omega), Int.zero_add]
theorem above_prog (k : Nat) (hk : 4 ≤ k) (z v g s : Int) : fall_Above.f k z v g s = some (if May z v g ∧ 0 ≤ s ∧ s ≤ 16777216 then (A z v g s, true) else (0, false)) := by
  unfold fall_Above.f
  rw [may_spec]
  simp only [Option.bind_some]
  by_cases hm : May z v g
  · rw [if_pos (decide_eq_true hm), within_spec]
    simp only [Option.bind_some]
    by_cases hs : 0 ≤ s ∧ s ≤ 16777216
    · obtain ⟨p1, p2, p3, p4, b1, b2, b3, b4, b5, b6⟩ := A_parts z v g s hm.small hs.1 (by omega)
      rw [if_pos (decide_eq_true hs), if_pos ⟨hm, hs⟩, p1, p2, p3, sum3 k hk _ _ _ (by omega) (by omega) (by omega) (by omega) (by omega) (by omega)]
      simp only [Option.bind_some]
      unfold A
      rw [Int.sub_eq_add_neg]
    · rw [if_neg (by simpa using hs), if_neg (fun h => hs h.2)]
  · rw [if_neg (by simpa using hm), if_neg (fun h => hm h.1)]
/-- The top. -/
def Topp (z v g : Int) : Int := if 0 ≤ v then mx (mx (2 * z) (A z v g (v / g))) (A z v g (v / g + 1)) else 2 * z
theorem top_prog (k : Nat) (hk : 8 ≤ k) (z v g : Int) : fall_Top.f k z v g = some (if May z v g then (Topp z v g, true) else (0, false)) := by
  obtain ⟨k, rfl⟩ : ∃ m, k = m + 3 := ⟨k - 3, by omega⟩
  unfold fall_Top.f
  rw [may_spec]
  simp only [Option.bind_some]
  by_cases hm : May z v g
  · obtain ⟨z0, z1, v0, v1, g0, g1⟩ := id hm
    rw [if_pos (decide_eq_true hm), if_pos hm]
    unfold Topp
    have ez : wrap64 (2 * z) = 2 * z := wrap64_small (by omega) (by omega)
    by_cases hv : v ≥ 0
    · rw [if_pos hv, if_pos hv, if_neg (by omega), Int.tdiv_eq_ediv_of_nonneg hv]
      have q0 : 0 ≤ v / g := Int.ediv_nonneg hv (by omega)
      have q1 : v / g ≤ v := Int.ediv_le_self _ hv
      rw [wrap64_small (n := v / g) (by omega) (by omega), wrap64_small (n := v / g + 1) (by omega) (by omega), ez]
      generalize v / g = q at *
      have w1 : wrap64 (0 + 1) = 1 := by unfold wrap64; decide
      have w2 : wrap64 (1 + 1) = 2 := by unfold wrap64; decide
      have r0 : rd [q, q + 1] 0 = q := rfl
      have r1 : rd [q, q + 1] 1 = q + 1 := rfl
      simp only [fall_Top.l0, List.length_cons, List.length_nil]
      rw [if_pos (by omega), if_pos (by omega), if_pos (by omega), r0, above_prog _ (by omega), if_pos ⟨hm, by omega, by omega⟩]
      simp only [Option.bind_some, if_true, w1]
      rw [if_pos (by omega), if_pos (by omega), if_pos (by omega), r1, above_prog _ (by omega), if_pos ⟨hm, by omega, by omega⟩]
      simp only [Option.bind_some, if_true, w2]
      rw [if_neg (by omega)]
    · rw [if_neg hv, if_neg (by omega), ez]
  · rw [if_neg (by simpa using hm), if_neg hm]
theorem mx_le (a b : Int) : a ≤ mx a b ∧ b ≤ mx a b := by unfold mx; omega
/-- Behind no time is it higher. -/
theorem top_above (z v g s : Int) (hg : 1 ≤ g) (hs : 0 ≤ s) : A z v g s ≤ Topp z v g ∧ 2 * z ≤ Topp z v g := by
  unfold Topp
  by_cases hv : 0 ≤ v
  · rw [if_pos hv]
    have m1 := mx_le (2 * z) (A z v g (v / g))
    have m2 := mx_le (mx (2 * z) (A z v g (v / g))) (A z v g (v / g + 1))
    refine ⟨?_, by omega⟩
    have e := Int.mul_ediv_add_emod v g
    have e0 := Int.emod_nonneg v (show g ≠ 0 by omega)
    have e1 := Int.emod_lt_of_pos v (show 0 < g by omega)
    generalize v / g = q at *
    generalize v % g = m at *
    by_cases c : s ≤ q
    · have k1 : A z v g q - A z v g s = (q - s) * (g * (q - s) + 2 * m) := by unfold A; grind
      have k2 := Int.mul_nonneg (show 0 ≤ q - s by omega) (Int.add_nonneg (Int.mul_nonneg (show 0 ≤ g by omega) (show 0 ≤ q - s by omega)) (show 0 ≤ 2 * m by omega))
      omega
    · have k1 : A z v g (q + 1) - A z v g s = (s - q - 1) * (g * (s - q - 1) + 2 * (g - m)) := by unfold A; grind
      have k2 := Int.mul_nonneg (show 0 ≤ s - q - 1 by omega) (Int.add_nonneg (Int.mul_nonneg (show 0 ≤ g by omega) (show 0 ≤ s - q - 1 by omega)) (show 0 ≤ 2 * (g - m) by omega))
      omega
  · rw [if_neg hv]
    refine ⟨?_, by omega⟩
    have k1 := Int.mul_nonneg (show 0 ≤ -(2 * v) by omega) hs
    rw [Int.neg_mul] at k1
    have k2 := Int.mul_nonneg (Int.mul_nonneg (show 0 ≤ g by omega) hs) hs
    unfold A; omega
end Go.Proofs.Ytejiaiincdamkaa.PFallTells
