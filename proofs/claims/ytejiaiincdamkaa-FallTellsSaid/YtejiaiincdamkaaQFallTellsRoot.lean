/- The document's root, by halving. -/
import Derived.Test.YtejiaiincdamkaaQFallTellsRef01
namespace Go.Proofs.Ytejiaiincdamkaa.PFallTells
open Go.RowKit Go.Proofs.YtejiaiincdamkaaW.PrintWords Go.Proofs.YtejiaiincdamkaaW.PrintLast

theorem root_l0 (N : Int) (h0 : 0 ≤ N) (h1 : N < 170141183460469231731687303715884105728) (j : Nat) : ∀ (k : Nat) (lo hi : Int), j + 268 < k → hi - lo = 2 ^ j → 0 ≤ lo → hi ≤ 4611686018427387904 → lo * lo ≤ N → N < hi * hi →
    ∃ r, apogeeref02_Root.l0 k lo hi (hiw N) (low N) = some r ∧ 0 ≤ r ∧ r * r ≤ N ∧ N < (r + 1) * (r + 1) := by
  induction j with
  | zero =>
    intro k lo hi hk hd hlo hhi h2 h3
    obtain ⟨k, rfl⟩ : ∃ m, k = m + 1 := ⟨k - 1, by omega⟩
    refine ⟨lo, ?_, hlo, h2, by rw [show lo + 1 = hi by omega]; exact h3⟩
    simp only [apogeeref02_Root.l0]; rw [if_neg]
    rw [r_w64 (by omega) (by omega)]; omega
  | succ j ih =>
    intro k lo hi hk hd hlo hhi h2 h3
    obtain ⟨k, rfl⟩ : ∃ m, k = m + 1 := ⟨k - 1, by omega⟩
    have hp : (0 : Int) < 2 ^ j := Int.pow_pos (by decide)
    have hp1 : (2 : Int) ^ (j + 1) = 2 * 2 ^ j := by rw [Int.pow_succ]; omega
    rw [hp1] at hd
    generalize (2 : Int) ^ j = p at *
    have e1 : wrap64 (hi - lo) = hi - lo := r_w64 (by omega) (by omega)
    have e2 : Int.tdiv (hi - lo) 2 = p := by rw [Int.tdiv_eq_ediv_of_nonneg (by omega)]; omega
    have e3 : wrap64 (lo + wrap64 p) = lo + p := by rw [r_w64 (n := p) (by omega) (by omega), r_w64 (by omega) (by omega)]
    have hm0 := Int.mul_nonneg (show 0 ≤ lo + p by omega) (show 0 ≤ lo + p by omega)
    have hm1 := Int.mul_le_mul (show lo + p ≤ 4611686018427387904 by omega) (show lo + p ≤ 4611686018427387904 by omega) (by omega) (by omega)
    simp only [apogeeref02_Root.l0, e1, e2, e3]
    rw [if_pos (by omega), ref_mul k (by omega) _ _ (by omega) (by omega) (by omega) (by omega)]
    simp only [Option.bind_some]
    rw [ref_cmp k (by omega) _ _ (by omega) (by omega) (by omega) h1]
    simp only [Option.bind_some]
    by_cases c : (lo + p) * (lo + p) ≤ N
    · rw [if_pos (by split <;> (try split) <;> omega)]
      exact ih k (lo + p) hi (by omega) (by omega) (by omega) hhi c h3
    · rw [if_neg (by rw [if_neg (by omega), if_neg (by omega)]; decide)]
      exact ih k lo (lo + p) (by omega) (by omega) hlo (by omega) h2 (by omega)
theorem ref_root (k : Nat) (hk : 340 ≤ k) (N : Int) (h0 : 0 ≤ N) (h1 : N < 21267647932558653966460912964485513216) :
    ∃ r, apogeeref02_Root.f k (hiw N) (low N) = some r ∧ 0 ≤ r ∧ r * r ≤ N ∧ N < (r + 1) * (r + 1) := by
  unfold apogeeref02_Root.f
  exact root_l0 N h0 (by omega) 62 k 0 _ (by omega) (by decide) (by decide) (by decide) (by omega) (by omega)
end Go.Proofs.Ytejiaiincdamkaa.PFallTells
