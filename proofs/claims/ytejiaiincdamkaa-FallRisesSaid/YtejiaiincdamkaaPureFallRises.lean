/- The law FallRises of the printed program: with a greater height, or a greater speed up, the time is no less; with more gravity it is no more than a cycle longer. No conditions. -/
import Derived.Test.YtejiaiincdamkaaQFallRisesFall
import Derived.Test.YtejiaiincdamkaaQFallRisesRng
namespace Go.Proofs.Ytejiaiincdamkaa.Pure
open Go.RowKit Go.Proofs.Ytejiaiincdamkaa.PFallRises Go.Proofs.YtejiaiincdamkaaW.PrintWords Go.Proofs.YtejiaiincdamkaaW.PrintLast

theorem FallRises : apogeelaw17_FallRises.Pure := by
  intro a0 a1 a2 a3 a4 _ _ _ _ _
  refine ⟨300, ?_⟩
  have haw : apogeelaw17_awake.f 300 = some true := by decide +kernel
  unfold apogeelaw17_FallRises.f
  have hz := tmod_bd a0 1073741824 (by decide)
  have hv := tmod_bd a1 65536 (by decide)
  have hd := and_i64_bd a3 1073741823 (by decide) (by decide)
  have hw := and_i64_bd a4 65535 (by decide) (by decide)
  obtain ⟨g, hg, g0, g1⟩ := grav_bd a2 99 (by decide) (by decide)
  rw [hg]
  generalize Int.tmod a0 1073741824 = z at *
  generalize Int.tmod a1 65536 = v at *
  generalize Go.bits .and .i64 a3 1073741823 = dz at *
  generalize Go.bits .and .i64 a4 65535 = dv at *
  rw [wrap64_small (n := z + dz) (by omega) (by omega), wrap64_small (n := v + dv) (by omega) (by omega), wrap64_small (n := g + 1) (by omega) (by omega)]
  have one : ∀ z v g, May z v g → ∃ t, fall_Time.f 300 z v g = some (t, true) ∧ 0 ≤ t ∧ t ≤ 1000000 ∧ (z < 0 → t = 0) ∧ (0 ≤ z → ∀ s, 0 ≤ s → (0 ≤ A z v g s ↔ s ≤ t)) := by
    intro z v g hm
    obtain ⟨t, e, e'⟩ := time_spec 300 (by decide) z v g hm
    obtain ⟨t', e2, r⟩ := fallen_spec 300 (by decide) z v g hm.small
    obtain rfl : t = t' := by rw [e'] at e2; simpa using e2
    exact ⟨t, e, r⟩
  obtain ⟨t, e, t0, t1, ta, tb⟩ := one z v g (by unfold May; omega)
  obtain ⟨u, eu, u0, u1, ua, ub⟩ := one (z + dz) v g (by unfold May; omega)
  obtain ⟨x, ex, x0, x1, xa, xb⟩ := one z (v + dv) g (by unfold May; omega)
  obtain ⟨y, ey, y0, y1, ya, yb⟩ := one z v (g + 1) (by unfold May; omega)
  have h1 : t ≤ u := fallen_mono t0 u0 (by omega) (Int.le_refl _) ta tb ub
  have h2 : t ≤ x := fallen_mono t0 x0 (Int.le_refl _) (by omega) ta tb xb
  have h3 : y ≤ t := by
    by_cases c : z < 0
    · rw [ya c]; exact t0
    · have q := (yb (by omega) y y0).2 (Int.le_refl _)
      refine (tb (by omega) y y0).1 ?_
      have : A z v g y = A z v (g + 1) y + y * y := by unfold A; grind
      have := Int.mul_nonneg y0 y0
      omega
  rw [e, eu, ex, ey, haw]
  simp only [Option.bind_some, if_true]
  rw [if_pos h1, if_pos h2]
  by_cases c : v < 0
  · rw [if_pos c]
  · rw [if_neg c]
    exact congrArg some (decide_eq_true (by rw [wrap64_small (by omega) (by omega)]; omega))
end Go.Proofs.Ytejiaiincdamkaa.Pure
