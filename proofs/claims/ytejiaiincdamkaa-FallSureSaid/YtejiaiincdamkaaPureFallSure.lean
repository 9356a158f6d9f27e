/- The law FallSure of the printed program: from a height that isn't below the ground, behind Time cycles it isn't below the ground, behind two more it is. No conditions. -/
import Derived.Test.YtejiaiincdamkaaQFallSureAbove
import Derived.Test.YtejiaiincdamkaaQFallSureRng
namespace Go.Proofs.Ytejiaiincdamkaa.Pure
open Go.RowKit Go.Proofs.Ytejiaiincdamkaa.PFallSure Go.Proofs.YtejiaiincdamkaaW.PrintWords Go.Proofs.YtejiaiincdamkaaW.PrintLast

theorem FallSure : apogeelaw17_FallSure.Pure := by
  intro a0 a1 a2 _ _ _
  refine ⟨300, ?_⟩
  have haw : apogeelaw17_awake.f 300 = some true := by decide +kernel
  unfold apogeelaw17_FallSure.f
  have hz := and_i64_bd a0 2147483647 (by decide) (by decide)
  have hv := tmod_bd a1 131072 (by decide)
  obtain ⟨g, hg, g0, g1⟩ := grav_bd a2 100 (by decide) (by decide)
  rw [hg]
  generalize Go.bits .and .i64 a0 2147483647 = z at *
  generalize Int.tmod a1 131072 = v at *
  have hm : May z v g := by unfold May; omega
  obtain ⟨t, e, e'⟩ := time_spec 300 (by decide) z v g hm
  obtain ⟨t', e2, t0, t1, _, tc⟩ := fallen_spec 300 (by decide) z v g hm.small
  obtain rfl : t = t' := by rw [e'] at e2; simpa using e2
  have h1 := (tc (by omega) t t0).2 (Int.le_refl _)
  have h2 : ¬ 0 ≤ A z v g (t + 2) := fun h => by have := (tc (by omega) (t + 2) (by omega)).1 h; omega
  rw [e, haw]
  simp only [Option.bind_some, if_true]
  rw [if_pos (by omega), ref_above z v g t hm.small t0 (by omega), wrap64_small (n := t + 2) (by omega) (by omega), ref_above z v g (t + 2) hm.small (by omega) (by omega)]
  simp only [Option.bind_some]
  rw [if_pos h1]
  exact congrArg some (decide_eq_true (by omega))
end Go.Proofs.Ytejiaiincdamkaa.Pure
