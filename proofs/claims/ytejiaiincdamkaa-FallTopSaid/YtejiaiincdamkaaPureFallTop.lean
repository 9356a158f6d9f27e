/- The law FallTop of the printed program: behind no time is it higher than the top, and the top is no lower than where it is. No conditions. -/
import Derived.Test.YtejiaiincdamkaaQFallTopTop
import Derived.Test.YtejiaiincdamkaaQFallTopAbove
import Derived.Test.YtejiaiincdamkaaQFallTopRng
namespace Go.Proofs.Ytejiaiincdamkaa.Pure
open Go.RowKit Go.Proofs.Ytejiaiincdamkaa.PFallTop Go.Proofs.YtejiaiincdamkaaW.PrintWords Go.Proofs.YtejiaiincdamkaaW.PrintLast

theorem FallTop : apogeelaw17_FallTop.Pure := by
  intro a0 a1 a2 a3 _ _ _ _
  refine ⟨300, ?_⟩
  have haw : apogeelaw17_awake.f 300 = some true := by decide +kernel
  unfold apogeelaw17_FallTop.f
  have hz := tmod_bd a0 1073741824 (by decide)
  have hv := tmod_bd a1 65536 (by decide)
  have ht := and_i64_bd a3 1048575 (by decide) (by decide)
  obtain ⟨g, hg, g0, g1⟩ := grav_bd a2 100 (by decide) (by decide)
  rw [hg]
  generalize Int.tmod a0 1073741824 = z at *
  generalize Int.tmod a1 65536 = v at *
  generalize Go.bits .and .i64 a3 1048575 = s at *
  have hm : May z v g := by unfold May; omega
  have h := top_above z v g s g0 ht.1
  rw [top_prog 300 (by decide), if_pos hm, haw]
  simp only [Option.bind_some, if_true]
  rw [ref_above z v g s hm.small ht.1 (by omega)]
  simp only [Option.bind_some]
  rw [if_pos h.1]
  exact congrArg some (decide_eq_true (by rw [wrap64_small (by omega) (by omega)]; exact h.2))
end Go.Proofs.Ytejiaiincdamkaa.Pure
