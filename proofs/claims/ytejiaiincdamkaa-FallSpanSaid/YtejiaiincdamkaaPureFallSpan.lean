/- The law FallSpan of the printed program: whatever is within eps of a height and a speed, and isn't below the ground, isn't below it behind lo cycles, and is behind hi. No conditions. -/
import Derived.Test.YtejiaiincdamkaaQFallSpanSpan
import Derived.Test.YtejiaiincdamkaaQFallSpanAbove
import Derived.Test.YtejiaiincdamkaaQFallSpanRng
namespace Go.Proofs.Ytejiaiincdamkaa.Pure
open Go.RowKit Go.Proofs.Ytejiaiincdamkaa.PFallSpan Go.Proofs.YtejiaiincdamkaaW.PrintWords Go.Proofs.YtejiaiincdamkaaW.PrintLast

theorem FallSpan : apogeelaw17_FallSpan.Pure := by
  intro a0 a1 a2 a3 a4 a5 _ _ _ _ _ _
  refine ⟨300, ?_⟩
  have haw : apogeelaw17_awake.f 300 = some true := by decide +kernel
  unfold apogeelaw17_FallSpan.f
  have hz := and_i64_bd a0 1073741823 (by decide) (by decide)
  have hv := tmod_bd a1 65536 (by decide)
  have he := and_i64_bd a3 1023 (by decide) (by decide)
  obtain ⟨g, hg, g0, g1⟩ := grav_bd a2 100 (by decide) (by decide)
  rw [hg]
  generalize Go.bits .and .i64 a0 1073741823 = z at *
  generalize Int.tmod a1 65536 = v at *
  generalize Go.bits .and .i64 a3 1023 = eps at *
  obtain ⟨lo, hi, e, f1, f2⟩ := span_spec 300 (by decide) z v g eps (by unfold May; omega) (by omega) (by omega)
  have hlh := falls_mono f1 f2 (by omega) (by omega)
  have b1 := f1.1
  have b2 := f2.2.1
  rw [e, haw]
  simp only [Option.bind_some, if_true]
  rw [show decide (lo > hi + 2) = false from decide_eq_false (by omega)]
  simp only [apogeelaw17_FallSpan.j0, Bool.false_eq_true, if_false]
  have h4 := tmod_bd a4 (eps + 1) (by omega)
  have h5 := tmod_bd a5 (eps + 1) (by omega)
  rw [wrap64_small (n := eps + 1) (by omega) (by omega), if_neg (by omega)]
  generalize Int.tmod a4 (eps + 1) = dz at *
  generalize Int.tmod a5 (eps + 1) = dv at *
  rw [wrap64_small (n := z + dz) (by omega) (by omega), wrap64_small (n := v + dv) (by omega) (by omega)]
  by_cases c : z + dz < 0
  · rw [if_pos c]
  · rw [if_neg c]
    have hs : Small (z + dz) (v + dv) g := by unfold Small; omega
    rw [ref_above _ _ _ lo hs b1 (by omega), ref_above _ _ _ (hi + 2) hs (by omega) (by omega)]
    simp only [Option.bind_some]
    rw [if_pos (falls_up f1 (by omega) (by omega) (by omega))]
    exact congrArg some (decide_eq_true (falls_down f2 (by omega) (by omega) (by omega) (by omega)))
end Go.Proofs.Ytejiaiincdamkaa.Pure
