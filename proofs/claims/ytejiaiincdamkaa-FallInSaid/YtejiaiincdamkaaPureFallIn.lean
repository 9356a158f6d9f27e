/- The law FallIn of the printed program: a span with less eps, around a place within the rest of it, is in the span with more. No conditions. -/
import Derived.Test.YtejiaiincdamkaaQFallInSpan
import Derived.Test.YtejiaiincdamkaaQFallInRng
namespace Go.Proofs.Ytejiaiincdamkaa.Pure
open Go.RowKit Go.Proofs.Ytejiaiincdamkaa.PFallIn Go.Proofs.YtejiaiincdamkaaW.PrintWords Go.Proofs.YtejiaiincdamkaaW.PrintLast

theorem FallIn : apogeelaw17_FallIn.Pure := by
  intro a0 a1 a2 a3 a4 a5 a6 _ _ _ _ _ _ _
  refine ⟨300, ?_⟩
  have haw : apogeelaw17_awake.f 300 = some true := by decide +kernel
  unfold apogeelaw17_FallIn.f
  have hz := tmod_bd a0 1073741824 (by decide)
  have hv := tmod_bd a1 65536 (by decide)
  have he := and_i64_bd a3 511 (by decide) (by decide)
  have hm := and_i64_bd a4 511 (by decide) (by decide)
  obtain ⟨g, hg, g0, g1⟩ := grav_bd a2 100 (by decide) (by decide)
  rw [hg]
  generalize Int.tmod a0 1073741824 = z at *
  generalize Int.tmod a1 65536 = v at *
  generalize Go.bits .and .i64 a3 511 = eps at *
  generalize Go.bits .and .i64 a4 511 = more at *
  have h4 := tmod_bd a5 (more + 1) (by omega)
  have h5 := tmod_bd a6 (more + 1) (by omega)
  rw [wrap64_small (n := more + 1) (by omega) (by omega), if_neg (by omega)]
  generalize Int.tmod a5 (more + 1) = dz at *
  generalize Int.tmod a6 (more + 1) = dv at *
  rw [wrap64_small (n := z + dz) (by omega) (by omega), wrap64_small (n := v + dv) (by omega) (by omega), wrap64_small (n := eps + more) (by omega) (by omega)]
  obtain ⟨lo, hi, e, f1, f2⟩ := span_spec 300 (by decide) (z + dz) (v + dv) g eps (by unfold May; omega) (by omega) (by omega)
  obtain ⟨lo', hi', e', f1', f2'⟩ := span_spec 300 (by decide) z v g (eps + more) (by unfold May; omega) (by omega) (by omega)
  have h1 := falls_mono f1' f1 (by omega) (by omega)
  have h2 := falls_mono f2 f2' (by omega) (by omega)
  rw [e, e', haw]
  simp only [Option.bind_some, if_true]
  rw [if_pos h1]
  exact congrArg some (decide_eq_true (by omega))
end Go.Proofs.Ytejiaiincdamkaa.Pure
