/- The law PairHeight of the printed program: the height that is told is none of those that are there higher; with one source more it is no higher. No conditions. -/
import Derived.Test.YtncelpakoikbeaaQPairHeightNear
namespace Go.Proofs.Ytncelpakoikbeaa.Pure
open Go.RowKit Go.Proofs.Ytncelpakoikbeaa.PPairHeight Go.Proofs.YtncelpakoikbeaaW.PrintWords Go.Proofs.YtncelpakoikbeaaW.PrintLast

theorem PairHeight : apogeelaw16_PairHeight.Pure := by
  intro a0_0 a0_1 a0_2 a0_3 a0_4 a0_5 a0_6 a0_7 a1_0 a1_1 a1_2 a1_3 a1_4 a1_5 a1_6 a1_7 g0 g1 h0_2 h0_3 h0_4 h0_5 h0_6 h0_7 g2 g3 h1_2 h1_3 h1_4 h1_5 h1_6 h1_7
  replace h0_2 := Rg.of h0_2
  replace h0_3 := Rg.of h0_3
  replace h0_4 := Rg.of h0_4
  replace h0_5 := Rg.of h0_5
  replace h0_6 := Rg.of h0_6
  replace h0_7 := Rg.of h0_7
  replace h1_2 := Rg.of h1_2
  replace h1_3 := Rg.of h1_3
  replace h1_4 := Rg.of h1_4
  replace h1_5 := Rg.of h1_5
  replace h1_6 := Rg.of h1_6
  replace h1_7 := Rg.of h1_7
  refine ⟨30, ?_⟩
  have haw : apogeelaw16_awake.f 30 = some true := by decide +kernel
  unfold apogeelaw16_PairHeight.f
  rw [height_spec 30 (by decide) a0_0 a0_1 a0_2 a0_3 a0_4 a0_5 a0_6 a0_7 a1_0 a1_1 a1_2 a1_3 a1_4 a1_5 a1_6 a1_7 true true h0_2 h1_2 h0_3 h1_3 h0_4 h1_4 h0_5 h1_5 h0_6 h1_6 h0_7 h1_7, height_spec 30 (by decide) a0_0 a0_1 a0_2 a0_3 a0_4 a0_5 a0_6 a0_7 a1_0 a1_1 a1_2 a1_3 a1_4 a1_5 a1_6 a1_7 true false h0_2 h1_2 h0_3 h1_3 h0_4 h1_4 h0_5 h1_5 h0_6 h1_6 h0_7 h1_7, height_spec 30 (by decide) a0_0 a0_1 a0_2 a0_3 a0_4 a0_5 a0_6 a0_7 a1_0 a1_1 a1_2 a1_3 a1_4 a1_5 a1_6 a1_7 false true h0_2 h1_2 h0_3 h1_3 h0_4 h1_4 h0_5 h1_5 h0_6 h1_6 h0_7 h1_7, haw]
  simp only [Option.bind_some, and_self, if_true, Bool.false_eq_true, and_false, false_and, if_false]
  unfold mn
  by_cases c : a1_4 < a0_4
  · rw [if_pos c, if_pos (by omega), if_pos (by omega), if_neg (by omega)]; simp
  · rw [if_neg c, if_pos (by omega), if_pos (by omega)]; simp
end Go.Proofs.Ytncelpakoikbeaa.Pure
