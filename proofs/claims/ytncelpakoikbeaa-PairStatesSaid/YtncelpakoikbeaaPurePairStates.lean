/- The law PairStates of the printed program: of any number how many are known, and flipped, is the document's; flipped twice it is the same. No conditions. -/
import Derived.Test.YtncelpakoikbeaaPPairStatesx3
namespace Go.Proofs.Ytncelpakoikbeaa.Pure
open Go.RowKit Go.Proofs.Ytncelpakoikbeaa.PPairStates Go.Proofs.YtncelpakoikbeaaW.PrintWords Go.Proofs.YtncelpakoikbeaaW.PrintLast

theorem PairStates : apogeelaw16_PairStates.Pure := by
  intro s _
  refine ⟨30, ?_⟩
  have haw : apogeelaw16_awake.f 30 = some true := by decide +kernel
  unfold apogeelaw16_PairStates.f
  rw [haw]
  simp only [Option.bind_some, if_true]
  by_cases h1 : s = 1
  · subst h1; decide +kernel
  · by_cases h2 : s = 2
    · subst h2; decide +kernel
    · by_cases h3 : s = 3
      · subst h3; decide +kernel
      · by_cases h4 : s = 4
        · subst h4; decide +kernel
        · have e1 : pair_Known.f 30 s = some 0 := by
            unfold pair_Known.f; simp [h1, h2, h3, h4, pair_Known.j0]
          have e2 : apogeeref16_Known.f 30 s = some 0 := by
            unfold apogeeref16_Known.f; simp [h1, h2, h3, h4, apogeeref16_Known.j0]
          have e3 : pair_Flip.f s = some s := by
            unfold pair_Flip.f; rw [if_neg h1, if_neg h2]
          simp [e1, e2, e3, h1, h2]
end Go.Proofs.Ytncelpakoikbeaa.Pure
