/- The document's height, of what is small enough. -/
import Derived.Test.YtejiaiincdamkaaQFallTellsFall
namespace Go.Proofs.Ytejiaiincdamkaa.PFallTells
open Go.RowKit Go.Proofs.YtejiaiincdamkaaW.PrintWords Go.Proofs.YtejiaiincdamkaaW.PrintLast
theorem ref_above (z v g s : Int) (hs : Small z v g) (s0 : 0 ≤ s) (s1 : s ≤ 16777220) : apogeeref17_Above.f z v g s = some (A z v g s) := by
  obtain ⟨p1, p2, _, p4, b1, b2, b3, b4, b5, b6⟩ := A_parts z v g s hs s0 s1
  unfold apogeeref17_Above.f A
  rw [p1, p2, p4, wrap64_small (n := 2 * z + 2 * v * s) (by omega) (by omega), wrap64_small (by omega) (by omega)]
end Go.Proofs.Ytejiaiincdamkaa.PFallTells
