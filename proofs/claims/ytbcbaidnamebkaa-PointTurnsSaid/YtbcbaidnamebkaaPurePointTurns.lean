/- The law PointTurns of the printed program: a turn is the same from the next one on, the other one the other way round, and 0 where two are one. No conditions. -/
import Derived.Test.YtbcbaidnamebkaaQPointTurnsTurn
namespace Go.Proofs.Ytbcbaidnamebkaa.Pure
open Go.RowKit Go.Proofs.Ytbcbaidnamebkaa.PPointTurns Go.Proofs.YtbcbaidnamebkaaW.PrintWords Go.Proofs.YtbcbaidnamebkaaW.PrintLast Go.Proofs.Ytbcbaidnamebkaa.Geo

theorem PointTurns : apogeelaw10_PointTurns.Pure := by
  intro a1 a2 b1 b2 c1 c2 _ _ _ _ _ _
  refine ⟨3, ?_⟩
  unfold apogeelaw10_PointTurns.f
  have T := fun (a b c : Pt) => Turn_spec 3 (by decide) a b c
  rw [T (a1, a2) (b1, b2) (c1, c2), T (b1, b2) (c1, c2) (a1, a2), T (c1, c2) (b1, b2) (a1, a2), T (a1, a2) (a1, a2) (b1, b2), T (a1, a2) (b1, b2) (b1, b2)]
  generalize (a1, a2) = a; generalize (b1, b2) = b; generalize (c1, c2) = c
  have e1 : tn3 b c a = tn3 a b c := by
    unfold tn3; rw [TN_cyc]
    by_cases h : ok3 a b c
    · rw [if_pos h, if_pos ⟨h.2.1, h.2.2, h.1⟩]
    · rw [if_neg h, if_neg (fun g => h ⟨g.2.2, g.1, g.2.1⟩)]
  have e2 : tn3 c b a = wrap64 (-tn3 a b c) := by
    rw [wrap64_small (by rcases tn3_small a b c with h | h | h <;> omega) (by rcases tn3_small a b c with h | h | h <;> omega)]
    unfold tn3; rw [TN_rev]
    by_cases h : ok3 a b c
    · rw [if_pos h, if_pos ⟨h.2.2, h.2.1, h.1⟩, sg_neg]
    · rw [if_neg h, if_neg (fun g => h ⟨g.2.2, g.2.1, g.1⟩)]; rfl
  have e3 : tn3 a a b = 0 := by unfold tn3; rw [TN_aab]; split <;> rfl
  have e4 : tn3 a b b = 0 := by unfold tn3; rw [TN_abb]; split <;> rfl
  rw [e1, e2, e3, e4]
  simp [apogeelaw10_awake.f]
end Go.Proofs.Ytbcbaidnamebkaa.Pure
