/- The law PointMeets, plainly. No conditions. -/
import Derived.Test.YtbcbaidnamebkaaAEptspec3
namespace Go.Proofs.Ytbcbaidnamebkaa.AE
set_option linter.unusedVariables false
set_option linter.unusedSimpArgs false
set_option linter.constructorNameAsVariable false
open Go Go.Proofs.Ytbcbaidnamebkaa.Geo
set_option maxRecDepth 100000
theorem awake : pcall M 20 9 [] = some (.bool true) := by kernel_rfl

theorem law_PointMeets (a b c e : Pt) : pcall M 21 6 [pt a, pt b, pt c, pt e] = some (.bool true) := told (r6 C0 20 _ _ _ _ _ _ _ _) (by
  have m := fun p q r s => s16 11 p q r s
  have o := fun p q r => s14 12 p q r
  have k := fun p => s11 19 p
  simp only [pt] at m o k
  rw [m a b c e, awake, m c e a b, m b a c e, m a b e c, k a, k b, k c, m a b a b, o a a b, o b a b, m a b c c, o c a b]
  simp only [C0_bool]
  have e1 : meetB c e a b = meetB a b c e := by
    unfold meetB; rw [decide_eq_decide, Meet_swap]; exact and_congr_left fun _ => ⟨fun h => ⟨h.2.2.1, h.2.2.2, h.1, h.2.1⟩, fun h => ⟨h.2.2.1, h.2.2.2, h.1, h.2.1⟩⟩
  have e2 : meetB b a c e = meetB a b c e := by
    unfold meetB; rw [decide_eq_decide, Meet_ab]; exact and_congr_left fun _ => ⟨fun h => ⟨h.2.1, h.1, h.2.2⟩, fun h => ⟨h.2.1, h.1, h.2.2⟩⟩
  have e3 : meetB a b e c = meetB a b c e := by
    unfold meetB; rw [decide_eq_decide, Meet_cd]; exact and_congr_left fun _ => ⟨fun h => ⟨h.1, h.2.1, h.2.2.2, h.2.2.1⟩, fun h => ⟨h.1, h.2.1, h.2.2.2, h.2.2.1⟩⟩
  rw [e1, e2, e3]
  have x0 : ∀ t : Bool, (xor true (t == t)) = false := by decide
  have x1 : ∀ t : Bool, (xor false (t == t)) = true := by decide
  rw [x0]
  simp only [Bool.not_true, cnd_f]
  by_cases ha : OkP a
  · by_cases hb : OkP b
    · by_cases hc : OkP c
      · have q1 : meetB a b a b = true := meetB_t.mpr ⟨⟨ha, hb, ha, hb⟩, Meet_self a b⟩
        have q2 : onB a a b = true := onB_t.mpr ⟨⟨ha, ha, hb⟩, On_a a b⟩
        have q3 : onB b a b = true := onB_t.mpr ⟨⟨hb, ha, hb⟩, On_b a b⟩
        have q4 : meetB a b c c = onB c a b := by
          rw [Bool.eq_iff_iff, meetB_t, onB_t, Meet_cc]
          exact ⟨fun h => ⟨⟨hc, ha, hb⟩, h.2⟩, fun h => ⟨⟨ha, hb, hc, hc⟩, h.2⟩⟩
        rw [q1, q2, q3, q4, x1]
        simp [ha, hb, hc, cnd_f, cnd_t]
      · simp [ha, hb, hc, cnd_f, cnd_t]
    · simp [ha, hb, cnd_f, cnd_t]
  · simp [ha, cnd_f, cnd_t])
end Go.Proofs.Ytbcbaidnamebkaa.AE
