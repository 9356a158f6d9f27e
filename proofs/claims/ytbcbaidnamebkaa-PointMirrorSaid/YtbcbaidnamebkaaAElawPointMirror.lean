/- The law PointMirror, plainly. No conditions. -/
import Derived.Test.YtbcbaidnamebkaaAEptspec3
namespace Go.Proofs.Ytbcbaidnamebkaa.AE
set_option linter.unusedVariables false
set_option linter.unusedSimpArgs false
set_option linter.constructorNameAsVariable false
open Go Go.Proofs.Ytbcbaidnamebkaa.Geo
set_option maxRecDepth 100000
theorem awake : pcall M 20 9 [] = some (.bool true) := by kernel_rfl

theorem ok_mir {p : Pt} (h : OkP p) : OkP (mir p) := by unfold OkP Okc mir at *; omega
theorem ok_qua {p : Pt} (h : OkP p) : OkP (qua p) := by unfold OkP Okc qua at *; omega
theorem neg_ok {x : Int} (h : Okc x) : IntKind.wrap .i64 (0 - x) = -x := by unfold Okc at h; rw [i64w]; omega
theorem law_PointMirror (a b c e : Pt) : pcall M 21 7 [pt a, pt b, pt c, pt e] = some (.bool true) := told (r7 C0 20 _ _ _ _ _ _ _ _) (by
  have m := fun p q r s => s16 11 p q r s
  have t := fun p q r => s12 13 p q r
  have k := fun p => s11 19 p
  simp only [pt] at m t k
  rw [awake, k a, k b, k c, k e]
  simp only [C0_bool, Bool.not_true, cnd_f]
  by_cases ha : ¬ OkP a
  · simp [cnd_t, cnd_f, ha]
  replace ha := Decidable.not_not.mp ha
  by_cases hb : ¬ OkP b
  · simp [ha, cnd_t, cnd_f, hb]
  replace hb := Decidable.not_not.mp hb
  by_cases hc : ¬ OkP c
  · simp [ha, hb, cnd_t, cnd_f, hc]
  replace hc := Decidable.not_not.mp hc
  by_cases he : ¬ OkP e
  · simp [ha, hb, hc, cnd_t, cnd_f, he]
  replace he := Decidable.not_not.mp he
  simp only [ha, hb, hc, he, decide_true, Bool.not_true, cnd_f]
  rw [neg_ok ha.1, neg_ok hb.1, neg_ok hc.1, neg_ok he.1, neg_ok ha.2, neg_ok hb.2, neg_ok hc.2, neg_ok he.2]
  have m1 := m (mir a) (mir b) (mir c) (mir e)
  have m2 := m (qua a) (qua b) (qua c) (qua e)
  have t1 := t (mir a) (mir b) (mir c)
  have t2 := t (qua a) (qua b) (qua c)
  simp only [mir, qua] at m1 m2 t1 t2
  rw [m1, m2, t1, t2, m a b c e, t a b c]
  simp only [C0_bool, C0_int]
  have q1 : tn3 (-a.1, a.2) (-b.1, b.2) (-c.1, c.2) = IntKind.wrap .i64 (0 - tn3 a b c) := by
    have := TN_mir a b c
    rw [tn3_sg ⟨ha, hb, hc⟩, show tn3 (-a.1, a.2) (-b.1, b.2) (-c.1, c.2) = sg (TN (mir a) (mir b) (mir c)) from tn3_sg ⟨ok_mir ha, ok_mir hb, ok_mir hc⟩, this, sg_neg]
    rcases sg_cases (TN a b c) with ⟨_, h⟩ | ⟨_, h⟩ | ⟨_, h⟩ <;> rw [h, i64w] <;> decide
  have q2 : tn3 (-a.2, a.1) (-b.2, b.1) (-c.2, c.1) = tn3 a b c := by
    rw [tn3_sg ⟨ha, hb, hc⟩, show tn3 (-a.2, a.1) (-b.2, b.1) (-c.2, c.1) = sg (TN (qua a) (qua b) (qua c)) from tn3_sg ⟨ok_qua ha, ok_qua hb, ok_qua hc⟩, TN_qua]
  have q3 : meetB (-a.1, a.2) (-b.1, b.2) (-c.1, c.2) (-e.1, e.2) = meetB a b c e := by
    rw [Bool.eq_iff_iff, meetB_t, meetB_t]
    have := Meet_mir a b c e
    simp only [mir] at this
    exact ⟨fun h => ⟨⟨ha, hb, hc, he⟩, this.mp h.2⟩, fun h => ⟨⟨ok_mir ha, ok_mir hb, ok_mir hc, ok_mir he⟩, this.mpr h.2⟩⟩
  have q4 : meetB (-a.2, a.1) (-b.2, b.1) (-c.2, c.1) (-e.2, e.1) = meetB a b c e := by
    rw [Bool.eq_iff_iff, meetB_t, meetB_t]
    have := Meet_qua a b c e
    simp only [qua] at this
    exact ⟨fun h => ⟨⟨ha, hb, hc, he⟩, this.mp h.2⟩, fun h => ⟨⟨ok_qua ha, ok_qua hb, ok_qua hc, ok_qua he⟩, this.mpr h.2⟩⟩
  have x1 : ∀ t : Bool, (xor false (t == t)) = true := by decide
  rw [q1, q2, q3, q4, x1]
  simp [cnd_t])
end Go.Proofs.Ytbcbaidnamebkaa.AE
