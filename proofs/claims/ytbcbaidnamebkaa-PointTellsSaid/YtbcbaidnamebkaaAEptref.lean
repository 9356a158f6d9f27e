/- What the document's functions of points tell. No conditions. -/
import Derived.Test.YtbcbaidnamebkaaAEptspec3
import Derived.Test.YtbcbaidnamebkaaAEref01c
namespace Go.Proofs.Ytbcbaidnamebkaa.AE
set_option linter.unusedVariables false
set_option linter.unusedSimpArgs false
set_option linter.constructorNameAsVariable false
open Go Go.Proofs.Ytbcbaidnamebkaa.Geo

theorem s13 (d : Nat) (a b c : Pt) : pcall M (d + 5) 13 [pt a, pt b, pt c] = some (.int .i64 (tn3 a b c)) := told (r13 C0 (d + 4) _ _ _ _ _ _) (by
  have R := fun p => s11 (d + 3) p
  simp only [pt] at R
  rw [R a, R b, R c]
  simp only [C0_bool]
  unfold tn3
  by_cases ha : OkP a
  · by_cases hb : OkP b
    · by_cases hc : OkP c
      · rw [if_pos ⟨ha, hb, hc⟩, decide_eq_true ha, decide_eq_true hb, decide_eq_true hc]
        obtain ⟨⟨ha, ha'⟩, hb1, hb1'⟩ := ha
        obtain ⟨⟨hc1, hc1'⟩, hd, hd'⟩ := hb
        obtain ⟨⟨he, he'⟩, hf, hf'⟩ := hc
        rw [i64_small (n := b.1 - a.1) (by omega) (by omega), i64_small (n := c.2 - a.2) (by omega) (by omega), i64_small (n := b.2 - a.2) (by omega) (by omega), i64_small (n := c.1 - a.1) (by omega) (by omega)]
        rw [s26 d _ _ (by omega) (by omega) (by omega) (by omega), s26 d _ _ (by omega) (by omega) (by omega) (by omega)]
        have p1 := prod_bd41 (x := b.1 - a.1) (y := c.2 - a.2) (by omega) (by omega) (by omega) (by omega)
        have p2 := prod_bd41 (x := b.2 - a.2) (y := c.1 - a.1) (by omega) (by omega) (by omega) (by omega)
        simp only [Bool.not_true, cnd_f, C0_agg2, at0, at1, C0_int]
        rw [s25 (d + 3) _ _ (by omega) (by omega) (by omega) (by omega), C0_int, cmp_sg]
        rfl
      · rw [if_neg fun h => hc h.2.2, decide_eq_true ha, decide_eq_true hb, decide_eq_false hc]; rfl
    · rw [if_neg fun h => hb h.2.1, decide_eq_true ha, decide_eq_false hb]; rfl
  · rw [if_neg fun h => ha h.1, decide_eq_false ha]; rfl)
theorem s15 (d : Nat) (p a b : Pt) : pcall M (d + 6) 15 [pt p, pt a, pt b] = some (.bool (onB p a b)) := told (r15 C0 (d + 5) _ _ _ _ _ _) (by
  have R := fun p => s11 (d + 4) p
  have t := s13 d a b p
  simp only [pt] at R t
  rw [R a, R b, R p, t]
  simp only [C0_bool, C0_int]
  have e1 : ∀ x y : Int, (if y < x then y else x) = min x y := fun x y => by omega
  have e2 : ∀ x y : Int, (if y > x then y else x) = max x y := fun x y => by omega
  rw [e1, e1, e2, e2]
  by_cases ha : OkP a
  · by_cases hb : OkP b
    · by_cases hp : OkP p
      · rw [decide_eq_true ha, decide_eq_true hb, decide_eq_true hp, tn3_sg ⟨ha, hb, hp⟩]
        simp only [Bool.not_true, cnd_f]
        by_cases ht : TN a b p = 0
        · rw [show (sg (TN a b p) != 0) = false by simp [sg_zero, ht], cnd_f]
          have key : onB p a b = (decide (p.1 ≥ min a.1 b.1) && (decide (p.1 ≤ max a.1 b.1) && (decide (p.2 ≥ min a.2 b.2) && decide (p.2 ≤ max a.2 b.2)))) := by
            rw [Bool.eq_iff_iff]
            simp only [Bool.and_eq_true, onB_t, decide_eq_true_eq]
            unfold On Btw
            constructor
            · rintro ⟨_, _, h⟩; omega
            · intro h; exact ⟨⟨hp, ha, hb⟩, ht, by omega⟩
          rw [key]
          cases decide (p.1 ≥ min a.1 b.1) <;> cases decide (p.1 ≤ max a.1 b.1) <;> cases decide (p.2 ≥ min a.2 b.2) <;> rfl
        · rw [show (sg (TN a b p) != 0) = true by simp [sg_zero, ht], cnd_t]
          have : onB p a b = false := by rw [← Bool.not_eq_true]; intro h; exact ht (onB_t.mp h).2.1
          rw [this]
      · have : onB p a b = false := by rw [← Bool.not_eq_true]; intro h; exact hp (onB_t.mp h).1.1
        rw [decide_eq_true ha, decide_eq_true hb, decide_eq_false hp, this]; rfl
    · have : onB p a b = false := by rw [← Bool.not_eq_true]; intro h; exact hb (onB_t.mp h).1.2.2
      rw [decide_eq_true ha, decide_eq_false hb, this]; rfl
  · have : onB p a b = false := by rw [← Bool.not_eq_true]; intro h; exact ha (onB_t.mp h).1.2.1
    rw [decide_eq_false ha, this]; rfl)
def okb (p : Pt) : Bool := decide (OkP p)
theorem okb_t {p : Pt} : okb p = true ↔ OkP p := decide_eq_true_iff
theorem s17 (d : Nat) (a b c e : Pt) : pcall M (d + 7) 17 [pt a, pt b, pt c, pt e] = some (.bool (meetB a b c e)) := told (r17 C0 (d + 6) _ _ _ _ _ _ _ _) (by
  have R := fun p => s11 (d + 5) p
  have o := fun p q r => s15 d p q r
  have t := fun p q r => s13 (d + 1) p q r
  simp only [pt] at o t R
  rw [R a, R b, R c, R e, o a c e, o b c e, o c a b, o e a b, t a b c, t a b e, t c e a, t c e b]
  simp only [C0_bool, C0_int]
  change cnd (!okb a) (some (.bool false)) (cnd (!okb b) (some (.bool false)) (cnd (!okb c) (some (.bool false)) (cnd (!okb e) (some (.bool false)) (cnd (onB a c e) (some (.bool true)) (cnd (onB b c e) (some (.bool true)) (cnd (onB c a b) (some (.bool true)) (cnd (onB e a b) (some (.bool true))
    (cnd (negB (IntKind.wrap .i64 (tn3 a b c * tn3 a b e))) (some (.bool (negB (IntKind.wrap .i64 (tn3 c e a * tn3 c e b))))) (some (.bool false)))))))))) = _
  have key : meetB a b c e = (okb a && (okb b && (okb c && (okb e && (onB a c e || (onB b c e || (onB c a b || (onB e a b || (negB (IntKind.wrap .i64 (tn3 a b c * tn3 a b e)) && negB (IntKind.wrap .i64 (tn3 c e a * tn3 c e b))))))))))) := by
    rw [Bool.eq_iff_iff]
    simp only [Bool.and_eq_true, Bool.or_eq_true, onB_t, okb_t, negB_t, meetB_t]
    have fin : ok4 a b c e → (Meet a b c e ↔ (ok3 a c e ∧ On a c e ∨ ok3 b c e ∧ On b c e ∨ ok3 c a b ∧ On c a b ∨ ok3 e a b ∧ On e a b ∨ IntKind.wrap .i64 (tn3 a b c * tn3 a b e) < 0 ∧ IntKind.wrap .i64 (tn3 c e a * tn3 c e b) < 0)) := by
      rintro ⟨ha, hb, hc, he⟩
      rw [tn3_sg ⟨ha, hb, hc⟩, tn3_sg ⟨ha, hb, he⟩, tn3_sg ⟨hc, he, ha⟩, tn3_sg ⟨hc, he, hb⟩, sg_small, sg_small]
      simp only [ok3, ha, hb, hc, he, true_and, and_true]
      exact Iff.rfl
    constructor
    · rintro ⟨h, hm⟩; exact ⟨h.1, h.2.1, h.2.2.1, h.2.2.2, (fin h).mp hm⟩
    · rintro ⟨h1, h2, h3, h4, hm⟩; exact ⟨⟨h1, h2, h3, h4⟩, (fin ⟨h1, h2, h3, h4⟩).mpr hm⟩
  rw [key]
  cases okb a <;> cases okb b <;> cases okb c <;> cases okb e <;> cases onB a c e <;> cases onB b c e <;> cases onB c a b <;> cases onB e a b <;> cases negB (IntKind.wrap .i64 (tn3 a b c * tn3 a b e)) <;> rfl)
end Go.Proofs.Ytbcbaidnamebkaa.AE
