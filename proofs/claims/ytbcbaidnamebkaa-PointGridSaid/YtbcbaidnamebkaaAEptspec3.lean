/- What the functions of points tell: ways, and where ways meet. No conditions. -/
import Derived.Test.YtbcbaidnamebkaaAEptspec2
namespace Go.Proofs.Ytbcbaidnamebkaa.AE
set_option linter.unusedVariables false
set_option linter.unusedSimpArgs false
set_option linter.constructorNameAsVariable false
open Go Go.Proofs.Ytbcbaidnamebkaa.Geo

def btw (x y z : Int) : Bool := decide ((y ≤ x ∧ x ≤ z) ∨ (z ≤ x ∧ x ≤ y))
theorem btw_t {x y z : Int} : btw x y z = true ↔ (y ≤ x ∧ x ≤ z) ∨ (z ≤ x ∧ x ≤ y) := decide_eq_true_iff
def okB (l : List Pt) : Bool := decide (∀ p ∈ l, OkP p)
theorem okB_t {l : List Pt} : okB l = true ↔ ∀ p ∈ l, OkP p := decide_eq_true_iff
def zeroB (x : Int) : Bool := x == 0
theorem zeroB_t {x : Int} : zeroB x = true ↔ x = 0 := beq_iff_eq
def negB (x : Int) : Bool := decide (x < 0)
theorem negB_t {x : Int} : negB x = true ↔ x < 0 := decide_eq_true_iff
theorem onB_t {p a b : Pt} : onB p a b = true ↔ ok3 p a b ∧ On p a b := decide_eq_true_iff
theorem meetB_t {a b c d : Pt} : meetB a b c d = true ↔ ok4 a b c d ∧ Meet a b c d := decide_eq_true_iff
theorem s27 (d : Nat) (x y z : Int) : pcall M (d + 1) 27 [.int .i64 x, .int .i64 y, .int .i64 z] = some (.bool (btw x y z)) := told (r27 C0 d x y z) (by
  have e1 : (if z < y then z else y) = min z y := by omega
  have e2 : (if z > y then z else y) = max z y := by omega
  rw [e1, e2]
  unfold btw
  by_cases h : min z y ≤ x
  · rw [decide_eq_true h, cnd_t]; congr 2; rw [decide_eq_decide]; omega
  · rw [decide_eq_false h, cnd_f]; congr 2; symm; rw [decide_eq_false_iff_not]; omega)

theorem s14 (d : Nat) (p a b : Pt) : pcall M (d + 8) 14 [pt p, pt a, pt b] = some (.bool (onB p a b)) := told (r14 C0 (d + 7) _ _ _ _ _ _) (by
  have h22 := s22 (d + 1) [p, a, b] (by simp)
  simp only [List.map_cons, List.map_nil, pt] at h22
  have h12 := s12 d a b p
  simp only [pt] at h12
  rw [h22, C0_bool, h12, C0_int, s27 (d + 6), s27 (d + 6), C0_bool, C0_bool]
  change cnd (okB [p, a, b]) (cnd (zeroB (tn3 a b p)) (cnd (btw p.1 a.1 b.1) (some (.bool (btw p.2 a.2 b.2))) (some (.bool false))) (some (.bool false))) (some (.bool false)) = _
  have hok : okB [p, a, b] = true ↔ ok3 p a b := by rw [okB_t]; simp [ok3]
  have key : onB p a b = (okB [p, a, b] && (zeroB (tn3 a b p) && (btw p.1 a.1 b.1 && btw p.2 a.2 b.2))) := by
    rw [Bool.eq_iff_iff]
    simp only [Bool.and_eq_true, onB_t, hok, zeroB_t, btw_t]
    constructor
    · rintro ⟨h, hT, hB⟩
      exact ⟨h, by rw [tn3, if_pos ⟨h.2.1, h.2.2, h.1⟩, sg_zero]; exact hT, hB⟩
    · rintro ⟨h, hT, hB⟩
      rw [tn3, if_pos ⟨h.2.1, h.2.2, h.1⟩, sg_zero] at hT
      exact ⟨h, hT, hB⟩
  rw [key]
  cases okB [p, a, b] <;> cases zeroB (tn3 a b p) <;> cases btw p.1 a.1 b.1 <;> rfl)

theorem tn3_sg {a b c : Pt} (h : ok3 a b c) : tn3 a b c = sg (TN a b c) := if_pos h
theorem sg_small (u v : Int) : IntKind.i64.wrap (sg u * sg v) = sg u * sg v := by
  rcases sg_cases u with ⟨_, h⟩ | ⟨_, h⟩ | ⟨_, h⟩ <;> rcases sg_cases v with ⟨_, h'⟩ | ⟨_, h'⟩ | ⟨_, h'⟩ <;> rw [h, h', i64w] <;> decide

theorem s16 (d : Nat) (a b c e : Pt) : pcall M (d + 9) 16 [pt a, pt b, pt c, pt e] = some (.bool (meetB a b c e)) := told (r16 C0 (d + 8) _ _ _ _ _ _ _ _) (by
  have h22 := s22 (d + 2) [a, b, c, e] (by simp)
  simp only [List.map_cons, List.map_nil, pt] at h22
  have o := fun p q r => s14 d p q r
  have t := fun p q r => s12 (d + 1) p q r
  simp only [pt] at o t
  rw [h22, C0_bool, o a c e, o b c e, o c a b, o e a b, t a b c, t a b e, t c e a, t c e b]
  simp only [C0_bool, C0_int]
  change cnd (!okB [a, b, c, e]) (some (.bool false)) (cnd (onB a c e) (some (.bool true)) (cnd (onB b c e) (some (.bool true)) (cnd (onB c a b) (some (.bool true)) (cnd (onB e a b) (some (.bool true))
    (cnd (negB (IntKind.wrap .i64 (tn3 a b c * tn3 a b e))) (some (.bool (negB (IntKind.wrap .i64 (tn3 c e a * tn3 c e b))))) (some (.bool false))))))) = _
  have hok : okB [a, b, c, e] = true ↔ ok4 a b c e := by rw [okB_t]; simp [ok4]
  have key : meetB a b c e = (okB [a, b, c, e] && (onB a c e || (onB b c e || (onB c a b || (onB e a b || (negB (IntKind.wrap .i64 (tn3 a b c * tn3 a b e)) && negB (IntKind.wrap .i64 (tn3 c e a * tn3 c e b)))))))) := by
    rw [Bool.eq_iff_iff]
    simp only [Bool.and_eq_true, Bool.or_eq_true, onB_t, hok, negB_t, meetB_t]
    refine and_congr_right fun h => ?_
    obtain ⟨ha, hb, hc, he⟩ := h
    rw [tn3_sg ⟨ha, hb, hc⟩, tn3_sg ⟨ha, hb, he⟩, tn3_sg ⟨hc, he, ha⟩, tn3_sg ⟨hc, he, hb⟩, sg_small, sg_small]
    simp only [ok3, ha, hb, hc, he, true_and, and_true]
    exact Iff.rfl
  rw [key]
  cases okB [a, b, c, e] <;> cases onB a c e <;> cases onB b c e <;> cases onB c a b <;> cases onB e a b <;> cases negB (IntKind.wrap .i64 (tn3 a b c * tn3 a b e)) <;> rfl)

theorem s11 (d : Nat) (p : Pt) : pcall M (d + 1) 11 [pt p] = some (.bool (decide (OkP p))) := told (r11 C0 d _ _) (by
  unfold OkP Okc
  by_cases h1 : p.1 ≥ -1099511627776 <;> by_cases h2 : p.1 ≤ 1099511627776 <;> by_cases h3 : p.2 ≥ -1099511627776 <;> by_cases h4 : p.2 ≤ 1099511627776 <;> simp [h1, h2, h3, h4, cnd_t, cnd_f])
end Go.Proofs.Ytbcbaidnamebkaa.AE
