/- The program's turns, ways, and where ways meet. -/
import Derived.Test.YtbcbaidnamebkaaQPointTurnsWide
import Derived.Test.YtbcbaidnamebkaaGGeo
namespace Go.Proofs.Ytbcbaidnamebkaa.PPointTurns
open Go.RowKit Go.Proofs.YtbcbaidnamebkaaW.PrintWords Go.Proofs.YtbcbaidnamebkaaW.PrintLast Go.Proofs.Ytbcbaidnamebkaa.Geo

theorem within_spec (x : Int) : point_within.f x = some (decide (Okc x)) := by
  unfold point_within.f
  by_cases h : x ≥ (-1099511627776)
  · rw [if_pos h]; congr 1; rw [decide_eq_decide]; unfold Okc; omega
  · rw [if_neg h]; congr 1; symm; rw [decide_eq_false_iff_not]; unfold Okc; omega
theorem Right_spec (x y : Int) : point_Right.f x y = some (decide (OkP (x, y))) := by
  unfold point_Right.f
  rw [within_spec, within_spec]
  simp only [Option.bind_some]
  by_cases h : Okc x
  · rw [if_pos (decide_eq_true h)]; congr 1; rw [decide_eq_decide]; unfold OkP; exact ⟨fun g => ⟨h, g⟩, fun g => g.2⟩
  · rw [if_neg (by rw [decide_eq_true_iff]; exact h)]; congr 1; symm; rw [decide_eq_false_iff_not]; exact fun g => h g.1
theorem any_spec (l : List S23) : point_right_1_any.f l = some (!decide (∀ p ∈ l, OkP (p.f0, p.f1))) := by
  induction l with
  | nil => simp [point_right_1_any.f]
  | cons p l ih =>
    simp only [point_right_1_any.f, point_right_1.f, Right_spec, Option.bind_some, ih]
    by_cases h : OkP (p.f0, p.f1)
    · rw [if_neg (by simp [h])]; congr 2; rw [decide_eq_decide]; simp [h]
    · rw [if_pos (by simp [h])]; congr 1; symm; simp [h]
theorem right_spec (l : List S23) : point_right.f l = some (decide (∀ p ∈ l, OkP (p.f0, p.f1))) := by
  unfold point_right.f
  rw [any_spec]; simp
def ok3 (a b c : Pt) : Prop := OkP a ∧ OkP b ∧ OkP c
instance (a b c : Pt) : Decidable (ok3 a b c) := by unfold ok3; infer_instance
/-- A turn, as the program tells it. -/
def tn3 (a b c : Pt) : Int := if ok3 a b c then sg (TN a b c) else 0
def onB (p a b : Pt) : Bool := decide (ok3 p a b ∧ On p a b)
def ok4 (a b c d : Pt) : Prop := OkP a ∧ OkP b ∧ OkP c ∧ OkP d
instance (a b c d : Pt) : Decidable (ok4 a b c d) := by unfold ok4; infer_instance
def meetB (a b c d : Pt) : Bool := decide (ok4 a b c d ∧ Meet a b c d)
theorem sgn_sg (p q : Int) : sgn p q = sg (p - q) := by unfold sgn sg; split <;> split <;> (try split) <;> (try split) <;> omega
theorem prod_bd {x y m : Int} (hx : -m ≤ x) (hx' : x ≤ m) (hy : -m ≤ y) (hy' : y ≤ m) : -(m * m) ≤ x * y ∧ x * y ≤ m * m := by
  have h1 := Int.mul_nonneg (show 0 ≤ m - x by omega) (show 0 ≤ m + y by omega)
  have h2 := Int.mul_nonneg (show 0 ≤ m + x by omega) (show 0 ≤ m - y by omega)
  have h3 := Int.mul_nonneg (show 0 ≤ m - x by omega) (show 0 ≤ m - y by omega)
  have h4 := Int.mul_nonneg (show 0 ≤ m + x by omega) (show 0 ≤ m + y by omega)
  have e1 : (m - x) * (m + y) = m * m + m * y - x * m - x * y := by grind
  have e2 : (m + x) * (m - y) = m * m - m * y + x * m - x * y := by grind
  have e3 : (m - x) * (m - y) = m * m - m * y - x * m + x * y := by grind
  have e4 : (m + x) * (m + y) = m * m + m * y + x * m + x * y := by grind
  generalize m * m = mm at *; generalize m * y = my at *; generalize x * m = xm at *; generalize x * y = xy at *
  omega
theorem prod_bd41 {x y : Int} (hx : -2199023255552 ≤ x) (hx' : x ≤ 2199023255552) (hy : -2199023255552 ≤ y) (hy' : y ≤ 2199023255552) : -4835703278458516698824704 ≤ x * y ∧ x * y ≤ 4835703278458516698824704 := prod_bd hx hx' hy hy'
theorem Turn_spec (k : Nat) (hk : 3 ≤ k) (a b c : Pt) : point_Turn.f k a.1 a.2 b.1 b.2 c.1 c.2 = some (tn3 a b c) := by
  obtain ⟨a1, a2⟩ := a
  obtain ⟨b1, b2⟩ := b
  obtain ⟨c1, c2⟩ := c
  unfold point_Turn.f tn3
  rw [right_spec]
  simp only [Option.bind_some]
  by_cases h : ok3 (a1, a2) (b1, b2) (c1, c2)
  · rw [if_pos h, if_pos (by simpa [ok3] using h)]
    obtain ⟨⟨⟨ha, ha'⟩, hb, hb'⟩, ⟨⟨hc, hc'⟩, hd, hd'⟩, ⟨he, he'⟩, hf, hf'⟩ := h
    simp only at ha ha' hb hb' hc hc' hd hd' he he' hf hf'
    rw [wrap64_small (n := b1 - a1) (by omega) (by omega), wrap64_small (n := c2 - a2) (by omega) (by omega), wrap64_small (n := b2 - a2) (by omega) (by omega), wrap64_small (n := c1 - a1) (by omega) (by omega)]
    rw [mul_spec _ _ (by omega) (by omega) (by omega) (by omega), mul_spec _ _ (by omega) (by omega) (by omega) (by omega)]
    have p1 := prod_bd41 (x := b1 - a1) (y := c2 - a2) (by omega) (by omega) (by omega) (by omega)
    have p2 := prod_bd41 (x := b2 - a2) (y := c1 - a1) (by omega) (by omega) (by omega) (by omega)
    simp only [Option.bind_some]
    rw [cmp_spec k hk _ _ (by omega) (by omega) (by omega) (by omega), sgn_sg]
    rfl
  · rw [if_neg h, if_neg (by simpa [ok3] using h)]
theorem between_spec (x y z : Int) : point_between.f x y z = some (decide ((y ≤ x ∧ x ≤ z) ∨ (z ≤ x ∧ x ≤ y))) := by
  unfold point_between.f mn mx
  by_cases h : y < z <;> by_cases h' : z < y <;> simp only [h, h', if_true, if_false] <;> split <;> congr 1 <;> first | (rw [decide_eq_decide]; omega) | (symm; rw [decide_eq_false_iff_not]; omega)
theorem On_spec (k : Nat) (hk : 3 ≤ k) (p a b : Pt) : point_On.f k p.1 p.2 a.1 a.2 b.1 b.2 = some (onB p a b) := by
  unfold point_On.f onB
  rw [right_spec, Turn_spec k hk, between_spec, between_spec]
  simp only [Option.bind_some]
  by_cases h : ok3 p a b
  · rw [if_pos (by simpa [ok3] using h)]
    have h3 : ok3 a b p := ⟨h.2.1, h.2.2, h.1⟩
    unfold tn3
    rw [if_pos h3]
    by_cases c : TN a b p = 0
    · rw [if_pos (sg_zero.2 c)]
      by_cases g : (a.1 ≤ p.1 ∧ p.1 ≤ b.1) ∨ (b.1 ≤ p.1 ∧ p.1 ≤ a.1)
      · rw [if_pos (decide_eq_true g)]; congr 1; rw [decide_eq_decide]; exact ⟨fun x => ⟨h, c, g, x⟩, fun x => x.2.2.2⟩
      · rw [if_neg (by rw [decide_eq_true_iff]; exact g)]; congr 1; symm; rw [decide_eq_false_iff_not]; exact fun x => g x.2.2.1
    · rw [if_neg (by rw [sg_zero]; exact c)]; congr 1; symm; rw [decide_eq_false_iff_not]; exact fun x => c x.2.1
  · rw [if_neg (by simpa [ok3] using h)]; congr 1; symm; rw [decide_eq_false_iff_not]; exact fun x => h x.1
theorem tn3_small (a b c : Pt) : tn3 a b c = -1 ∨ tn3 a b c = 0 ∨ tn3 a b c = 1 := by
  unfold tn3; split
  · rcases sg_cases (TN a b c) with h | h | h <;> simp [h.2]
  · simp
theorem tn3_mul (a b c d e f : Pt) : wrap64 (tn3 a b c * tn3 d e f) = tn3 a b c * tn3 d e f := by
  refine wrap64_small ?_ ?_ <;> rcases tn3_small a b c with h | h | h <;> rcases tn3_small d e f with g | g | g <;> rw [h, g] <;> decide
theorem Meet_spec (k : Nat) (hk : 3 ≤ k) (a b c d : Pt) : point_Meet.f k a.1 a.2 b.1 b.2 c.1 c.2 d.1 d.2 = some (meetB a b c d) := by
  unfold point_Meet.f meetB
  rw [right_spec, On_spec k hk, On_spec k hk, On_spec k hk, On_spec k hk, Turn_spec k hk, Turn_spec k hk, Turn_spec k hk, Turn_spec k hk]
  simp only [Option.bind_some]
  by_cases h : ok4 a b c d
  · rw [if_pos (by simpa [ok4] using h)]
    obtain ⟨ha, hb, hc, hd⟩ := h
    have h : ok4 a b c d := ⟨ha, hb, hc, hd⟩
    unfold onB
    by_cases g1 : On a c d
    · rw [if_pos (decide_eq_true ⟨⟨ha, hc, hd⟩, g1⟩)]; congr 1; symm; rw [decide_eq_true_iff]; exact ⟨h, Or.inl g1⟩
    rw [if_neg (by rw [decide_eq_true_iff]; exact fun x => g1 x.2)]
    by_cases g2 : On b c d
    · rw [if_pos (decide_eq_true ⟨⟨hb, hc, hd⟩, g2⟩)]; congr 1; symm; rw [decide_eq_true_iff]; exact ⟨h, Or.inr (Or.inl g2)⟩
    rw [if_neg (by rw [decide_eq_true_iff]; exact fun x => g2 x.2)]
    by_cases g3 : On c a b
    · rw [if_pos (decide_eq_true ⟨⟨hc, ha, hb⟩, g3⟩)]; congr 1; symm; rw [decide_eq_true_iff]; exact ⟨h, Or.inr (Or.inr (Or.inl g3))⟩
    rw [if_neg (by rw [decide_eq_true_iff]; exact fun x => g3 x.2)]
    by_cases g4 : On d a b
    · rw [if_pos (decide_eq_true ⟨⟨hd, ha, hb⟩, g4⟩)]; congr 1; symm; rw [decide_eq_true_iff]; exact ⟨h, Or.inr (Or.inr (Or.inr (Or.inl g4)))⟩
    rw [if_neg (by rw [decide_eq_true_iff]; exact fun x => g4 x.2)]
    rw [tn3_mul, tn3_mul]
    have t1 : tn3 a b c = sg (TN a b c) := if_pos ⟨ha, hb, hc⟩
    have t2 : tn3 a b d = sg (TN a b d) := if_pos ⟨ha, hb, hd⟩
    have t3 : tn3 c d a = sg (TN c d a) := if_pos ⟨hc, hd, ha⟩
    have t4 : tn3 c d b = sg (TN c d b) := if_pos ⟨hc, hd, hb⟩
    rw [t1, t2, t3, t4]
    have e : (ok4 a b c d ∧ Meet a b c d) ↔ Cross a b c d := ⟨fun x => by rcases x.2 with y | y | y | y | y <;> first | exact absurd y (by assumption) | exact y, fun x => ⟨h, Or.inr (Or.inr (Or.inr (Or.inr x)))⟩⟩
    by_cases g : sg (TN a b c) * sg (TN a b d) < 0
    · rw [if_pos g]; congr 1; rw [decide_eq_decide, e]; exact ⟨fun x => ⟨g, x⟩, fun x => x.2⟩
    · rw [if_neg g]; congr 1; symm; rw [decide_eq_false_iff_not, e]; exact fun x => g x.1
  · rw [if_neg (by simpa [ok4] using h)]; congr 1; symm; rw [decide_eq_false_iff_not]; exact fun x => h x.1
end Go.Proofs.Ytbcbaidnamebkaa.PPointTurns
