/- Small places: a way has just those that are reached by as many steps of one kind. Plain. No conditions. -/
import Derived.Test.YtbcbaidnamebkaaGGeo
namespace Go.Proofs.Ytbcbaidnamebkaa.Geo
set_option linter.unusedVariables false
set_option linter.unusedSimpArgs false

theorem grid_bwd {a b p : Pt} {k : Int} (h0 : 0 ≤ k) (h1 : k ≤ 240) (hx : 240 * a.1 + k * (b.1 - a.1) = 240 * p.1) (hy : 240 * a.2 + k * (b.2 - a.2) = 240 * p.2) : On p a b := by
  have bd : ∀ u v e : Int, 240 * u + k * e = 240 * v → (0 ≤ e → u ≤ v ∧ v ≤ u + e) ∧ (e ≤ 0 → v ≤ u ∧ u + e ≤ v) := by
    intro u v e h
    constructor
    · intro he
      have q1 := Int.mul_nonneg h0 he
      have q2 := Int.mul_nonneg (show 0 ≤ 240 - k by omega) he
      rw [Int.sub_mul] at q2
      generalize k * e = ke at *
      omega
    · intro he
      have q1 := Int.mul_nonneg h0 (show 0 ≤ -e by omega)
      have q2 := Int.mul_nonneg (show 0 ≤ 240 - k by omega) (show 0 ≤ -e by omega)
      rw [Int.mul_neg] at q1
      rw [Int.sub_mul, Int.mul_neg, Int.mul_neg] at q2
      generalize k * e = ke at *
      omega
  refine ⟨?_, ?_⟩
  · unfold TN
    have e1 : 240 * (p.1 - a.1) = k * (b.1 - a.1) := by omega
    have e2 : 240 * (p.2 - a.2) = k * (b.2 - a.2) := by omega
    have : 240 * ((b.1 - a.1) * (p.2 - a.2) - (b.2 - a.2) * (p.1 - a.1)) = 0 := by
      have h3 : 240 * ((b.1 - a.1) * (p.2 - a.2) - (b.2 - a.2) * (p.1 - a.1)) = (b.1 - a.1) * (240 * (p.2 - a.2)) - (b.2 - a.2) * (240 * (p.1 - a.1)) := by grind
      rw [h3, e1, e2]; grind
    omega
  · have b1 := bd a.1 p.1 (b.1 - a.1) hx
    have b2 := bd a.2 p.2 (b.2 - a.2) hy
    unfold Btw
    rcases Int.le_total 0 (b.1 - a.1) with g | g <;> rcases Int.le_total 0 (b.2 - a.2) with g' | g'
    all_goals have c1 := b1.1; have c2 := b1.2; have c3 := b2.1; have c4 := b2.2
    · have := c1 g; have := c3 g'; omega
    · have := c1 g; have := c4 g'; omega
    · have := c2 g; have := c3 g'; omega
    · have := c2 g; have := c4 g'; omega

/-- Along the greater of both distances. -/
theorem grid_step {n m u v : Int} (hm : 240 = n * m) (hn : 0 < n) {e f r : Int} (he : e = n) (hr0 : 0 ≤ u) (hr1 : u ≤ n) (ht : e * v = f * u) : 0 ≤ m * u ∧ m * u ≤ 240 ∧ m * u * e = 240 * u ∧ m * u * f = 240 * v := by
  have hm0 : 0 ≤ m := by
    rcases Int.lt_or_le m 0 with h | h
    · have := Int.mul_nonneg (show 0 ≤ n by omega) (show 0 ≤ -m by omega); rw [Int.mul_neg] at this; omega
    · exact h
  refine ⟨Int.mul_nonneg hm0 hr0, ?_, ?_, ?_⟩
  · have := Int.mul_le_mul_of_nonneg_left hr1 hm0; rw [Int.mul_comm m n] at this; omega
  · rw [he, hm]; grind
  · rw [hm, Int.mul_assoc, Int.mul_comm u f, ← ht, he]; grind

theorem grid_fwd {a b p : Pt} {n : Int} (hn : 0 < n) (hmax : (b.1 - a.1 = n ∨ a.1 - b.1 = n) ∨ (b.2 - a.2 = n ∨ a.2 - b.2 = n)) (hd : 240 % n = 0) (h : On p a b) :
    ∃ k : Int, 0 ≤ k ∧ k ≤ 240 ∧ 240 * a.1 + k * (b.1 - a.1) = 240 * p.1 ∧ 240 * a.2 + k * (b.2 - a.2) = 240 * p.2 := by
  obtain ⟨m, hm⟩ : ∃ m : Int, 240 = n * m := ⟨240 / n, by have := Int.mul_ediv_add_emod 240 n; omega⟩
  obtain ⟨ht, hb⟩ := h
  unfold TN at ht
  unfold Btw at hb
  rcases hmax with (g | g) | (g | g)
  · have := grid_step hm hn (e := b.1 - a.1) (f := b.2 - a.2) (r := 0) (u := p.1 - a.1) (v := p.2 - a.2) g (by omega) (by omega) (by omega)
    exact ⟨m * (p.1 - a.1), this.1, this.2.1, by rw [this.2.2.1]; omega, by rw [this.2.2.2]; omega⟩
  · have := grid_step hm hn (e := a.1 - b.1) (f := a.2 - b.2) (r := 0) (u := a.1 - p.1) (v := a.2 - p.2) g (by omega) (by omega) (by
      have e1 : (a.1 - b.1) * (a.2 - p.2) = (b.1 - a.1) * (p.2 - a.2) := by grind
      have e2 : (a.2 - b.2) * (a.1 - p.1) = (b.2 - a.2) * (p.1 - a.1) := by grind
      rw [e1, e2]; omega)
    refine ⟨m * (a.1 - p.1), this.1, this.2.1, ?_, ?_⟩
    · rw [show b.1 - a.1 = -(a.1 - b.1) by omega, Int.mul_neg, this.2.2.1]; omega
    · rw [show b.2 - a.2 = -(a.2 - b.2) by omega, Int.mul_neg, this.2.2.2]; omega
  · have := grid_step hm hn (e := b.2 - a.2) (f := b.1 - a.1) (r := 0) (u := p.2 - a.2) (v := p.1 - a.1) g (by omega) (by omega) (by omega)
    exact ⟨m * (p.2 - a.2), this.1, this.2.1, by rw [this.2.2.2]; omega, by rw [this.2.2.1]; omega⟩
  · have := grid_step hm hn (e := a.2 - b.2) (f := a.1 - b.1) (r := 0) (u := a.2 - p.2) (v := a.1 - p.1) g (by omega) (by omega) (by
      have e1 : (a.1 - b.1) * (a.2 - p.2) = (b.1 - a.1) * (p.2 - a.2) := by grind
      have e2 : (a.2 - b.2) * (a.1 - p.1) = (b.2 - a.2) * (p.1 - a.1) := by grind
      rw [e1, e2]; omega)
    refine ⟨m * (a.2 - p.2), this.1, this.2.1, ?_, ?_⟩
    · rw [show b.1 - a.1 = -(a.1 - b.1) by omega, Int.mul_neg, this.2.2.2]; omega
    · rw [show b.2 - a.2 = -(a.2 - b.2) by omega, Int.mul_neg, this.2.2.1]; omega
end Go.Proofs.Ytbcbaidnamebkaa.Geo
