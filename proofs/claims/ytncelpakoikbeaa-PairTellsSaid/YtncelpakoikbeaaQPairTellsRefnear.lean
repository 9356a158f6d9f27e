/- The document's answers for two navs. -/
import Derived.Test.YtncelpakoikbeaaQPairTellsNear
namespace Go.Proofs.Ytncelpakoikbeaa.PPairTells
open Go.RowKit Go.Proofs.YtncelpakoikbeaaW.PrintWords Go.Proofs.YtncelpakoikbeaaW.PrintLast
theorem apart_spec (k : Nat) (hk : 2 ≤ k) (x y eps : Int) (hx : Rg x) (hy : Rg y) (h0 : 0 ≤ eps) (h1 : eps < 9223372036854775808) : apogeeref06_apart.f k x y eps = some (decide (Dist (x, y) ≤ eps)) := by
  obtain ⟨k, rfl⟩ : ∃ m, k = m + 2 := ⟨k - 2, by omega⟩
  unfold Rg at hx hy
  have one : ∀ k x y, Rg x → Rg y → y ≤ x → apogeeref06_apart.f (k + 1) x y eps = some (decide (Dist (x, y) ≤ eps)) := by
    intro k x y hx hy h
    unfold Rg at hx hy
    simp only [apogeeref06_apart.f]
    rw [if_neg (by omega)]
    simp only [n_u64]
    refine congrArg some (decide_eq_decide.2 ?_)
    unfold Dist mx mn; dsimp only; split <;> split <;> omega
  by_cases c : x < y
  · rw [Dist_symm]
    have := one k y x hy hx (by omega)
    unfold apogeeref06_apart.f
    rw [if_pos c, this]; rfl
  · exact one (k + 1) x y hx hy (by omega)
theorem refnear_l0 (eps : Int) (h1 : eps < 9223372036854775808) (h0 : 0 ≤ eps) (x y : List Int) (hx : x.length = 6) (hy : y.length = 6) (rx : ∀ i : Nat, i < 6 → Rg (rd x i)) (ry : ∀ i : Nat, i < 6 → Rg (rd y i)) (d : Nat) :
    ∀ (k i : Nat), i + d = 6 → d + 2 < k → ∃ b, apogeeref06_Near.l0 k eps x y (i : Int) = some b ∧ (b = true ↔ ∀ j : Nat, i ≤ j → j < 6 → Dist (rd x j, rd y j) ≤ eps) := by
  induction d with
  | zero =>
    intro k i hd hk
    obtain ⟨k, rfl⟩ : ∃ m, k = m + 1 := ⟨k - 1, by omega⟩
    refine ⟨true, ?_, by simp only [true_iff]; intro j h h'; omega⟩
    simp only [apogeeref06_Near.l0]; rw [if_neg (by omega)]
  | succ d ih =>
    intro k i hd hk
    obtain ⟨k, rfl⟩ : ∃ m, k = m + 1 := ⟨k - 1, by omega⟩
    simp only [apogeeref06_Near.l0]
    rw [if_pos (by omega), if_neg (by omega), if_pos (by omega), if_pos (by omega), if_pos (by omega), apart_spec k (by omega) _ _ eps (rx i (by omega)) (ry i (by omega)) h0 h1]
    simp only [Option.bind_some]
    by_cases c : Dist (rd x i, rd y i) ≤ eps
    · obtain ⟨b, hb, hi⟩ := ih k (i + 1) (by omega) (by omega)
      rw [if_pos (decide_eq_true c), show wrap64 ((i : Int) + 1) = ((i + 1 : Nat) : Int) by unfold wrap64; omega]
      refine ⟨b, hb, hi.trans ⟨fun h j a b => ?_, fun h j a b => h j (by omega) b⟩⟩
      by_cases e : j = i
      · subst e; exact c
      · exact h j (by omega) b
    · rw [if_neg (by simpa using c)]
      exact ⟨false, rfl, by simp only [Bool.false_eq_true, false_iff]; exact fun h => c (h i (Nat.le_refl _) (by omega))⟩
theorem refnear_spec (k : Nat) (hk : 9 ≤ k) (a0_0 a0_1 a0_2 a0_3 a0_4 a0_5 a0_6 a0_7 a1_0 a1_1 a1_2 a1_3 a1_4 a1_5 a1_6 a1_7 eps : Int) (h0_2 : Rg a0_2) (h1_2 : Rg a1_2) (h0_3 : Rg a0_3) (h1_3 : Rg a1_3) (h0_4 : Rg a0_4) (h1_4 : Rg a1_4) (h0_5 : Rg a0_5) (h1_5 : Rg a1_5) (h0_6 : Rg a0_6) (h1_6 : Rg a1_6) (h0_7 : Rg a0_7) (h1_7 : Rg a1_7) (h1 : eps < 9223372036854775808) :
    apogeeref06_Near.f k a0_0 a0_1 a0_2 a0_3 a0_4 a0_5 a0_6 a0_7 a1_0 a1_1 a1_2 a1_3 a1_4 a1_5 a1_6 a1_7 eps = some (decide (Nr [(a0_2, a1_2), (a0_3, a1_3), (a0_4, a1_4), (a0_5, a1_5), (a0_6, a1_6), (a0_7, a1_7)] eps)) := by
  unfold apogeeref06_Near.f apogeeref06_numbers.f
  simp only [Option.bind_some]
  by_cases c : eps < 0
  · obtain ⟨k, rfl⟩ : ∃ m, k = m + 1 := ⟨k - 1, by omega⟩
    simp only [apogeeref06_Near.l0]
    rw [if_pos (by omega), if_pos c]
    exact congrArg some (decide_eq_false (fun h => by have := h.1; omega)).symm
  · have all : ∀ (P : Nat → Prop), P 0 → P 1 → P 2 → P 3 → P 4 → P 5 → ∀ i : Nat, i < 6 → P i := by
      intro P p0 p1 p2 p3 p4 p5 i hi
      have : i = 0 ∨ i = 1 ∨ i = 2 ∨ i = 3 ∨ i = 4 ∨ i = 5 := by omega
      rcases this with rfl | rfl | rfl | rfl | rfl | rfl <;> assumption
    obtain ⟨b, this, hb⟩ := refnear_l0 eps h1 (by omega) [a0_2, a0_3, a0_4, a0_5, a0_6, a0_7] [a1_2, a1_3, a1_4, a1_5, a1_6, a1_7] rfl rfl
      (all _ h0_2 h0_3 h0_4 h0_5 h0_6 h0_7) (all _ h1_2 h1_3 h1_4 h1_5 h1_6 h1_7) 6 k 0 rfl (by omega)
    rw [show ((0 : Nat) : Int) = 0 from rfl] at this
    rw [this]
    refine congrArg some ?_
    rw [Bool.eq_iff_iff, hb, decide_eq_true_iff]
    refine ⟨fun h => ⟨by omega, ?_⟩, fun h j _ hj => ?_⟩
    · simp only [List.mem_cons, List.not_mem_nil, or_false]
      rintro p (rfl | rfl | rfl | rfl | rfl | rfl)
      · exact h 0 (by omega) (by omega)
      · exact h 1 (by omega) (by omega)
      · exact h 2 (by omega) (by omega)
      · exact h 3 (by omega) (by omega)
      · exact h 4 (by omega) (by omega)
      · exact h 5 (by omega) (by omega)
    · refine all (fun j => Dist (rd [a0_2, a0_3, a0_4, a0_5, a0_6, a0_7] j, rd [a1_2, a1_3, a1_4, a1_5, a1_6, a1_7] j) ≤ eps) ?_ ?_ ?_ ?_ ?_ ?_ j hj
      · exact h.2 (a0_2, a1_2) (by simp)
      · exact h.2 (a0_3, a1_3) (by simp)
      · exact h.2 (a0_4, a1_4) (by simp)
      · exact h.2 (a0_5, a1_5) (by simp)
      · exact h.2 (a0_6, a1_6) (by simp)
      · exact h.2 (a0_7, a1_7) (by simp)
theorem refcompare_spec (k : Nat) (hk : 11 ≤ k) (a0_0 a0_1 a0_2 a0_3 a0_4 a0_5 a0_6 a0_7 a1_0 a1_1 a1_2 a1_3 a1_4 a1_5 a1_6 a1_7 : Int) (p q : Bool) (e : Int) (he : Rg e) (h0_2 : Rg a0_2) (h1_2 : Rg a1_2) (h0_3 : Rg a0_3) (h1_3 : Rg a1_3) (h0_4 : Rg a0_4) (h1_4 : Rg a1_4) (h0_5 : Rg a0_5) (h1_5 : Rg a1_5) (h0_6 : Rg a0_6) (h1_6 : Rg a1_6) (h0_7 : Rg a0_7) (h1_7 : Rg a1_7) :
    apogeeref16_Compare.f k a0_0 a0_1 a0_2 a0_3 a0_4 a0_5 a0_6 a0_7 a1_0 a1_1 a1_2 a1_3 a1_4 a1_5 a1_6 a1_7 p q e = some (Cmp [(a0_2, a1_2), (a0_3, a1_3), (a0_4, a1_4), (a0_5, a1_5), (a0_6, a1_6), (a0_7, a1_7)] p q e) := by
  obtain ⟨k, rfl⟩ : ∃ m, k = m + 1 := ⟨k - 1, by omega⟩
  unfold Rg at he
  have hw : ∀ x, -1 ≤ x → x ≤ 2305843009213693952 → wrap64 (2 * x) = 2 * x := by intro x _ _; unfold wrap64; omega
  have fin : ∀ eps, eps < 9223372036854775808 → (apogeeref06_Near.f k a0_0 a0_1 a0_2 a0_3 a0_4 a0_5 a0_6 a0_7 a1_0 a1_1 a1_2 a1_3 a1_4 a1_5 a1_6 a1_7 eps).bind (fun t => if t = true then some (3 : Int) else some 4) = some (if Nr [(a0_2, a1_2), (a0_3, a1_3), (a0_4, a1_4), (a0_5, a1_5), (a0_6, a1_6), (a0_7, a1_7)] eps then 3 else 4) := by
    intro eps h
    rw [refnear_spec k (by omega) a0_0 a0_1 a0_2 a0_3 a0_4 a0_5 a0_6 a0_7 a1_0 a1_1 a1_2 a1_3 a1_4 a1_5 a1_6 a1_7 eps h0_2 h1_2 h0_3 h1_3 h0_4 h1_4 h0_5 h1_5 h0_6 h1_6 h0_7 h1_7 h]
    simp only [Option.bind_some]
    by_cases c : Nr [(a0_2, a1_2), (a0_3, a1_3), (a0_4, a1_4), (a0_5, a1_5), (a0_6, a1_6), (a0_7, a1_7)] eps
    · rw [if_pos c, if_pos (decide_eq_true c)]
    · rw [if_neg c, if_neg (by simpa using c)]
  unfold apogeeref16_Compare.f Cmp
  cases p <;> cases q <;> simp only [apogeeref16_Compare.j0, if_true, Bool.false_eq_true, if_false, and_true, and_false, Bool.not_true, Bool.not_false]
  by_cases c : e ≤ 2305843009213693952
  · rw [if_pos c]
    by_cases d : e < -1
    · have h1 : mx e (-1) = -1 := by unfold mx; rw [if_pos (by omega)]
      have h2 : clamp e = -1 := by unfold clamp; rw [if_pos d]
      rw [h1, h2, hw _ (by omega) (by omega)]
      exact fin _ (by omega)
    · have h1 : mx e (-1) = e := by unfold mx; rw [if_neg (by omega)]
      have h2 : clamp e = e := by unfold clamp; rw [if_neg d, if_neg (by omega)]
      rw [h1, h2, hw _ (by omega) (by omega)]
      exact fin _ (by omega)
  · have h2 : clamp e = 2305843009213693952 := by unfold clamp; rw [if_neg (by omega), if_pos (by omega)]
    rw [if_neg c, h2]
    exact fin _ (by omega)
end Go.Proofs.Ytncelpakoikbeaa.PPairTells
