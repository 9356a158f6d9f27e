/- The law PairTells of the printed program: of any two navs what they come to, and the height, is the document's; the other way round it is flipped. No conditions. -/
import Derived.Test.YtncelpakoikbeaaQPairTellsRefnear
namespace Go.Proofs.Ytncelpakoikbeaa.Pure
open Go.RowKit Go.Proofs.Ytncelpakoikbeaa.PPairTells Go.Proofs.YtncelpakoikbeaaW.PrintWords Go.Proofs.YtncelpakoikbeaaW.PrintLast

set_option linter.unusedVariables false
theorem Nr_symm (a0_0 a0_1 a0_2 a0_3 a0_4 a0_5 a0_6 a0_7 a1_0 a1_1 a1_2 a1_3 a1_4 a1_5 a1_6 a1_7 e : Int) : Nr [(a1_2, a0_2), (a1_3, a0_3), (a1_4, a0_4), (a1_5, a0_5), (a1_6, a0_6), (a1_7, a0_7)] e ↔ Nr [(a0_2, a1_2), (a0_3, a1_3), (a0_4, a1_4), (a0_5, a1_5), (a0_6, a1_6), (a0_7, a1_7)] e := by
  unfold Nr
  simp only [List.mem_cons, List.not_mem_nil, or_false, forall_eq_or_imp, forall_eq]
  rw [Dist_symm a1_2, Dist_symm a1_3, Dist_symm a1_4, Dist_symm a1_5, Dist_symm a1_6, Dist_symm a1_7]
theorem known (k : Nat) (hk : 1 ≤ k) (s : Int) : pair_Known.f k s = some (if s = 1 ∨ s = 2 then 1 else if s = 3 ∨ s = 4 then 2 else 0) := by
  obtain ⟨k, rfl⟩ : ∃ m, k = m + 1 := ⟨k - 1, by omega⟩
  unfold pair_Known.f
  by_cases h1 : s = 1
  · subst h1; simp [pair_Known.j0]
  · by_cases h2 : s = 2
    · subst h2; simp [pair_Known.j0]
    · by_cases h3 : s = 3
      · subst h3; simp [pair_Known.j0]
      · simp [pair_Known.j0, h1, h2, h3]
        split <;> rfl
theorem flip (s : Int) : pair_Flip.f s = some (if s = 1 then 2 else if s = 2 then 1 else s) := by
  unfold pair_Flip.f; split <;> (try split) <;> rfl

theorem PairTells : apogeelaw16_PairTells.Pure := by
  intro a0_0 a0_1 a0_2 a0_3 a0_4 a0_5 a0_6 a0_7 a1_0 a1_1 a1_2 a1_3 a1_4 a1_5 a1_6 a1_7 p q e g0 g1 h0_2 h0_3 h0_4 h0_5 h0_6 h0_7 g2 g3 h1_2 h1_3 h1_4 h1_5 h1_6 h1_7 he
  replace he := Rg.of he
  replace h0_2 := Rg.of h0_2
  replace h0_3 := Rg.of h0_3
  replace h0_4 := Rg.of h0_4
  replace h0_5 := Rg.of h0_5
  replace h0_6 := Rg.of h0_6
  replace h0_7 := Rg.of h0_7
  replace h1_2 := Rg.of h1_2
  replace h1_3 := Rg.of h1_3
  replace h1_4 := Rg.of h1_4
  replace h1_5 := Rg.of h1_5
  replace h1_6 := Rg.of h1_6
  replace h1_7 := Rg.of h1_7
  refine ⟨60, ?_⟩
  have haw : apogeelaw16_awake.f 56 = some true := by decide +kernel
  unfold apogeelaw16_PairTells.f
  rw [compare_spec 60 (by decide) a0_0 a0_1 a0_2 a0_3 a0_4 a0_5 a0_6 a0_7 a1_0 a1_1 a1_2 a1_3 a1_4 a1_5 a1_6 a1_7 p q e h0_2 h1_2 h0_3 h1_3 h0_4 h1_4 h0_5 h1_5 h0_6 h1_6 h0_7 h1_7, height_spec 60 (by decide) a0_0 a0_1 a0_2 a0_3 a0_4 a0_5 a0_6 a0_7 a1_0 a1_1 a1_2 a1_3 a1_4 a1_5 a1_6 a1_7 p q h0_2 h1_2 h0_3 h1_3 h0_4 h1_4 h0_5 h1_5 h0_6 h1_6 h0_7 h1_7]
  simp only [Option.bind_some]
  have fin : ∀ (h : Int) (ok : Bool) (n : Int), ok = (p || q) → n = (if p = true ∧ q = true then 2 else if p = true ∨ q = true then 1 else 0) →
      apogeelaw16_PairTells.j3 57 p q e (Cmp [(a0_2, a1_2), (a0_3, a1_3), (a0_4, a1_4), (a0_5, a1_5), (a0_6, a1_6), (a0_7, a1_7)] p q e) h ok h n a0_0 a0_1 a0_2 a0_3 a0_4 a0_5 a0_6 a0_7 a1_0 a1_1 a1_2 a1_3 a1_4 a1_5 a1_6 a1_7 = some true := by
    intro h ok n hok hn
    have e1 : Cmp [(a1_2, a0_2), (a1_3, a0_3), (a1_4, a0_4), (a1_5, a0_5), (a1_6, a0_6), (a1_7, a0_7)] q p e = (if Cmp [(a0_2, a1_2), (a0_3, a1_3), (a0_4, a1_4), (a0_5, a1_5), (a0_6, a1_6), (a0_7, a1_7)] p q e = 1 then 2 else if Cmp [(a0_2, a1_2), (a0_3, a1_3), (a0_4, a1_4), (a0_5, a1_5), (a0_6, a1_6), (a0_7, a1_7)] p q e = 2 then 1 else Cmp [(a0_2, a1_2), (a0_3, a1_3), (a0_4, a1_4), (a0_5, a1_5), (a0_6, a1_6), (a0_7, a1_7)] p q e) := by
      unfold Cmp
      by_cases c : Nr [(a0_2, a1_2), (a0_3, a1_3), (a0_4, a1_4), (a0_5, a1_5), (a0_6, a1_6), (a0_7, a1_7)] (2 * clamp e)
      · have c' := (Nr_symm a0_0 a0_1 a0_2 a0_3 a0_4 a0_5 a0_6 a0_7 a1_0 a1_1 a1_2 a1_3 a1_4 a1_5 a1_6 a1_7 _).2 c
        cases p <;> cases q <;> simp [c, c']
      · have c' : ¬ Nr [(a1_2, a0_2), (a1_3, a0_3), (a1_4, a0_4), (a1_5, a0_5), (a1_6, a0_6), (a1_7, a0_7)] (2 * clamp e) := fun x => c ((Nr_symm a0_0 a0_1 a0_2 a0_3 a0_4 a0_5 a0_6 a0_7 a1_0 a1_1 a1_2 a1_3 a1_4 a1_5 a1_6 a1_7 _).1 x)
        cases p <;> cases q <;> simp [c, c']
    have e2 : (if Cmp [(a0_2, a1_2), (a0_3, a1_3), (a0_4, a1_4), (a0_5, a1_5), (a0_6, a1_6), (a0_7, a1_7)] p q e = 1 ∨ Cmp [(a0_2, a1_2), (a0_3, a1_3), (a0_4, a1_4), (a0_5, a1_5), (a0_6, a1_6), (a0_7, a1_7)] p q e = 2 then (1 : Int) else if Cmp [(a0_2, a1_2), (a0_3, a1_3), (a0_4, a1_4), (a0_5, a1_5), (a0_6, a1_6), (a0_7, a1_7)] p q e = 3 ∨ Cmp [(a0_2, a1_2), (a0_3, a1_3), (a0_4, a1_4), (a0_5, a1_5), (a0_6, a1_6), (a0_7, a1_7)] p q e = 4 then 2 else 0) = n := by
      subst hn; unfold Cmp
      by_cases c : Nr [(a0_2, a1_2), (a0_3, a1_3), (a0_4, a1_4), (a0_5, a1_5), (a0_6, a1_6), (a0_7, a1_7)] (2 * clamp e) <;> cases p <;> cases q <;> simp [c]
    simp only [apogeelaw16_PairTells.j3, haw, Option.bind_some, if_true]
    rw [refcompare_spec 56 (by decide) a0_0 a0_1 a0_2 a0_3 a0_4 a0_5 a0_6 a0_7 a1_0 a1_1 a1_2 a1_3 a1_4 a1_5 a1_6 a1_7 p q e he h0_2 h1_2 h0_3 h1_3 h0_4 h1_4 h0_5 h1_5 h0_6 h1_6 h0_7 h1_7, compare_spec 56 (by decide) a1_0 a1_1 a1_2 a1_3 a1_4 a1_5 a1_6 a1_7 a0_0 a0_1 a0_2 a0_3 a0_4 a0_5 a0_6 a0_7 q p e h1_2 h0_2 h1_3 h0_3 h1_4 h0_4 h1_5 h0_5 h1_6 h0_6 h1_7 h0_7, flip, known 56 (by decide)]
    simp only [Option.bind_some]
    rw [if_pos e1, e2]
    subst hok
    cases p <;> cases q <;> simp
  cases p <;> cases q <;> simp only [apogeelaw16_PairTells.j0, apogeelaw16_PairTells.j1, apogeelaw16_PairTells.j2, if_true, Bool.false_eq_true, if_false, and_true, and_false]
  · exact fin 0 false 0 rfl rfl
  · exact fin a1_4 true _ rfl (by unfold wrap64; decide)
  · exact fin a0_4 true _ rfl rfl
  · exact fin _ true _ rfl (by unfold wrap64; decide)
end Go.Proofs.Ytncelpakoikbeaa.Pure
