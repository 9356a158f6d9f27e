/- The law PairEps of the printed program: with a greater eps two that agree agree, too; a nav agrees with itself. No conditions. -/
import Derived.Test.YtncelpakoikbeaaQPairEpsNear
namespace Go.Proofs.Ytncelpakoikbeaa.Pure
open Go.RowKit Go.Proofs.Ytncelpakoikbeaa.PPairEps Go.Proofs.YtncelpakoikbeaaW.PrintWords Go.Proofs.YtncelpakoikbeaaW.PrintLast

theorem PairEps : apogeelaw16_PairEps.Pure := by
  intro a0_0 a0_1 a0_2 a0_3 a0_4 a0_5 a0_6 a0_7 a1_0 a1_1 a1_2 a1_3 a1_4 a1_5 a1_6 a1_7 e more g0 g1 h0_2 h0_3 h0_4 h0_5 h0_6 h0_7 g2 g3 h1_2 h1_3 h1_4 h1_5 h1_6 h1_7 _ _
  replace h0_2 := Rg.of h0_2
  replace h0_3 := Rg.of h0_3
  replace h0_4 := Rg.of h0_4
  replace h0_5 := Rg.of h0_5
  replace h0_6 := Rg.of h0_6
  replace h0_7 := Rg.of h0_7
  replace h1_2 := Rg.of h1_2
  replace h1_3 := Rg.of h1_3
  replace h1_4 := Rg.of h1_4
  replace h1_5 := Rg.of h1_5
  replace h1_6 := Rg.of h1_6
  replace h1_7 := Rg.of h1_7
  refine ⟨30, ?_⟩
  have haw : apogeelaw16_awake.f 30 = some true := by decide +kernel
  have haw' : apogeelaw16_awake.f 29 = some true := by decide +kernel
  unfold apogeelaw16_PairEps.f
  rw [haw]
  simp only [Option.bind_some, if_true]
  have out : ∀ k, apogeelaw16_awake.f k = some true → apogeelaw16_PairEps.j0 (k + 1) e more true a0_0 a0_1 a0_2 a0_3 a0_4 a0_5 a0_6 a0_7 a1_0 a1_1 a1_2 a1_3 a1_4 a1_5 a1_6 a1_7 = some true := by
    intro k hk; simp [apogeelaw16_PairEps.j0, hk]
  by_cases c0 : e < 0
  · rw [if_pos c0]; exact out 29 haw'
  · rw [if_neg c0]
    by_cases c1 : more < 0
    · rw [if_pos c1]; exact out 29 haw'
    · rw [if_neg c1]
      by_cases c2 : e > 1152921504606846976
      · rw [if_pos c2]; exact out 29 haw'
      · rw [if_neg c2]
        by_cases c3 : more > 1152921504606846976
        · rw [decide_eq_true c3]; exact out 29 haw'
        · rw [decide_eq_false c3]
          have w : wrap64 (e + more) = e + more := by unfold wrap64; omega
          have cl : ∀ x, 0 ≤ x → x ≤ 2305843009213693952 → clamp x = x := by intro x h h'; unfold clamp; rw [if_neg (by omega), if_neg (by omega)]
          simp only [apogeelaw16_PairEps.j0, Bool.false_eq_true, if_false, w]
          rw [compare_spec 29 (by decide) a0_0 a0_1 a0_2 a0_3 a0_4 a0_5 a0_6 a0_7 a0_0 a0_1 a0_2 a0_3 a0_4 a0_5 a0_6 a0_7 true true e h0_2 h0_2 h0_3 h0_3 h0_4 h0_4 h0_5 h0_5 h0_6 h0_6 h0_7 h0_7,
            compare_spec 29 (by decide) a0_0 a0_1 a0_2 a0_3 a0_4 a0_5 a0_6 a0_7 a1_0 a1_1 a1_2 a1_3 a1_4 a1_5 a1_6 a1_7 true true e h0_2 h1_2 h0_3 h1_3 h0_4 h1_4 h0_5 h1_5 h0_6 h1_6 h0_7 h1_7, compare_spec 29 (by decide) a0_0 a0_1 a0_2 a0_3 a0_4 a0_5 a0_6 a0_7 a1_0 a1_1 a1_2 a1_3 a1_4 a1_5 a1_6 a1_7 true true (e + more) h0_2 h1_2 h0_3 h1_3 h0_4 h1_4 h0_5 h1_5 h0_6 h1_6 h0_7 h1_7]
          have hs : Cmp [(a0_2, a0_2), (a0_3, a0_3), (a0_4, a0_4), (a0_5, a0_5), (a0_6, a0_6), (a0_7, a0_7)] true true e = 3 := by
            unfold Cmp
            rw [if_pos (by simp), if_pos]
            rw [cl e (by omega) (by omega)]
            exact ⟨by omega, by simp only [List.mem_cons, List.not_mem_nil, or_false]; rintro p (rfl | rfl | rfl | rfl | rfl | rfl) <;> rw [Dist_self] <;> omega⟩
          rw [hs]
          simp only [Option.bind_some, if_true]
          unfold Cmp
          simp only [and_self, if_true, cl e (by omega) (by omega), cl (e + more) (by omega) (by omega)]
          by_cases hn : Nr [(a0_2, a1_2), (a0_3, a1_3), (a0_4, a1_4), (a0_5, a1_5), (a0_6, a1_6), (a0_7, a1_7)] (2 * e)
          · rw [if_pos hn, if_pos (Nr_more hn (by omega))]; simp
          · rw [if_neg hn]; simp
end Go.Proofs.Ytncelpakoikbeaa.Pure
