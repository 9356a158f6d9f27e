/- The law FallTells of the printed program: of any numbers the time, twice the height, and the top are the document's, or refused. No conditions. -/
import Derived.Test.YtejiaiincdamkaaQFallTellsTop
import Derived.Test.YtejiaiincdamkaaQFallTellsAbove
import Derived.Test.YtejiaiincdamkaaQFallTellsRoot
namespace Go.Proofs.Ytejiaiincdamkaa.Pure
open Go.RowKit Go.Proofs.Ytejiaiincdamkaa.PFallTells Go.Proofs.YtejiaiincdamkaaW.PrintWords Go.Proofs.YtejiaiincdamkaaW.PrintLast

theorem refmay (z v g : Int) : apogeeref17_May.f z v g = some (decide (May z v g)) := by
  unfold apogeeref17_May.f
  by_cases h1 : z ≥ -2147483648
  · rw [if_pos h1]
    by_cases h2 : z ≤ 2147483648
    · rw [if_pos h2]
      by_cases h3 : v ≥ -131072
      · rw [if_pos h3]
        by_cases h4 : v ≤ 131072
        · rw [if_pos h4]
          by_cases h5 : g ≥ 1
          · rw [if_pos h5]; exact congrArg some (decide_eq_decide.2 (by unfold May; omega))
          · rw [if_neg h5]; exact congrArg some (decide_eq_false (by unfold May; omega)).symm
        · rw [if_neg h4]; exact congrArg some (decide_eq_false (by unfold May; omega)).symm
      · rw [if_neg h3]; exact congrArg some (decide_eq_false (by unfold May; omega)).symm
    · rw [if_neg h2]; exact congrArg some (decide_eq_false (by unfold May; omega)).symm
  · rw [if_neg h1]; exact congrArg some (decide_eq_false (by unfold May; omega)).symm

/-- The document's time is the program's. -/
theorem same_time (k : Nat) (hk : 400 ≤ k) (z v g t : Int) (hm : May z v g) (e : fall_fallen.f k z v g = some (t, true)) : apogeeref17_Time.f k z v g = some t := by
  obtain ⟨z0, z1, v0, v1, g0, g1⟩ := id hm
  unfold fall_fallen.f at e
  unfold apogeeref17_Time.f
  by_cases hz : z < 0
  · rw [if_pos hz] at e
    rw [if_pos hz]
    simpa using e
  · rw [if_neg hz] at e
    rw [if_neg hz]
    have hv := mul_bd v0 v1 v0 v1
    have hv' := sq_nonneg v
    have hgz := Int.mul_le_mul (show 2 * g ≤ 200 by omega) z1 (by omega) (by omega)
    have hgz' := Int.mul_nonneg (show 0 ≤ 2 * g by omega) (show 0 ≤ z by omega)
    have eN : wrap64 (wrap64 (v * v) + wrap64 (wrap64 (2 * g) * z)) = v * v + 2 * g * z := by
      rw [wrap64_small (n := v * v) (by omega) (by omega), wrap64_small (n := 2 * g) (by omega) (by omega), wrap64_small (n := 2 * g * z) (by omega) (by omega), wrap64_small (by omega) (by omega)]
    rw [eN] at e
    rw [eN]
    obtain ⟨r, er, r0, r1, r2⟩ := fix_Sqrt_spec k (by omega) (v * v + 2 * g * z) (by omega) (by omega)
    obtain ⟨q, eq, q0, q1, q2⟩ := ref_root k (by omega) (v * v + 2 * g * z) (by omega) (by omega)
    obtain rfl : r = q := root_one r0 q0 r1 r2 q1 q2
    rw [er] at e
    rw [of_spec _ (by omega) (by omega)]
    simp only [Option.bind_some] at e ⊢
    rw [eq]
    simp only [Option.bind_some]
    rw [if_neg (by omega)] at e
    rw [if_neg (by omega)]
    simpa using e

theorem same_top (z v g : Int) (hm : May z v g) : apogeeref17_Top.f z v g = some (Topp z v g) := by
  obtain ⟨z0, z1, v0, v1, g0, g1⟩ := id hm
  unfold apogeeref17_Top.f Topp
  have ez : wrap64 (2 * z) = 2 * z := wrap64_small (by omega) (by omega)
  by_cases hv : v < 0
  · rw [if_pos hv, if_neg (by omega), ez]
  · rw [if_neg hv, if_neg (show ¬ g = 0 by omega), if_pos (show 0 ≤ v by omega), Int.tdiv_eq_ediv_of_nonneg (by omega)]
    have q0 : 0 ≤ v / g := Int.ediv_nonneg (by omega) (by omega)
    have q1 : v / g ≤ v := Int.ediv_le_self _ (by omega)
    rw [wrap64_small (n := v / g) (by omega) (by omega), wrap64_small (n := v / g + 1) (by omega) (by omega), ez, ref_above _ _ _ _ hm.small q0 (by omega), ref_above _ _ _ _ hm.small (by omega) (by omega)]
    rfl

theorem FallTells : apogeelaw17_FallTells.Pure := by
  intro z v g s _ _ _ _
  refine ⟨500, ?_⟩
  have haw : apogeelaw17_awake.f 500 = some true := by decide +kernel
  unfold apogeelaw17_FallTells.f
  rw [above_prog 500 (by decide), top_prog 500 (by decide), refmay, haw]
  by_cases hm : May z v g
  · obtain ⟨t, e0, e'⟩ := time_spec 499 (by decide) z v g hm
    have e : fall_Time.f 500 z v g = some (t, true) := at_rounds (fun k => fall_Time.mono z v g k) (show 499 ≤ 500 by decide) e0
    have hM : ∀ a b : Int × Bool, (if May z v g then a else b) = a := fun a b => if_pos hm
    rw [e, hM, decide_eq_true hm]
    simp only [Option.bind_some, if_true, bne_self_eq_false, Bool.false_eq_true, if_false]
    by_cases h0 : 0 ≤ s ∧ s ≤ 16777216
    · rw [if_pos (show May z v g ∧ 0 ≤ s ∧ s ≤ 16777216 from ⟨hm, h0⟩), if_pos (show s ≥ 0 from h0.1), decide_eq_true h0.2]
      simp only [apogeelaw17_FallTells.j0, bne_self_eq_false, Bool.false_eq_true, if_false, if_true]
      rw [same_time 499 (by decide) z v g t hm e']
      simp only [Option.bind_some, if_true]
      rw [same_top z v g hm]
      simp only [Option.bind_some, if_true]
      rw [ref_above z v g s hm.small h0.1 (by omega)]
      simp
    · rw [if_neg (show ¬ (May z v g ∧ 0 ≤ s ∧ s ≤ 16777216) from fun h => h0 h.2)]
      have hb : (if s ≥ 0 then apogeelaw17_FallTells.j0 500 z v g s t 0 false (Topp z v g) true (false != (decide (s ≤ 16777216))) else apogeelaw17_FallTells.j0 500 z v g s t 0 false (Topp z v g) true (false != false)) = apogeelaw17_FallTells.j0 500 z v g s t 0 false (Topp z v g) true false := by
        by_cases c : s ≥ 0
        · rw [if_pos c, decide_eq_false (by omega)]; rfl
        · rw [if_neg c]; rfl
      rw [hb]
      simp only [apogeelaw17_FallTells.j0, Bool.false_eq_true, if_false, if_true]
      rw [same_time 499 (by decide) z v g t hm e']
      simp only [Option.bind_some, if_true]
      rw [same_top z v g hm]
      simp
  · have e : fall_Time.f 500 z v g = some (0, false) := by
      unfold fall_Time.f
      rw [may_spec, decide_eq_false hm]
      simp
    have hM : ∀ a b : Int × Bool, (if May z v g then a else b) = b := fun a b => if_neg hm
    rw [e, hM, decide_eq_false hm, if_neg (show ¬ (May z v g ∧ 0 ≤ s ∧ s ≤ 16777216) from fun h => hm h.1)]
    simp [apogeelaw17_FallTells.j0]
end Go.Proofs.Ytejiaiincdamkaa.Pure
