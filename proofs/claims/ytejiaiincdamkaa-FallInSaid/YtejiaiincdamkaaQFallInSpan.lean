/- The span of times, and what an eps around a place does to it. -/
import Derived.Test.YtejiaiincdamkaaQFallInFall
namespace Go.Proofs.Ytejiaiincdamkaa.PFallIn
open Go.RowKit Go.Proofs.YtejiaiincdamkaaW.PrintWords Go.Proofs.YtejiaiincdamkaaW.PrintLast
/-- What 'fallen' tells. -/
def Falls (z v g t : Int) : Prop := 0 ≤ t ∧ t ≤ 1000000 ∧ (z < 0 → t = 0) ∧ (0 ≤ z → ∀ s, 0 ≤ s → (0 ≤ A z v g s ↔ s ≤ t))
theorem span_spec (k : Nat) (hk : 67 ≤ k) (z v g eps : Int) (hm : May z v g) (h0 : 0 ≤ eps) (h1 : eps ≤ 2048) :
    ∃ lo hi, fall_Span.f k z v g eps = some (lo, hi + 2, true) ∧ Falls (z - eps) (v - eps) g lo ∧ Falls (z + eps) (v + eps) g hi := by
  obtain ⟨k, rfl⟩ : ∃ m, k = m + 1 := ⟨k - 1, by omega⟩
  obtain ⟨z0, z1, v0, v1, g0, g1⟩ := id hm
  obtain ⟨lo, e1, f1⟩ := fallen_spec k (by omega) (z - eps) (v - eps) g (by unfold Small; omega)
  obtain ⟨hi, e2, f2⟩ := fallen_spec k (by omega) (z + eps) (v + eps) g (by unfold Small; omega)
  refine ⟨lo, hi, ?_, f1, f2⟩
  unfold fall_Span.f
  rw [within_spec, may_spec]
  simp only [Option.bind_some]
  rw [if_pos (decide_eq_true ⟨h0, h1⟩), decide_eq_true hm]
  simp only [fall_Span.j0, Bool.not_true, Bool.false_eq_true, if_false]
  rw [wrap64_small (n := z - eps) (by omega) (by omega), wrap64_small (n := v - eps) (by omega) (by omega), wrap64_small (n := z + eps) (by omega) (by omega), wrap64_small (n := v + eps) (by omega) (by omega), e1, e2]
  simp only [Option.bind_some, if_true]
  have f3 := f2.1
  have f4 := f2.2.1
  rw [wrap64_small (by omega) (by omega)]
theorem falls_mono {z v g z' v' t t' : Int} (h : Falls z v g t) (h' : Falls z' v' g t') (hz : z ≤ z') (hv : v ≤ v') : t ≤ t' :=
  fallen_mono h.1 h'.1 hz hv h.2.2.1 h.2.2.2 h'.2.2.2
/-- Not below the ground behind no more than its time, nor any place above. -/
theorem falls_up {z v g t z' v' : Int} (h : Falls z v g t) (hz : z ≤ z') (hv : v ≤ v') (h0 : 0 ≤ z') : 0 ≤ A z' v' g t := by
  by_cases c : z < 0
  · rw [h.2.2.1 c]; unfold A; omega
  · exact Int.le_trans ((h.2.2.2 (by omega) t h.1).2 (Int.le_refl _)) (A_mono hz hv h.1)
/-- Below it behind more, as is any place below. -/
theorem falls_down {z v g t z' v' s : Int} (h : Falls z v g t) (hz : z' ≤ z) (hv : v' ≤ v) (h0 : 0 ≤ z) (hs : t < s) : A z' v' g s < 0 := by
  have h1 := A_mono (g := g) hz hv (show 0 ≤ s by have := h.1; omega)
  have h2 : ¬ 0 ≤ A z v g s := fun c => by have := (h.2.2.2 h0 s (by have := h.1; omega)).1 c; omega
  omega
end Go.Proofs.Ytejiaiincdamkaa.PFallIn
