/- Places that are moved. No conditions. -/
import Derived.Test.YtbcbaidnamebkaaAEptspec5
namespace Go.Proofs.Ytbcbaidnamebkaa.AE
set_option linter.unusedVariables false
set_option linter.unusedSimpArgs false
set_option linter.constructorNameAsVariable false
open Go Go.Proofs.Ytbcbaidnamebkaa.Geo
/-- Inside of 64 bits. -/
def In64 (x : Int) : Prop := -9223372036854775808 ≤ x ∧ x < 9223372036854775808
def mvB (p : Pt) (x y : Int) : Bool := decide (OkP p ∧ OkP (mv p x y))
theorem mvB_t {p : Pt} {x y : Int} : mvB p x y = true ↔ OkP p ∧ OkP (mv p x y) := decide_eq_true_iff
theorem fit_ok {x : Int} (h : Okc x) : fitB x = true := decide_eq_true (by unfold Okc at h; omega)
theorem s18 (d : Nat) (p : Pt) (x y : Int) (h1 : In64 p.1) (h2 : In64 p.2) (h3 : In64 x) (h4 : In64 y) :
    pcall M (d + 7) 18 [pt p, .int .i64 x, .int .i64 y] = some (if mvB p x y then .tup [pt (mv p x y), .bool true] else .tup [pt (0, 0), .bool false]) := told (r18 C0 (d + 6) _ _ _ _) (by
  rw [s28 (d + 2) _ _ h1.1 h1.2 h3.1 h3.2, C0_tup2]
  simp only [at0, at1, C0_int, C0_bool]
  rw [s28 (d + 2) _ _ h2.1 h2.2 h4.1 h4.2, C0_tup2]
  simp only [at0, at1, C0_int, C0_bool]
  by_cases f1 : fitB (p.1 + x) = true
  · by_cases f2 : fitB (p.2 + y) = true
    · rw [f1, f2]
      simp only [if_true]
      have h22 : pcall M (d + 6) 22 [.lst [.agg [.int .i64 p.1, .int .i64 p.2], .agg [.int .i64 (p.1 + x), .int .i64 (p.2 + y)]]] = some (.bool (okB [p, mv p x y])) := s22 d [p, mv p x y] (by simp)
      rw [h22, C0_bool]
      have hk : okB [p, mv p x y] = mvB p x y := by rw [Bool.eq_iff_iff, okB_t, mvB_t]; simp
      rw [hk]
      cases mvB p x y <;> rfl
    · have hm : ¬ mvB p x y = true := fun g => f2 (fit_ok (mvB_t.mp g).2.2)
      rw [if_neg hm, f1, Bool.eq_false_iff.mpr f2]; rfl
  · have hm : ¬ mvB p x y = true := fun g => f1 (fit_ok (mvB_t.mp g).2.1)
    rw [if_neg hm, Bool.eq_false_iff.mpr f1]; rfl)
end Go.Proofs.Ytbcbaidnamebkaa.AE
