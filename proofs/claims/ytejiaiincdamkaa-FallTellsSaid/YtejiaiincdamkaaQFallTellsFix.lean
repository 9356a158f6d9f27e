/- Plain laws of the printed checked numbers: sums of 64 bits. -/
import Derived.Test.YtejiaiincdamkaaPFallTellsx
namespace Go.Proofs.Ytejiaiincdamkaa.PFallTells
open Go.RowKit Go.Proofs.YtejiaiincdamkaaW.PrintWords Go.Proofs.YtejiaiincdamkaaW.PrintLast

theorem int_spec (s : Int) (h : -170141183460469231731687303715884105728 ≤ s) (h' : s < 170141183460469231731687303715884105728) :
    wide_Wide_Int.f (s / 18446744073709551616) (s % 18446744073709551616) = if -9223372036854775808 ≤ s ∧ s < 9223372036854775808 then some (s, true) else some (0, false) := by
  unfold wide_Wide_Int.f wide_Of.f
  simp only [Option.bind_some]
  have e2 : IntKind.u64.wrap (wrap64 (s % 18446744073709551616)) = s % 18446744073709551616 := by rw [u64w]; unfold wrap64; omega
  rw [e2]
  have e1 : wrap64 (s % 18446744073709551616) / 9223372036854775808 = if s % 18446744073709551616 < 9223372036854775808 then 0 else -1 := by
    unfold wrap64; split <;> omega
  rw [e1]
  by_cases hr : -9223372036854775808 ≤ s ∧ s < 9223372036854775808
  · rw [if_pos hr]
    have : wrap64 (s % 18446744073709551616) = s := by unfold wrap64; omega
    rw [this, if_neg]
    simp only [beq_self_eq_true, Bool.not_true, Bool.or_false, Bool.not_eq_true']
    rw [beq_eq_false_iff_ne, Decidable.not_not]
    split <;> omega
  · rw [if_neg hr, if_pos]
    simp only [beq_self_eq_true, Bool.not_true, Bool.or_false]
    rw [Bool.not_eq_true', beq_eq_false_iff_ne]
    split <;> omega

theorem fix_Add_spec (a b : Int) (ha : -9223372036854775808 ≤ a) (ha' : a < 9223372036854775808) (hb : -9223372036854775808 ≤ b) (hb' : b < 9223372036854775808) :
    fix_Add.f a b = if -9223372036854775808 ≤ a + b ∧ a + b < 9223372036854775808 then some (a + b, true) else some (0, false) := by
  unfold fix_Add.f wide_Of.f
  simp only [Option.bind_some]
  unfold wide_Wide_Add.f
  have ea : a / 9223372036854775808 * 18446744073709551616 + IntKind.u64.wrap a = a := by rw [u64w]; omega
  have eb : b / 9223372036854775808 * 18446744073709551616 + IntKind.u64.wrap b = b := by rw [u64w]; omega
  have ua : 0 ≤ IntKind.u64.wrap a ∧ IntKind.u64.wrap a < 18446744073709551616 := by rw [u64w]; omega
  have ub : 0 ≤ IntKind.u64.wrap b ∧ IntKind.u64.wrap b < 18446744073709551616 := by rw [u64w]; omega
  generalize IntKind.u64.wrap a = la at *
  generalize IntKind.u64.wrap b = lb at *
  have e1 : a / 9223372036854775808 + b / 9223372036854775808 + (la + lb) / 18446744073709551616 = (a + b) / 18446744073709551616 := by omega
  have e2 : (la + lb) % 18446744073709551616 = (a + b) % 18446744073709551616 := by omega
  rw [if_pos (by omega), e1, e2, if_pos (by omega)]
  simp only [Option.bind_some]
  unfold fix_told.f
  rw [if_pos rfl, int_spec (a + b) (by omega) (by omega)]
  by_cases h : -9223372036854775808 ≤ a + b ∧ a + b < 9223372036854775808
  · rw [if_pos h]; rfl
  · rw [if_neg h]; rfl

theorem fix_Add_in (a b : Int) (ha : -9223372036854775808 ≤ a) (ha' : a < 9223372036854775808) (hb : -9223372036854775808 ≤ b) (hb' : b < 9223372036854775808) (h : -9223372036854775808 ≤ a + b) (h' : a + b < 9223372036854775808) :
    fix_Add.f a b = some (a + b, true) := by rw [fix_Add_spec a b ha ha' hb hb', if_pos ⟨h, h'⟩]
end Go.Proofs.Ytejiaiincdamkaa.PFallTells
