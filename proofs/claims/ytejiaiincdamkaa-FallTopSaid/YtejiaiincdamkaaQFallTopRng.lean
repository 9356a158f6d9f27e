/- Ranges of what a law cuts its inputs down to. -/
import Derived.Test.YtejiaiincdamkaaPFallTopx
namespace Go.Proofs.Ytejiaiincdamkaa.PFallTop
open Go.RowKit Go.Proofs.YtejiaiincdamkaaW.PrintWords Go.Proofs.YtejiaiincdamkaaW.PrintLast

theorem and_i64_bd (x m : Int) (h0 : 0 ≤ m) (h1 : m < 9223372036854775808) : 0 ≤ Go.bits .and .i64 x m ∧ Go.bits .and .i64 x m ≤ m := by
  show 0 ≤ IntKind.i64.wrap ((BitVec.ofInt 64 x &&& BitVec.ofInt 64 m).toNat : Int) ∧ IntKind.i64.wrap ((BitVec.ofInt 64 x &&& BitVec.ofInt 64 m).toNat : Int) ≤ m
  have e : ((BitVec.ofInt 64 m).toNat : Int) = m := by rw [BitVec.toNat_ofInt]; omega
  have h : (BitVec.ofInt 64 x &&& BitVec.ofInt 64 m).toNat ≤ (BitVec.ofInt 64 m).toNat := by rw [BitVec.toNat_and]; exact Nat.and_le_right
  rw [i64w]; omega
theorem tmod_bd (x c : Int) (hc : 0 < c) : -c < Int.tmod x c ∧ Int.tmod x c < c := by
  refine ⟨?_, Int.tmod_lt_of_pos _ hc⟩
  have h := Int.tmod_lt_of_pos (-x) hc
  rw [Int.neg_tmod] at h; omega
theorem u64_tmod_bd (x c : Int) (hc : 0 < c) : 0 ≤ Int.tmod (IntKind.u64.wrap x) c ∧ Int.tmod (IntKind.u64.wrap x) c < c :=
  ⟨Int.tmod_nonneg _ (by rw [u64w]; omega), Int.tmod_lt_of_pos _ hc⟩
theorem wrapw (n : Int) (h : -9223372036854775808 ≤ n) (h' : n < 9223372036854775808) : wrap64 n = n := by unfold wrap64; omega
theorem grav_bd (x c : Int) (hc : 0 < c) (hc' : c < 1000) : ∃ g, wrap64 (1 + (wrap64 (Int.tmod (IntKind.u64.wrap x) c))) = g ∧ 1 ≤ g ∧ g ≤ c := by
  have h := u64_tmod_bd x c hc
  refine ⟨_, rfl, ?_⟩
  rw [wrapw (Int.tmod _ _) (by omega) (by omega), wrapw _ (by omega) (by omega)]; omega
end Go.Proofs.Ytejiaiincdamkaa.PFallTop
