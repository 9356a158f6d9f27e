/- The document's numbers of 128 bits: bits, and back. No conditions. -/
import Derived.Test.YtbcbaidnamebkaaAElp
import Derived.Test.YtbcbaidnamebkaaAEhp
import Derived.Test.YtbcbaidnamebkaaAEbin
namespace Go.Proofs.Ytbcbaidnamebkaa.AE
set_option linter.unusedVariables false
set_option linter.unusedSimpArgs false
set_option linter.constructorNameAsVariable false
open Go
/-- A number of 128 bits, as a value. -/
abbrev wd (n : Int) : AV := .agg [.int .i64 (hiw n), .int .u64 (low n)]
theorem low_rng (n : Int) : 0 ≤ low n ∧ low n < 18446744073709551616 := by unfold low; omega
theorem u_hiw (n : Int) : IntKind.wrap .u64 (hiw n) = n / 18446744073709551616 % 18446744073709551616 := by unfold hiw; rw [i64w, u64w]; omega
theorem shr1 {x : Int} {i : Nat} (hi : i < 64) (h : 0 ≤ x) (h' : x < 18446744073709551616) : IntKind.wrap .i64 (bits .and .u64 (Int.fdiv x (2 ^ (min (Int.toNat (i : Int)) 64))) 1) = x / 2 ^ i % 2 := by
  rw [show min (Int.toNat (i : Int)) 64 = i by omega, Int.fdiv_eq_ediv_of_nonneg _ (Int.le_of_lt (pow64 i hi).1)]
  have hp := pow64 i hi
  have h1 : 0 ≤ x / 2 ^ i := Int.ediv_nonneg h (by omega)
  have h2 : x / 2 ^ i < 18446744073709551616 := Int.lt_of_le_of_lt (Int.ediv_le_self _ h) h'
  have := u64_mask 1 (by decide) h1 h2
  rw [show ((2 : Int) ^ 1 - 1) = 1 by decide, show ((2 : Int) ^ 1) = 2 by decide] at this
  rw [this, i64w]; omega
theorem wrap_succ (i : Nat) (h : i < 1000000000000000000) : IntKind.wrap .i64 ((i : Int) + 1) = ((i + 1 : Nat) : Int) := by rw [i64w]; omega

theorem bits1 (d : Nat) (n : Int) : ∀ (k i f : Nat) (H : Heap) (v : AV) (l : List Int), i + k = 64 → k < f → l.length = 64 + i → hget H 0 = some ⟨E43, [wd n]⟩ → Own H E3 v (iv l) → ¬ names v 0 →
    L45_1 d (.ptr 0 0 0) f v (i : Nat) H = some (.lst (iv (l ++ ((List.range k).map fun j => n / 18446744073709551616 % 18446744073709551616 / 2 ^ (i + j) % 2)))) := by
  intro k
  induction k with
  | zero =>
    intro i f H v l hi hf hl h0 ho hn
    obtain ⟨f, rfl⟩ : ∃ g, f = g + 1 := ⟨f - 1, by omega⟩
    rw [L45_1, decide_eq_false (by omega), cnd_f, X45_1_0, snap_iv ho]; simp
  | succ k ih =>
    intro i f H v l hi hf hl h0 ho hn
    obtain ⟨f, rfl⟩ : ∃ g, f = g + 1 := ⟨f - 1, by omega⟩
    rw [L45_1, decide_eq_true (by omega), cnd_t, sh_ptr, ld_ptr h0 (by rfl) (by rfl), C0_int, decide_eq_false (by omega), cnd_f, u_hiw, shr1 (by omega) (by omega) (by omega)]
    obtain ⟨v', H', e, ho', hn', _, hk⟩ := app_one (x := .int .i64 (n / 18446744073709551616 % 18446744073709551616 / 2 ^ i % 2)) ho (by rfl) (by rw [iv_len, hl]; change (64 + i + 1) * 8 ≤ _; omega) (by rw [iv_len]; omega)
    rw [e, wrap_succ i (by omega), ih (i + 1) f H' v' (l ++ [n / 18446744073709551616 % 18446744073709551616 / 2 ^ i % 2]) (by omega) (by omega) (by simp; omega) (hk 0 _ hn h0) (by rw [iv_app]; exact ho') (fun hc => by have := hn' 0 hc; omega)]
    rw [List.append_assoc, List.range_succ_eq_map]
    simp [Nat.add_assoc, Nat.add_comm 1, List.map_map, Function.comp_def]
end Go.Proofs.Ytbcbaidnamebkaa.AE
