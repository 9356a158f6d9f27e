/- Rows of bits, the least first: plain laws. No conditions. -/
import Derived.Test.YtbcbaidnamebkaaAEnum
namespace Go.Proofs.Ytbcbaidnamebkaa.AE
set_option linter.unusedVariables false
set_option linter.unusedSimpArgs false
open Go

def bin : List Int → Int
  | [] => 0
  | x :: l => x + 2 * bin l
def bitl (n : Int) : Nat → List Int
  | 0 => []
  | k + 1 => n % 2 :: bitl (n / 2) k
theorem bin_app (l m : List Int) : bin (l ++ m) = bin l + 2 ^ l.length * bin m := by
  induction l with
  | nil => simp [bin]
  | cons x l ih => simp only [List.cons_append, bin, ih, List.length_cons, Int.pow_succ]; grind
theorem bitl_len (n : Int) (k : Nat) : (bitl n k).length = k := by
  induction k generalizing n with
  | zero => rfl
  | succ k ih => simp [bitl, ih]
theorem bitl_snoc (n : Int) (k : Nat) : bitl n (k + 1) = bitl n k ++ [n / 2 ^ k % 2] := by
  induction k generalizing n with
  | zero => simp [bitl]
  | succ k ih =>
    rw [bitl, ih (n / 2), bitl]
    simp only [List.cons_append]
    rw [Int.ediv_ediv_of_nonneg (by decide), Int.pow_succ, Int.mul_comm (2 ^ k) 2]
theorem bin_bitl (n : Int) (k : Nat) : bin (bitl n k) = n % 2 ^ k := by
  induction k generalizing n with
  | zero => simp [bitl, bin]
  | succ k ih =>
    simp only [bitl, bin, ih]
    have hp : (0 : Int) < 2 ^ k := Int.pow_pos (by decide)
    have e1 := Int.mul_ediv_add_emod (n / 2) (2 ^ k)
    have e2 := Int.emod_nonneg (n / 2) (show (2 : Int) ^ k ≠ 0 by omega)
    have e3 := Int.emod_lt_of_pos (n / 2) hp
    rw [Int.pow_succ]
    symm
    have e0 : n = n % 2 + 2 * (n / 2 % 2 ^ k) + (2 ^ k * 2) * (n / 2 / 2 ^ k) := by
      rw [Int.mul_assoc (2 ^ k) 2, Int.mul_left_comm (2 ^ k) 2]; omega
    rw [e0]
    rw [Int.add_mul_emod_self_left]
    have h2 : (n % 2 + 2 * (n / 2 % 2 ^ k) + 2 ^ k * 2 * (n / 2 / 2 ^ k)) = n := e0.symm
    rw [h2]
    exact Int.emod_eq_of_lt (by omega) (by omega)
def Bits (l : List Int) : Prop := ∀ x ∈ l, x = 0 ∨ x = 1
theorem bin_nonneg {l : List Int} (h : Bits l) : 0 ≤ bin l ∧ bin l < 2 ^ l.length := by
  induction l with
  | nil => simp [bin]
  | cons x l ih =>
    have := ih fun y hy => h y (List.mem_cons_of_mem _ hy)
    have hx := h x (List.mem_cons_self ..)
    simp only [bin, List.length_cons, Int.pow_succ]
    omega
theorem bitl_bits (n : Int) (k : Nat) : Bits (bitl n k) := by
  induction k generalizing n with
  | zero => intro x hx; cases hx
  | succ k ih =>
    intro x hx
    rcases List.mem_cons.mp hx with rfl | hx
    · omega
    · exact ih _ x hx
theorem bits_app {l m : List Int} : Bits (l ++ m) ↔ Bits l ∧ Bits m := by
  unfold Bits; simp only [List.mem_append]
  exact ⟨fun h => ⟨fun x hx => h x (.inl hx), fun x hx => h x (.inr hx)⟩, fun h x hx => hx.elim (h.1 x) (h.2 x)⟩
theorem u64_or_pow {x : Int} {i : Nat} (hi : i < 64) (h : 0 ≤ x) (h' : x < 2 ^ i) : Go.bits .or .u64 x (2 ^ i) = x + 2 ^ i := by
  obtain ⟨n, rfl⟩ := Int.eq_ofNat_of_zero_le h
  have hn : n < 2 ^ i := by exact_mod_cast h'
  have hp : (2 : Nat) ^ i < 2 ^ 64 := Nat.pow_lt_pow_right (by decide) hi
  have hp2 : (2 : Nat) ^ i + 2 ^ i ≤ 2 ^ 64 := by
    have := Nat.pow_le_pow_right (n := 2) (by decide) (show i + 1 ≤ 64 by omega)
    rw [Nat.pow_succ] at this; omega
  show IntKind.u64.wrap ((BitVec.ofInt 64 (n : Int) ||| BitVec.ofInt 64 ((2 : Int) ^ i)).toNat : Int) = _
  rw [show ((2 : Int) ^ i) = ((2 ^ i : Nat) : Int) by simp, BitVec.toNat_or, BitVec.ofInt_natCast, BitVec.ofInt_natCast, BitVec.toNat_ofNat, BitVec.toNat_ofNat, Nat.mod_eq_of_lt (by omega), Nat.mod_eq_of_lt hp]
  have := Nat.two_pow_add_eq_or_of_lt (i := i) hn 1
  rw [Nat.mul_one] at this
  rw [Nat.or_comm, ← this, u64_small (by omega) (by omega)]
  simp; omega
theorem pow64 (i : Nat) (hi : i < 64) : (0 : Int) < 2 ^ i ∧ (2 : Int) ^ i < 18446744073709551616 := by
  constructor
  · exact Int.pow_pos (by decide)
  · have : (2 : Nat) ^ i < 2 ^ 64 := Nat.pow_lt_pow_right (by decide) hi
    have h2 : ((2 ^ i : Nat) : Int) < ((2 ^ 64 : Nat) : Int) := by exact_mod_cast this
    simpa using h2
end Go.Proofs.Ytbcbaidnamebkaa.AE
