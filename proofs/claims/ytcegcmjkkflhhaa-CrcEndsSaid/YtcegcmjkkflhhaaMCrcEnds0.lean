/- The texts that the law CrcEnds needs, part 0. No conditions. -/
import Derived.Test.YtcegcmjkkflhhaaMc2
namespace Go.Proofs.Ytcegcmjkkflhhaa.Geo
set_option linter.unusedVariables false
theorem sh_zero : sh 0#16 = 0#16 := by decide
theorem shN_zero : ∀ n : Nat, shN n 0#16 = 0#16
  | 0 => rfl
  | n + 1 => by rw [shN, sh_zero, shN_zero n]
theorem moreH_app (x : BitVec 16) (s t : List UInt8) : moreH (moreH x s) t = moreH x (s ++ t) := by unfold moreH; rw [List.foldl_append]
/-- A sum behind its own text. -/
theorem sum_end (x : BitVec 16) : moreH x [UInt8.ofNat (x.toNat / 256), UInt8.ofNat (x.toNat % 256)] = 0#16 := by
  have hx := x.isLt
  have e1 : b16 (UInt8.ofNat (x.toNat / 256)) = BitVec.ofNat 16 (x.toNat / 256) := by
    apply BitVec.eq_of_toNat_eq
    simp [b16]
    omega
  have e2 : b16 (UInt8.ofNat (x.toNat % 256)) = BitVec.ofNat 16 (x.toNat % 256) := by
    apply BitVec.eq_of_toNat_eq
    simp [b16]
  have e3 : BitVec.ofNat 16 (x.toNat / 256) <<< 8 = BitVec.ofNat 16 (x.toNat / 256 * 256) := by
    apply BitVec.eq_of_toNat_eq
    rw [BitVec.toNat_shiftLeft, BitVec.toNat_ofNat, BitVec.toNat_ofNat, Nat.shiftLeft_eq]; omega
  have e4 : BitVec.ofNat 16 (x.toNat % 256) <<< 8 = BitVec.ofNat 16 (x.toNat % 256 * 256) := by
    apply BitVec.eq_of_toNat_eq
    rw [BitVec.toNat_shiftLeft, BitVec.toNat_ofNat, BitVec.toNat_ofNat, Nat.shiftLeft_eq]; omega
  have e5 : x ^^^ BitVec.ofNat 16 (x.toNat / 256 * 256) = BitVec.ofNat 16 (x.toNat % 256) := by
    have h0 : x = BitVec.ofNat 16 (x.toNat / 256 * 256) ^^^ BitVec.ofNat 16 (x.toNat % 256) := by
      apply BitVec.eq_of_toNat_eq
      rw [BitVec.toNat_xor, BitVec.toNat_ofNat, BitVec.toNat_ofNat, Nat.mod_eq_of_lt (by omega), Nat.mod_eq_of_lt (by omega)]
      have h1 := Nat.two_pow_add_eq_or_of_lt (i := 8) (b := x.toNat % 256) (by omega) (x.toNat / 256)
      have h2 : x.toNat / 256 * 256 ^^^ x.toNat % 256 = x.toNat / 256 * 256 ||| x.toNat % 256 := by
        apply Nat.eq_of_testBit_eq
        intro i
        rw [Nat.testBit_xor, Nat.testBit_or]
        rcases Nat.lt_or_ge i 8 with hi | hi
        · have : (x.toNat / 256 * 256).testBit i = false := by
            rw [show x.toNat / 256 * 256 = 2 ^ 8 * (x.toNat / 256) by omega, Nat.testBit_two_pow_mul]; simp; omega
          rw [this]; simp
        · have : (x.toNat % 256).testBit i = false := Nat.testBit_lt_two_pow (Nat.lt_of_lt_of_le (Nat.mod_lt _ (by decide)) (show 2 ^ 8 ≤ 2 ^ i from Nat.pow_le_pow_right (by decide) hi))
          rw [this]; simp
      rw [h2]
      rw [show 2 ^ 8 * (x.toNat / 256) = x.toNat / 256 * 256 by omega] at h1
      rw [← h1]; omega
    conv => lhs; lhs; rw [h0]
    rw [BitVec.xor_comm, ← BitVec.xor_assoc, BitVec.xor_self, BitVec.zero_xor]
  unfold moreH
  rw [List.foldl_cons, List.foldl_cons, List.foldl_nil]
  unfold byteH
  rw [e1, e2, e3, e4, e5]
  have := up16 ⟨x.toNat % 256, Nat.mod_lt _ (by decide)⟩
  simp only at this
  rw [this, BitVec.xor_self, shN_zero]
end Go.Proofs.Ytcegcmjkkflhhaa.Geo

namespace Go.Proofs.Ytcegcmjkkflhhaa.AE
set_option linter.unusedVariables false
set_option linter.unusedSimpArgs false
set_option linter.constructorNameAsVariable false
open Go
set_option maxRecDepth 100000
/-- apogee/apogeelaw04.CrcEnds -/
theorem r7 (C : Cb) (d : Nat) (a0 : List UInt8) : xcall C M unr d 7 [(.str a0)] =
 C.bool (pcall M d 9 []) fun b0 =>
 cnd (!b0)
 (C.bool (pcall M d 9 []) fun b1 =>
 some (.bool b1))
 (cnd (decide ((((List.length a0) : Nat) : Int) > 2000))
 (C.bool (pcall M d 9 []) fun b2 =>
 some (.bool b2))
 (C.int .u16 (pcall M d 10 [(.str a0)]) fun x3 =>
 cnd (decide (((List.length a0) + 2) ≤ 9223372036854775807))
 (C.int .u16 (pcall M d 10 [(.str (a0 ++ [(UInt8.ofNat (Int.toNat (IntKind.wrap .u8 (Int.fdiv x3 (2 ^ (min (Int.toNat 8) 16)))))), (UInt8.ofNat (Int.toNat (IntKind.wrap .u8 x3)))]))]) fun x4 =>
 some (.bool (x4 == 0)))
 (none))) := by kernel_rfl
end Go.Proofs.Ytcegcmjkkflhhaa.AE

namespace Go.Proofs.Ytcegcmjkkflhhaa.AE
set_option linter.unusedVariables false
set_option linter.unusedSimpArgs false
set_option linter.constructorNameAsVariable false
open Go Go.Proofs.Ytcegcmjkkflhhaa.Geo
attribute [local irreducible] pcall C0
set_option maxRecDepth 100000
theorem ends_law (s : List UInt8) : pcall M 41 7 [.str s] = some (.bool true) := told (r7 C0 40 _) (by
  refine Eq.trans (pl_bool awake) ?_
  refine Eq.trans (pl_f (by rfl)) ?_
  by_cases hl : s.length > 2000
  · rw [decide_eq_true (by omega), cnd_t]; exact Eq.trans (pl_bool awake) rfl
  rw [decide_eq_false (by omega), cnd_f]
  refine Eq.trans (pl_int (s10 37 s (by omega))) ?_
  rw [decide_eq_true (by omega), cnd_t]
  have hx := (sumH s).isLt
  have e1 : UInt8.ofNat (Int.toNat (IntKind.wrap .u8 (Int.fdiv (w16 (sumH s)) (2 ^ (min (Int.toNat 8) 16))))) = UInt8.ofNat ((sumH s).toNat / 256) := by rw [hi16]; rfl
  have e2 : UInt8.ofNat (Int.toNat (IntKind.wrap .u8 (w16 (sumH s)))) = UInt8.ofNat ((sumH s).toNat % 256) := by
    rw [u8wr]
    congr 1
  rw [e1, e2]
  refine Eq.trans (pl_int (s10 37 _ (by simp; omega))) ?_
  have : sumH (s ++ [UInt8.ofNat ((sumH s).toNat / 256), UInt8.ofNat ((sumH s).toNat % 256)]) = 0#16 := by
    unfold sumH
    rw [← moreH_app]
    exact sum_end _
  rw [this]; rfl)
theorem law_CrcEnds (a0 : List UInt8) (w0 : a0.length ≤ maxLen) :
    pcall M 41 7 [.str a0] = some (.bool true) := ends_law a0
end Go.Proofs.Ytcegcmjkkflhhaa.AE
