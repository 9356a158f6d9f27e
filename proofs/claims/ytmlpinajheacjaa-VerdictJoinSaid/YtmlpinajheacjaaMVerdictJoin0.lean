/- The texts that the law VerdictJoin needs, part 0. No conditions. -/
import Derived.Test.YtmlpinajheacjaaMc4
namespace Go.Proofs.Ytmlpinajheacjaa.AE
set_option linter.unusedVariables false
set_option linter.unusedSimpArgs false
set_option linter.constructorNameAsVariable false
open Go Go.Proofs.Ytmlpinajheacjaa.Geo
attribute [local irreducible] pcall C0
set_option maxRecDepth 100000
theorem u64_tmod_bd (x c : Int) (hc : 0 < c) : 0 ≤ Int.tmod (IntKind.u64.wrap x) c ∧ Int.tmod (IntKind.u64.wrap x) c < c :=
  ⟨Int.tmod_nonneg _ (by rw [u64w]; omega), Int.tmod_lt_of_pos _ hc⟩
theorem grav_bd (x c : Int) (hc : 0 < c) (hc' : c < 1000) : ∃ g, IntKind.wrap .i64 (1 + (IntKind.wrap .i64 (Int.tmod (IntKind.wrap .u64 x) c))) = g ∧ 1 ≤ g ∧ g ≤ c := by
  have h := u64_tmod_bd x c hc
  refine ⟨_, rfl, ?_⟩
  rw [i64_small (n := Int.tmod _ _) (by omega) (by omega), i64_small (by omega) (by omega)]; omega
end Go.Proofs.Ytmlpinajheacjaa.AE

namespace Go.Proofs.Ytmlpinajheacjaa.AE
set_option linter.unusedVariables false
set_option linter.unusedSimpArgs false
set_option linter.constructorNameAsVariable false
open Go
set_option maxRecDepth 100000
/-- apogee/apogeelaw19.VerdictJoin -/
theorem r4 (C : Cb) (d : Nat) (a0 a1 a2 : Int) : xcall C M unr d 4 [(iz a0), (iz a1), (iz a2)] =
 C.int .i64 (pcall M d 11 [(iz (IntKind.wrap .i64 (1 + (IntKind.wrap .i64 (Int.tmod (IntKind.wrap .u64 a0) 4))))), (iz (IntKind.wrap .i64 (1 + (IntKind.wrap .i64 (Int.tmod (IntKind.wrap .u64 a1) 4)))))]) fun x0 =>
 C.bool (pcall M d 6 []) fun b1 =>
 cnd b1
 (C.int .i64 (pcall M d 12 [(iz (IntKind.wrap .i64 (1 + (IntKind.wrap .i64 (Int.tmod (IntKind.wrap .u64 a0) 4))))), (iz (IntKind.wrap .i64 (1 + (IntKind.wrap .i64 (Int.tmod (IntKind.wrap .u64 a1) 4)))))]) fun x2 =>
 cnd (x0 == x2)
 (C.int .i64 (pcall M d 11 [(iz (IntKind.wrap .i64 (1 + (IntKind.wrap .i64 (Int.tmod (IntKind.wrap .u64 a1) 4))))), (iz (IntKind.wrap .i64 (1 + (IntKind.wrap .i64 (Int.tmod (IntKind.wrap .u64 a0) 4)))))]) fun x3 =>
 cnd (x0 == x3)
 (C.int .i64 (pcall M d 11 [(iz (IntKind.wrap .i64 (1 + (IntKind.wrap .i64 (Int.tmod (IntKind.wrap .u64 a0) 4))))), (iz (IntKind.wrap .i64 (1 + (IntKind.wrap .i64 (Int.tmod (IntKind.wrap .u64 a0) 4)))))]) fun x4 =>
 cnd (x4 == (IntKind.wrap .i64 (1 + (IntKind.wrap .i64 (Int.tmod (IntKind.wrap .u64 a0) 4)))))
 (cnd ((IntKind.wrap .i64 (1 + (IntKind.wrap .i64 (Int.tmod (IntKind.wrap .u64 a0) 4)))) != 3)
 (C.int .i64 (pcall M d 11 [(iz x0), (iz (IntKind.wrap .i64 (1 + (IntKind.wrap .i64 (Int.tmod (IntKind.wrap .u64 a2) 4)))))]) fun x5 =>
 C.int .i64 (pcall M d 11 [(iz (IntKind.wrap .i64 (1 + (IntKind.wrap .i64 (Int.tmod (IntKind.wrap .u64 a1) 4))))), (iz (IntKind.wrap .i64 (1 + (IntKind.wrap .i64 (Int.tmod (IntKind.wrap .u64 a2) 4)))))]) fun x6 =>
 C.int .i64 (pcall M d 11 [(iz (IntKind.wrap .i64 (1 + (IntKind.wrap .i64 (Int.tmod (IntKind.wrap .u64 a0) 4))))), (iz x6)]) fun x7 =>
 cnd (x5 == x7)
 (C.int .i64 (pcall M d 11 [(iz (IntKind.wrap .i64 (1 + (IntKind.wrap .i64 (Int.tmod (IntKind.wrap .u64 a0) 4))))), (iz 0)]) fun x8 =>
 C.int .i64 (pcall M d 11 [(iz (IntKind.wrap .i64 (1 + (IntKind.wrap .i64 (Int.tmod (IntKind.wrap .u64 a0) 4))))), (iz 4)]) fun x9 =>
 cnd (x8 == x9)
 (C.bool (pcall M d 13 [(iz (IntKind.wrap .i64 (1 + (IntKind.wrap .i64 (Int.tmod (IntKind.wrap .u64 a0) 4)))))]) fun b10 =>
 cnd ((IntKind.wrap .i64 (1 + (IntKind.wrap .i64 (Int.tmod (IntKind.wrap .u64 a0) 4)))) == 1)
 (some (.bool (xor false (b10 == true))))
 (some (.bool (xor false (b10 == ((IntKind.wrap .i64 (1 + (IntKind.wrap .i64 (Int.tmod (IntKind.wrap .u64 a0) 4)))) == 3))))))
 (some bf))
 (some bf))
 (cnd (x0 == 3)
 (C.int .i64 (pcall M d 11 [(iz x0), (iz (IntKind.wrap .i64 (1 + (IntKind.wrap .i64 (Int.tmod (IntKind.wrap .u64 a2) 4)))))]) fun x11 =>
 C.int .i64 (pcall M d 11 [(iz (IntKind.wrap .i64 (1 + (IntKind.wrap .i64 (Int.tmod (IntKind.wrap .u64 a1) 4))))), (iz (IntKind.wrap .i64 (1 + (IntKind.wrap .i64 (Int.tmod (IntKind.wrap .u64 a2) 4)))))]) fun x12 =>
 C.int .i64 (pcall M d 11 [(iz (IntKind.wrap .i64 (1 + (IntKind.wrap .i64 (Int.tmod (IntKind.wrap .u64 a0) 4))))), (iz x12)]) fun x13 =>
 cnd (x11 == x13)
 (C.int .i64 (pcall M d 11 [(iz (IntKind.wrap .i64 (1 + (IntKind.wrap .i64 (Int.tmod (IntKind.wrap .u64 a0) 4))))), (iz 0)]) fun x14 =>
 C.int .i64 (pcall M d 11 [(iz (IntKind.wrap .i64 (1 + (IntKind.wrap .i64 (Int.tmod (IntKind.wrap .u64 a0) 4))))), (iz 4)]) fun x15 =>
 cnd (x14 == x15)
 (C.bool (pcall M d 13 [(iz (IntKind.wrap .i64 (1 + (IntKind.wrap .i64 (Int.tmod (IntKind.wrap .u64 a0) 4)))))]) fun b16 =>
 cnd ((IntKind.wrap .i64 (1 + (IntKind.wrap .i64 (Int.tmod (IntKind.wrap .u64 a0) 4)))) == 1)
 (some (.bool (xor false (b16 == true))))
 (some (.bool (xor false (b16 == ((IntKind.wrap .i64 (1 + (IntKind.wrap .i64 (Int.tmod (IntKind.wrap .u64 a0) 4)))) == 3))))))
 (some bf))
 (some bf))
 (some bf)))
 (some bf))
 (some bf))
 (some bf))
 (some bf) := by kernel_rfl
end Go.Proofs.Ytmlpinajheacjaa.AE

namespace Go.Proofs.Ytmlpinajheacjaa.AE
set_option linter.unusedVariables false
set_option linter.unusedSimpArgs false
set_option linter.constructorNameAsVariable false
open Go Go.Proofs.Ytmlpinajheacjaa.Geo
set_option maxRecDepth 100000
def jT (a b : Int) : Int := if a = 3 ∨ b = 3 then 3 else if (a = 4 ∨ a = 0) ∧ (b = 4 ∨ b = 0) then 4 else if a = 2 ∨ b = 2 then 2 else 1
theorem join_law (a b c : Int) : pcall M 41 4 [.int .i64 a, .int .i64 b, .int .i64 c] = some (.bool true) := told (r4 C0 40 _ _ _) (by
  obtain ⟨a, ea, a0, a1⟩ := grav_bd a 4 (by omega) (by omega)
  obtain ⟨b, eb, b0, b1⟩ := grav_bd b 4 (by omega) (by omega)
  obtain ⟨c, ec, c0, c1⟩ := grav_bd c 4 (by omega) (by omega)
  rw [ea, eb, ec]
  have J : pcall M 40 11 [.int .i64 a, .int .i64 b] = some (.int .i64 (jT a b)) := by
    have ja : a = 1 ∨ a = 2 ∨ a = 3 ∨ a = 4 := by omega
    have jb : b = 1 ∨ b = 2 ∨ b = 3 ∨ b = 4 := by omega
    rcases ja with rfl | rfl | rfl | rfl <;> rcases jb with rfl | rfl | rfl | rfl <;> exact ran (by kernel_rfl)
  refine Eq.trans (pl_int J) ?_
  refine Eq.trans (pl_bool awake) ?_
  have ja : a = 1 ∨ a = 2 ∨ a = 3 ∨ a = 4 := by omega
  have jb : b = 1 ∨ b = 2 ∨ b = 3 ∨ b = 4 := by omega
  have jc : c = 1 ∨ c = 2 ∨ c = 3 ∨ c = 4 := by omega
  clear J ea eb ec
  rcases ja with rfl | rfl | rfl | rfl <;> rcases jb with rfl | rfl | rfl | rfl <;> rcases jc with rfl | rfl | rfl | rfl <;> (show (_ : Ans) = _; kernel_rfl))
theorem law_VerdictJoin (a0 : Int) (a1 : Int) (a2 : Int) (w0 : (Lit.int .i64 a0).wf = true) (w1 : (Lit.int .i64 a1).wf = true) (w2 : (Lit.int .i64 a2).wf = true) :
    pcall M 41 4 [.int .i64 a0, .int .i64 a1, .int .i64 a2] = some (.bool true) := join_law a0 a1 a2
end Go.Proofs.Ytmlpinajheacjaa.AE
