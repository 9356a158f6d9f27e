/- The law PointTells, plainly. No conditions. -/
import Derived.Test.YtbcbaidnamebkaaAEptref
import Derived.Test.YtbcbaidnamebkaaAEarg
namespace Go.Proofs.Ytbcbaidnamebkaa.AE
set_option linter.unusedVariables false
set_option linter.unusedSimpArgs false
set_option linter.constructorNameAsVariable false
open Go Go.Proofs.Ytbcbaidnamebkaa.Geo
set_option maxRecDepth 100000
theorem awake : pcall M 40 9 [] = some (.bool true) := by kernel_rfl
theorem tells_core (a b c e : Pt) : pcall M 41 3 [pt a, pt b, pt c, pt e] = some (.bool true) := told (r3 C0 40 _ _ _ _ _ _ _ _) (by
  have R1 := s10 38 a
  have R2 := s11 39 a
  have t1 := s12 33 a b c
  have t2 := s13 35 a b c
  have o1 := s14 32 a b c
  have o2 := s15 34 a b c
  have m1 := s16 31 a b c e
  have m2 := s17 33 a b c e
  simp only [pt] at R1 R2 t1 t2 o1 o2 m1 m2
  rw [awake, R1, R2, t1, t2, o1, o2, m1, m2]
  simp [C0_bool, C0_int, cnd_t])
theorem law_PointTells (a0_0 : Int) (a0_1 : Int) (a1_0 : Int) (a1_1 : Int) (a2_0 : Int) (a2_1 : Int) (a3_0 : Int) (a3_1 : Int) (w0_0 : (Lit.int .i64 a0_0).wf = true) (w0_1 : (Lit.int .i64 a0_1).wf = true) (w1_0 : (Lit.int .i64 a1_0).wf = true) (w1_1 : (Lit.int .i64 a1_1).wf = true) (w2_0 : (Lit.int .i64 a2_0).wf = true) (w2_1 : (Lit.int .i64 a2_1).wf = true) (w3_0 : (Lit.int .i64 a3_0).wf = true) (w3_1 : (Lit.int .i64 a3_1).wf = true) :
    pcall M 41 3 [.agg [.int .i64 a0_0, .int .i64 a0_1], .agg [.int .i64 a1_0, .int .i64 a1_1], .agg [.int .i64 a2_0, .int .i64 a2_1], .agg [.int .i64 a3_0, .int .i64 a3_1]] = some (.bool true) := tells_core (a0_0, a0_1) (a1_0, a1_1) (a2_0, a2_1) (a3_0, a3_1)
end Go.Proofs.Ytbcbaidnamebkaa.AE
