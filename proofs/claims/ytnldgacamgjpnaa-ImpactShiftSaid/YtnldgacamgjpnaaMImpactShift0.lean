/- The texts that the law ImpactShift needs, part 0. No conditions. -/
import Derived.Test.YtnldgacamgjpnaaMc2
namespace Go.Proofs.Ytnldgacamgjpnaa.Geo
theorem side_neg {x v e lo hi : Int} : loS (-x) (-v) e lo hi = -(hiS x v e lo hi) ∧ hiS (-x) (-v) e lo hi = -(loS x v e lo hi) := by
  have e1 : (-v - e) * lo = -((v + e) * lo) := by grind
  have e2 : (-v - e) * hi = -((v + e) * hi) := by grind
  have e3 : (-v + e) * lo = -((v - e) * lo) := by grind
  have e4 : (-v + e) * hi = -((v - e) * hi) := by grind
  unfold loS hiS
  rw [e1, e2, e3, e4]; omega
theorem side_mv {x v e lo hi d : Int} : loS (x + d) v e lo hi = loS x v e lo hi + d ∧ hiS (x + d) v e lo hi = hiS x v e lo hi + d := by
  unfold loS hiS; omega
end Go.Proofs.Ytnldgacamgjpnaa.Geo

namespace Go.Proofs.Ytnldgacamgjpnaa.AE
set_option linter.unusedVariables false
set_option linter.unusedSimpArgs false
set_option linter.constructorNameAsVariable false
open Go Go.Proofs.Ytnldgacamgjpnaa.Geo
attribute [local irreducible] pcall C0
set_option maxRecDepth 100000
theorem eps_bd (x : Int) : ∃ e, bits .and .i64 x 1023 = e ∧ 0 ≤ e ∧ e ≤ 1023 := ⟨_, rfl, and_i64_bd x 1023 (by omega) (by omega)⟩
end Go.Proofs.Ytnldgacamgjpnaa.AE

namespace Go.Proofs.Ytnldgacamgjpnaa.AE
set_option linter.unusedVariables false
set_option linter.unusedSimpArgs false
set_option linter.constructorNameAsVariable false
open Go
set_option maxRecDepth 100000
/-- apogee/apogeelaw18.ImpactSure -/
theorem r3 (C : Cb) (d : Nat) (a0 a1 a2 a3 a4 a5 a6 a7 a8 a9 a10 a11 a12 a13 a14 a15 : Int) : xcall C M unr d 3 [(.agg [(iz a0), (iz a1), (iz a2), (iz a3), (iz a4), (iz a5), (iz a6), (iz a7)]), (iz a8), (iz a9), (.agg [(iz a10), (iz a11), (iz a12), (iz a13), (iz a14), (iz a15)])] =
 C.agg 8 (pcall M d 8 [(.agg [(iz a0), (iz a1), (iz a2), (iz a3), (iz a4), (iz a5), (iz a6), (iz a7)])]) fun l0 =>
 C.int .i64 l0[0]? fun x1 =>
 C.int .i64 l0[1]? fun x2 =>
 C.int .i64 l0[2]? fun x3 =>
 C.int .i64 l0[3]? fun x4 =>
 C.int .i64 l0[4]? fun x5 =>
 C.int .i64 l0[5]? fun x6 =>
 C.int .i64 l0[6]? fun x7 =>
 C.int .i64 l0[7]? fun x8 =>
 C.tup 2 (pcall M d 9 [(.agg [(iz x1), (iz x2), (iz x3), (iz x4), (iz x5), (iz x6), (iz x7), (iz x8)]), (iz (IntKind.wrap .i64 (1 + (IntKind.wrap .i64 (Int.tmod (IntKind.wrap .u64 a8) 100))))), (iz (bits .and .i64 a9 1023))]) fun l9 =>
 C.agg 4 l9[0]? fun l10 =>
 C.int .i64 l10[0]? fun x11 =>
 C.int .i64 l10[1]? fun x12 =>
 C.int .i64 l10[2]? fun x13 =>
 C.int .i64 l10[3]? fun x14 =>
 C.bool l9[1]? fun b15 =>
 C.bool (pcall M d 10 []) fun b16 =>
 cnd (!b16)
 (some bf)
 (cnd (!b15)
 (some bf)
 (C.agg 8 (pcall M d 11 [(.agg [(iz x1), (iz x2), (iz x3), (iz x4), (iz x5), (iz x6), (iz x7), (iz x8)]), (.agg [(iz a10), (iz a11), (iz a12), (iz a13), (iz a14), (iz a15)]), (iz (bits .and .i64 a9 1023))]) fun l17 =>
 C.int .i64 l17[0]? fun x18 =>
 C.int .i64 l17[1]? fun x19 =>
 C.int .i64 l17[2]? fun x20 =>
 C.int .i64 l17[3]? fun x21 =>
 C.int .i64 l17[4]? fun x22 =>
 C.int .i64 l17[5]? fun x23 =>
 C.int .i64 l17[6]? fun x24 =>
 C.int .i64 l17[7]? fun x25 =>
 cnd (decide (x22 < 0))
 (some bt)
 (C.int .i64 (pcall M d 12 [(iz x22), (iz x25), (iz (IntKind.wrap .i64 (1 + (IntKind.wrap .i64 (Int.tmod (IntKind.wrap .u64 a8) 100)))))]) fun x26 =>
 C.int .i64 (pcall M d 13 [(iz x22), (iz x25), (iz (IntKind.wrap .i64 (1 + (IntKind.wrap .i64 (Int.tmod (IntKind.wrap .u64 a8) 100))))), (iz x26)]) fun x27 =>
 cnd (decide (x27 < 0))
 (some bf)
 (C.int .i64 (pcall M d 13 [(iz x22), (iz x25), (iz (IntKind.wrap .i64 (1 + (IntKind.wrap .i64 (Int.tmod (IntKind.wrap .u64 a8) 100))))), (iz (IntKind.wrap .i64 (x26 + 2)))]) fun x28 =>
 cnd (decide (x28 ≥ 0))
 (some bf)
 (C.agg 2 (pcall M d 15 [(.agg [(iz x18), (iz x19), (iz x20), (iz x21), (iz x22), (iz x23), (iz x24), (iz x25)]), (iz x26)]) fun l29 =>
 C.int .i64 l29[0]? fun x30 =>
 C.int .i64 l29[1]? fun x31 =>
 C.bool (pcall M d 14 [(.agg [(iz x11), (iz x12), (iz x13), (iz x14)]), (.agg [(iz x30), (iz x31)])]) fun b32 =>
 cnd b32
 (C.agg 2 (pcall M d 15 [(.agg [(iz x18), (iz x19), (iz x20), (iz x21), (iz x22), (iz x23), (iz x24), (iz x25)]), (iz (IntKind.wrap .i64 (x26 + 1)))]) fun l33 =>
 C.int .i64 l33[0]? fun x34 =>
 C.int .i64 l33[1]? fun x35 =>
 C.bool (pcall M d 14 [(.agg [(iz x11), (iz x12), (iz x13), (iz x14)]), (.agg [(iz x34), (iz x35)])]) fun b36 =>
 cnd b36
 (C.agg 2 (pcall M d 15 [(.agg [(iz x18), (iz x19), (iz x20), (iz x21), (iz x22), (iz x23), (iz x24), (iz x25)]), (iz (IntKind.wrap .i64 (x26 + 2)))]) fun l37 =>
 C.int .i64 l37[0]? fun x38 =>
 C.int .i64 l37[1]? fun x39 =>
 C.bool (pcall M d 14 [(.agg [(iz x11), (iz x12), (iz x13), (iz x14)]), (.agg [(iz x38), (iz x39)])]) fun b40 =>
 some (.bool b40))
 (some bf))
 (some bf)))))) := by kernel_rfl
end Go.Proofs.Ytnldgacamgjpnaa.AE

namespace Go.Proofs.Ytnldgacamgjpnaa.AE
set_option linter.unusedVariables false
set_option linter.unusedSimpArgs false
set_option linter.constructorNameAsVariable false
open Go
set_option maxRecDepth 100000
/-- apogee/apogeelaw18.ImpactIn -/
theorem r4 (C : Cb) (d : Nat) (a0 a1 a2 a3 a4 a5 a6 a7 a8 a9 a10 a11 a12 a13 a14 a15 a16 : Int) : xcall C M unr d 4 [(.agg [(iz a0), (iz a1), (iz a2), (iz a3), (iz a4), (iz a5), (iz a6), (iz a7)]), (iz a8), (iz a9), (iz a10), (.agg [(iz a11), (iz a12), (iz a13), (iz a14), (iz a15), (iz a16)])] =
 C.agg 8 (pcall M d 8 [(.agg [(iz a0), (iz a1), (iz a2), (iz a3), (iz a4), (iz a5), (iz a6), (iz a7)])]) fun l0 =>
 C.int .i64 l0[0]? fun x1 =>
 C.int .i64 l0[1]? fun x2 =>
 C.int .i64 l0[2]? fun x3 =>
 C.int .i64 l0[3]? fun x4 =>
 C.int .i64 l0[4]? fun x5 =>
 C.int .i64 l0[5]? fun x6 =>
 C.int .i64 l0[6]? fun x7 =>
 C.int .i64 l0[7]? fun x8 =>
 C.agg 8 (pcall M d 11 [(.agg [(iz x1), (iz x2), (iz x3), (iz x4), (iz x5), (iz x6), (iz x7), (iz x8)]), (.agg [(iz a11), (iz a12), (iz a13), (iz a14), (iz a15), (iz a16)]), (iz (bits .and .i64 a10 1023))]) fun l9 =>
 C.int .i64 l9[0]? fun x10 =>
 C.int .i64 l9[1]? fun x11 =>
 C.int .i64 l9[2]? fun x12 =>
 C.int .i64 l9[3]? fun x13 =>
 C.int .i64 l9[4]? fun x14 =>
 C.int .i64 l9[5]? fun x15 =>
 C.int .i64 l9[6]? fun x16 =>
 C.int .i64 l9[7]? fun x17 =>
 C.tup 2 (pcall M d 9 [(.agg [(iz x10), (iz x11), (iz x12), (iz x13), (iz x14), (iz x15), (iz x16), (iz x17)]), (iz (IntKind.wrap .i64 (1 + (IntKind.wrap .i64 (Int.tmod (IntKind.wrap .u64 a8) 100))))), (iz (bits .and .i64 a9 1023))]) fun l18 =>
 C.agg 4 l18[0]? fun l19 =>
 C.int .i64 l19[0]? fun x20 =>
 C.int .i64 l19[1]? fun x21 =>
 C.int .i64 l19[2]? fun x22 =>
 C.int .i64 l19[3]? fun x23 =>
 C.bool l18[1]? fun b24 =>
 C.tup 2 (pcall M d 9 [(.agg [(iz x1), (iz x2), (iz x3), (iz x4), (iz x5), (iz x6), (iz x7), (iz x8)]), (iz (IntKind.wrap .i64 (1 + (IntKind.wrap .i64 (Int.tmod (IntKind.wrap .u64 a8) 100))))), (iz (IntKind.wrap .i64 ((bits .and .i64 a9 1023) + (bits .and .i64 a10 1023))))]) fun l25 =>
 C.agg 4 l25[0]? fun l26 =>
 C.int .i64 l26[0]? fun x27 =>
 C.int .i64 l26[1]? fun x28 =>
 C.int .i64 l26[2]? fun x29 =>
 C.int .i64 l26[3]? fun x30 =>
 C.bool l25[1]? fun b31 =>
 C.bool (pcall M d 10 []) fun b32 =>
 cnd b32
 (cnd b24
 (cnd b31
 (C.bool (pcall M d 16 [(.agg [(iz x20), (iz x21), (iz x22), (iz x23)]), (.agg [(iz x27), (iz x28), (iz x29), (iz x30)])]) fun b33 =>
 some (.bool b33))
 (some bf))
 (some bf))
 (some bf) := by kernel_rfl
end Go.Proofs.Ytnldgacamgjpnaa.AE

namespace Go.Proofs.Ytnldgacamgjpnaa.AE
set_option linter.unusedVariables false
set_option linter.unusedSimpArgs false
set_option linter.constructorNameAsVariable false
open Go
set_option maxRecDepth 100000
/-- apogee/apogeelaw18.ImpactShift -/
theorem r5 (C : Cb) (d : Nat) (a0 a1 a2 a3 a4 a5 a6 a7 a8 a9 a10 a11 : Int) : xcall C M unr d 5 [(.agg [(iz a0), (iz a1), (iz a2), (iz a3), (iz a4), (iz a5), (iz a6), (iz a7)]), (iz a8), (iz a9), (iz a10), (iz a11)] =
 C.agg 8 (pcall M d 8 [(.agg [(iz a0), (iz a1), (iz a2), (iz a3), (iz a4), (iz a5), (iz a6), (iz a7)])]) fun l0 =>
 C.int .i64 l0[0]? fun x1 =>
 C.int .i64 l0[1]? fun x2 =>
 C.int .i64 l0[2]? fun x3 =>
 C.int .i64 l0[3]? fun x4 =>
 C.int .i64 l0[4]? fun x5 =>
 C.int .i64 l0[5]? fun x6 =>
 C.int .i64 l0[6]? fun x7 =>
 C.int .i64 l0[7]? fun x8 =>
 C.tup 2 (pcall M d 9 [(.agg [(iz x1), (iz x2), (iz x3), (iz x4), (iz x5), (iz x6), (iz x7), (iz x8)]), (iz (IntKind.wrap .i64 (1 + (IntKind.wrap .i64 (Int.tmod (IntKind.wrap .u64 a8) 100))))), (iz (bits .and .i64 a9 1023))]) fun l9 =>
 C.agg 4 l9[0]? fun l10 =>
 C.int .i64 l10[0]? fun x11 =>
 C.int .i64 l10[1]? fun x12 =>
 C.int .i64 l10[2]? fun x13 =>
 C.int .i64 l10[3]? fun x14 =>
 C.bool l9[1]? fun b15 =>
 C.tup 2 (pcall M d 9 [(.agg [(iz x1), (iz x2), (iz (IntKind.wrap .i64 (x3 + (Int.tmod a10 1073741824)))), (iz (IntKind.wrap .i64 (x4 + (Int.tmod a11 1073741824)))), (iz x5), (iz x6), (iz x7), (iz x8)]), (iz (IntKind.wrap .i64 (1 + (IntKind.wrap .i64 (Int.tmod (IntKind.wrap .u64 a8) 100))))), (iz (bits .and .i64 a9 1023))]) fun l16 =>
 C.agg 4 l16[0]? fun l17 =>
 C.int .i64 l17[0]? fun x18 =>
 C.int .i64 l17[1]? fun x19 =>
 C.int .i64 l17[2]? fun x20 =>
 C.int .i64 l17[3]? fun x21 =>
 C.bool l16[1]? fun b22 =>
 C.tup 2 (pcall M d 9 [(.agg [(iz x1), (iz x2), (iz (IntKind.wrap .i64 (0 - x3))), (iz x4), (iz x5), (iz (IntKind.wrap .i64 (0 - x6))), (iz x7), (iz x8)]), (iz (IntKind.wrap .i64 (1 + (IntKind.wrap .i64 (Int.tmod (IntKind.wrap .u64 a8) 100))))), (iz (bits .and .i64 a9 1023))]) fun l23 =>
 C.agg 4 l23[0]? fun l24 =>
 C.int .i64 l24[0]? fun x25 =>
 C.int .i64 l24[1]? fun x26 =>
 C.int .i64 l24[2]? fun x27 =>
 C.int .i64 l24[3]? fun x28 =>
 C.bool l23[1]? fun b29 =>
 C.bool (pcall M d 10 []) fun b30 =>
 cnd b30
 (cnd b15
 (cnd b22
 (cnd b29
 (cnd (xor false ((x18 == (IntKind.wrap .i64 (x11 + (Int.tmod a10 1073741824)))) && ((x19 == (IntKind.wrap .i64 (x12 + (Int.tmod a11 1073741824)))) && ((x20 == (IntKind.wrap .i64 (x13 + (Int.tmod a10 1073741824)))) && ((x21 == (IntKind.wrap .i64 (x14 + (Int.tmod a11 1073741824)))) && true)))))
 (some (.bool (xor false ((x25 == (IntKind.wrap .i64 (0 - x13))) && ((x26 == x12) && ((x27 == (IntKind.wrap .i64 (0 - x11))) && ((x28 == x14) && true)))))))
 (some bf))
 (some bf))
 (some bf))
 (some bf))
 (some bf) := by kernel_rfl
end Go.Proofs.Ytnldgacamgjpnaa.AE

namespace Go.Proofs.Ytnldgacamgjpnaa.AE
set_option linter.unusedVariables false
set_option linter.unusedSimpArgs false
set_option linter.constructorNameAsVariable false
open Go Go.Proofs.Ytnldgacamgjpnaa.Geo
attribute [local irreducible] pcall C0
set_option maxRecDepth 100000
theorem eq4 {a b c d a' b' c' d' : Int} (h1 : a = a') (h2 : b = b') (h3 : c = c') (h4 : d = d') : (xor false ((a == a') && ((b == b') && ((c == c') && ((d == d') && true))))) = true := by
  subst h1 h2 h3 h4; simp
theorem shift_core (n : Nav) (g e x y : Int) : pcall M 41 5 [nv n, .int .i64 g, .int .i64 e, .int .i64 x, .int .i64 y] = some (.bool true) := told (r5 C0 40 _ _ _ _ _ _ _ _ _ _ _ _) (by
  obtain ⟨n, q, hn⟩ := heldI 39 n
  refine Eq.trans (pl_agg q (by rfl)) ?_
  repeat with_reducible first | refine tt sh_ptr ?_ | refine tt sh_fptr ?_ | refine tt w2 ?_ | refine tt w3 ?_ | refine tt w8 ?_ | refine tt w9 ?_ | refine tt wf ?_ | refine tt wg ?_ | refine tt wh ?_ | refine tt wi ?_ | refine tt wj ?_ | refine tt wk ?_ | refine tt wl ?_ | refine tt wn ?_ | refine tt c_ort ?_ | refine tt c_nt ?_ | refine tt c_nf ?_ | refine tt (cnd_t _ _) ?_ | refine tt (cnd_f _ _) ?_ | refine tt w6 ?_ | refine tt w4 ?_ | refine tt w5 ?_ | refine tt w7 ?_ | refine tt wm ?_ | refine tt wo ?_ | refine tt wx ?_ | refine tt nil_ptr ?_ | refine tt len_lst ?_ | refine tt len_zsl ?_
  obtain ⟨g, eg, g0, g1⟩ := grav_bd g 100 (by omega) (by omega)
  obtain ⟨e, ee, e0, e1⟩ := eps_bd e
  have bx := tmod_bd x 1073741824 (by omega)
  have by' := tmod_bd y 1073741824 (by omega)
  have hn' := hn
  unfold HeldN at hn'
  rw [eg, ee]
  generalize Int.tmod x 1073741824 = x at *
  generalize Int.tmod y 1073741824 = y at *
  rw [i64_small (n := n.x + x) (by omega) (by omega), i64_small (n := n.y + y) (by omega) (by omega), i64_small (n := 0 - n.x) (by omega) (by omega), i64_small (n := 0 - n.vx) (by omega) (by omega)]
  have hb := held_mayB hn g0 g1 e0 (show e ≤ 2048 by omega)
  have hm : MayB ⟨n.c, n.fl, n.x + x, n.y + y, n.z, n.vx, n.vy, n.vz⟩ g e := ⟨hb.1, hb.2.1, by unfold MayN; simp only; omega⟩
  have hk : MayB ⟨n.c, n.fl, 0 - n.x, n.y, n.z, 0 - n.vx, n.vy, n.vz⟩ g e := ⟨hb.1, hb.2.1, by unfold MayN; simp only; omega⟩
  obtain ⟨lo, hi, q1, f1, f2⟩ := boxI 32 n g e hb
  have r1 := box_right hb f1 f2
  obtain ⟨lo', hi', q2, f3, f4⟩ := boxI 32 _ g e hm
  have r2 := box_right hm f3 f4
  obtain ⟨lo'', hi'', q3, f5, f6⟩ := boxI 32 _ g e hk
  have r3 := box_right hk f5 f6
  have h1 := falls_one f3 f1; have h2 := falls_one f4 f2; have h3 := falls_one f5 f1; have h4 := falls_one f6 f2
  subst h1 h2 h3 h4
  have e2 : boxN ⟨n.c, n.fl, n.x + x, n.y + y, n.z, n.vx, n.vy, n.vz⟩ e lo'' (hi'' + 2) = (((boxN n e lo'' (hi'' + 2)).1.1 + x, (boxN n e lo'' (hi'' + 2)).1.2 + y), ((boxN n e lo'' (hi'' + 2)).2.1 + x, (boxN n e lo'' (hi'' + 2)).2.2 + y)) := by
    unfold boxN; simp only [side_mv.1, side_mv.2]
  have e3 : boxN ⟨n.c, n.fl, 0 - n.x, n.y, n.z, 0 - n.vx, n.vy, n.vz⟩ e lo'' (hi'' + 2) = ((-(boxN n e lo'' (hi'' + 2)).2.1, (boxN n e lo'' (hi'' + 2)).1.2), (-(boxN n e lo'' (hi'' + 2)).1.1, (boxN n e lo'' (hi'' + 2)).2.2)) := by
    unfold boxN; simp only [Int.zero_sub, side_neg.1, side_neg.2]
  rw [e2] at q2 r2
  rw [e3] at q3 r3
  rw [r1] at q1
  rw [r2] at q2
  rw [r3] at q3
  generalize boxN n e lo'' (hi'' + 2) = B at *
  refine Eq.trans (pl_tup q1 (by rfl)) ?_
  repeat with_reducible first | refine tt sh_ptr ?_ | refine tt sh_fptr ?_ | refine tt w2 ?_ | refine tt w3 ?_ | refine tt w8 ?_ | refine tt w9 ?_ | refine tt wf ?_ | refine tt wg ?_ | refine tt wh ?_ | refine tt wi ?_ | refine tt wj ?_ | refine tt wk ?_ | refine tt wl ?_ | refine tt wn ?_ | refine tt c_ort ?_ | refine tt c_nt ?_ | refine tt c_nf ?_ | refine tt (cnd_t _ _) ?_ | refine tt (cnd_f _ _) ?_ | refine tt w6 ?_ | refine tt w4 ?_ | refine tt w5 ?_ | refine tt w7 ?_ | refine tt wm ?_ | refine tt wo ?_ | refine tt wx ?_ | refine tt nil_ptr ?_ | refine tt len_lst ?_ | refine tt len_zsl ?_
  refine Eq.trans (pl_tup q2 (by rfl)) ?_
  repeat with_reducible first | refine tt sh_ptr ?_ | refine tt sh_fptr ?_ | refine tt w2 ?_ | refine tt w3 ?_ | refine tt w8 ?_ | refine tt w9 ?_ | refine tt wf ?_ | refine tt wg ?_ | refine tt wh ?_ | refine tt wi ?_ | refine tt wj ?_ | refine tt wk ?_ | refine tt wl ?_ | refine tt wn ?_ | refine tt c_ort ?_ | refine tt c_nt ?_ | refine tt c_nf ?_ | refine tt (cnd_t _ _) ?_ | refine tt (cnd_f _ _) ?_ | refine tt w6 ?_ | refine tt w4 ?_ | refine tt w5 ?_ | refine tt w7 ?_ | refine tt wm ?_ | refine tt wo ?_ | refine tt wx ?_ | refine tt nil_ptr ?_ | refine tt len_lst ?_ | refine tt len_zsl ?_
  refine Eq.trans (pl_tup q3 (by rfl)) ?_
  repeat with_reducible first | refine tt sh_ptr ?_ | refine tt sh_fptr ?_ | refine tt w2 ?_ | refine tt w3 ?_ | refine tt w8 ?_ | refine tt w9 ?_ | refine tt wf ?_ | refine tt wg ?_ | refine tt wh ?_ | refine tt wi ?_ | refine tt wj ?_ | refine tt wk ?_ | refine tt wl ?_ | refine tt wn ?_ | refine tt c_ort ?_ | refine tt c_nt ?_ | refine tt c_nf ?_ | refine tt (cnd_t _ _) ?_ | refine tt (cnd_f _ _) ?_ | refine tt w6 ?_ | refine tt w4 ?_ | refine tt w5 ?_ | refine tt w7 ?_ | refine tt wm ?_ | refine tt wo ?_ | refine tt wx ?_ | refine tt nil_ptr ?_ | refine tt len_lst ?_ | refine tt len_zsl ?_
  refine Eq.trans (pl_bool awake) ?_
  repeat with_reducible first | refine tt sh_ptr ?_ | refine tt sh_fptr ?_ | refine tt w2 ?_ | refine tt w3 ?_ | refine tt w8 ?_ | refine tt w9 ?_ | refine tt wf ?_ | refine tt wg ?_ | refine tt wh ?_ | refine tt wi ?_ | refine tt wj ?_ | refine tt wk ?_ | refine tt wl ?_ | refine tt wn ?_ | refine tt c_ort ?_ | refine tt c_nt ?_ | refine tt c_nf ?_ | refine tt (cnd_t _ _) ?_ | refine tt (cnd_f _ _) ?_ | refine tt w6 ?_ | refine tt w4 ?_ | refine tt w5 ?_ | refine tt w7 ?_ | refine tt wm ?_ | refine tt wo ?_ | refine tt wx ?_ | refine tt nil_ptr ?_ | refine tt len_lst ?_ | refine tt len_zsl ?_
  obtain ⟨⟨⟨u1, u2⟩, u3, u4⟩, ⟨⟨u5, u6⟩, u7, u8⟩, ux, uy⟩ := rightX_t.mp r1
  rw [eq4 (i64_small (n := B.1.1 + x) (by omega) (by omega)).symm (i64_small (n := B.1.2 + y) (by omega) (by omega)).symm (i64_small (n := B.2.1 + x) (by omega) (by omega)).symm (i64_small (n := B.2.2 + y) (by omega) (by omega)).symm, cnd_t,
    eq4 (by rw [i64_small (n := 0 - B.2.1) (by omega) (by omega)]; simp only; omega) rfl (by rw [i64_small (n := 0 - B.1.1) (by omega) (by omega)]; simp only; omega) rfl])
theorem law_ImpactShift (a0_0 : Int) (a0_1 : Int) (a0_2 : Int) (a0_3 : Int) (a0_4 : Int) (a0_5 : Int) (a0_6 : Int) (a0_7 : Int) (a1 : Int) (a2 : Int) (a3 : Int) (a4 : Int) (w0_0 : (Lit.int .i64 a0_0).wf = true) (w0_1 : (Lit.int .i64 a0_1).wf = true) (w0_2 : (Lit.int .i64 a0_2).wf = true) (w0_3 : (Lit.int .i64 a0_3).wf = true) (w0_4 : (Lit.int .i64 a0_4).wf = true) (w0_5 : (Lit.int .i64 a0_5).wf = true) (w0_6 : (Lit.int .i64 a0_6).wf = true) (w0_7 : (Lit.int .i64 a0_7).wf = true) (w1 : (Lit.int .i64 a1).wf = true) (w2 : (Lit.int .i64 a2).wf = true) (w3 : (Lit.int .i64 a3).wf = true) (w4 : (Lit.int .i64 a4).wf = true) :
    pcall M 41 5 [.agg [.int .i64 a0_0, .int .i64 a0_1, .int .i64 a0_2, .int .i64 a0_3, .int .i64 a0_4, .int .i64 a0_5, .int .i64 a0_6, .int .i64 a0_7], .int .i64 a1, .int .i64 a2, .int .i64 a3, .int .i64 a4] = some (.bool true) := shift_core ⟨a0_0, a0_1, a0_2, a0_3, a0_4, a0_5, a0_6, a0_7⟩ a1 a2 a3 a4
end Go.Proofs.Ytnldgacamgjpnaa.AE
