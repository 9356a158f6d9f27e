/- The texts that the law ImpactIn needs, part 0. No conditions. -/
import Derived.Test.YtnldgacamgjpnaaMc2
namespace Go.Proofs.Ytnldgacamgjpnaa.AE
set_option linter.unusedVariables false
set_option linter.unusedSimpArgs false
set_option linter.constructorNameAsVariable false
open Go
set_option maxRecDepth 100000
/-- apogee/apogeeref10.Right -/
theorem r27 (C : Cb) (d : Nat) (a0 a1 : Int) : xcall C M unr d 27 [(.agg [(iz a0), (iz a1)])] =
 cnd (decide (a0 ≥ (-1099511627776)))
 (cnd (decide (a0 ≤ 1099511627776))
 (cnd (decide (a1 ≥ (-1099511627776)))
 (some (.bool (decide (a1 ≤ 1099511627776))))
 (some bf))
 (some bf))
 (some bf) := by kernel_rfl
end Go.Proofs.Ytnldgacamgjpnaa.AE

namespace Go.Proofs.Ytnldgacamgjpnaa.AE
set_option linter.unusedVariables false
set_option linter.unusedSimpArgs false
set_option linter.constructorNameAsVariable false
open Go Go.Proofs.Ytnldgacamgjpnaa.Geo
theorem s27 (d : Nat) (p : Pt) : pcall M (d + 1) 27 [pt p] = some (.bool (decide (OkP p))) := told (r27 C0 d _ _) (by
  unfold OkP Okc
  by_cases h1 : p.1 ≥ -1099511627776 <;> by_cases h2 : p.1 ≤ 1099511627776 <;> by_cases h3 : p.2 ≥ -1099511627776 <;> by_cases h4 : p.2 ≤ 1099511627776 <;> simp [h1, h2, h3, h4, cnd_t, cnd_f])
end Go.Proofs.Ytnldgacamgjpnaa.AE

namespace Go.Proofs.Ytnldgacamgjpnaa.Geo
/-- With less eps, and times within: within. -/
theorem side_in {x v e lo hi x' v' e' lo' hi' : Int} (h0 : 0 ≤ lo') (h1 : lo' ≤ lo) (h2 : lo ≤ hi) (h3 : hi ≤ hi') (hx : x' - e' ≤ x - e) (hx' : x + e ≤ x' + e') (hv : v' - e' ≤ v - e) (hv' : v + e ≤ v' + e') :
    loS x' v' e' lo' hi' ≤ loS x v e lo hi ∧ hiS x v e lo hi ≤ hiS x' v' e' lo' hi' := by
  have a1 := lin_lo (v := v' - e') (lo := lo') (hi := hi') (s := lo) h1 (by omega)
  have a2 := lin_lo (v := v' - e') (lo := lo') (hi := hi') (s := hi) (by omega) h3
  have b1 := lin_hi (v := v' + e') (lo := lo') (hi := hi') (s := lo) h1 (by omega)
  have b2 := lin_hi (v := v' + e') (lo := lo') (hi := hi') (s := hi) (by omega) h3
  have c1 := sl_mono hv (show 0 ≤ lo by omega)
  have c2 := sl_mono hv (show 0 ≤ hi by omega)
  have d1 := sl_mono hv' (show 0 ≤ lo by omega)
  have d2 := sl_mono hv' (show 0 ≤ hi by omega)
  unfold loS hiS; omega
end Go.Proofs.Ytnldgacamgjpnaa.Geo

namespace Go.Proofs.Ytnldgacamgjpnaa.AE
set_option linter.unusedVariables false
set_option linter.unusedSimpArgs false
set_option linter.constructorNameAsVariable false
open Go
set_option maxRecDepth 100000
/-- apogee/apogeeref12.Has -/
theorem r14 (C : Cb) (d : Nat) (a0 a1 a2 a3 a4 a5 : Int) : xcall C M unr d 14 [(.agg [(iz a0), (iz a1), (iz a2), (iz a3)]), (.agg [(iz a4), (iz a5)])] =
 C.bool (pcall M d 26 [(.agg [(iz a0), (iz a1), (iz a2), (iz a3)])]) fun b0 =>
 cnd b0
 (C.bool (pcall M d 27 [(.agg [(iz a4), (iz a5)])]) fun b1 =>
 cnd b1
 (cnd (decide (a4 ≥ a0))
 (cnd (decide (a4 ≤ a2))
 (cnd (decide (a5 ≥ a1))
 (some (.bool (decide (a5 ≤ a3))))
 (some bf))
 (some bf))
 (some bf))
 (some bf))
 (some bf) := by kernel_rfl
/-- apogee/apogeeref12.In -/
theorem r16 (C : Cb) (d : Nat) (a0 a1 a2 a3 a4 a5 a6 a7 : Int) : xcall C M unr d 16 [(.agg [(iz a0), (iz a1), (iz a2), (iz a3)]), (.agg [(iz a4), (iz a5), (iz a6), (iz a7)])] =
 C.bool (pcall M d 26 [(.agg [(iz a0), (iz a1), (iz a2), (iz a3)])]) fun b0 =>
 cnd b0
 (C.bool (pcall M d 14 [(.agg [(iz a4), (iz a5), (iz a6), (iz a7)]), (.agg [(iz a0), (iz a1)])]) fun b1 =>
 cnd b1
 (C.bool (pcall M d 14 [(.agg [(iz a4), (iz a5), (iz a6), (iz a7)]), (.agg [(iz a2), (iz a3)])]) fun b2 =>
 some (.bool b2))
 (some bf))
 (some bf) := by kernel_rfl
/-- apogee/apogeeref12.Right -/
theorem r26 (C : Cb) (d : Nat) (a0 a1 a2 a3 : Int) : xcall C M unr d 26 [(.agg [(iz a0), (iz a1), (iz a2), (iz a3)])] =
 C.bool (pcall M d 27 [(.agg [(iz a0), (iz a1)])]) fun b0 =>
 cnd b0
 (C.bool (pcall M d 27 [(.agg [(iz a2), (iz a3)])]) fun b1 =>
 cnd b1
 (cnd (decide (a0 ≤ a2))
 (some (.bool (decide (a1 ≤ a3))))
 (some bf))
 (some bf))
 (some bf) := by kernel_rfl
end Go.Proofs.Ytnldgacamgjpnaa.AE

namespace Go.Proofs.Ytnldgacamgjpnaa.Geo
def HasB (x0 y0 x1 y1 : Int) (p : Pt) : Prop := x0 ≤ p.1 ∧ p.1 ≤ x1 ∧ y0 ≤ p.2 ∧ p.2 ≤ y1
instance (x0 y0 x1 y1 : Int) (p : Pt) : Decidable (HasB x0 y0 x1 y1 p) := by unfold HasB; infer_instance
end Go.Proofs.Ytnldgacamgjpnaa.Geo

namespace Go.Proofs.Ytnldgacamgjpnaa.AE
set_option linter.unusedVariables false
set_option linter.unusedSimpArgs false
set_option linter.constructorNameAsVariable false
open Go Go.Proofs.Ytnldgacamgjpnaa.Geo
def hasX (b : Bx) (p : Pt) : Bool := rightX b && (okb p && (decide (b.1.1 ≤ p.1) && (decide (p.1 ≤ b.2.1) && (decide (b.1.2 ≤ p.2) && decide (p.2 ≤ b.2.2)))))
def inX (a b : Bx) : Bool := rightX a && (hasX b a.1 && hasX b a.2)
theorem hasX_t {b : Bx} {p : Pt} : hasX b p = true ↔ rightX b = true ∧ OkP p ∧ HasB b.1.1 b.1.2 b.2.1 b.2.2 p := by
  unfold hasX HasB; simp only [Bool.and_eq_true, okb_t, decide_eq_true_iff]
theorem s26 (d : Nat) (b : Bx) : pcall M (d + 2) 26 [bx b] = some (.bool (rightX b)) := told (r26 C0 (d + 1) _ _ _ _) (by
  refine Eq.trans (pl_bool (s27 d b.1)) ?_
  unfold rightX
  change cnd (okb b.1) _ _ = _
  cases okb b.1
  · rfl
  · refine Eq.trans (pl_len (by rfl)) ?_
    refine Eq.trans (pl_bool (s27 d b.2)) ?_
    change cnd (okb b.2) _ _ = _
    cases okb b.2
    · rfl
    · refine Eq.trans (pl_len (by rfl)) ?_; cases decide (b.1.1 ≤ b.2.1) <;> rfl)
theorem s14 (d : Nat) (b : Bx) (p : Pt) : pcall M (d + 3) 14 [bx b, pt p] = some (.bool (hasX b p)) := told (r14 C0 (d + 2) _ _ _ _ _ _) (by
  refine Eq.trans (pl_bool (s26 d b)) ?_
  unfold hasX
  cases rightX b
  · rfl
  · refine Eq.trans (pl_len (by rfl)) ?_
    refine Eq.trans (pl_bool (s27 (d + 1) p)) ?_
    change cnd (okb p) _ _ = _
    cases okb p
    · rfl
    · refine Eq.trans (pl_len (by rfl)) ?_
      change cnd (decide (b.1.1 ≤ p.1)) (cnd (decide (p.1 ≤ b.2.1)) (cnd (decide (b.1.2 ≤ p.2)) (some (.bool (decide (p.2 ≤ b.2.2)))) _) _) _ = _
      cases decide (b.1.1 ≤ p.1) <;> cases decide (p.1 ≤ b.2.1) <;> cases decide (b.1.2 ≤ p.2) <;> rfl)
theorem s16 (d : Nat) (a b : Bx) : pcall M (d + 4) 16 [bx a, bx b] = some (.bool (inX a b)) := told (r16 C0 (d + 3) _ _ _ _ _ _ _ _) (by
  refine Eq.trans (pl_bool (s26 (d + 1) a)) ?_
  unfold inX
  cases rightX a
  · rfl
  · refine Eq.trans (pl_len (by rfl)) ?_
    refine Eq.trans (pl_bool (s14 d b a.1)) ?_
    cases hasX b a.1
    · rfl
    · refine Eq.trans (pl_len (by rfl)) ?_
      exact pl_bool (s14 d b a.2))
end Go.Proofs.Ytnldgacamgjpnaa.AE

namespace Go.Proofs.Ytnldgacamgjpnaa.AE
set_option linter.unusedVariables false
set_option linter.unusedSimpArgs false
set_option linter.constructorNameAsVariable false
open Go
set_option maxRecDepth 100000
/-- apogee/apogeelaw18.Off -/
theorem r11 (C : Cb) (d : Nat) (a0 a1 a2 a3 a4 a5 a6 a7 a8 a9 a10 a11 a12 a13 a14 : Int) : xcall C M unr d 11 [(.agg [(iz a0), (iz a1), (iz a2), (iz a3), (iz a4), (iz a5), (iz a6), (iz a7)]), (.agg [(iz a8), (iz a9), (iz a10), (iz a11), (iz a12), (iz a13)]), (iz a14)] =
 cnd (decide ((IntKind.wrap .i64 (a14 + 1)) = 0))
 (none)
 (cnd (decide ((IntKind.wrap .i64 (a14 + 1)) = 0))
 (none)
 (cnd (decide ((IntKind.wrap .i64 (a14 + 1)) = 0))
 (none)
 (cnd (decide ((IntKind.wrap .i64 (a14 + 1)) = 0))
 (none)
 (cnd (decide ((IntKind.wrap .i64 (a14 + 1)) = 0))
 (none)
 (cnd (decide ((IntKind.wrap .i64 (a14 + 1)) = 0))
 (none)
 (some (.agg [(iz a0), (iz a1), (iz (IntKind.wrap .i64 (a2 + (Int.tmod a8 (IntKind.wrap .i64 (a14 + 1)))))), (iz (IntKind.wrap .i64 (a3 + (Int.tmod a9 (IntKind.wrap .i64 (a14 + 1)))))), (iz (IntKind.wrap .i64 (a4 + (Int.tmod a10 (IntKind.wrap .i64 (a14 + 1)))))), (iz (IntKind.wrap .i64 (a5 + (Int.tmod a11 (IntKind.wrap .i64 (a14 + 1)))))), (iz (IntKind.wrap .i64 (a6 + (Int.tmod a12 (IntKind.wrap .i64 (a14 + 1)))))), (iz (IntKind.wrap .i64 (a7 + (Int.tmod a13 (IntKind.wrap .i64 (a14 + 1))))))]))))))) := by kernel_rfl
end Go.Proofs.Ytnldgacamgjpnaa.AE

namespace Go.Proofs.Ytnldgacamgjpnaa.AE
set_option linter.unusedVariables false
set_option linter.unusedSimpArgs false
set_option linter.constructorNameAsVariable false
open Go Go.Proofs.Ytnldgacamgjpnaa.Geo
attribute [local irreducible] pcall C0
set_option maxRecDepth 100000
theorem eps_bd (x : Int) : ∃ e, bits .and .i64 x 1023 = e ∧ 0 ≤ e ∧ e ≤ 1023 := ⟨_, rfl, and_i64_bd x 1023 (by omega) (by omega)⟩
/-- Within e in all numbers. -/
def Near (n m : Nav) (e : Int) : Prop := (n.x - e ≤ m.x ∧ m.x ≤ n.x + e) ∧ (n.y - e ≤ m.y ∧ m.y ≤ n.y + e) ∧ (n.z - e ≤ m.z ∧ m.z ≤ n.z + e) ∧ (n.vx - e ≤ m.vx ∧ m.vx ≤ n.vx + e) ∧ (n.vy - e ≤ m.vy ∧ m.vy ≤ n.vy + e) ∧ (n.vz - e ≤ m.vz ∧ m.vz ≤ n.vz + e)
theorem offI (d : Nat) (n : Nav) (d0 d1 d2 d3 d4 d5 e : Int) (hn : HeldN n) (e0 : 0 ≤ e) (e1 : e ≤ 1023) :
    ∃ m, pcall M (d + 1) 11 [nv n, .agg [.int .i64 d0, .int .i64 d1, .int .i64 d2, .int .i64 d3, .int .i64 d4, .int .i64 d5], .int .i64 e] = some (nv m) ∧ Near n m e := by
  obtain ⟨hx, hy, hz, hvx, hvy, hvz⟩ := hn
  have b := fun x => tmod_bd x (e + 1) (by omega)
  refine ⟨⟨n.c, n.fl, n.x + Int.tmod d0 (e + 1), n.y + Int.tmod d1 (e + 1), n.z + Int.tmod d2 (e + 1), n.vx + Int.tmod d3 (e + 1), n.vy + Int.tmod d4 (e + 1), n.vz + Int.tmod d5 (e + 1)⟩, told (r11 C0 d _ _ _ _ _ _ _ _ _ _ _ _ _ _ _) ?_, ?_⟩
  · have b0 := b d0; have b1 := b d1; have b2 := b d2; have b3 := b d3; have b4 := b d4; have b5 := b d5
    rw [i64_small (n := e + 1) (by omega) (by omega), decide_eq_false (show ¬ e + 1 = 0 by omega)]
    simp only [cnd_f]
    rw [i64_small (n := n.x + _) (by omega) (by omega), i64_small (n := n.y + _) (by omega) (by omega), i64_small (n := n.z + _) (by omega) (by omega), i64_small (n := n.vx + _) (by omega) (by omega), i64_small (n := n.vy + _) (by omega) (by omega), i64_small (n := n.vz + _) (by omega) (by omega)]
  · have b0 := b d0; have b1 := b d1; have b2 := b d2; have b3 := b d3; have b4 := b d4; have b5 := b d5
    unfold Near; simp only; omega
theorem near_may {n m : Nav} {e : Int} (h : HeldN n) (k : Near n m e) (he : e ≤ 1023) : MayN m := by unfold HeldN at h; unfold Near at k; unfold MayN; omega
theorem near_mayB {n m : Nav} {g e f : Int} (h : HeldN n) (k : Near n m e) (he : e ≤ 1023) (g0 : 1 ≤ g) (g1 : g ≤ 100) (e0 : 0 ≤ f) (e1 : f ≤ 2048) : MayB m g f := ⟨by unfold HeldN at h; unfold Near at k; unfold May; omega, ⟨e0, e1⟩, near_may h k he⟩
/-- With less eps, around a place within the rest of it. -/
theorem box_in {n m : Nav} {e w lo hi lo' hi' : Int} (k : Near n m w) (e0 : 0 ≤ e) (h : rightX (boxN m e lo hi) = true) (h' : rightX (boxN n (e + w) lo' hi') = true) (l0 : 0 ≤ lo') (h1 : lo' ≤ lo) (h2 : lo ≤ hi) (h3 : hi ≤ hi') : inX (boxN m e lo hi) (boxN n (e + w) lo' hi') = true := by
  obtain ⟨kx, ky, _, kvx, kvy, _⟩ := k
  have x := side_in (x := m.x) (v := m.vx) (e := e) (lo := lo) (hi := hi) (x' := n.x) (v' := n.vx) (e' := e + w) (lo' := lo') (hi' := hi') l0 h1 h2 h3 (by omega) (by omega) (by omega) (by omega)
  have y := side_in (x := m.y) (v := m.vy) (e := e) (lo := lo) (hi := hi) (x' := n.y) (v' := n.vy) (e' := e + w) (lo' := lo') (hi' := hi') l0 h1 h2 h3 (by omega) (by omega) (by omega) (by omega)
  unfold boxN at h h' ⊢
  rw [rightX_t] at h h'
  unfold inX
  simp only [Bool.and_eq_true, hasX_t, rightX_t, HasB]
  obtain ⟨o1, o2, o3, o4⟩ := h
  obtain ⟨p1, p2, p3, p4⟩ := h'
  simp only at o3 o4 p3 p4
  exact ⟨⟨o1, o2, o3, o4⟩, ⟨⟨p1, p2, p3, p4⟩, o1, by omega⟩, ⟨p1, p2, p3, p4⟩, o2, by omega⟩
end Go.Proofs.Ytnldgacamgjpnaa.AE

namespace Go.Proofs.Ytnldgacamgjpnaa.AE
set_option linter.unusedVariables false
set_option linter.unusedSimpArgs false
set_option linter.constructorNameAsVariable false
open Go
set_option maxRecDepth 100000
/-- apogee/apogeelaw18.ImpactSure -/
theorem r3 (C : Cb) (d : Nat) (a0 a1 a2 a3 a4 a5 a6 a7 a8 a9 a10 a11 a12 a13 a14 a15 : Int) : xcall C M unr d 3 [(.agg [(iz a0), (iz a1), (iz a2), (iz a3), (iz a4), (iz a5), (iz a6), (iz a7)]), (iz a8), (iz a9), (.agg [(iz a10), (iz a11), (iz a12), (iz a13), (iz a14), (iz a15)])] =
 C.agg 8 (pcall M d 8 [(.agg [(iz a0), (iz a1), (iz a2), (iz a3), (iz a4), (iz a5), (iz a6), (iz a7)])]) fun l0 =>
 C.int .i64 l0[0]? fun x1 =>
 C.int .i64 l0[1]? fun x2 =>
 C.int .i64 l0[2]? fun x3 =>
 C.int .i64 l0[3]? fun x4 =>
 C.int .i64 l0[4]? fun x5 =>
 C.int .i64 l0[5]? fun x6 =>
 C.int .i64 l0[6]? fun x7 =>
 C.int .i64 l0[7]? fun x8 =>
 C.tup 2 (pcall M d 9 [(.agg [(iz x1), (iz x2), (iz x3), (iz x4), (iz x5), (iz x6), (iz x7), (iz x8)]), (iz (IntKind.wrap .i64 (1 + (IntKind.wrap .i64 (Int.tmod (IntKind.wrap .u64 a8) 100))))), (iz (bits .and .i64 a9 1023))]) fun l9 =>
 C.agg 4 l9[0]? fun l10 =>
 C.int .i64 l10[0]? fun x11 =>
 C.int .i64 l10[1]? fun x12 =>
 C.int .i64 l10[2]? fun x13 =>
 C.int .i64 l10[3]? fun x14 =>
 C.bool l9[1]? fun b15 =>
 C.bool (pcall M d 10 []) fun b16 =>
 cnd (!b16)
 (some bf)
 (cnd (!b15)
 (some bf)
 (C.agg 8 (pcall M d 11 [(.agg [(iz x1), (iz x2), (iz x3), (iz x4), (iz x5), (iz x6), (iz x7), (iz x8)]), (.agg [(iz a10), (iz a11), (iz a12), (iz a13), (iz a14), (iz a15)]), (iz (bits .and .i64 a9 1023))]) fun l17 =>
 C.int .i64 l17[0]? fun x18 =>
 C.int .i64 l17[1]? fun x19 =>
 C.int .i64 l17[2]? fun x20 =>
 C.int .i64 l17[3]? fun x21 =>
 C.int .i64 l17[4]? fun x22 =>
 C.int .i64 l17[5]? fun x23 =>
 C.int .i64 l17[6]? fun x24 =>
 C.int .i64 l17[7]? fun x25 =>
 cnd (decide (x22 < 0))
 (some bt)
 (C.int .i64 (pcall M d 12 [(iz x22), (iz x25), (iz (IntKind.wrap .i64 (1 + (IntKind.wrap .i64 (Int.tmod (IntKind.wrap .u64 a8) 100)))))]) fun x26 =>
 C.int .i64 (pcall M d 13 [(iz x22), (iz x25), (iz (IntKind.wrap .i64 (1 + (IntKind.wrap .i64 (Int.tmod (IntKind.wrap .u64 a8) 100))))), (iz x26)]) fun x27 =>
 cnd (decide (x27 < 0))
 (some bf)
 (C.int .i64 (pcall M d 13 [(iz x22), (iz x25), (iz (IntKind.wrap .i64 (1 + (IntKind.wrap .i64 (Int.tmod (IntKind.wrap .u64 a8) 100))))), (iz (IntKind.wrap .i64 (x26 + 2)))]) fun x28 =>
 cnd (decide (x28 ≥ 0))
 (some bf)
 (C.agg 2 (pcall M d 15 [(.agg [(iz x18), (iz x19), (iz x20), (iz x21), (iz x22), (iz x23), (iz x24), (iz x25)]), (iz x26)]) fun l29 =>
 C.int .i64 l29[0]? fun x30 =>
 C.int .i64 l29[1]? fun x31 =>
 C.bool (pcall M d 14 [(.agg [(iz x11), (iz x12), (iz x13), (iz x14)]), (.agg [(iz x30), (iz x31)])]) fun b32 =>
 cnd b32
 (C.agg 2 (pcall M d 15 [(.agg [(iz x18), (iz x19), (iz x20), (iz x21), (iz x22), (iz x23), (iz x24), (iz x25)]), (iz (IntKind.wrap .i64 (x26 + 1)))]) fun l33 =>
 C.int .i64 l33[0]? fun x34 =>
 C.int .i64 l33[1]? fun x35 =>
 C.bool (pcall M d 14 [(.agg [(iz x11), (iz x12), (iz x13), (iz x14)]), (.agg [(iz x34), (iz x35)])]) fun b36 =>
 cnd b36
 (C.agg 2 (pcall M d 15 [(.agg [(iz x18), (iz x19), (iz x20), (iz x21), (iz x22), (iz x23), (iz x24), (iz x25)]), (iz (IntKind.wrap .i64 (x26 + 2)))]) fun l37 =>
 C.int .i64 l37[0]? fun x38 =>
 C.int .i64 l37[1]? fun x39 =>
 C.bool (pcall M d 14 [(.agg [(iz x11), (iz x12), (iz x13), (iz x14)]), (.agg [(iz x38), (iz x39)])]) fun b40 =>
 some (.bool b40))
 (some bf))
 (some bf)))))) := by kernel_rfl
end Go.Proofs.Ytnldgacamgjpnaa.AE

namespace Go.Proofs.Ytnldgacamgjpnaa.AE
set_option linter.unusedVariables false
set_option linter.unusedSimpArgs false
set_option linter.constructorNameAsVariable false
open Go
set_option maxRecDepth 100000
/-- apogee/apogeelaw18.ImpactIn -/
theorem r4 (C : Cb) (d : Nat) (a0 a1 a2 a3 a4 a5 a6 a7 a8 a9 a10 a11 a12 a13 a14 a15 a16 : Int) : xcall C M unr d 4 [(.agg [(iz a0), (iz a1), (iz a2), (iz a3), (iz a4), (iz a5), (iz a6), (iz a7)]), (iz a8), (iz a9), (iz a10), (.agg [(iz a11), (iz a12), (iz a13), (iz a14), (iz a15), (iz a16)])] =
 C.agg 8 (pcall M d 8 [(.agg [(iz a0), (iz a1), (iz a2), (iz a3), (iz a4), (iz a5), (iz a6), (iz a7)])]) fun l0 =>
 C.int .i64 l0[0]? fun x1 =>
 C.int .i64 l0[1]? fun x2 =>
 C.int .i64 l0[2]? fun x3 =>
 C.int .i64 l0[3]? fun x4 =>
 C.int .i64 l0[4]? fun x5 =>
 C.int .i64 l0[5]? fun x6 =>
 C.int .i64 l0[6]? fun x7 =>
 C.int .i64 l0[7]? fun x8 =>
 C.agg 8 (pcall M d 11 [(.agg [(iz x1), (iz x2), (iz x3), (iz x4), (iz x5), (iz x6), (iz x7), (iz x8)]), (.agg [(iz a11), (iz a12), (iz a13), (iz a14), (iz a15), (iz a16)]), (iz (bits .and .i64 a10 1023))]) fun l9 =>
 C.int .i64 l9[0]? fun x10 =>
 C.int .i64 l9[1]? fun x11 =>
 C.int .i64 l9[2]? fun x12 =>
 C.int .i64 l9[3]? fun x13 =>
 C.int .i64 l9[4]? fun x14 =>
 C.int .i64 l9[5]? fun x15 =>
 C.int .i64 l9[6]? fun x16 =>
 C.int .i64 l9[7]? fun x17 =>
 C.tup 2 (pcall M d 9 [(.agg [(iz x10), (iz x11), (iz x12), (iz x13), (iz x14), (iz x15), (iz x16), (iz x17)]), (iz (IntKind.wrap .i64 (1 + (IntKind.wrap .i64 (Int.tmod (IntKind.wrap .u64 a8) 100))))), (iz (bits .and .i64 a9 1023))]) fun l18 =>
 C.agg 4 l18[0]? fun l19 =>
 C.int .i64 l19[0]? fun x20 =>
 C.int .i64 l19[1]? fun x21 =>
 C.int .i64 l19[2]? fun x22 =>
 C.int .i64 l19[3]? fun x23 =>
 C.bool l18[1]? fun b24 =>
 C.tup 2 (pcall M d 9 [(.agg [(iz x1), (iz x2), (iz x3), (iz x4), (iz x5), (iz x6), (iz x7), (iz x8)]), (iz (IntKind.wrap .i64 (1 + (IntKind.wrap .i64 (Int.tmod (IntKind.wrap .u64 a8) 100))))), (iz (IntKind.wrap .i64 ((bits .and .i64 a9 1023) + (bits .and .i64 a10 1023))))]) fun l25 =>
 C.agg 4 l25[0]? fun l26 =>
 C.int .i64 l26[0]? fun x27 =>
 C.int .i64 l26[1]? fun x28 =>
 C.int .i64 l26[2]? fun x29 =>
 C.int .i64 l26[3]? fun x30 =>
 C.bool l25[1]? fun b31 =>
 C.bool (pcall M d 10 []) fun b32 =>
 cnd b32
 (cnd b24
 (cnd b31
 (C.bool (pcall M d 16 [(.agg [(iz x20), (iz x21), (iz x22), (iz x23)]), (.agg [(iz x27), (iz x28), (iz x29), (iz x30)])]) fun b33 =>
 some (.bool b33))
 (some bf))
 (some bf))
 (some bf) := by kernel_rfl
end Go.Proofs.Ytnldgacamgjpnaa.AE

namespace Go.Proofs.Ytnldgacamgjpnaa.AE
set_option linter.unusedVariables false
set_option linter.unusedSimpArgs false
set_option linter.constructorNameAsVariable false
open Go Go.Proofs.Ytnldgacamgjpnaa.Geo
attribute [local irreducible] pcall C0
set_option maxRecDepth 100000
theorem in_core (n : Nav) (g e w d0 d1 d2 d3 d4 d5 : Int) : pcall M 41 4 [nv n, .int .i64 g, .int .i64 e, .int .i64 w, .agg [.int .i64 d0, .int .i64 d1, .int .i64 d2, .int .i64 d3, .int .i64 d4, .int .i64 d5]] = some (.bool true) := told (r4 C0 40 _ _ _ _ _ _ _ _ _ _ _ _ _ _ _ _ _) (by
  obtain ⟨n, q, hn⟩ := heldI 39 n
  refine Eq.trans (pl_agg q (by rfl)) ?_
  repeat with_reducible first | refine tt sh_ptr ?_ | refine tt sh_fptr ?_ | refine tt w2 ?_ | refine tt w3 ?_ | refine tt w8 ?_ | refine tt w9 ?_ | refine tt wf ?_ | refine tt wg ?_ | refine tt wh ?_ | refine tt wi ?_ | refine tt wj ?_ | refine tt wk ?_ | refine tt wl ?_ | refine tt wn ?_ | refine tt c_ort ?_ | refine tt c_nt ?_ | refine tt c_nf ?_ | refine tt (cnd_t _ _) ?_ | refine tt (cnd_f _ _) ?_ | refine tt w6 ?_ | refine tt w4 ?_ | refine tt w5 ?_ | refine tt w7 ?_ | refine tt wm ?_ | refine tt wo ?_ | refine tt wx ?_ | refine tt nil_ptr ?_ | refine tt len_lst ?_ | refine tt len_zsl ?_
  obtain ⟨g, eg, g0, g1⟩ := grav_bd g 100 (by omega) (by omega)
  obtain ⟨e, ee, e0, e1⟩ := eps_bd e
  obtain ⟨w, ew, w0, w1⟩ := eps_bd w
  rw [eg, ee, ew, i64_small (n := e + w) (by omega) (by omega)]
  obtain ⟨m, q, hk⟩ := offI 39 n d0 d1 d2 d3 d4 d5 w hn w0 w1
  refine Eq.trans (pl_agg q (by rfl)) ?_
  repeat with_reducible first | refine tt sh_ptr ?_ | refine tt sh_fptr ?_ | refine tt w2 ?_ | refine tt w3 ?_ | refine tt w8 ?_ | refine tt w9 ?_ | refine tt wf ?_ | refine tt wg ?_ | refine tt wh ?_ | refine tt wi ?_ | refine tt wj ?_ | refine tt wk ?_ | refine tt wl ?_ | refine tt wn ?_ | refine tt c_ort ?_ | refine tt c_nt ?_ | refine tt c_nf ?_ | refine tt (cnd_t _ _) ?_ | refine tt (cnd_f _ _) ?_ | refine tt w6 ?_ | refine tt w4 ?_ | refine tt w5 ?_ | refine tt w7 ?_ | refine tt wm ?_ | refine tt wo ?_ | refine tt wx ?_ | refine tt nil_ptr ?_ | refine tt len_lst ?_ | refine tt len_zsl ?_
  have hm := near_mayB hn hk w1 g0 g1 e0 (show e ≤ 2048 by omega)
  have hb := held_mayB hn g0 g1 (show 0 ≤ e + w by omega) (show e + w ≤ 2048 by omega)
  obtain ⟨lo, hi, q1, f1, f2⟩ := boxI 32 m g e hm
  have r1 := box_right hm f1 f2
  obtain ⟨lo', hi', q2, f3, f4⟩ := boxI 32 n g (e + w) hb
  have r2 := box_right hb f3 f4
  refine Eq.trans (pl_tup q1 (by rfl)) ?_
  rw [r1]
  repeat with_reducible first | refine tt sh_ptr ?_ | refine tt sh_fptr ?_ | refine tt w2 ?_ | refine tt w3 ?_ | refine tt w8 ?_ | refine tt w9 ?_ | refine tt wf ?_ | refine tt wg ?_ | refine tt wh ?_ | refine tt wi ?_ | refine tt wj ?_ | refine tt wk ?_ | refine tt wl ?_ | refine tt wn ?_ | refine tt c_ort ?_ | refine tt c_nt ?_ | refine tt c_nf ?_ | refine tt (cnd_t _ _) ?_ | refine tt (cnd_f _ _) ?_ | refine tt w6 ?_ | refine tt w4 ?_ | refine tt w5 ?_ | refine tt w7 ?_ | refine tt wm ?_ | refine tt wo ?_ | refine tt wx ?_ | refine tt nil_ptr ?_ | refine tt len_lst ?_ | refine tt len_zsl ?_
  refine Eq.trans (pl_tup q2 (by rfl)) ?_
  rw [r2]
  repeat with_reducible first | refine tt sh_ptr ?_ | refine tt sh_fptr ?_ | refine tt w2 ?_ | refine tt w3 ?_ | refine tt w8 ?_ | refine tt w9 ?_ | refine tt wf ?_ | refine tt wg ?_ | refine tt wh ?_ | refine tt wi ?_ | refine tt wj ?_ | refine tt wk ?_ | refine tt wl ?_ | refine tt wn ?_ | refine tt c_ort ?_ | refine tt c_nt ?_ | refine tt c_nf ?_ | refine tt (cnd_t _ _) ?_ | refine tt (cnd_f _ _) ?_ | refine tt w6 ?_ | refine tt w4 ?_ | refine tt w5 ?_ | refine tt w7 ?_ | refine tt wm ?_ | refine tt wo ?_ | refine tt wx ?_ | refine tt nil_ptr ?_ | refine tt len_lst ?_ | refine tt len_zsl ?_
  refine Eq.trans (pl_bool awake) ?_
  repeat with_reducible first | refine tt sh_ptr ?_ | refine tt sh_fptr ?_ | refine tt w2 ?_ | refine tt w3 ?_ | refine tt w8 ?_ | refine tt w9 ?_ | refine tt wf ?_ | refine tt wg ?_ | refine tt wh ?_ | refine tt wi ?_ | refine tt wj ?_ | refine tt wk ?_ | refine tt wl ?_ | refine tt wn ?_ | refine tt c_ort ?_ | refine tt c_nt ?_ | refine tt c_nf ?_ | refine tt (cnd_t _ _) ?_ | refine tt (cnd_f _ _) ?_ | refine tt w6 ?_ | refine tt w4 ?_ | refine tt w5 ?_ | refine tt w7 ?_ | refine tt wm ?_ | refine tt wo ?_ | refine tt wx ?_ | refine tt nil_ptr ?_ | refine tt len_lst ?_ | refine tt len_zsl ?_
  refine Eq.trans (pl_bool (s16 36 (boxN m e lo (hi + 2)) (boxN n (e + w) lo' (hi' + 2)))) ?_
  rw [box_in hk e0 r1 r2 f3.1 (falls_mono f3 f1 (by unfold Near at hk; omega) (by unfold Near at hk; omega)) (by have := falls_mono f1 f2 (by omega) (by omega); omega) (by have := falls_mono f2 f4 (by unfold Near at hk; omega) (by unfold Near at hk; omega); omega)])
theorem law_ImpactIn (a0_0 : Int) (a0_1 : Int) (a0_2 : Int) (a0_3 : Int) (a0_4 : Int) (a0_5 : Int) (a0_6 : Int) (a0_7 : Int) (a1 : Int) (a2 : Int) (a3 : Int) (a4_0 : Int) (a4_1 : Int) (a4_2 : Int) (a4_3 : Int) (a4_4 : Int) (a4_5 : Int) (w0_0 : (Lit.int .i64 a0_0).wf = true) (w0_1 : (Lit.int .i64 a0_1).wf = true) (w0_2 : (Lit.int .i64 a0_2).wf = true) (w0_3 : (Lit.int .i64 a0_3).wf = true) (w0_4 : (Lit.int .i64 a0_4).wf = true) (w0_5 : (Lit.int .i64 a0_5).wf = true) (w0_6 : (Lit.int .i64 a0_6).wf = true) (w0_7 : (Lit.int .i64 a0_7).wf = true) (w1 : (Lit.int .i64 a1).wf = true) (w2 : (Lit.int .i64 a2).wf = true) (w3 : (Lit.int .i64 a3).wf = true) (w4_0 : (Lit.int .i64 a4_0).wf = true) (w4_1 : (Lit.int .i64 a4_1).wf = true) (w4_2 : (Lit.int .i64 a4_2).wf = true) (w4_3 : (Lit.int .i64 a4_3).wf = true) (w4_4 : (Lit.int .i64 a4_4).wf = true) (w4_5 : (Lit.int .i64 a4_5).wf = true) :
    pcall M 41 4 [.agg [.int .i64 a0_0, .int .i64 a0_1, .int .i64 a0_2, .int .i64 a0_3, .int .i64 a0_4, .int .i64 a0_5, .int .i64 a0_6, .int .i64 a0_7], .int .i64 a1, .int .i64 a2, .int .i64 a3, .agg [.int .i64 a4_0, .int .i64 a4_1, .int .i64 a4_2, .int .i64 a4_3, .int .i64 a4_4, .int .i64 a4_5]] = some (.bool true) := in_core ⟨a0_0, a0_1, a0_2, a0_3, a0_4, a0_5, a0_6, a0_7⟩ a1 a2 a3 a4_0 a4_1 a4_2 a4_3 a4_4 a4_5
end Go.Proofs.Ytnldgacamgjpnaa.AE
