/- The texts that the law ImpactSlack needs, part 0. No conditions. -/
import Derived.Test.YtnldgacamgjpnaaMc2
namespace Go.Proofs.Ytnldgacamgjpnaa.AE
set_option linter.unusedVariables false
set_option linter.unusedSimpArgs false
set_option linter.constructorNameAsVariable false
open Go
set_option maxRecDepth 100000
/-- apogee/apogeeref10.Right -/
theorem r27 (C : Cb) (d : Nat) (a0 a1 : Int) : xcall C M unr d 27 [(.agg [(iz a0), (iz a1)])] =
 cnd (decide (a0 ≥ (-1099511627776)))
 (cnd (decide (a0 ≤ 1099511627776))
 (cnd (decide (a1 ≥ (-1099511627776)))
 (some (.bool (decide (a1 ≤ 1099511627776))))
 (some bf))
 (some bf))
 (some bf) := by kernel_rfl
end Go.Proofs.Ytnldgacamgjpnaa.AE

namespace Go.Proofs.Ytnldgacamgjpnaa.AE
set_option linter.unusedVariables false
set_option linter.unusedSimpArgs false
set_option linter.constructorNameAsVariable false
open Go Go.Proofs.Ytnldgacamgjpnaa.Geo
theorem s27 (d : Nat) (p : Pt) : pcall M (d + 1) 27 [pt p] = some (.bool (decide (OkP p))) := told (r27 C0 d _ _) (by
  unfold OkP Okc
  by_cases h1 : p.1 ≥ -1099511627776 <;> by_cases h2 : p.1 ≤ 1099511627776 <;> by_cases h3 : p.2 ≥ -1099511627776 <;> by_cases h4 : p.2 ≤ 1099511627776 <;> simp [h1, h2, h3, h4, cnd_t, cnd_f])
end Go.Proofs.Ytnldgacamgjpnaa.AE

namespace Go.Proofs.Ytnldgacamgjpnaa.Geo
/-- With less eps, and times within: within. -/
theorem side_in {x v e lo hi x' v' e' lo' hi' : Int} (h0 : 0 ≤ lo') (h1 : lo' ≤ lo) (h2 : lo ≤ hi) (h3 : hi ≤ hi') (hx : x' - e' ≤ x - e) (hx' : x + e ≤ x' + e') (hv : v' - e' ≤ v - e) (hv' : v + e ≤ v' + e') :
    loS x' v' e' lo' hi' ≤ loS x v e lo hi ∧ hiS x v e lo hi ≤ hiS x' v' e' lo' hi' := by
  have a1 := lin_lo (v := v' - e') (lo := lo') (hi := hi') (s := lo) h1 (by omega)
  have a2 := lin_lo (v := v' - e') (lo := lo') (hi := hi') (s := hi) (by omega) h3
  have b1 := lin_hi (v := v' + e') (lo := lo') (hi := hi') (s := lo) h1 (by omega)
  have b2 := lin_hi (v := v' + e') (lo := lo') (hi := hi') (s := hi) (by omega) h3
  have c1 := sl_mono hv (show 0 ≤ lo by omega)
  have c2 := sl_mono hv (show 0 ≤ hi by omega)
  have d1 := sl_mono hv' (show 0 ≤ lo by omega)
  have d2 := sl_mono hv' (show 0 ≤ hi by omega)
  unfold loS hiS; omega
end Go.Proofs.Ytnldgacamgjpnaa.Geo

namespace Go.Proofs.Ytnldgacamgjpnaa.AE
set_option linter.unusedVariables false
set_option linter.unusedSimpArgs false
set_option linter.constructorNameAsVariable false
open Go
set_option maxRecDepth 100000
/-- apogee/apogeeref12.Has -/
theorem r14 (C : Cb) (d : Nat) (a0 a1 a2 a3 a4 a5 : Int) : xcall C M unr d 14 [(.agg [(iz a0), (iz a1), (iz a2), (iz a3)]), (.agg [(iz a4), (iz a5)])] =
 C.bool (pcall M d 26 [(.agg [(iz a0), (iz a1), (iz a2), (iz a3)])]) fun b0 =>
 cnd b0
 (C.bool (pcall M d 27 [(.agg [(iz a4), (iz a5)])]) fun b1 =>
 cnd b1
 (cnd (decide (a4 ≥ a0))
 (cnd (decide (a4 ≤ a2))
 (cnd (decide (a5 ≥ a1))
 (some (.bool (decide (a5 ≤ a3))))
 (some bf))
 (some bf))
 (some bf))
 (some bf))
 (some bf) := by kernel_rfl
/-- apogee/apogeeref12.Right -/
theorem r26 (C : Cb) (d : Nat) (a0 a1 a2 a3 : Int) : xcall C M unr d 26 [(.agg [(iz a0), (iz a1), (iz a2), (iz a3)])] =
 C.bool (pcall M d 27 [(.agg [(iz a0), (iz a1)])]) fun b0 =>
 cnd b0
 (C.bool (pcall M d 27 [(.agg [(iz a2), (iz a3)])]) fun b1 =>
 cnd b1
 (cnd (decide (a0 ≤ a2))
 (some (.bool (decide (a1 ≤ a3))))
 (some bf))
 (some bf))
 (some bf) := by kernel_rfl
end Go.Proofs.Ytnldgacamgjpnaa.AE

namespace Go.Proofs.Ytnldgacamgjpnaa.Geo
def HasB (x0 y0 x1 y1 : Int) (p : Pt) : Prop := x0 ≤ p.1 ∧ p.1 ≤ x1 ∧ y0 ≤ p.2 ∧ p.2 ≤ y1
instance (x0 y0 x1 y1 : Int) (p : Pt) : Decidable (HasB x0 y0 x1 y1 p) := by unfold HasB; infer_instance
end Go.Proofs.Ytnldgacamgjpnaa.Geo

namespace Go.Proofs.Ytnldgacamgjpnaa.AE
set_option linter.unusedVariables false
set_option linter.unusedSimpArgs false
set_option linter.constructorNameAsVariable false
open Go Go.Proofs.Ytnldgacamgjpnaa.Geo
def hasX (b : Bx) (p : Pt) : Bool := rightX b && (okb p && (decide (b.1.1 ≤ p.1) && (decide (p.1 ≤ b.2.1) && (decide (b.1.2 ≤ p.2) && decide (p.2 ≤ b.2.2)))))
def inX (a b : Bx) : Bool := rightX a && (hasX b a.1 && hasX b a.2)
theorem hasX_t {b : Bx} {p : Pt} : hasX b p = true ↔ rightX b = true ∧ OkP p ∧ HasB b.1.1 b.1.2 b.2.1 b.2.2 p := by
  unfold hasX HasB; simp only [Bool.and_eq_true, okb_t, decide_eq_true_iff]
theorem s26 (d : Nat) (b : Bx) : pcall M (d + 2) 26 [bx b] = some (.bool (rightX b)) := told (r26 C0 (d + 1) _ _ _ _) (by
  refine Eq.trans (pl_bool (s27 d b.1)) ?_
  unfold rightX
  change cnd (okb b.1) _ _ = _
  cases okb b.1
  · rfl
  · refine Eq.trans (pl_len (by rfl)) ?_
    refine Eq.trans (pl_bool (s27 d b.2)) ?_
    change cnd (okb b.2) _ _ = _
    cases okb b.2
    · rfl
    · refine Eq.trans (pl_len (by rfl)) ?_; cases decide (b.1.1 ≤ b.2.1) <;> rfl)
theorem s14 (d : Nat) (b : Bx) (p : Pt) : pcall M (d + 3) 14 [bx b, pt p] = some (.bool (hasX b p)) := told (r14 C0 (d + 2) _ _ _ _ _ _) (by
  refine Eq.trans (pl_bool (s26 d b)) ?_
  unfold hasX
  cases rightX b
  · rfl
  · refine Eq.trans (pl_len (by rfl)) ?_
    refine Eq.trans (pl_bool (s27 (d + 1) p)) ?_
    change cnd (okb p) _ _ = _
    cases okb p
    · rfl
    · refine Eq.trans (pl_len (by rfl)) ?_
      change cnd (decide (b.1.1 ≤ p.1)) (cnd (decide (p.1 ≤ b.2.1)) (cnd (decide (b.1.2 ≤ p.2)) (some (.bool (decide (p.2 ≤ b.2.2)))) _) _) _ = _
      cases decide (b.1.1 ≤ p.1) <;> cases decide (p.1 ≤ b.2.1) <;> cases decide (b.1.2 ≤ p.2) <;> rfl)
theorem inX_t {a b : Bx} : inX a b = true ↔ rightX a = true ∧ rightX b = true ∧ b.1.1 ≤ a.1.1 ∧ a.2.1 ≤ b.2.1 ∧ b.1.2 ≤ a.1.2 ∧ a.2.2 ≤ b.2.2 := by
  unfold inX
  simp only [Bool.and_eq_true, hasX_t]
  constructor
  · rintro ⟨h1, ⟨h2, h3, h4⟩, h5, h6, h7⟩
    unfold HasB at h4 h7
    exact ⟨h1, h2, by omega, by omega, by omega, by omega⟩
  · rintro ⟨h1, h2, h3, h4, h5, h6⟩
    obtain ⟨o1, o2, ox, oy⟩ := rightX_t.mp h1
    exact ⟨h1, ⟨h2, o1, by unfold HasB; omega⟩, h2, o2, by unfold HasB; omega⟩
end Go.Proofs.Ytnldgacamgjpnaa.AE

namespace Go.Proofs.Ytnldgacamgjpnaa.AE
set_option linter.unusedVariables false
set_option linter.unusedSimpArgs false
set_option linter.constructorNameAsVariable false
open Go Go.Proofs.Ytnldgacamgjpnaa.Geo
attribute [local irreducible] pcall C0
set_option maxRecDepth 100000
theorem eps_bd (x : Int) : ∃ e, bits .and .i64 x 1023 = e ∧ 0 ≤ e ∧ e ≤ 1023 := ⟨_, rfl, and_i64_bd x 1023 (by omega) (by omega)⟩
/-- Within e in all numbers. -/
def Near (n m : Nav) (e : Int) : Prop := (n.x - e ≤ m.x ∧ m.x ≤ n.x + e) ∧ (n.y - e ≤ m.y ∧ m.y ≤ n.y + e) ∧ (n.z - e ≤ m.z ∧ m.z ≤ n.z + e) ∧ (n.vx - e ≤ m.vx ∧ m.vx ≤ n.vx + e) ∧ (n.vy - e ≤ m.vy ∧ m.vy ≤ n.vy + e) ∧ (n.vz - e ≤ m.vz ∧ m.vz ≤ n.vz + e)
theorem near_refl (n : Nav) {e : Int} (h : 0 ≤ e) : Near n n e := by unfold Near; omega
/-- A place on the way of whoever is near, between the times, is in the box. -/
theorem box_has {n m : Nav} {e lo hi t : Int} (k : Near n m e) (h : rightX (boxN n e lo hi) = true) (l0 : 0 ≤ lo) (h0 : lo ≤ t) (h1 : t ≤ hi) : hasX (boxN n e lo hi) (wayN m t) = true := by
  obtain ⟨kx, ky, _, kvx, kvy, _⟩ := k
  have x := side_has (x := n.x) (v := n.vx) (eps := e) (x' := m.x) (v' := m.vx) l0 h0 h1 kx.1 kx.2 kvx.1 kvx.2
  have y := side_has (x := n.y) (v := n.vy) (eps := e) (x' := m.y) (v' := m.vy) l0 h0 h1 ky.1 ky.2 kvy.1 kvy.2
  rw [hasX_t]
  refine ⟨h, ?_, ?_⟩
  · rw [rightX_t] at h
    unfold OkP Okc boxN at h
    unfold OkP Okc wayN
    simp only at h ⊢
    omega
  · unfold HasB boxN wayN; simp only; omega
/-- With less eps, around a place within the rest of it. -/
theorem box_in {n m : Nav} {e w lo hi lo' hi' : Int} (k : Near n m w) (e0 : 0 ≤ e) (h : rightX (boxN m e lo hi) = true) (h' : rightX (boxN n (e + w) lo' hi') = true) (l0 : 0 ≤ lo') (h1 : lo' ≤ lo) (h2 : lo ≤ hi) (h3 : hi ≤ hi') : inX (boxN m e lo hi) (boxN n (e + w) lo' hi') = true := by
  obtain ⟨kx, ky, _, kvx, kvy, _⟩ := k
  have x := side_in (x := m.x) (v := m.vx) (e := e) (lo := lo) (hi := hi) (x' := n.x) (v' := n.vx) (e' := e + w) (lo' := lo') (hi' := hi') l0 h1 h2 h3 (by omega) (by omega) (by omega) (by omega)
  have y := side_in (x := m.y) (v := m.vy) (e := e) (lo := lo) (hi := hi) (x' := n.y) (v' := n.vy) (e' := e + w) (lo' := lo') (hi' := hi') l0 h1 h2 h3 (by omega) (by omega) (by omega) (by omega)
  unfold boxN at h h' ⊢
  rw [rightX_t] at h h'
  unfold inX
  simp only [Bool.and_eq_true, hasX_t, rightX_t, HasB]
  obtain ⟨o1, o2, o3, o4⟩ := h
  obtain ⟨p1, p2, p3, p4⟩ := h'
  simp only at o3 o4 p3 p4
  exact ⟨⟨o1, o2, o3, o4⟩, ⟨⟨p1, p2, p3, p4⟩, o1, by omega⟩, ⟨p1, p2, p3, p4⟩, o2, by omega⟩
end Go.Proofs.Ytnldgacamgjpnaa.AE

namespace Go.Proofs.Ytnldgacamgjpnaa.AE
set_option linter.unusedVariables false
set_option linter.unusedSimpArgs false
set_option linter.constructorNameAsVariable false
open Go
set_option maxRecDepth 100000
/-- apogee/apogeelaw18.ImpactSure -/
theorem r3 (C : Cb) (d : Nat) (a0 a1 a2 a3 a4 a5 a6 a7 a8 a9 a10 a11 a12 a13 a14 a15 : Int) : xcall C M unr d 3 [(.agg [(iz a0), (iz a1), (iz a2), (iz a3), (iz a4), (iz a5), (iz a6), (iz a7)]), (iz a8), (iz a9), (.agg [(iz a10), (iz a11), (iz a12), (iz a13), (iz a14), (iz a15)])] =
 C.agg 8 (pcall M d 8 [(.agg [(iz a0), (iz a1), (iz a2), (iz a3), (iz a4), (iz a5), (iz a6), (iz a7)])]) fun l0 =>
 C.int .i64 l0[0]? fun x1 =>
 C.int .i64 l0[1]? fun x2 =>
 C.int .i64 l0[2]? fun x3 =>
 C.int .i64 l0[3]? fun x4 =>
 C.int .i64 l0[4]? fun x5 =>
 C.int .i64 l0[5]? fun x6 =>
 C.int .i64 l0[6]? fun x7 =>
 C.int .i64 l0[7]? fun x8 =>
 C.tup 2 (pcall M d 9 [(.agg [(iz x1), (iz x2), (iz x3), (iz x4), (iz x5), (iz x6), (iz x7), (iz x8)]), (iz (IntKind.wrap .i64 (1 + (IntKind.wrap .i64 (Int.tmod (IntKind.wrap .u64 a8) 100))))), (iz (bits .and .i64 a9 1023))]) fun l9 =>
 C.agg 4 l9[0]? fun l10 =>
 C.int .i64 l10[0]? fun x11 =>
 C.int .i64 l10[1]? fun x12 =>
 C.int .i64 l10[2]? fun x13 =>
 C.int .i64 l10[3]? fun x14 =>
 C.bool l9[1]? fun b15 =>
 C.bool (pcall M d 10 []) fun b16 =>
 cnd (!b16)
 (some bf)
 (cnd (!b15)
 (some bf)
 (C.agg 8 (pcall M d 11 [(.agg [(iz x1), (iz x2), (iz x3), (iz x4), (iz x5), (iz x6), (iz x7), (iz x8)]), (.agg [(iz a10), (iz a11), (iz a12), (iz a13), (iz a14), (iz a15)]), (iz (bits .and .i64 a9 1023))]) fun l17 =>
 C.int .i64 l17[0]? fun x18 =>
 C.int .i64 l17[1]? fun x19 =>
 C.int .i64 l17[2]? fun x20 =>
 C.int .i64 l17[3]? fun x21 =>
 C.int .i64 l17[4]? fun x22 =>
 C.int .i64 l17[5]? fun x23 =>
 C.int .i64 l17[6]? fun x24 =>
 C.int .i64 l17[7]? fun x25 =>
 cnd (decide (x22 < 0))
 (some bt)
 (C.int .i64 (pcall M d 12 [(iz x22), (iz x25), (iz (IntKind.wrap .i64 (1 + (IntKind.wrap .i64 (Int.tmod (IntKind.wrap .u64 a8) 100)))))]) fun x26 =>
 C.int .i64 (pcall M d 13 [(iz x22), (iz x25), (iz (IntKind.wrap .i64 (1 + (IntKind.wrap .i64 (Int.tmod (IntKind.wrap .u64 a8) 100))))), (iz x26)]) fun x27 =>
 cnd (decide (x27 < 0))
 (some bf)
 (C.int .i64 (pcall M d 13 [(iz x22), (iz x25), (iz (IntKind.wrap .i64 (1 + (IntKind.wrap .i64 (Int.tmod (IntKind.wrap .u64 a8) 100))))), (iz (IntKind.wrap .i64 (x26 + 2)))]) fun x28 =>
 cnd (decide (x28 ≥ 0))
 (some bf)
 (C.agg 2 (pcall M d 15 [(.agg [(iz x18), (iz x19), (iz x20), (iz x21), (iz x22), (iz x23), (iz x24), (iz x25)]), (iz x26)]) fun l29 =>
 C.int .i64 l29[0]? fun x30 =>
 C.int .i64 l29[1]? fun x31 =>
 C.bool (pcall M d 14 [(.agg [(iz x11), (iz x12), (iz x13), (iz x14)]), (.agg [(iz x30), (iz x31)])]) fun b32 =>
 cnd b32
 (C.agg 2 (pcall M d 15 [(.agg [(iz x18), (iz x19), (iz x20), (iz x21), (iz x22), (iz x23), (iz x24), (iz x25)]), (iz (IntKind.wrap .i64 (x26 + 1)))]) fun l33 =>
 C.int .i64 l33[0]? fun x34 =>
 C.int .i64 l33[1]? fun x35 =>
 C.bool (pcall M d 14 [(.agg [(iz x11), (iz x12), (iz x13), (iz x14)]), (.agg [(iz x34), (iz x35)])]) fun b36 =>
 cnd b36
 (C.agg 2 (pcall M d 15 [(.agg [(iz x18), (iz x19), (iz x20), (iz x21), (iz x22), (iz x23), (iz x24), (iz x25)]), (iz (IntKind.wrap .i64 (x26 + 2)))]) fun l37 =>
 C.int .i64 l37[0]? fun x38 =>
 C.int .i64 l37[1]? fun x39 =>
 C.bool (pcall M d 14 [(.agg [(iz x11), (iz x12), (iz x13), (iz x14)]), (.agg [(iz x38), (iz x39)])]) fun b40 =>
 some (.bool b40))
 (some bf))
 (some bf)))))) := by kernel_rfl
end Go.Proofs.Ytnldgacamgjpnaa.AE

namespace Go.Proofs.Ytnldgacamgjpnaa.AE
set_option linter.unusedVariables false
set_option linter.unusedSimpArgs false
set_option linter.constructorNameAsVariable false
open Go
set_option maxRecDepth 100000
/-- apogee/apogeelaw18.ImpactSlack -/
theorem r7 (C : Cb) (d : Nat) (a0 a1 a2 a3 a4 a5 a6 a7 a8 a9 a10 : Int) : xcall C M unr d 7 [(.agg [(iz a0), (iz a1), (iz a2), (iz a3), (iz a4), (iz a5), (iz a6), (iz a7)]), (iz a8), (iz a9), (iz a10)] =
 C.agg 8 (pcall M d 8 [(.agg [(iz a0), (iz a1), (iz a2), (iz a3), (iz a4), (iz a5), (iz a6), (iz a7)])]) fun l0 =>
 C.int .i64 l0[0]? fun x1 =>
 C.int .i64 l0[1]? fun x2 =>
 C.int .i64 l0[2]? fun x3 =>
 C.int .i64 l0[3]? fun x4 =>
 C.int .i64 l0[4]? fun x5 =>
 C.int .i64 l0[5]? fun x6 =>
 C.int .i64 l0[6]? fun x7 =>
 C.int .i64 l0[7]? fun x8 =>
 C.tup 2 (pcall M d 17 [(.agg [(iz x1), (iz x2), (iz x3), (iz x4), (iz x5), (iz x6), (iz x7), (iz x8)]), (iz (IntKind.wrap .i64 (1 + (IntKind.wrap .i64 (Int.tmod (IntKind.wrap .u64 a8) 100))))), (iz (bits .and .i64 a9 1023))]) fun l9 =>
 C.int .i64 l9[0]? fun x10 =>
 C.bool l9[1]? fun b11 =>
 C.tup 2 (pcall M d 17 [(.agg [(iz x1), (iz x2), (iz x3), (iz x4), (iz x5), (iz x6), (iz x7), (iz x8)]), (iz (IntKind.wrap .i64 (1 + (IntKind.wrap .i64 (Int.tmod (IntKind.wrap .u64 a8) 100))))), (iz (IntKind.wrap .i64 ((bits .and .i64 a9 1023) + (bits .and .i64 a10 1023))))]) fun l12 =>
 C.int .i64 l12[0]? fun x13 =>
 C.bool l12[1]? fun b14 =>
 C.tup 2 (pcall M d 18 [(.agg [(iz x1), (iz x2), (iz x3), (iz x4), (iz x5), (iz x6), (iz x7), (iz x8)]), (iz (IntKind.wrap .i64 (1 + (IntKind.wrap .i64 (Int.tmod (IntKind.wrap .u64 a8) 100)))))]) fun l15 =>
 C.agg 2 l15[0]? fun l16 =>
 C.int .i64 l16[0]? fun x17 =>
 C.int .i64 l16[1]? fun x18 =>
 C.bool l15[1]? fun b19 =>
 C.tup 2 (pcall M d 9 [(.agg [(iz x1), (iz x2), (iz x3), (iz x4), (iz x5), (iz x6), (iz x7), (iz x8)]), (iz (IntKind.wrap .i64 (1 + (IntKind.wrap .i64 (Int.tmod (IntKind.wrap .u64 a8) 100))))), (iz (bits .and .i64 a9 1023))]) fun l20 =>
 C.agg 4 l20[0]? fun l21 =>
 C.int .i64 l21[0]? fun x22 =>
 C.int .i64 l21[1]? fun x23 =>
 C.int .i64 l21[2]? fun x24 =>
 C.int .i64 l21[3]? fun x25 =>
 C.bool l20[1]? fun b26 =>
 C.bool (pcall M d 10 []) fun b27 =>
 cnd b27
 (cnd b11
 (cnd b14
 (cnd b19
 (cnd b26
 (cnd (decide (x10 ≥ 0))
 (cnd (decide (x13 ≥ x10))
 (C.bool (pcall M d 14 [(.agg [(iz x22), (iz x23), (iz x24), (iz x25)]), (.agg [(iz x17), (iz x18)])]) fun b28 =>
 some (.bool b28))
 (some bf))
 (some bf))
 (some bf))
 (some bf))
 (some bf))
 (some bf))
 (some bf) := by kernel_rfl
end Go.Proofs.Ytnldgacamgjpnaa.AE

namespace Go.Proofs.Ytnldgacamgjpnaa.AE
set_option linter.unusedVariables false
set_option linter.unusedSimpArgs false
set_option linter.constructorNameAsVariable false
open Go Go.Proofs.Ytnldgacamgjpnaa.Geo
attribute [local irreducible] pcall C0
set_option maxRecDepth 100000
theorem clamp_mono {x y lo hi : Int} (h : x ≤ y) (hl : lo ≤ hi) : clampX x lo hi ≤ clampX y lo hi := by unfold clampX; omega
theorem slack_core (n : Nav) (g e w : Int) : pcall M 41 7 [nv n, .int .i64 g, .int .i64 e, .int .i64 w] = some (.bool true) := told (r7 C0 40 _ _ _ _ _ _ _ _ _ _ _) (by
  obtain ⟨n, q, hn⟩ := heldI 39 n
  refine Eq.trans (pl_agg q (by rfl)) ?_
  repeat with_reducible first | refine tt sh_ptr ?_ | refine tt sh_fptr ?_ | refine tt w2 ?_ | refine tt w3 ?_ | refine tt w8 ?_ | refine tt w9 ?_ | refine tt wf ?_ | refine tt wg ?_ | refine tt wh ?_ | refine tt wi ?_ | refine tt wj ?_ | refine tt wk ?_ | refine tt wl ?_ | refine tt wn ?_ | refine tt c_ort ?_ | refine tt c_nt ?_ | refine tt c_nf ?_ | refine tt (cnd_t _ _) ?_ | refine tt (cnd_f _ _) ?_ | refine tt w6 ?_ | refine tt w4 ?_ | refine tt w5 ?_ | refine tt w7 ?_ | refine tt wm ?_ | refine tt wo ?_ | refine tt wx ?_ | refine tt nil_ptr ?_ | refine tt len_lst ?_ | refine tt len_zsl ?_
  obtain ⟨g, eg, g0, g1⟩ := grav_bd g 100 (by omega) (by omega)
  obtain ⟨e, ee, e0, e1⟩ := eps_bd e
  obtain ⟨w, ew, w0, w1⟩ := eps_bd w
  rw [eg, ee, ew, i64_small (n := e + w) (by omega) (by omega)]
  have hb := held_mayB hn g0 g1 e0 (show e ≤ 2048 by omega)
  have hc := held_mayB hn g0 g1 (show 0 ≤ e + w by omega) (show e + w ≤ 2048 by omega)
  obtain ⟨lo, hi, t, q1, f1, f2, f3⟩ := slackI 31 n g e hb (fun lo hi => box_right hb)
  obtain ⟨lo', hi', t', q2, f4, f5, f6⟩ := slackI 31 n g (e + w) hc (fun lo hi => box_right hc)
  obtain ⟨t'', q3, f7⟩ := atI 32 n g hb.1 hb.2.2
  obtain ⟨lo'', hi'', q4, f8, f9⟩ := boxI 32 n g e hb
  have r1 := box_right hb f1 f2
  have r2 := box_right hc f4 f5
  have h1 := falls_one f6 f3; have h2 := falls_one f7 f3; have h3 := falls_one f8 f1; have h4 := falls_one f9 f2
  subst h1 h2 h3 h4
  have t0 := f7.1
  have m1 := falls_mono f8 f7 (by omega) (by omega)
  have m2 := falls_mono f7 f9 (by omega) (by omega)
  have m3 := falls_mono f4 f8 (by omega) (by omega)
  have m4 := falls_mono f9 f5 (by omega) (by omega)
  have hs := box_has (near_refl n e0) r1 f8.1 m1 (show t'' ≤ hi'' + 2 by omega)
  have hi := box_in (near_refl n w0) e0 r1 r2 f4.1 m3 (show lo'' ≤ hi'' + 2 by omega) (show hi'' + 2 ≤ hi' + 2 by omega)
  rw [r1] at q4
  have le : slackN (boxN n e lo'' (hi'' + 2)) (wayN n t'') ≤ slackN (boxN n (e + w) lo' (hi' + 2)) (wayN n t'') := by
    rw [inX_t] at hi
    unfold slackN
    omega
  have ge : 0 ≤ clampX (slackN (boxN n e lo'' (hi'' + 2)) (wayN n t'')) 0 4611686018427387904 := by unfold clampX; omega
  have le := clamp_mono (lo := 0) (hi := 4611686018427387904) le (by omega)
  refine Eq.trans (pl_tup q1 (by rfl)) ?_
  repeat with_reducible first | refine tt sh_ptr ?_ | refine tt sh_fptr ?_ | refine tt w2 ?_ | refine tt w3 ?_ | refine tt w8 ?_ | refine tt w9 ?_ | refine tt wf ?_ | refine tt wg ?_ | refine tt wh ?_ | refine tt wi ?_ | refine tt wj ?_ | refine tt wk ?_ | refine tt wl ?_ | refine tt wn ?_ | refine tt c_ort ?_ | refine tt c_nt ?_ | refine tt c_nf ?_ | refine tt (cnd_t _ _) ?_ | refine tt (cnd_f _ _) ?_ | refine tt w6 ?_ | refine tt w4 ?_ | refine tt w5 ?_ | refine tt w7 ?_ | refine tt wm ?_ | refine tt wo ?_ | refine tt wx ?_ | refine tt nil_ptr ?_ | refine tt len_lst ?_ | refine tt len_zsl ?_
  refine Eq.trans (pl_tup q2 (by rfl)) ?_
  repeat with_reducible first | refine tt sh_ptr ?_ | refine tt sh_fptr ?_ | refine tt w2 ?_ | refine tt w3 ?_ | refine tt w8 ?_ | refine tt w9 ?_ | refine tt wf ?_ | refine tt wg ?_ | refine tt wh ?_ | refine tt wi ?_ | refine tt wj ?_ | refine tt wk ?_ | refine tt wl ?_ | refine tt wn ?_ | refine tt c_ort ?_ | refine tt c_nt ?_ | refine tt c_nf ?_ | refine tt (cnd_t _ _) ?_ | refine tt (cnd_f _ _) ?_ | refine tt w6 ?_ | refine tt w4 ?_ | refine tt w5 ?_ | refine tt w7 ?_ | refine tt wm ?_ | refine tt wo ?_ | refine tt wx ?_ | refine tt nil_ptr ?_ | refine tt len_lst ?_ | refine tt len_zsl ?_
  refine Eq.trans (pl_tup q3 (by rfl)) ?_
  repeat with_reducible first | refine tt sh_ptr ?_ | refine tt sh_fptr ?_ | refine tt w2 ?_ | refine tt w3 ?_ | refine tt w8 ?_ | refine tt w9 ?_ | refine tt wf ?_ | refine tt wg ?_ | refine tt wh ?_ | refine tt wi ?_ | refine tt wj ?_ | refine tt wk ?_ | refine tt wl ?_ | refine tt wn ?_ | refine tt c_ort ?_ | refine tt c_nt ?_ | refine tt c_nf ?_ | refine tt (cnd_t _ _) ?_ | refine tt (cnd_f _ _) ?_ | refine tt w6 ?_ | refine tt w4 ?_ | refine tt w5 ?_ | refine tt w7 ?_ | refine tt wm ?_ | refine tt wo ?_ | refine tt wx ?_ | refine tt nil_ptr ?_ | refine tt len_lst ?_ | refine tt len_zsl ?_
  refine Eq.trans (pl_tup q4 (by rfl)) ?_
  repeat with_reducible first | refine tt sh_ptr ?_ | refine tt sh_fptr ?_ | refine tt w2 ?_ | refine tt w3 ?_ | refine tt w8 ?_ | refine tt w9 ?_ | refine tt wf ?_ | refine tt wg ?_ | refine tt wh ?_ | refine tt wi ?_ | refine tt wj ?_ | refine tt wk ?_ | refine tt wl ?_ | refine tt wn ?_ | refine tt c_ort ?_ | refine tt c_nt ?_ | refine tt c_nf ?_ | refine tt (cnd_t _ _) ?_ | refine tt (cnd_f _ _) ?_ | refine tt w6 ?_ | refine tt w4 ?_ | refine tt w5 ?_ | refine tt w7 ?_ | refine tt wm ?_ | refine tt wo ?_ | refine tt wx ?_ | refine tt nil_ptr ?_ | refine tt len_lst ?_ | refine tt len_zsl ?_
  refine Eq.trans (pl_bool awake) ?_
  repeat with_reducible first | refine tt sh_ptr ?_ | refine tt sh_fptr ?_ | refine tt w2 ?_ | refine tt w3 ?_ | refine tt w8 ?_ | refine tt w9 ?_ | refine tt wf ?_ | refine tt wg ?_ | refine tt wh ?_ | refine tt wi ?_ | refine tt wj ?_ | refine tt wk ?_ | refine tt wl ?_ | refine tt wn ?_ | refine tt c_ort ?_ | refine tt c_nt ?_ | refine tt c_nf ?_ | refine tt (cnd_t _ _) ?_ | refine tt (cnd_f _ _) ?_ | refine tt w6 ?_ | refine tt w4 ?_ | refine tt w5 ?_ | refine tt w7 ?_ | refine tt wm ?_ | refine tt wo ?_ | refine tt wx ?_ | refine tt nil_ptr ?_ | refine tt len_lst ?_ | refine tt len_zsl ?_
  rw [decide_eq_true (show _ ≥ _ from ge), cnd_t, decide_eq_true (show _ ≥ _ from le), cnd_t]
  refine Eq.trans (pl_bool (s14 37 (boxN n e lo'' (hi'' + 2)) (wayN n t''))) ?_
  rw [hs])
theorem law_ImpactSlack (a0_0 : Int) (a0_1 : Int) (a0_2 : Int) (a0_3 : Int) (a0_4 : Int) (a0_5 : Int) (a0_6 : Int) (a0_7 : Int) (a1 : Int) (a2 : Int) (a3 : Int) (w0_0 : (Lit.int .i64 a0_0).wf = true) (w0_1 : (Lit.int .i64 a0_1).wf = true) (w0_2 : (Lit.int .i64 a0_2).wf = true) (w0_3 : (Lit.int .i64 a0_3).wf = true) (w0_4 : (Lit.int .i64 a0_4).wf = true) (w0_5 : (Lit.int .i64 a0_5).wf = true) (w0_6 : (Lit.int .i64 a0_6).wf = true) (w0_7 : (Lit.int .i64 a0_7).wf = true) (w1 : (Lit.int .i64 a1).wf = true) (w2 : (Lit.int .i64 a2).wf = true) (w3 : (Lit.int .i64 a3).wf = true) :
    pcall M 41 7 [.agg [.int .i64 a0_0, .int .i64 a0_1, .int .i64 a0_2, .int .i64 a0_3, .int .i64 a0_4, .int .i64 a0_5, .int .i64 a0_6, .int .i64 a0_7], .int .i64 a1, .int .i64 a2, .int .i64 a3] = some (.bool true) := slack_core ⟨a0_0, a0_1, a0_2, a0_3, a0_4, a0_5, a0_6, a0_7⟩ a1 a2 a3
end Go.Proofs.Ytnldgacamgjpnaa.AE
