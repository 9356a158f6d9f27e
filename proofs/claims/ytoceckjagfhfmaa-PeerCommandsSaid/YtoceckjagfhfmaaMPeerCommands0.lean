/- The texts that the law PeerCommands needs, part 0. No conditions. -/
import Derived.Test.YtoceckjagfhfmaaMc2
namespace Go.Proofs.Ytoceckjagfhfmaa.AE
set_option linter.unusedVariables false
set_option linter.unusedSimpArgs false
open Go Go.Proofs.Ytoceckjagfhfmaa.Geo
attribute [local irreducible] pcall C0
theorem sealF_len (s : List UInt8) : (sealF s).length = s.length + 4 := by simp [sealF, be4_len]
theorem open_seal (s : List UInt8) : openF (sealF s) s.length = 0 := by
  unfold openF
  rw [sealF_len, if_neg (by omega), if_neg (by omega)]
  have e1 : (sealF s).take s.length = s := by unfold sealF; rw [List.take_left' rfl]
  have e2 : (sealF s).drop s.length = be4 (w32 (crcF s)) := by unfold sealF; rw [List.drop_left' rfl]
  have := num4_be4 (w32_bd (crcF s)).1 (w32_bd (crcF s)).2 []
  rw [List.append_nil] at this
  rw [e1, e2, this, if_neg (by simp)]
end Go.Proofs.Ytoceckjagfhfmaa.AE

namespace Go.Proofs.Ytoceckjagfhfmaa.AE
set_option linter.unusedVariables false
set_option linter.unusedSimpArgs false
set_option linter.constructorNameAsVariable false
open Go
set_option maxRecDepth 100000
/-- apogee/peer.PrintReport -/
theorem r14 (C : Cb) (d : Nat) (a0 a1 a2 a3 a4 a5 a6 a7 a8 : Int) : xcall C M unr d 14 [(.agg [(iz a0), (iz a1), (iz a2), (iz a3), (iz a4), (iz a5), (iz a6), (iz a7), (iz a8)])] =
 C.bool (pcall M d 34 [(.agg [(iz a0), (iz a1), (iz a2), (iz a3), (iz a4), (iz a5), (iz a6), (iz a7), (iz a8)])]) fun b0 =>
 cnd (!b0)
 (some (.str []))
 (C.int .u32 (pcall M d 38 [(.str [(UInt8.ofNat (Int.toNat (IntKind.wrap .u8 (Int.fdiv (IntKind.wrap .u32 a0) (2 ^ (min (Int.toNat 24) 32)))))), (UInt8.ofNat (Int.toNat (IntKind.wrap .u8 (Int.fdiv (IntKind.wrap .u32 a0) (2 ^ (min (Int.toNat 16) 32)))))), (UInt8.ofNat (Int.toNat (IntKind.wrap .u8 (Int.fdiv (IntKind.wrap .u32 a0) (2 ^ (min (Int.toNat 8) 32)))))), (UInt8.ofNat (Int.toNat (IntKind.wrap .u8 (IntKind.wrap .u32 a0)))), (UInt8.ofNat (Int.toNat (IntKind.wrap .u8 (IntKind.wrap .i64 (a1 + (IntKind.wrap .i64 (16 * a2))))))), (UInt8.ofNat (Int.toNat (IntKind.wrap .u8 a3))), (UInt8.ofNat (Int.toNat (IntKind.wrap .u8 a4))), (UInt8.ofNat (Int.toNat (IntKind.wrap .u8 a5))), (UInt8.ofNat (Int.toNat (IntKind.wrap .u8 (IntKind.wrap .i64 (a6 + (IntKind.wrap .i64 (16 * a7))))))), (UInt8.ofNat (Int.toNat (IntKind.wrap .u8 a8)))])]) fun x1 =>
 some (.str [(UInt8.ofNat (Int.toNat (IntKind.wrap .u8 (Int.fdiv (IntKind.wrap .u32 a0) (2 ^ (min (Int.toNat 24) 32)))))), (UInt8.ofNat (Int.toNat (IntKind.wrap .u8 (Int.fdiv (IntKind.wrap .u32 a0) (2 ^ (min (Int.toNat 16) 32)))))), (UInt8.ofNat (Int.toNat (IntKind.wrap .u8 (Int.fdiv (IntKind.wrap .u32 a0) (2 ^ (min (Int.toNat 8) 32)))))), (UInt8.ofNat (Int.toNat (IntKind.wrap .u8 (IntKind.wrap .u32 a0)))), (UInt8.ofNat (Int.toNat (IntKind.wrap .u8 (IntKind.wrap .i64 (a1 + (IntKind.wrap .i64 (16 * a2))))))), (UInt8.ofNat (Int.toNat (IntKind.wrap .u8 a3))), (UInt8.ofNat (Int.toNat (IntKind.wrap .u8 a4))), (UInt8.ofNat (Int.toNat (IntKind.wrap .u8 a5))), (UInt8.ofNat (Int.toNat (IntKind.wrap .u8 (IntKind.wrap .i64 (a6 + (IntKind.wrap .i64 (16 * a7))))))), (UInt8.ofNat (Int.toNat (IntKind.wrap .u8 a8))), (UInt8.ofNat (Int.toNat (IntKind.wrap .u8 (Int.fdiv x1 (2 ^ (min (Int.toNat 24) 32)))))), (UInt8.ofNat (Int.toNat (IntKind.wrap .u8 (Int.fdiv x1 (2 ^ (min (Int.toNat 16) 32)))))), (UInt8.ofNat (Int.toNat (IntKind.wrap .u8 (Int.fdiv x1 (2 ^ (min (Int.toNat 8) 32)))))), (UInt8.ofNat (Int.toNat (IntKind.wrap .u8 x1)))])) := by kernel_rfl
/-- apogee/peer.ReadReport -/
theorem r15 (C : Cb) (d : Nat) (a0 : List UInt8) : xcall C M unr d 15 [(.str a0)] =
 C.int .i64 (pcall M d 28 [(.str a0), (iz 10)]) fun x0 =>
 cnd (x0 != 0)
 (some (.tup [(.agg [(iz 0), (iz 0), (iz 0), (iz 0), (iz 0), (iz 0), (iz 0), (iz 0), (iz 0)]), (iz x0)]))
 (C.int .u32 (pcall M d 29 [(.str a0)]) fun x1 =>
 C.int .u8 (Option.map (fun b : UInt8 => AV.int .u8 (b.toNat : Int)) a0[4]?) fun x2 =>
 C.int .u8 (Option.map (fun b : UInt8 => AV.int .u8 (b.toNat : Int)) a0[4]?) fun x3 =>
 C.int .u8 (Option.map (fun b : UInt8 => AV.int .u8 (b.toNat : Int)) a0[5]?) fun x4 =>
 C.int .u8 (Option.map (fun b : UInt8 => AV.int .u8 (b.toNat : Int)) a0[6]?) fun x5 =>
 C.int .u8 (Option.map (fun b : UInt8 => AV.int .u8 (b.toNat : Int)) a0[7]?) fun x6 =>
 C.int .u8 (Option.map (fun b : UInt8 => AV.int .u8 (b.toNat : Int)) a0[8]?) fun x7 =>
 C.int .u8 (Option.map (fun b : UInt8 => AV.int .u8 (b.toNat : Int)) a0[8]?) fun x8 =>
 C.int .u8 (Option.map (fun b : UInt8 => AV.int .u8 (b.toNat : Int)) a0[9]?) fun x9 =>
 C.bool (pcall M d 34 [(.agg [(iz (IntKind.wrap .i64 x1)), (iz (IntKind.wrap .i64 (Int.tmod x2 16))), (iz (IntKind.wrap .i64 (IntKind.wrap .u8 (Int.tdiv x3 16)))), (iz (IntKind.wrap .i64 x4)), (iz (IntKind.wrap .i64 x5)), (iz (IntKind.wrap .i64 x6)), (iz (IntKind.wrap .i64 (Int.tmod x7 16))), (iz (IntKind.wrap .i64 (IntKind.wrap .u8 (Int.tdiv x8 16)))), (iz (IntKind.wrap .i64 x9))])]) fun b10 =>
 cnd (!b10)
 (some (.tup [(.agg [(iz 0), (iz 0), (iz 0), (iz 0), (iz 0), (iz 0), (iz 0), (iz 0), (iz 0)]), (iz 3)]))
 (some (.tup [(.agg [(iz (IntKind.wrap .i64 x1)), (iz (IntKind.wrap .i64 (Int.tmod x2 16))), (iz (IntKind.wrap .i64 (IntKind.wrap .u8 (Int.tdiv x3 16)))), (iz (IntKind.wrap .i64 x4)), (iz (IntKind.wrap .i64 x5)), (iz (IntKind.wrap .i64 x6)), (iz (IntKind.wrap .i64 (Int.tmod x7 16))), (iz (IntKind.wrap .i64 (IntKind.wrap .u8 (Int.tdiv x8 16)))), (iz (IntKind.wrap .i64 x9))]), (iz 0)]))) := by kernel_rfl
/-- apogee/apogeeref07.ReadReport -/
theorem r16 (C : Cb) (d : Nat) (a0 : List UInt8) : xcall C M unr d 16 [(.str a0)] =
 C.int .i64 (pcall M d 30 [(.str a0), (iz 10)]) fun x0 =>
 cnd (x0 != 0)
 (some (.tup [(.agg [(iz 0), (iz 0), (iz 0), (iz 0), (iz 0), (iz 0), (iz 0), (iz 0), (iz 0)]), (iz x0)]))
 (C.int .i64 (pcall M d 31 [(.str a0)]) fun x1 =>
 C.int .u8 (Option.map (fun b : UInt8 => AV.int .u8 (b.toNat : Int)) a0[4]?) fun x2 =>
 C.int .u8 (Option.map (fun b : UInt8 => AV.int .u8 (b.toNat : Int)) a0[4]?) fun x3 =>
 C.int .u8 (Option.map (fun b : UInt8 => AV.int .u8 (b.toNat : Int)) a0[5]?) fun x4 =>
 C.int .u8 (Option.map (fun b : UInt8 => AV.int .u8 (b.toNat : Int)) a0[6]?) fun x5 =>
 C.int .u8 (Option.map (fun b : UInt8 => AV.int .u8 (b.toNat : Int)) a0[7]?) fun x6 =>
 C.int .u8 (Option.map (fun b : UInt8 => AV.int .u8 (b.toNat : Int)) a0[8]?) fun x7 =>
 C.int .u8 (Option.map (fun b : UInt8 => AV.int .u8 (b.toNat : Int)) a0[8]?) fun x8 =>
 C.int .u8 (Option.map (fun b : UInt8 => AV.int .u8 (b.toNat : Int)) a0[9]?) fun x9 =>
 C.bool (pcall M d 24 [(.agg [(iz x1), (iz (Int.tmod (IntKind.wrap .i64 x2) 16)), (iz (IntKind.wrap .i64 (Int.tdiv (IntKind.wrap .i64 x3) 16))), (iz (IntKind.wrap .i64 x4)), (iz (IntKind.wrap .i64 x5)), (iz (IntKind.wrap .i64 x6)), (iz (Int.tmod (IntKind.wrap .i64 x7) 16)), (iz (IntKind.wrap .i64 (Int.tdiv (IntKind.wrap .i64 x8) 16))), (iz (IntKind.wrap .i64 x9))])]) fun b10 =>
 cnd (!b10)
 (some (.tup [(.agg [(iz 0), (iz 0), (iz 0), (iz 0), (iz 0), (iz 0), (iz 0), (iz 0), (iz 0)]), (iz 3)]))
 (some (.tup [(.agg [(iz x1), (iz (Int.tmod (IntKind.wrap .i64 x2) 16)), (iz (IntKind.wrap .i64 (Int.tdiv (IntKind.wrap .i64 x3) 16))), (iz (IntKind.wrap .i64 x4)), (iz (IntKind.wrap .i64 x5)), (iz (IntKind.wrap .i64 x6)), (iz (Int.tmod (IntKind.wrap .i64 x7) 16)), (iz (IntKind.wrap .i64 (Int.tdiv (IntKind.wrap .i64 x8) 16))), (iz (IntKind.wrap .i64 x9))]), (iz 0)]))) := by kernel_rfl
/-- apogee/apogeeref07.PrintReport -/
theorem r17 (C : Cb) (d : Nat) (a0 a1 a2 a3 a4 a5 a6 a7 a8 : Int) : xcall C M unr d 17 [(.agg [(iz a0), (iz a1), (iz a2), (iz a3), (iz a4), (iz a5), (iz a6), (iz a7), (iz a8)])] =
 C.bool (pcall M d 24 [(.agg [(iz a0), (iz a1), (iz a2), (iz a3), (iz a4), (iz a5), (iz a6), (iz a7), (iz a8)])]) fun b0 =>
 cnd (!b0)
 (some (.str []))
 (C.str (pcall M d 33 [(.int .u32 (IntKind.wrap .u32 a0))]) fun s1 =>
 cnd (decide (((List.length s1) + 6) ≤ 9223372036854775807))
 (C.str (pcall M d 32 [(.str (s1 ++ [(UInt8.ofNat (Int.toNat (IntKind.wrap .u8 (IntKind.wrap .i64 (a1 + (IntKind.wrap .i64 (16 * a2))))))), (UInt8.ofNat (Int.toNat (IntKind.wrap .u8 a3))), (UInt8.ofNat (Int.toNat (IntKind.wrap .u8 a4))), (UInt8.ofNat (Int.toNat (IntKind.wrap .u8 a5))), (UInt8.ofNat (Int.toNat (IntKind.wrap .u8 (IntKind.wrap .i64 (a6 + (IntKind.wrap .i64 (16 * a7))))))), (UInt8.ofNat (Int.toNat (IntKind.wrap .u8 a8)))]))]) fun s2 =>
 some (.str s2))
 (none)) := by kernel_rfl
/-- apogee/peer.PrintCommand -/
theorem r19 (C : Cb) (d : Nat) (a0 : Int) : xcall C M unr d 19 [(iz a0)] =
 cnd (decide (a0 < 1))
 (some (.str []))
 (cnd (decide (a0 > 3))
 (some (.str []))
 (C.int .u32 (pcall M d 38 [(.str [(UInt8.ofNat (Int.toNat (IntKind.wrap .u8 a0))), (UInt8.ofNat (Int.toNat (bits .xor .u8 (IntKind.wrap .u8 a0) 85))), (UInt8.ofNat (Int.toNat (bits .xor .u8 (IntKind.wrap .u8 a0) 170))), (UInt8.ofNat (Int.toNat (bits .xor .u8 (IntKind.wrap .u8 a0) 255)))])]) fun x0 =>
 some (.str [(UInt8.ofNat (Int.toNat (IntKind.wrap .u8 a0))), (UInt8.ofNat (Int.toNat (bits .xor .u8 (IntKind.wrap .u8 a0) 85))), (UInt8.ofNat (Int.toNat (bits .xor .u8 (IntKind.wrap .u8 a0) 170))), (UInt8.ofNat (Int.toNat (bits .xor .u8 (IntKind.wrap .u8 a0) 255))), (UInt8.ofNat (Int.toNat (IntKind.wrap .u8 (Int.fdiv x0 (2 ^ (min (Int.toNat 24) 32)))))), (UInt8.ofNat (Int.toNat (IntKind.wrap .u8 (Int.fdiv x0 (2 ^ (min (Int.toNat 16) 32)))))), (UInt8.ofNat (Int.toNat (IntKind.wrap .u8 (Int.fdiv x0 (2 ^ (min (Int.toNat 8) 32)))))), (UInt8.ofNat (Int.toNat (IntKind.wrap .u8 x0)))]))) := by kernel_rfl
/-- apogee/peer.ReadCommand -/
theorem r20 (C : Cb) (d : Nat) (a0 : List UInt8) : xcall C M unr d 20 [(.str a0)] =
 C.int .i64 (pcall M d 28 [(.str a0), (iz 4)]) fun x0 =>
 cnd (x0 != 0)
 (some (.tup [(iz 0), (iz x0)]))
 (C.int .u8 (Option.map (fun b : UInt8 => AV.int .u8 (b.toNat : Int)) a0[0]?) fun x1 =>
 C.str (pcall M d 19 [(iz (IntKind.wrap .i64 x1))]) fun s2 =>
 cnd (s2 == a0)
 (some (.tup [(iz (IntKind.wrap .i64 x1)), (iz 0)]))
 (some (.tup [(iz 0), (iz 3)]))) := by kernel_rfl
/-- apogee/apogeeref07.ReadCommand -/
theorem r21 (C : Cb) (d : Nat) (a0 : List UInt8) : xcall C M unr d 21 [(.str a0)] =
 C.int .i64 (pcall M d 30 [(.str a0), (iz 4)]) fun x0 =>
 cnd (x0 != 0)
 (some (.tup [(iz 0), (iz x0)]))
 (C.int .u8 (Option.map (fun b : UInt8 => AV.int .u8 (b.toNat : Int)) a0[0]?) fun x1 =>
 C.str (pcall M d 22 [(iz (IntKind.wrap .i64 x1))]) fun s2 =>
 cnd (!(s2 == a0))
 (some (.tup [(iz 0), (iz 3)]))
 (C.int .u8 (Option.map (fun b : UInt8 => AV.int .u8 (b.toNat : Int)) a0[0]?) fun x3 =>
 some (.tup [(iz (IntKind.wrap .i64 x3)), (iz 0)]))) := by kernel_rfl
/-- apogee/apogeeref07.PrintCommand -/
theorem r22 (C : Cb) (d : Nat) (a0 : Int) : xcall C M unr d 22 [(iz a0)] =
 cnd (decide (a0 < 1))
 (some (.str []))
 (cnd (decide (a0 > 3))
 (some (.str []))
 (C.str (pcall M d 32 [(.str [(UInt8.ofNat (Int.toNat (IntKind.wrap .u8 a0))), (UInt8.ofNat (Int.toNat (bits .xor .u8 (IntKind.wrap .u8 a0) 85))), (UInt8.ofNat (Int.toNat (bits .xor .u8 (IntKind.wrap .u8 a0) 170))), (UInt8.ofNat (Int.toNat (bits .xor .u8 (IntKind.wrap .u8 a0) 255)))])]) fun s0 =>
 some (.str s0))) := by kernel_rfl
/-- (apogee/peer.Report).right -/
theorem r34 (C : Cb) (d : Nat) (a0 a1 a2 a3 a4 a5 a6 a7 a8 : Int) : xcall C M unr d 34 [(.agg [(iz a0), (iz a1), (iz a2), (iz a3), (iz a4), (iz a5), (iz a6), (iz a7), (iz a8)])] =
 C.bool (pcall M d 37 [(iz a3), (iz 255)]) fun b0 =>
 cnd (!b0)
 (some bf)
 (C.bool (pcall M d 37 [(iz a4), (iz 255)]) fun b1 =>
 cnd (!b1)
 (some bf)
 (C.bool (pcall M d 37 [(iz a5), (iz 255)]) fun b2 =>
 cnd (!b2)
 (some bf)
 (C.bool (pcall M d 37 [(iz a8), (iz 255)]) fun b3 =>
 cnd (!b3)
 (some bf)
 (C.bool (pcall M d 36 [(iz a0), (iz a1), (iz a2)]) fun b4 =>
 cnd b4
 (C.bool (pcall M d 37 [(iz a6), (iz 4)]) fun b5 =>
 cnd b5
 (C.bool (pcall M d 37 [(iz a7), (iz 4)]) fun b6 =>
 some (.bool b6))
 (some bf))
 (some bf))))) := by kernel_rfl
end Go.Proofs.Ytoceckjagfhfmaa.AE

namespace Go.Proofs.Ytoceckjagfhfmaa.AE
set_option linter.unusedVariables false
set_option linter.unusedSimpArgs false
set_option linter.constructorNameAsVariable false
open Go Go.Proofs.Ytoceckjagfhfmaa.Geo
attribute [local irreducible] pcall C0
set_option maxRecDepth 100000
theorem s34 (d : Nat) (x : Rep7) : pcall M (d + 3) 34 [rp x] = some (.bool (decide (RepOk x))) := told (r34 C0 (d + 2) _ _ _ _ _ _ _ _ _) (by
  refine Eq.trans (pl_bool (s37 (d + 1) _ _)) ?_
  by_cases h1 : in0 x.v 255
  rotate_left
  · rw [decide_eq_false h1, decide_eq_false (fun k : RepOk x => h1 k.1)]; rfl
  rw [decide_eq_true h1]
  refine Eq.trans (pl_f (by rfl)) ?_
  refine Eq.trans (pl_bool (s37 (d + 1) _ _)) ?_
  by_cases h2 : in0 x.d 255
  rotate_left
  · rw [decide_eq_false h2, decide_eq_false (fun k : RepOk x => h2 k.2.1)]; rfl
  rw [decide_eq_true h2]
  refine Eq.trans (pl_f (by rfl)) ?_
  refine Eq.trans (pl_bool (s37 (d + 1) _ _)) ?_
  by_cases h3 : in0 x.i 255
  rotate_left
  · rw [decide_eq_false h3, decide_eq_false (fun k : RepOk x => h3 k.2.2.1)]; rfl
  rw [decide_eq_true h3]
  refine Eq.trans (pl_f (by rfl)) ?_
  refine Eq.trans (pl_bool (s37 (d + 1) _ _)) ?_
  by_cases h4 : in0 x.f 255
  rotate_left
  · rw [decide_eq_false h4, decide_eq_false (fun k : RepOk x => h4 k.2.2.2.1)]; rfl
  rw [decide_eq_true h4]
  refine Eq.trans (pl_f (by rfl)) ?_
  have e : decide (RepOk x) = decide (WhereOk x.c x.p x.s ∧ in0 x.x 4 ∧ in0 x.y 4) := by rw [decide_eq_decide]; exact ⟨fun k => k.2.2.2.2, fun k => ⟨h1, h2, h3, h4, k⟩⟩
  rw [e]
  refine Eq.trans (pl_bool (s36 d _ _ _)) ?_
  refine cnd_dec (q := in0 x.x 4 ∧ in0 x.y 4) ?_
  refine Eq.trans (pl_bool (s37 (d + 1) _ _)) ?_
  refine cnd_dec (q := in0 x.y 4) ?_
  exact Eq.trans (pl_bool (s37 (d + 1) _ _)) rfl)
def repF (x : Rep7) : List UInt8 := be4 x.c ++ [by8 (x.p + 16 * x.s), by8 x.v, by8 x.d, by8 x.i, by8 (x.x + 16 * x.y), by8 x.f]
def printR (x : Rep7) : List UInt8 := if RepOk x then sealF (repF x) else []
def zR : Rep7 := ⟨0, 0, 0, 0, 0, 0, 0, 0, 0⟩
def takenR (s : List UInt8) : Rep7 := ⟨num4 s, bt8 s 4 % 16, bt8 s 4 / 16, bt8 s 5, bt8 s 6, bt8 s 7, bt8 s 8 % 16, bt8 s 8 / 16, bt8 s 9⟩
def readR (s : List UInt8) : Rep7 × Int := if openF s 10 ≠ 0 then (zR, openF s 10) else if RepOk (takenR s) then (takenR s, 0) else (zR, 3)
abbrev rpT (r : Rep7 × Int) : AV := .tup [rp r.1, .int .i64 r.2]
theorem rep_bd {x : Rep7} (h : RepOk x) : (0 ≤ x.c ∧ x.c ≤ 1000000 ∧ 0 ≤ x.p ∧ x.p ≤ 3 ∧ 0 ≤ x.s ∧ x.s ≤ 2) ∧ (0 ≤ x.v ∧ x.v ≤ 255 ∧ 0 ≤ x.d ∧ x.d ≤ 255 ∧ 0 ≤ x.i ∧ x.i ≤ 255) ∧ 0 ≤ x.x ∧ x.x ≤ 4 ∧ 0 ≤ x.y ∧ x.y ≤ 4 ∧ 0 ≤ x.f ∧ x.f ≤ 255 := by
  obtain ⟨⟨a1, a2⟩, ⟨a3, a4⟩, ⟨a5, a6⟩, ⟨a7, a8⟩, hw, ⟨b1, b2⟩, b3, b4⟩ := h
  exact ⟨where_bd hw, ⟨a1, a2, a3, a4, a5, a6⟩, b1, b2, b3, b4, a7, a8⟩
theorem s14 (d : Nat) (x : Rep7) : pcall M (d + 4) 14 [rp x] = some (.str (printR x)) := told (r14 C0 (d + 3) _ _ _ _ _ _ _ _ _) (by
  refine Eq.trans (pl_bool (s34 d x)) ?_
  unfold printR
  by_cases h : RepOk x
  rotate_left
  · rw [decide_eq_false h, if_neg h]; rfl
  rw [decide_eq_true h, if_pos h]
  refine Eq.trans (pl_f (by rfl)) ?_
  obtain ⟨⟨h1, h2, h3, h4, h5, h6⟩, _, g1, g2, g3, g4, _⟩ := rep_bd h
  rw [u32_small h1 (by omega), i64_small (n := 16 * x.s) (by omega) (by omega), i64_small (n := x.p + 16 * x.s) (by omega) (by omega), i64_small (n := 16 * x.y) (by omega) (by omega), i64_small (n := x.x + 16 * x.y) (by omega) (by omega)]
  simp only [by8e, fd24, fd16, fd8]
  refine Eq.trans (pl_int (s38 (d + 1) (repF x) (by simp [repF, be4]))) ?_
  rfl)
theorem s17 (d : Nat) (x : Rep7) : pcall M (d + 4) 17 [rp x] = some (.str (printR x)) := told (r17 C0 (d + 3) _ _ _ _ _ _ _ _ _) (by
  refine Eq.trans (pl_bool (s24 (d + 1) x)) ?_
  unfold printR
  by_cases h : RepOk x
  rotate_left
  · rw [decide_eq_false h, if_neg h]; rfl
  rw [decide_eq_true h, if_pos h]
  refine Eq.trans (pl_f (by rfl)) ?_
  obtain ⟨⟨h1, h2, h3, h4, h5, h6⟩, _, g1, g2, g3, g4, _⟩ := rep_bd h
  rw [u32_small h1 (by omega), i64_small (n := 16 * x.s) (by omega) (by omega), i64_small (n := x.p + 16 * x.s) (by omega) (by omega), i64_small (n := 16 * x.y) (by omega) (by omega), i64_small (n := x.x + 16 * x.y) (by omega) (by omega)]
  simp only [by8e]
  refine Eq.trans (pl_str (s33 (d + 2) _)) ?_
  refine Eq.trans (pl_len (by rw [be4_len]; rfl)) ?_
  refine Eq.trans (pl_str (s32 d (repF x) (by simp [repF, be4]))) ?_
  rfl)
theorem s15 (d : Nat) (s : List UInt8) (hl : s.length < 1000000000000000000) : pcall M (d + 4) 15 [.str s] = some (rpT (readR s)) := told (r15 C0 (d + 3) _) (by
  refine Eq.trans (pl_int (s28 d s 10 hl (by decide))) ?_
  unfold readR
  by_cases h : openF s 10 = 0
  rotate_left
  · rw [if_pos h, bne_iff_ne.mpr h]; rfl
  rw [if_neg (by simp [h]), h]
  refine Eq.trans (pl_f (by rfl)) ?_
  have hs := (open_is h).1
  refine Eq.trans (pl_int (s29 (d + 2) s (by omega))) ?_
  iterate 8 refine Eq.trans (pl_int (str_ge (by omega))) ?_
  obtain ⟨b1, b2⟩ := bt8_bd s 4
  obtain ⟨c1, c2⟩ := bt8_bd s 8
  obtain ⟨b5, b6⟩ := num4_bd s
  have e2 : IntKind.wrap .i64 (IntKind.wrap .u8 (Int.tdiv ((s.getD 4 0).toNat : Int) 16)) = bt8 s 4 / 16 := tdiv16 b1 b2
  have e3 : IntKind.wrap .i64 (Int.tmod ((s.getD 4 0).toNat : Int) 16) = bt8 s 4 % 16 := tmod16 b1 b2
  have e4 : IntKind.wrap .i64 (IntKind.wrap .u8 (Int.tdiv ((s.getD 8 0).toNat : Int) 16)) = bt8 s 8 / 16 := tdiv16 c1 c2
  have e5 : IntKind.wrap .i64 (Int.tmod ((s.getD 8 0).toNat : Int) 16) = bt8 s 8 % 16 := tmod16 c1 c2
  have f5 : IntKind.wrap .i64 ((s.getD 5 0).toNat : Int) = bt8 s 5 := i64_b (bt8_bd s 5).1 (bt8_bd s 5).2
  have f6 : IntKind.wrap .i64 ((s.getD 6 0).toNat : Int) = bt8 s 6 := i64_b (bt8_bd s 6).1 (bt8_bd s 6).2
  have f7 : IntKind.wrap .i64 ((s.getD 7 0).toNat : Int) = bt8 s 7 := i64_b (bt8_bd s 7).1 (bt8_bd s 7).2
  have f9 : IntKind.wrap .i64 ((s.getD 9 0).toNat : Int) = bt8 s 9 := i64_b (bt8_bd s 9).1 (bt8_bd s 9).2
  rw [e2, e3, e4, e5, f5, f6, f7, f9, i64_small (n := num4 s) (by omega) (by omega)]
  refine Eq.trans (pl_bool (s34 d (takenR s))) ?_
  by_cases hw : RepOk (takenR s)
  · rw [decide_eq_true hw, if_pos hw]; rfl
  · rw [decide_eq_false hw, if_neg hw]; rfl)
theorem s16 (d : Nat) (s : List UInt8) (hl : s.length < 1000000000000000000) : pcall M (d + 5) 16 [.str s] = some (rpT (readR s)) := told (r16 C0 (d + 4) _) (by
  refine Eq.trans (pl_int (s30 d s 10 hl (by decide))) ?_
  unfold readR
  by_cases h : openF s 10 = 0
  rotate_left
  · rw [if_pos h, bne_iff_ne.mpr h]; rfl
  rw [if_neg (by simp [h]), h]
  refine Eq.trans (pl_f (by rfl)) ?_
  have hs := (open_is h).1
  refine Eq.trans (pl_int (s31 (d + 3) s (by omega))) ?_
  iterate 8 refine Eq.trans (pl_int (str_ge (by omega))) ?_
  obtain ⟨b1, b2⟩ := bt8_bd s 4
  obtain ⟨c1, c2⟩ := bt8_bd s 8
  have e2 : IntKind.wrap .i64 (Int.tdiv (IntKind.wrap .i64 ((s.getD 4 0).toNat : Int)) 16) = bt8 s 4 / 16 := tdiv16' b1 b2
  have e3 : Int.tmod (IntKind.wrap .i64 ((s.getD 4 0).toNat : Int)) 16 = bt8 s 4 % 16 := tmod16' b1 b2
  have e4 : IntKind.wrap .i64 (Int.tdiv (IntKind.wrap .i64 ((s.getD 8 0).toNat : Int)) 16) = bt8 s 8 / 16 := tdiv16' c1 c2
  have e5 : Int.tmod (IntKind.wrap .i64 ((s.getD 8 0).toNat : Int)) 16 = bt8 s 8 % 16 := tmod16' c1 c2
  have f5 : IntKind.wrap .i64 ((s.getD 5 0).toNat : Int) = bt8 s 5 := i64_b (bt8_bd s 5).1 (bt8_bd s 5).2
  have f6 : IntKind.wrap .i64 ((s.getD 6 0).toNat : Int) = bt8 s 6 := i64_b (bt8_bd s 6).1 (bt8_bd s 6).2
  have f7 : IntKind.wrap .i64 ((s.getD 7 0).toNat : Int) = bt8 s 7 := i64_b (bt8_bd s 7).1 (bt8_bd s 7).2
  have f9 : IntKind.wrap .i64 ((s.getD 9 0).toNat : Int) = bt8 s 9 := i64_b (bt8_bd s 9).1 (bt8_bd s 9).2
  rw [e2, e3, e4, e5, f5, f6, f7, f9]
  refine Eq.trans (pl_bool (s24 (d + 2) (takenR s))) ?_
  by_cases hw : RepOk (takenR s)
  · rw [decide_eq_true hw, if_pos hw]; rfl
  · rw [decide_eq_false hw, if_neg hw]; rfl)
def comF (c : Int) : List UInt8 := [by8 c, by8 (Go.bits .xor .u8 (c % 256) 85), by8 (Go.bits .xor .u8 (c % 256) 170), by8 (Go.bits .xor .u8 (c % 256) 255)]
def printC (c : Int) : List UInt8 := if c < 1 ∨ c > 3 then [] else sealF (comF c)
def readC (s : List UInt8) : Int × Int := if openF s 4 ≠ 0 then (0, openF s 4) else if printC (bt8 s 0) = s then (bt8 s 0, 0) else (0, 3)
abbrev cT (r : Int × Int) : AV := .tup [.int .i64 r.1, .int .i64 r.2]
theorem by8x (n m : Int) : UInt8.ofNat (Int.toNat (Go.bits .xor .u8 n m)) = by8 (Go.bits .xor .u8 n m) := by
  unfold by8
  show UInt8.ofNat (Int.toNat (IntKind.u8.wrap _)) = UInt8.ofNat (Int.toNat (IntKind.u8.wrap _ % 256))
  rw [u8w, Int.emod_emod_of_dvd _ (by decide)]
theorem s19 (d : Nat) (c : Int) : pcall M (d + 3) 19 [.int .i64 c] = some (.str (printC c)) := told (r19 C0 (d + 2) _) (by
  unfold printC
  by_cases h1 : c < 1
  · rw [decide_eq_true h1, if_pos (.inl h1)]; rfl
  rw [decide_eq_false h1, cnd_f]
  by_cases h2 : c > 3
  · rw [decide_eq_true h2, if_pos (.inr h2)]; rfl
  rw [decide_eq_false h2, cnd_f, if_neg (by omega)]
  simp only [by8e, fd24, fd16, fd8, by8x, u8w]
  refine Eq.trans (pl_int (s38 d (comF c) (by simp [comF]))) ?_
  rfl)
theorem s22 (d : Nat) (c : Int) : pcall M (d + 4) 22 [.int .i64 c] = some (.str (printC c)) := told (r22 C0 (d + 3) _) (by
  unfold printC
  by_cases h1 : c < 1
  · rw [decide_eq_true h1, if_pos (.inl h1)]; rfl
  rw [decide_eq_false h1, cnd_f]
  by_cases h2 : c > 3
  · rw [decide_eq_true h2, if_pos (.inr h2)]; rfl
  rw [decide_eq_false h2, cnd_f, if_neg (by omega)]
  simp only [by8e, by8x, u8w]
  refine Eq.trans (pl_str (s32 d (comF c) (by simp [comF]))) ?_
  rfl)
theorem s20 (d : Nat) (s : List UInt8) (hl : s.length < 1000000000000000000) : pcall M (d + 4) 20 [.str s] = some (cT (readC s)) := told (r20 C0 (d + 3) _) (by
  refine Eq.trans (pl_int (s28 d s 4 hl (by decide))) ?_
  unfold readC
  by_cases h : openF s 4 = 0
  rotate_left
  · rw [if_pos h, bne_iff_ne.mpr h]; rfl
  rw [if_neg (by simp [h]), h]
  refine Eq.trans (pl_f (by rfl)) ?_
  have hs := (open_is h).1
  refine Eq.trans (pl_int (str_ge (by omega))) ?_
  have f0 : IntKind.wrap .i64 ((s.getD 0 0).toNat : Int) = bt8 s 0 := i64_b (bt8_bd s 0).1 (bt8_bd s 0).2
  rw [f0]
  refine Eq.trans (pl_str (s19 d _)) ?_
  by_cases hp : printC (bt8 s 0) = s
  · rw [if_pos hp, beq_iff_eq.mpr hp]; rfl
  · rw [if_neg hp, beq_eq_false_iff_ne.mpr hp]; rfl)
theorem s21 (d : Nat) (s : List UInt8) (hl : s.length < 1000000000000000000) : pcall M (d + 5) 21 [.str s] = some (cT (readC s)) := told (r21 C0 (d + 4) _) (by
  refine Eq.trans (pl_int (s30 d s 4 hl (by decide))) ?_
  unfold readC
  by_cases h : openF s 4 = 0
  rotate_left
  · rw [if_pos h, bne_iff_ne.mpr h]; rfl
  rw [if_neg (by simp [h]), h]
  refine Eq.trans (pl_f (by rfl)) ?_
  have hs := (open_is h).1
  refine Eq.trans (pl_int (str_ge (by omega))) ?_
  have f0 : IntKind.wrap .i64 ((s.getD 0 0).toNat : Int) = bt8 s 0 := i64_b (bt8_bd s 0).1 (bt8_bd s 0).2
  rw [f0]
  refine Eq.trans (pl_str (s22 d _)) ?_
  by_cases hp : printC (bt8 s 0) = s
  · rw [if_pos hp, beq_iff_eq.mpr hp]
    refine Eq.trans (pl_f (by rfl)) ?_
    refine Eq.trans (pl_int (str_ge (by omega))) ?_
    rw [f0]
  · rw [if_neg hp, beq_eq_false_iff_ne.mpr hp]; rfl)
theorem read_printC {c : Int} (h : 1 ≤ c) (h' : c ≤ 3) : readC (printC c) = (c, 0) := by
  have hp : printC c = sealF (comF c) := by unfold printC; rw [if_neg (by omega)]
  unfold readC
  rw [hp]
  have hl : (comF c).length = 4 := rfl
  have := open_seal (comF c)
  rw [hl] at this
  rw [if_neg (by simp [this])]
  have e : bt8 (sealF (comF c)) 0 = c := by
    show ((by8 c).toNat : Int) = _
    rw [by8_n]; omega
  rw [e, if_pos hp]
theorem readC_ok {s : List UInt8} (h : (readC s).2 = 0) : printC (readC s).1 = s ∧ s.length = 8 ∧ openF s 4 = 0 := by
  unfold readC at h ⊢
  split at h
  · rename_i h1; exact absurd h h1
  · rename_i h1
    rw [if_neg h1]
    split at h
    · rename_i h2
      rw [if_pos h2]
      have h1 : openF s 4 = 0 := Decidable.not_not.mp h1
      exact ⟨h2, (open_is h1).1, h1⟩
    · cases h
theorem printC_len (c : Int) : (printC c).length ≤ 8 := by
  unfold printC; split
  · simp
  · rw [sealF_len]; exact Nat.le_refl 8
end Go.Proofs.Ytoceckjagfhfmaa.AE

namespace Go.Proofs.Ytoceckjagfhfmaa.AE
set_option linter.unusedVariables false
set_option linter.unusedSimpArgs false
set_option linter.constructorNameAsVariable false
open Go
set_option maxRecDepth 100000
/-- apogee/apogeelaw07.PeerCommands -/
theorem r5 (C : Cb) (d : Nat) (a0 : Int) (a1 : List UInt8) : xcall C M unr d 5 [(iz a0), (.str a1)] =
 C.bool (pcall M d 8 []) fun b0 =>
 cnd (!b0)
 (C.bool (pcall M d 8 []) fun b1 =>
 some (.bool b1))
 (cnd (decide ((((List.length a1) : Nat) : Int) > 100))
 (C.bool (pcall M d 8 []) fun b2 =>
 some (.bool b2))
 (C.str (pcall M d 19 [(iz a0)]) fun s3 =>
 C.tup 2 (pcall M d 20 [(.str s3)]) fun l4 =>
 C.int .i64 l4[0]? fun x5 =>
 C.int .i64 l4[1]? fun x6 =>
 C.tup 2 (pcall M d 20 [(.str a1)]) fun l7 =>
 C.int .i64 l7[0]? fun x8 =>
 C.int .i64 l7[1]? fun x9 =>
 C.tup 2 (pcall M d 21 [(.str a1)]) fun l10 =>
 C.int .i64 l10[0]? fun x11 =>
 C.int .i64 l10[1]? fun x12 =>
 C.str (pcall M d 22 [(iz a0)]) fun s13 =>
 cnd (s3 == s13)
 (cnd (s3 == [])
 (cnd (x8 == x11)
 (cnd (x9 == x12)
 (cnd (x12 != 0)
 (some bt)
 (C.str (pcall M d 19 [(iz x8)]) fun s14 =>
 some (.bool (s14 == a1))))
 (some bf))
 (some bf))
 (cnd (x5 == a0)
 (cnd (x6 == 0)
 (cnd (x8 == x11)
 (cnd (x9 == x12)
 (cnd (x12 != 0)
 (some bt)
 (C.str (pcall M d 19 [(iz x8)]) fun s15 =>
 some (.bool (s15 == a1))))
 (some bf))
 (some bf))
 (some bf))
 (some bf)))
 (some bf))) := by kernel_rfl
end Go.Proofs.Ytoceckjagfhfmaa.AE

namespace Go.Proofs.Ytoceckjagfhfmaa.AE
set_option linter.unusedVariables false
set_option linter.unusedSimpArgs false
set_option linter.constructorNameAsVariable false
open Go Go.Proofs.Ytoceckjagfhfmaa.Geo
attribute [local irreducible] pcall C0
set_option maxRecDepth 100000
theorem commands_law (c : Int) (s : List UInt8) : pcall M 41 5 [.int .i64 c, .str s] = some (.bool true) := told (r5 C0 40 _ _) (by
  refine Eq.trans (pl_bool awake) ?_
  refine Eq.trans (pl_f (by rfl)) ?_
  by_cases hl : s.length > 100
  · rw [decide_eq_true (by omega), cnd_t]; exact Eq.trans (pl_bool awake) rfl
  rw [decide_eq_false (by omega), cnd_f]
  refine Eq.trans (pl_str (s19 37 c)) ?_
  refine Eq.trans (pl_tup (s20 36 (printC c) (by have := printC_len c; omega)) (by rfl)) ?_
  repeat with_reducible first | refine tt sh_ptr ?_ | refine tt sh_fptr ?_ | refine tt w2 ?_ | refine tt w3 ?_ | refine tt w8 ?_ | refine tt w9 ?_ | refine tt wf ?_ | refine tt wg ?_ | refine tt wh ?_ | refine tt wi ?_ | refine tt wj ?_ | refine tt wk ?_ | refine tt wl ?_ | refine tt wn ?_ | refine tt c_ort ?_ | refine tt c_nt ?_ | refine tt c_nf ?_ | refine tt (cnd_t _ _) ?_ | refine tt (cnd_f _ _) ?_ | refine tt w6 ?_ | refine tt w4 ?_ | refine tt w5 ?_ | refine tt w7 ?_ | refine tt wm ?_ | refine tt wo ?_ | refine tt wx ?_ | refine tt nil_ptr ?_ | refine tt len_lst ?_ | refine tt len_zsl ?_
  refine Eq.trans (pl_tup (s20 36 s (by omega)) (by rfl)) ?_
  repeat with_reducible first | refine tt sh_ptr ?_ | refine tt sh_fptr ?_ | refine tt w2 ?_ | refine tt w3 ?_ | refine tt w8 ?_ | refine tt w9 ?_ | refine tt wf ?_ | refine tt wg ?_ | refine tt wh ?_ | refine tt wi ?_ | refine tt wj ?_ | refine tt wk ?_ | refine tt wl ?_ | refine tt wn ?_ | refine tt c_ort ?_ | refine tt c_nt ?_ | refine tt c_nf ?_ | refine tt (cnd_t _ _) ?_ | refine tt (cnd_f _ _) ?_ | refine tt w6 ?_ | refine tt w4 ?_ | refine tt w5 ?_ | refine tt w7 ?_ | refine tt wm ?_ | refine tt wo ?_ | refine tt wx ?_ | refine tt nil_ptr ?_ | refine tt len_lst ?_ | refine tt len_zsl ?_
  refine Eq.trans (pl_tup (s21 35 s (by omega)) (by rfl)) ?_
  repeat with_reducible first | refine tt sh_ptr ?_ | refine tt sh_fptr ?_ | refine tt w2 ?_ | refine tt w3 ?_ | refine tt w8 ?_ | refine tt w9 ?_ | refine tt wf ?_ | refine tt wg ?_ | refine tt wh ?_ | refine tt wi ?_ | refine tt wj ?_ | refine tt wk ?_ | refine tt wl ?_ | refine tt wn ?_ | refine tt c_ort ?_ | refine tt c_nt ?_ | refine tt c_nf ?_ | refine tt (cnd_t _ _) ?_ | refine tt (cnd_f _ _) ?_ | refine tt w6 ?_ | refine tt w4 ?_ | refine tt w5 ?_ | refine tt w7 ?_ | refine tt wm ?_ | refine tt wo ?_ | refine tt wx ?_ | refine tt nil_ptr ?_ | refine tt len_lst ?_ | refine tt len_zsl ?_
  refine Eq.trans (pl_str (s22 36 c)) ?_
  rw [beq_self_eq_true, cnd_t]
  have fin : ∀ {y : Ans}, y = (cnd ((readC s).1 == (readC s).1)
           (cnd ((readC s).2 == (readC s).2)
             (cnd ((readC s).2 != 0)
               (some (.bool true))
               (C0.str (pcall M 40 19 [.int .i64 (readC s).1]) fun s36 =>
                some (.bool (s36 == s))))
             (some (.bool false)))
           (some (.bool false))) → y = some (.bool true) := by
    rintro y rfl
    rw [beq_self_eq_true, cnd_t, beq_self_eq_true, cnd_t]
    by_cases h0 : (readC s).2 = 0
    · rw [h0]
      refine Eq.trans (pl_f (by rfl)) ?_
      refine Eq.trans (pl_str (s19 37 _)) ?_
      rw [(readC_ok h0).1, beq_self_eq_true]
    · rw [bne_iff_ne.mpr h0]; rfl
  by_cases hp : c < 1 ∨ c > 3
  · have e : printC c = [] := by unfold printC; rw [if_pos hp]
    rw [e]
    refine Eq.trans (pl_len (by rfl)) ?_
    exact fin rfl
  · have e := read_printC (c := c) (by omega) (by omega)
    have hne : printC c ≠ [] := by
      intro k
      have := congrArg List.length k
      unfold printC at this
      rw [if_neg hp, sealF_len] at this
      cases this
    rw [beq_eq_false_iff_ne.mpr hne, cnd_f, e]
    refine Eq.trans (pl_len (by simp)) ?_
    refine Eq.trans (pl_len (by rfl)) ?_
    exact fin rfl)
theorem law_PeerCommands (a0 : Int) (a1 : List UInt8) (w0 : (Lit.int .i64 a0).wf = true) (w1 : a1.length ≤ maxLen) :
    pcall M 41 5 [.int .i64 a0, .str a1] = some (.bool true) := commands_law a0 a1
end Go.Proofs.Ytoceckjagfhfmaa.AE
