/- The texts that the law PeerReports needs, part 0. No conditions. -/
import Derived.Test.YtoceckjagfhfmaaMc2
namespace Go.Proofs.Ytoceckjagfhfmaa.AE
set_option linter.unusedVariables false
set_option linter.unusedSimpArgs false
open Go Go.Proofs.Ytoceckjagfhfmaa.Geo
attribute [local irreducible] pcall C0
theorem sealF_len (s : List UInt8) : (sealF s).length = s.length + 4 := by simp [sealF, be4_len]
theorem open_seal (s : List UInt8) : openF (sealF s) s.length = 0 := by
  unfold openF
  rw [sealF_len, if_neg (by omega), if_neg (by omega)]
  have e1 : (sealF s).take s.length = s := by unfold sealF; rw [List.take_left' rfl]
  have e2 : (sealF s).drop s.length = be4 (w32 (crcF s)) := by unfold sealF; rw [List.drop_left' rfl]
  have := num4_be4 (w32_bd (crcF s)).1 (w32_bd (crcF s)).2 []
  rw [List.append_nil] at this
  rw [e1, e2, this, if_neg (by simp)]
end Go.Proofs.Ytoceckjagfhfmaa.AE

namespace Go.Proofs.Ytoceckjagfhfmaa.AE
set_option linter.unusedVariables false
set_option linter.unusedSimpArgs false
set_option linter.constructorNameAsVariable false
open Go
set_option maxRecDepth 100000
/-- apogee/peer.PrintReport -/
theorem r14 (C : Cb) (d : Nat) (a0 a1 a2 a3 a4 a5 a6 a7 a8 : Int) : xcall C M unr d 14 [(.agg [(iz a0), (iz a1), (iz a2), (iz a3), (iz a4), (iz a5), (iz a6), (iz a7), (iz a8)])] =
 C.bool (pcall M d 34 [(.agg [(iz a0), (iz a1), (iz a2), (iz a3), (iz a4), (iz a5), (iz a6), (iz a7), (iz a8)])]) fun b0 =>
 cnd (!b0)
 (some (.str []))
 (C.int .u32 (pcall M d 38 [(.str [(UInt8.ofNat (Int.toNat (IntKind.wrap .u8 (Int.fdiv (IntKind.wrap .u32 a0) (2 ^ (min (Int.toNat 24) 32)))))), (UInt8.ofNat (Int.toNat (IntKind.wrap .u8 (Int.fdiv (IntKind.wrap .u32 a0) (2 ^ (min (Int.toNat 16) 32)))))), (UInt8.ofNat (Int.toNat (IntKind.wrap .u8 (Int.fdiv (IntKind.wrap .u32 a0) (2 ^ (min (Int.toNat 8) 32)))))), (UInt8.ofNat (Int.toNat (IntKind.wrap .u8 (IntKind.wrap .u32 a0)))), (UInt8.ofNat (Int.toNat (IntKind.wrap .u8 (IntKind.wrap .i64 (a1 + (IntKind.wrap .i64 (16 * a2))))))), (UInt8.ofNat (Int.toNat (IntKind.wrap .u8 a3))), (UInt8.ofNat (Int.toNat (IntKind.wrap .u8 a4))), (UInt8.ofNat (Int.toNat (IntKind.wrap .u8 a5))), (UInt8.ofNat (Int.toNat (IntKind.wrap .u8 (IntKind.wrap .i64 (a6 + (IntKind.wrap .i64 (16 * a7))))))), (UInt8.ofNat (Int.toNat (IntKind.wrap .u8 a8)))])]) fun x1 =>
 some (.str [(UInt8.ofNat (Int.toNat (IntKind.wrap .u8 (Int.fdiv (IntKind.wrap .u32 a0) (2 ^ (min (Int.toNat 24) 32)))))), (UInt8.ofNat (Int.toNat (IntKind.wrap .u8 (Int.fdiv (IntKind.wrap .u32 a0) (2 ^ (min (Int.toNat 16) 32)))))), (UInt8.ofNat (Int.toNat (IntKind.wrap .u8 (Int.fdiv (IntKind.wrap .u32 a0) (2 ^ (min (Int.toNat 8) 32)))))), (UInt8.ofNat (Int.toNat (IntKind.wrap .u8 (IntKind.wrap .u32 a0)))), (UInt8.ofNat (Int.toNat (IntKind.wrap .u8 (IntKind.wrap .i64 (a1 + (IntKind.wrap .i64 (16 * a2))))))), (UInt8.ofNat (Int.toNat (IntKind.wrap .u8 a3))), (UInt8.ofNat (Int.toNat (IntKind.wrap .u8 a4))), (UInt8.ofNat (Int.toNat (IntKind.wrap .u8 a5))), (UInt8.ofNat (Int.toNat (IntKind.wrap .u8 (IntKind.wrap .i64 (a6 + (IntKind.wrap .i64 (16 * a7))))))), (UInt8.ofNat (Int.toNat (IntKind.wrap .u8 a8))), (UInt8.ofNat (Int.toNat (IntKind.wrap .u8 (Int.fdiv x1 (2 ^ (min (Int.toNat 24) 32)))))), (UInt8.ofNat (Int.toNat (IntKind.wrap .u8 (Int.fdiv x1 (2 ^ (min (Int.toNat 16) 32)))))), (UInt8.ofNat (Int.toNat (IntKind.wrap .u8 (Int.fdiv x1 (2 ^ (min (Int.toNat 8) 32)))))), (UInt8.ofNat (Int.toNat (IntKind.wrap .u8 x1)))])) := by kernel_rfl
/-- apogee/peer.ReadReport -/
theorem r15 (C : Cb) (d : Nat) (a0 : List UInt8) : xcall C M unr d 15 [(.str a0)] =
 C.int .i64 (pcall M d 28 [(.str a0), (iz 10)]) fun x0 =>
 cnd (x0 != 0)
 (some (.tup [(.agg [(iz 0), (iz 0), (iz 0), (iz 0), (iz 0), (iz 0), (iz 0), (iz 0), (iz 0)]), (iz x0)]))
 (C.int .u32 (pcall M d 29 [(.str a0)]) fun x1 =>
 C.int .u8 (Option.map (fun b : UInt8 => AV.int .u8 (b.toNat : Int)) a0[4]?) fun x2 =>
 C.int .u8 (Option.map (fun b : UInt8 => AV.int .u8 (b.toNat : Int)) a0[4]?) fun x3 =>
 C.int .u8 (Option.map (fun b : UInt8 => AV.int .u8 (b.toNat : Int)) a0[5]?) fun x4 =>
 C.int .u8 (Option.map (fun b : UInt8 => AV.int .u8 (b.toNat : Int)) a0[6]?) fun x5 =>
 C.int .u8 (Option.map (fun b : UInt8 => AV.int .u8 (b.toNat : Int)) a0[7]?) fun x6 =>
 C.int .u8 (Option.map (fun b : UInt8 => AV.int .u8 (b.toNat : Int)) a0[8]?) fun x7 =>
 C.int .u8 (Option.map (fun b : UInt8 => AV.int .u8 (b.toNat : Int)) a0[8]?) fun x8 =>
 C.int .u8 (Option.map (fun b : UInt8 => AV.int .u8 (b.toNat : Int)) a0[9]?) fun x9 =>
 C.bool (pcall M d 34 [(.agg [(iz (IntKind.wrap .i64 x1)), (iz (IntKind.wrap .i64 (Int.tmod x2 16))), (iz (IntKind.wrap .i64 (IntKind.wrap .u8 (Int.tdiv x3 16)))), (iz (IntKind.wrap .i64 x4)), (iz (IntKind.wrap .i64 x5)), (iz (IntKind.wrap .i64 x6)), (iz (IntKind.wrap .i64 (Int.tmod x7 16))), (iz (IntKind.wrap .i64 (IntKind.wrap .u8 (Int.tdiv x8 16)))), (iz (IntKind.wrap .i64 x9))])]) fun b10 =>
 cnd (!b10)
 (some (.tup [(.agg [(iz 0), (iz 0), (iz 0), (iz 0), (iz 0), (iz 0), (iz 0), (iz 0), (iz 0)]), (iz 3)]))
 (some (.tup [(.agg [(iz (IntKind.wrap .i64 x1)), (iz (IntKind.wrap .i64 (Int.tmod x2 16))), (iz (IntKind.wrap .i64 (IntKind.wrap .u8 (Int.tdiv x3 16)))), (iz (IntKind.wrap .i64 x4)), (iz (IntKind.wrap .i64 x5)), (iz (IntKind.wrap .i64 x6)), (iz (IntKind.wrap .i64 (Int.tmod x7 16))), (iz (IntKind.wrap .i64 (IntKind.wrap .u8 (Int.tdiv x8 16)))), (iz (IntKind.wrap .i64 x9))]), (iz 0)]))) := by kernel_rfl
/-- apogee/apogeeref07.ReadReport -/
theorem r16 (C : Cb) (d : Nat) (a0 : List UInt8) : xcall C M unr d 16 [(.str a0)] =
 C.int .i64 (pcall M d 30 [(.str a0), (iz 10)]) fun x0 =>
 cnd (x0 != 0)
 (some (.tup [(.agg [(iz 0), (iz 0), (iz 0), (iz 0), (iz 0), (iz 0), (iz 0), (iz 0), (iz 0)]), (iz x0)]))
 (C.int .i64 (pcall M d 31 [(.str a0)]) fun x1 =>
 C.int .u8 (Option.map (fun b : UInt8 => AV.int .u8 (b.toNat : Int)) a0[4]?) fun x2 =>
 C.int .u8 (Option.map (fun b : UInt8 => AV.int .u8 (b.toNat : Int)) a0[4]?) fun x3 =>
 C.int .u8 (Option.map (fun b : UInt8 => AV.int .u8 (b.toNat : Int)) a0[5]?) fun x4 =>
 C.int .u8 (Option.map (fun b : UInt8 => AV.int .u8 (b.toNat : Int)) a0[6]?) fun x5 =>
 C.int .u8 (Option.map (fun b : UInt8 => AV.int .u8 (b.toNat : Int)) a0[7]?) fun x6 =>
 C.int .u8 (Option.map (fun b : UInt8 => AV.int .u8 (b.toNat : Int)) a0[8]?) fun x7 =>
 C.int .u8 (Option.map (fun b : UInt8 => AV.int .u8 (b.toNat : Int)) a0[8]?) fun x8 =>
 C.int .u8 (Option.map (fun b : UInt8 => AV.int .u8 (b.toNat : Int)) a0[9]?) fun x9 =>
 C.bool (pcall M d 24 [(.agg [(iz x1), (iz (Int.tmod (IntKind.wrap .i64 x2) 16)), (iz (IntKind.wrap .i64 (Int.tdiv (IntKind.wrap .i64 x3) 16))), (iz (IntKind.wrap .i64 x4)), (iz (IntKind.wrap .i64 x5)), (iz (IntKind.wrap .i64 x6)), (iz (Int.tmod (IntKind.wrap .i64 x7) 16)), (iz (IntKind.wrap .i64 (Int.tdiv (IntKind.wrap .i64 x8) 16))), (iz (IntKind.wrap .i64 x9))])]) fun b10 =>
 cnd (!b10)
 (some (.tup [(.agg [(iz 0), (iz 0), (iz 0), (iz 0), (iz 0), (iz 0), (iz 0), (iz 0), (iz 0)]), (iz 3)]))
 (some (.tup [(.agg [(iz x1), (iz (Int.tmod (IntKind.wrap .i64 x2) 16)), (iz (IntKind.wrap .i64 (Int.tdiv (IntKind.wrap .i64 x3) 16))), (iz (IntKind.wrap .i64 x4)), (iz (IntKind.wrap .i64 x5)), (iz (IntKind.wrap .i64 x6)), (iz (Int.tmod (IntKind.wrap .i64 x7) 16)), (iz (IntKind.wrap .i64 (Int.tdiv (IntKind.wrap .i64 x8) 16))), (iz (IntKind.wrap .i64 x9))]), (iz 0)]))) := by kernel_rfl
/-- apogee/apogeeref07.PrintReport -/
theorem r17 (C : Cb) (d : Nat) (a0 a1 a2 a3 a4 a5 a6 a7 a8 : Int) : xcall C M unr d 17 [(.agg [(iz a0), (iz a1), (iz a2), (iz a3), (iz a4), (iz a5), (iz a6), (iz a7), (iz a8)])] =
 C.bool (pcall M d 24 [(.agg [(iz a0), (iz a1), (iz a2), (iz a3), (iz a4), (iz a5), (iz a6), (iz a7), (iz a8)])]) fun b0 =>
 cnd (!b0)
 (some (.str []))
 (C.str (pcall M d 33 [(.int .u32 (IntKind.wrap .u32 a0))]) fun s1 =>
 cnd (decide (((List.length s1) + 6) ≤ 9223372036854775807))
 (C.str (pcall M d 32 [(.str (s1 ++ [(UInt8.ofNat (Int.toNat (IntKind.wrap .u8 (IntKind.wrap .i64 (a1 + (IntKind.wrap .i64 (16 * a2))))))), (UInt8.ofNat (Int.toNat (IntKind.wrap .u8 a3))), (UInt8.ofNat (Int.toNat (IntKind.wrap .u8 a4))), (UInt8.ofNat (Int.toNat (IntKind.wrap .u8 a5))), (UInt8.ofNat (Int.toNat (IntKind.wrap .u8 (IntKind.wrap .i64 (a6 + (IntKind.wrap .i64 (16 * a7))))))), (UInt8.ofNat (Int.toNat (IntKind.wrap .u8 a8)))]))]) fun s2 =>
 some (.str s2))
 (none)) := by kernel_rfl
/-- apogee/peer.PrintCommand -/
theorem r19 (C : Cb) (d : Nat) (a0 : Int) : xcall C M unr d 19 [(iz a0)] =
 cnd (decide (a0 < 1))
 (some (.str []))
 (cnd (decide (a0 > 3))
 (some (.str []))
 (C.int .u32 (pcall M d 38 [(.str [(UInt8.ofNat (Int.toNat (IntKind.wrap .u8 a0))), (UInt8.ofNat (Int.toNat (bits .xor .u8 (IntKind.wrap .u8 a0) 85))), (UInt8.ofNat (Int.toNat (bits .xor .u8 (IntKind.wrap .u8 a0) 170))), (UInt8.ofNat (Int.toNat (bits .xor .u8 (IntKind.wrap .u8 a0) 255)))])]) fun x0 =>
 some (.str [(UInt8.ofNat (Int.toNat (IntKind.wrap .u8 a0))), (UInt8.ofNat (Int.toNat (bits .xor .u8 (IntKind.wrap .u8 a0) 85))), (UInt8.ofNat (Int.toNat (bits .xor .u8 (IntKind.wrap .u8 a0) 170))), (UInt8.ofNat (Int.toNat (bits .xor .u8 (IntKind.wrap .u8 a0) 255))), (UInt8.ofNat (Int.toNat (IntKind.wrap .u8 (Int.fdiv x0 (2 ^ (min (Int.toNat 24) 32)))))), (UInt8.ofNat (Int.toNat (IntKind.wrap .u8 (Int.fdiv x0 (2 ^ (min (Int.toNat 16) 32)))))), (UInt8.ofNat (Int.toNat (IntKind.wrap .u8 (Int.fdiv x0 (2 ^ (min (Int.toNat 8) 32)))))), (UInt8.ofNat (Int.toNat (IntKind.wrap .u8 x0)))]))) := by kernel_rfl
/-- apogee/peer.ReadCommand -/
theorem r20 (C : Cb) (d : Nat) (a0 : List UInt8) : xcall C M unr d 20 [(.str a0)] =
 C.int .i64 (pcall M d 28 [(.str a0), (iz 4)]) fun x0 =>
 cnd (x0 != 0)
 (some (.tup [(iz 0), (iz x0)]))
 (C.int .u8 (Option.map (fun b : UInt8 => AV.int .u8 (b.toNat : Int)) a0[0]?) fun x1 =>
 C.str (pcall M d 19 [(iz (IntKind.wrap .i64 x1))]) fun s2 =>
 cnd (s2 == a0)
 (some (.tup [(iz (IntKind.wrap .i64 x1)), (iz 0)]))
 (some (.tup [(iz 0), (iz 3)]))) := by kernel_rfl
/-- (apogee/peer.Report).right -/
theorem r34 (C : Cb) (d : Nat) (a0 a1 a2 a3 a4 a5 a6 a7 a8 : Int) : xcall C M unr d 34 [(.agg [(iz a0), (iz a1), (iz a2), (iz a3), (iz a4), (iz a5), (iz a6), (iz a7), (iz a8)])] =
 C.bool (pcall M d 37 [(iz a3), (iz 255)]) fun b0 =>
 cnd (!b0)
 (some bf)
 (C.bool (pcall M d 37 [(iz a4), (iz 255)]) fun b1 =>
 cnd (!b1)
 (some bf)
 (C.bool (pcall M d 37 [(iz a5), (iz 255)]) fun b2 =>
 cnd (!b2)
 (some bf)
 (C.bool (pcall M d 37 [(iz a8), (iz 255)]) fun b3 =>
 cnd (!b3)
 (some bf)
 (C.bool (pcall M d 36 [(iz a0), (iz a1), (iz a2)]) fun b4 =>
 cnd b4
 (C.bool (pcall M d 37 [(iz a6), (iz 4)]) fun b5 =>
 cnd b5
 (C.bool (pcall M d 37 [(iz a7), (iz 4)]) fun b6 =>
 some (.bool b6))
 (some bf))
 (some bf))))) := by kernel_rfl
end Go.Proofs.Ytoceckjagfhfmaa.AE

namespace Go.Proofs.Ytoceckjagfhfmaa.AE
set_option linter.unusedVariables false
set_option linter.unusedSimpArgs false
set_option linter.constructorNameAsVariable false
open Go
set_option maxRecDepth 100000
/-- apogee/apogeelaw07.likeReport -/
theorem r18 (C : Cb) (d : Nat) (a0 a1 a2 a3 a4 a5 a6 a7 a8 : Int) : xcall C M unr d 18 [(.agg [(iz a0), (iz a1), (iz a2), (iz a3), (iz a4), (iz a5), (iz a6), (iz a7), (iz a8)])] =
 some (.agg [(iz a0), (iz a1), (iz a2), (iz a3), (iz a4), (iz a5), (iz a6), (iz a7), (iz a8)]) := by kernel_rfl
end Go.Proofs.Ytoceckjagfhfmaa.AE

namespace Go.Proofs.Ytoceckjagfhfmaa.AE
set_option linter.unusedVariables false
set_option linter.unusedSimpArgs false
set_option linter.constructorNameAsVariable false
open Go Go.Proofs.Ytoceckjagfhfmaa.Geo
attribute [local irreducible] pcall C0
set_option maxRecDepth 100000
def wordF (x : Wrd) : List UInt8 := be4 x.c ++ [by8 (x.p + 16 * x.s), by8 x.w]
def printW (x : Wrd) : List UInt8 := if WordOk x then sealF (wordF x) else []
theorem s9 (d : Nat) (x : Wrd) : pcall M (d + 4) 9 [wr x] = some (.str (printW x)) := told (r9 C0 (d + 3) _ _ _ _) (by
  refine Eq.trans (pl_bool (s25 d x)) ?_
  unfold printW
  by_cases h : WordOk x
  rotate_left
  · rw [decide_eq_false h, if_neg h]; rfl
  rw [decide_eq_true h, if_pos h]
  refine Eq.trans (pl_f (by rfl)) ?_
  obtain ⟨h1, h2, h3, h4, h5, h6⟩ := where_bd h.1
  rw [u32_small h1 (by omega), i64_small (n := 16 * x.s) (by omega) (by omega), i64_small (n := x.p + 16 * x.s) (by omega) (by omega)]
  simp only [by8e, fd24, fd16, fd8]
  refine Eq.trans (pl_int (s38 (d + 1) (wordF x) (by simp [wordF, be4]))) ?_
  rfl)
end Go.Proofs.Ytoceckjagfhfmaa.AE

namespace Go.Proofs.Ytoceckjagfhfmaa.AE
set_option linter.unusedVariables false
set_option linter.unusedSimpArgs false
set_option linter.constructorNameAsVariable false
open Go Go.Proofs.Ytoceckjagfhfmaa.Geo
attribute [local irreducible] pcall C0
set_option maxRecDepth 100000
theorem s34 (d : Nat) (x : Rep7) : pcall M (d + 3) 34 [rp x] = some (.bool (decide (RepOk x))) := told (r34 C0 (d + 2) _ _ _ _ _ _ _ _ _) (by
  refine Eq.trans (pl_bool (s37 (d + 1) _ _)) ?_
  by_cases h1 : in0 x.v 255
  rotate_left
  · rw [decide_eq_false h1, decide_eq_false (fun k : RepOk x => h1 k.1)]; rfl
  rw [decide_eq_true h1]
  refine Eq.trans (pl_f (by rfl)) ?_
  refine Eq.trans (pl_bool (s37 (d + 1) _ _)) ?_
  by_cases h2 : in0 x.d 255
  rotate_left
  · rw [decide_eq_false h2, decide_eq_false (fun k : RepOk x => h2 k.2.1)]; rfl
  rw [decide_eq_true h2]
  refine Eq.trans (pl_f (by rfl)) ?_
  refine Eq.trans (pl_bool (s37 (d + 1) _ _)) ?_
  by_cases h3 : in0 x.i 255
  rotate_left
  · rw [decide_eq_false h3, decide_eq_false (fun k : RepOk x => h3 k.2.2.1)]; rfl
  rw [decide_eq_true h3]
  refine Eq.trans (pl_f (by rfl)) ?_
  refine Eq.trans (pl_bool (s37 (d + 1) _ _)) ?_
  by_cases h4 : in0 x.f 255
  rotate_left
  · rw [decide_eq_false h4, decide_eq_false (fun k : RepOk x => h4 k.2.2.2.1)]; rfl
  rw [decide_eq_true h4]
  refine Eq.trans (pl_f (by rfl)) ?_
  have e : decide (RepOk x) = decide (WhereOk x.c x.p x.s ∧ in0 x.x 4 ∧ in0 x.y 4) := by rw [decide_eq_decide]; exact ⟨fun k => k.2.2.2.2, fun k => ⟨h1, h2, h3, h4, k⟩⟩
  rw [e]
  refine Eq.trans (pl_bool (s36 d _ _ _)) ?_
  refine cnd_dec (q := in0 x.x 4 ∧ in0 x.y 4) ?_
  refine Eq.trans (pl_bool (s37 (d + 1) _ _)) ?_
  refine cnd_dec (q := in0 x.y 4) ?_
  exact Eq.trans (pl_bool (s37 (d + 1) _ _)) rfl)
def repF (x : Rep7) : List UInt8 := be4 x.c ++ [by8 (x.p + 16 * x.s), by8 x.v, by8 x.d, by8 x.i, by8 (x.x + 16 * x.y), by8 x.f]
def printR (x : Rep7) : List UInt8 := if RepOk x then sealF (repF x) else []
def zR : Rep7 := ⟨0, 0, 0, 0, 0, 0, 0, 0, 0⟩
def takenR (s : List UInt8) : Rep7 := ⟨num4 s, bt8 s 4 % 16, bt8 s 4 / 16, bt8 s 5, bt8 s 6, bt8 s 7, bt8 s 8 % 16, bt8 s 8 / 16, bt8 s 9⟩
def readR (s : List UInt8) : Rep7 × Int := if openF s 10 ≠ 0 then (zR, openF s 10) else if RepOk (takenR s) then (takenR s, 0) else (zR, 3)
abbrev rpT (r : Rep7 × Int) : AV := .tup [rp r.1, .int .i64 r.2]
theorem rep_bd {x : Rep7} (h : RepOk x) : (0 ≤ x.c ∧ x.c ≤ 1000000 ∧ 0 ≤ x.p ∧ x.p ≤ 3 ∧ 0 ≤ x.s ∧ x.s ≤ 2) ∧ (0 ≤ x.v ∧ x.v ≤ 255 ∧ 0 ≤ x.d ∧ x.d ≤ 255 ∧ 0 ≤ x.i ∧ x.i ≤ 255) ∧ 0 ≤ x.x ∧ x.x ≤ 4 ∧ 0 ≤ x.y ∧ x.y ≤ 4 ∧ 0 ≤ x.f ∧ x.f ≤ 255 := by
  obtain ⟨⟨a1, a2⟩, ⟨a3, a4⟩, ⟨a5, a6⟩, ⟨a7, a8⟩, hw, ⟨b1, b2⟩, b3, b4⟩ := h
  exact ⟨where_bd hw, ⟨a1, a2, a3, a4, a5, a6⟩, b1, b2, b3, b4, a7, a8⟩
theorem s14 (d : Nat) (x : Rep7) : pcall M (d + 4) 14 [rp x] = some (.str (printR x)) := told (r14 C0 (d + 3) _ _ _ _ _ _ _ _ _) (by
  refine Eq.trans (pl_bool (s34 d x)) ?_
  unfold printR
  by_cases h : RepOk x
  rotate_left
  · rw [decide_eq_false h, if_neg h]; rfl
  rw [decide_eq_true h, if_pos h]
  refine Eq.trans (pl_f (by rfl)) ?_
  obtain ⟨⟨h1, h2, h3, h4, h5, h6⟩, _, g1, g2, g3, g4, _⟩ := rep_bd h
  rw [u32_small h1 (by omega), i64_small (n := 16 * x.s) (by omega) (by omega), i64_small (n := x.p + 16 * x.s) (by omega) (by omega), i64_small (n := 16 * x.y) (by omega) (by omega), i64_small (n := x.x + 16 * x.y) (by omega) (by omega)]
  simp only [by8e, fd24, fd16, fd8]
  refine Eq.trans (pl_int (s38 (d + 1) (repF x) (by simp [repF, be4]))) ?_
  rfl)
theorem s17 (d : Nat) (x : Rep7) : pcall M (d + 4) 17 [rp x] = some (.str (printR x)) := told (r17 C0 (d + 3) _ _ _ _ _ _ _ _ _) (by
  refine Eq.trans (pl_bool (s24 (d + 1) x)) ?_
  unfold printR
  by_cases h : RepOk x
  rotate_left
  · rw [decide_eq_false h, if_neg h]; rfl
  rw [decide_eq_true h, if_pos h]
  refine Eq.trans (pl_f (by rfl)) ?_
  obtain ⟨⟨h1, h2, h3, h4, h5, h6⟩, _, g1, g2, g3, g4, _⟩ := rep_bd h
  rw [u32_small h1 (by omega), i64_small (n := 16 * x.s) (by omega) (by omega), i64_small (n := x.p + 16 * x.s) (by omega) (by omega), i64_small (n := 16 * x.y) (by omega) (by omega), i64_small (n := x.x + 16 * x.y) (by omega) (by omega)]
  simp only [by8e]
  refine Eq.trans (pl_str (s33 (d + 2) _)) ?_
  refine Eq.trans (pl_len (by rw [be4_len]; rfl)) ?_
  refine Eq.trans (pl_str (s32 d (repF x) (by simp [repF, be4]))) ?_
  rfl)
theorem s15 (d : Nat) (s : List UInt8) (hl : s.length < 1000000000000000000) : pcall M (d + 4) 15 [.str s] = some (rpT (readR s)) := told (r15 C0 (d + 3) _) (by
  refine Eq.trans (pl_int (s28 d s 10 hl (by decide))) ?_
  unfold readR
  by_cases h : openF s 10 = 0
  rotate_left
  · rw [if_pos h, bne_iff_ne.mpr h]; rfl
  rw [if_neg (by simp [h]), h]
  refine Eq.trans (pl_f (by rfl)) ?_
  have hs := (open_is h).1
  refine Eq.trans (pl_int (s29 (d + 2) s (by omega))) ?_
  iterate 8 refine Eq.trans (pl_int (str_ge (by omega))) ?_
  obtain ⟨b1, b2⟩ := bt8_bd s 4
  obtain ⟨c1, c2⟩ := bt8_bd s 8
  obtain ⟨b5, b6⟩ := num4_bd s
  have e2 : IntKind.wrap .i64 (IntKind.wrap .u8 (Int.tdiv ((s.getD 4 0).toNat : Int) 16)) = bt8 s 4 / 16 := tdiv16 b1 b2
  have e3 : IntKind.wrap .i64 (Int.tmod ((s.getD 4 0).toNat : Int) 16) = bt8 s 4 % 16 := tmod16 b1 b2
  have e4 : IntKind.wrap .i64 (IntKind.wrap .u8 (Int.tdiv ((s.getD 8 0).toNat : Int) 16)) = bt8 s 8 / 16 := tdiv16 c1 c2
  have e5 : IntKind.wrap .i64 (Int.tmod ((s.getD 8 0).toNat : Int) 16) = bt8 s 8 % 16 := tmod16 c1 c2
  have f5 : IntKind.wrap .i64 ((s.getD 5 0).toNat : Int) = bt8 s 5 := i64_b (bt8_bd s 5).1 (bt8_bd s 5).2
  have f6 : IntKind.wrap .i64 ((s.getD 6 0).toNat : Int) = bt8 s 6 := i64_b (bt8_bd s 6).1 (bt8_bd s 6).2
  have f7 : IntKind.wrap .i64 ((s.getD 7 0).toNat : Int) = bt8 s 7 := i64_b (bt8_bd s 7).1 (bt8_bd s 7).2
  have f9 : IntKind.wrap .i64 ((s.getD 9 0).toNat : Int) = bt8 s 9 := i64_b (bt8_bd s 9).1 (bt8_bd s 9).2
  rw [e2, e3, e4, e5, f5, f6, f7, f9, i64_small (n := num4 s) (by omega) (by omega)]
  refine Eq.trans (pl_bool (s34 d (takenR s))) ?_
  by_cases hw : RepOk (takenR s)
  · rw [decide_eq_true hw, if_pos hw]; rfl
  · rw [decide_eq_false hw, if_neg hw]; rfl)
theorem s16 (d : Nat) (s : List UInt8) (hl : s.length < 1000000000000000000) : pcall M (d + 5) 16 [.str s] = some (rpT (readR s)) := told (r16 C0 (d + 4) _) (by
  refine Eq.trans (pl_int (s30 d s 10 hl (by decide))) ?_
  unfold readR
  by_cases h : openF s 10 = 0
  rotate_left
  · rw [if_pos h, bne_iff_ne.mpr h]; rfl
  rw [if_neg (by simp [h]), h]
  refine Eq.trans (pl_f (by rfl)) ?_
  have hs := (open_is h).1
  refine Eq.trans (pl_int (s31 (d + 3) s (by omega))) ?_
  iterate 8 refine Eq.trans (pl_int (str_ge (by omega))) ?_
  obtain ⟨b1, b2⟩ := bt8_bd s 4
  obtain ⟨c1, c2⟩ := bt8_bd s 8
  have e2 : IntKind.wrap .i64 (Int.tdiv (IntKind.wrap .i64 ((s.getD 4 0).toNat : Int)) 16) = bt8 s 4 / 16 := tdiv16' b1 b2
  have e3 : Int.tmod (IntKind.wrap .i64 ((s.getD 4 0).toNat : Int)) 16 = bt8 s 4 % 16 := tmod16' b1 b2
  have e4 : IntKind.wrap .i64 (Int.tdiv (IntKind.wrap .i64 ((s.getD 8 0).toNat : Int)) 16) = bt8 s 8 / 16 := tdiv16' c1 c2
  have e5 : Int.tmod (IntKind.wrap .i64 ((s.getD 8 0).toNat : Int)) 16 = bt8 s 8 % 16 := tmod16' c1 c2
  have f5 : IntKind.wrap .i64 ((s.getD 5 0).toNat : Int) = bt8 s 5 := i64_b (bt8_bd s 5).1 (bt8_bd s 5).2
  have f6 : IntKind.wrap .i64 ((s.getD 6 0).toNat : Int) = bt8 s 6 := i64_b (bt8_bd s 6).1 (bt8_bd s 6).2
  have f7 : IntKind.wrap .i64 ((s.getD 7 0).toNat : Int) = bt8 s 7 := i64_b (bt8_bd s 7).1 (bt8_bd s 7).2
  have f9 : IntKind.wrap .i64 ((s.getD 9 0).toNat : Int) = bt8 s 9 := i64_b (bt8_bd s 9).1 (bt8_bd s 9).2
  rw [e2, e3, e4, e5, f5, f6, f7, f9]
  refine Eq.trans (pl_bool (s24 (d + 2) (takenR s))) ?_
  by_cases hw : RepOk (takenR s)
  · rw [decide_eq_true hw, if_pos hw]; rfl
  · rw [decide_eq_false hw, if_neg hw]; rfl)
theorem taken_rep {x : Rep7} (h : RepOk x) (t : List UInt8) : takenR (repF x ++ t) = x := by
  obtain ⟨⟨h1, h2, h3, h4, h5, h6⟩, ⟨k1, k2, k3, k4, k5, k6⟩, g1, g2, g3, g4, g5, g6⟩ := rep_bd h
  obtain ⟨c, p, s, v, e, i, x, y, f⟩ := x
  simp only at *
  unfold takenR repF
  simp only
  rw [List.append_assoc, num4_be4 h1 (by omega)]
  generalize hr : ([by8 (p + 16 * s), by8 v, by8 e, by8 i, by8 (x + 16 * y), by8 f] ++ t) = r
  have q4 : bt8 (be4 c ++ r) 4 = p + 16 * s := by subst hr; show ((by8 (p + 16 * s)).toNat : Int) = _; rw [by8_n]; omega
  have q5 : bt8 (be4 c ++ r) 5 = v := by subst hr; show ((by8 v).toNat : Int) = _; rw [by8_n]; omega
  have q6 : bt8 (be4 c ++ r) 6 = e := by subst hr; show ((by8 e).toNat : Int) = _; rw [by8_n]; omega
  have q7 : bt8 (be4 c ++ r) 7 = i := by subst hr; show ((by8 i).toNat : Int) = _; rw [by8_n]; omega
  have q8 : bt8 (be4 c ++ r) 8 = x + 16 * y := by subst hr; show ((by8 (x + 16 * y)).toNat : Int) = _; rw [by8_n]; omega
  have q9 : bt8 (be4 c ++ r) 9 = f := by subst hr; show ((by8 f).toNat : Int) = _; rw [by8_n]; omega
  rw [q4, q5, q6, q7, q8, q9]
  congr 1 <;> omega
theorem read_printR {x : Rep7} (h : RepOk x) : readR (printR x) = (x, 0) := by
  unfold readR printR
  rw [if_pos h]
  have hl : (repF x).length = 10 := rfl
  have := open_seal (repF x)
  rw [hl] at this
  rw [if_neg (by simp [this])]
  have e : takenR (sealF (repF x)) = x := taken_rep h _
  rw [e, if_pos h]
theorem ten_of (s : List UInt8) (h : 10 ≤ s.length) : ∃ a b c e s4 s5 s6 s7 s8 s9 t, s = a :: b :: c :: e :: s4 :: s5 :: s6 :: s7 :: s8 :: s9 :: t := by
  match s, h with
  | a :: b :: c :: e :: s4 :: s5 :: s6 :: s7 :: s8 :: s9 :: t, _ => exact ⟨a, b, c, e, s4, s5, s6, s7, s8, s9, t, rfl⟩
theorem readR_ok {s : List UInt8} (h : (readR s).2 = 0) : RepOk (readR s).1 ∧ printR (readR s).1 = s ∧ s.length = 14 := by
  unfold readR at h ⊢
  split at h
  · rename_i h1; exact absurd h h1
  · rename_i h1
    rw [if_neg h1]
    split at h
    · rename_i h2
      rw [if_pos h2]
      have h1 : openF s 10 = 0 := Decidable.not_not.mp h1
      obtain ⟨hl, hs⟩ := open_is h1
      refine ⟨h2, ?_, hl⟩
      unfold printR
      rw [if_pos h2]
      have : repF (takenR s) = s.take 10 := by
        obtain ⟨a, b, c, e, s4, s5, s6, s7, s8, s9, t, rfl⟩ := ten_of s (by omega)
        · have hb := be4_num4 (s := [a, b, c, e]) rfl
          have h4 := u8lt s4
          have h8 := u8lt s8
          have e0 : takenR (a :: b :: c :: e :: s4 :: s5 :: s6 :: s7 :: s8 :: s9 :: t) = ⟨num4 [a, b, c, e], (s4.toNat : Int) % 16, (s4.toNat : Int) / 16, s5.toNat, s6.toNat, s7.toNat, (s8.toNat : Int) % 16, (s8.toNat : Int) / 16, s9.toNat⟩ := rfl
          rw [e0]
          unfold repF
          simp only
          rw [hb, show (s4.toNat : Int) % 16 + 16 * ((s4.toNat : Int) / 16) = s4.toNat by omega, show (s8.toNat : Int) % 16 + 16 * ((s8.toNat : Int) / 16) = s8.toNat by omega, by8_b, by8_b, by8_b, by8_b, by8_b, by8_b]
          rfl
      rw [this, hs]
    · cases h
theorem printR_len (x : Rep7) : (printR x).length ≤ 14 := by
  unfold printR; split
  · rw [sealF_len]; exact Nat.le_refl 14
  · simp
def comF (c : Int) : List UInt8 := [by8 c, by8 (Go.bits .xor .u8 (c % 256) 85), by8 (Go.bits .xor .u8 (c % 256) 170), by8 (Go.bits .xor .u8 (c % 256) 255)]
def printC (c : Int) : List UInt8 := if c < 1 ∨ c > 3 then [] else sealF (comF c)
def readC (s : List UInt8) : Int × Int := if openF s 4 ≠ 0 then (0, openF s 4) else if printC (bt8 s 0) = s then (bt8 s 0, 0) else (0, 3)
abbrev cT (r : Int × Int) : AV := .tup [.int .i64 r.1, .int .i64 r.2]
theorem by8x (n m : Int) : UInt8.ofNat (Int.toNat (Go.bits .xor .u8 n m)) = by8 (Go.bits .xor .u8 n m) := by
  unfold by8
  show UInt8.ofNat (Int.toNat (IntKind.u8.wrap _)) = UInt8.ofNat (Int.toNat (IntKind.u8.wrap _ % 256))
  rw [u8w, Int.emod_emod_of_dvd _ (by decide)]
theorem s19 (d : Nat) (c : Int) : pcall M (d + 3) 19 [.int .i64 c] = some (.str (printC c)) := told (r19 C0 (d + 2) _) (by
  unfold printC
  by_cases h1 : c < 1
  · rw [decide_eq_true h1, if_pos (.inl h1)]; rfl
  rw [decide_eq_false h1, cnd_f]
  by_cases h2 : c > 3
  · rw [decide_eq_true h2, if_pos (.inr h2)]; rfl
  rw [decide_eq_false h2, cnd_f, if_neg (by omega)]
  simp only [by8e, fd24, fd16, fd8, by8x, u8w]
  refine Eq.trans (pl_int (s38 d (comF c) (by simp [comF]))) ?_
  rfl)
theorem s20 (d : Nat) (s : List UInt8) (hl : s.length < 1000000000000000000) : pcall M (d + 4) 20 [.str s] = some (cT (readC s)) := told (r20 C0 (d + 3) _) (by
  refine Eq.trans (pl_int (s28 d s 4 hl (by decide))) ?_
  unfold readC
  by_cases h : openF s 4 = 0
  rotate_left
  · rw [if_pos h, bne_iff_ne.mpr h]; rfl
  rw [if_neg (by simp [h]), h]
  refine Eq.trans (pl_f (by rfl)) ?_
  have hs := (open_is h).1
  refine Eq.trans (pl_int (str_ge (by omega))) ?_
  have f0 : IntKind.wrap .i64 ((s.getD 0 0).toNat : Int) = bt8 s 0 := i64_b (bt8_bd s 0).1 (bt8_bd s 0).2
  rw [f0]
  refine Eq.trans (pl_str (s19 d _)) ?_
  by_cases hp : printC (bt8 s 0) = s
  · rw [if_pos hp, beq_iff_eq.mpr hp]; rfl
  · rw [if_neg hp, beq_eq_false_iff_ne.mpr hp]; rfl)
end Go.Proofs.Ytoceckjagfhfmaa.AE

namespace Go.Proofs.Ytoceckjagfhfmaa.AE
set_option linter.unusedVariables false
set_option linter.unusedSimpArgs false
set_option linter.constructorNameAsVariable false
open Go
set_option maxRecDepth 100000
/-- apogee/apogeelaw07.PeerReports -/
theorem r4 (C : Cb) (d : Nat) (a0 a1 a2 a3 a4 a5 a6 a7 a8 : Int) (a9 : List UInt8) : xcall C M unr d 4 [(.agg [(iz a0), (iz a1), (iz a2), (iz a3), (iz a4), (iz a5), (iz a6), (iz a7), (iz a8)]), (.str a9)] =
 C.bool (pcall M d 8 []) fun b0 =>
 cnd (!b0)
 (C.bool (pcall M d 8 []) fun b1 =>
 some (.bool b1))
 (cnd (decide ((((List.length a9) : Nat) : Int) > 100))
 (C.bool (pcall M d 8 []) fun b2 =>
 some (.bool b2))
 (C.str (pcall M d 14 [(.agg [(iz a0), (iz a1), (iz a2), (iz a3), (iz a4), (iz a5), (iz a6), (iz a7), (iz a8)])]) fun s3 =>
 C.tup 2 (pcall M d 15 [(.str s3)]) fun l4 =>
 C.agg 9 l4[0]? fun l5 =>
 C.int .i64 l5[0]? fun x6 =>
 C.int .i64 l5[1]? fun x7 =>
 C.int .i64 l5[2]? fun x8 =>
 C.int .i64 l5[3]? fun x9 =>
 C.int .i64 l5[4]? fun x10 =>
 C.int .i64 l5[5]? fun x11 =>
 C.int .i64 l5[6]? fun x12 =>
 C.int .i64 l5[7]? fun x13 =>
 C.int .i64 l5[8]? fun x14 =>
 C.int .i64 l4[1]? fun x15 =>
 C.tup 2 (pcall M d 15 [(.str a9)]) fun l16 =>
 C.agg 9 l16[0]? fun l17 =>
 C.int .i64 l17[0]? fun x18 =>
 C.int .i64 l17[1]? fun x19 =>
 C.int .i64 l17[2]? fun x20 =>
 C.int .i64 l17[3]? fun x21 =>
 C.int .i64 l17[4]? fun x22 =>
 C.int .i64 l17[5]? fun x23 =>
 C.int .i64 l17[6]? fun x24 =>
 C.int .i64 l17[7]? fun x25 =>
 C.int .i64 l17[8]? fun x26 =>
 C.int .i64 l16[1]? fun x27 =>
 C.tup 2 (pcall M d 16 [(.str a9)]) fun l28 =>
 C.agg 9 l28[0]? fun l29 =>
 C.int .i64 l29[0]? fun x30 =>
 C.int .i64 l29[1]? fun x31 =>
 C.int .i64 l29[2]? fun x32 =>
 C.int .i64 l29[3]? fun x33 =>
 C.int .i64 l29[4]? fun x34 =>
 C.int .i64 l29[5]? fun x35 =>
 C.int .i64 l29[6]? fun x36 =>
 C.int .i64 l29[7]? fun x37 =>
 C.int .i64 l29[8]? fun x38 =>
 C.int .i64 l28[1]? fun x39 =>
 C.agg 9 (pcall M d 18 [(.agg [(iz a0), (iz a1), (iz a2), (iz a3), (iz a4), (iz a5), (iz a6), (iz a7), (iz a8)])]) fun l40 =>
 C.int .i64 l40[0]? fun x41 =>
 C.int .i64 l40[1]? fun x42 =>
 C.int .i64 l40[2]? fun x43 =>
 C.int .i64 l40[3]? fun x44 =>
 C.int .i64 l40[4]? fun x45 =>
 C.int .i64 l40[5]? fun x46 =>
 C.int .i64 l40[6]? fun x47 =>
 C.int .i64 l40[7]? fun x48 =>
 C.int .i64 l40[8]? fun x49 =>
 C.str (pcall M d 17 [(.agg [(iz x41), (iz x42), (iz x43), (iz x44), (iz x45), (iz x46), (iz x47), (iz x48), (iz x49)])]) fun s50 =>
 cnd (s3 == s50)
 (cnd (s3 == [])
 (C.agg 9 (pcall M d 18 [(.agg [(iz x18), (iz x19), (iz x20), (iz x21), (iz x22), (iz x23), (iz x24), (iz x25), (iz x26)])]) fun l51 =>
 C.int .i64 l51[0]? fun x52 =>
 C.int .i64 l51[1]? fun x53 =>
 C.int .i64 l51[2]? fun x54 =>
 C.int .i64 l51[3]? fun x55 =>
 C.int .i64 l51[4]? fun x56 =>
 C.int .i64 l51[5]? fun x57 =>
 C.int .i64 l51[6]? fun x58 =>
 C.int .i64 l51[7]? fun x59 =>
 C.int .i64 l51[8]? fun x60 =>
 cnd (xor false ((x52 == x30) && ((x53 == x31) && ((x54 == x32) && ((x55 == x33) && ((x56 == x34) && ((x57 == x35) && ((x58 == x36) && ((x59 == x37) && ((x60 == x38) && true))))))))))
 (cnd (x27 == x39)
 (cnd (x39 != 0)
 (some bt)
 (C.str (pcall M d 14 [(.agg [(iz x18), (iz x19), (iz x20), (iz x21), (iz x22), (iz x23), (iz x24), (iz x25), (iz x26)])]) fun s61 =>
 some (.bool (s61 == a9))))
 (some bf))
 (some bf))
 (cnd (xor false ((x6 == a0) && ((x7 == a1) && ((x8 == a2) && ((x9 == a3) && ((x10 == a4) && ((x11 == a5) && ((x12 == a6) && ((x13 == a7) && ((x14 == a8) && true))))))))))
 (cnd (x15 == 0)
 (C.agg 9 (pcall M d 18 [(.agg [(iz x18), (iz x19), (iz x20), (iz x21), (iz x22), (iz x23), (iz x24), (iz x25), (iz x26)])]) fun l62 =>
 C.int .i64 l62[0]? fun x63 =>
 C.int .i64 l62[1]? fun x64 =>
 C.int .i64 l62[2]? fun x65 =>
 C.int .i64 l62[3]? fun x66 =>
 C.int .i64 l62[4]? fun x67 =>
 C.int .i64 l62[5]? fun x68 =>
 C.int .i64 l62[6]? fun x69 =>
 C.int .i64 l62[7]? fun x70 =>
 C.int .i64 l62[8]? fun x71 =>
 cnd (xor false ((x63 == x30) && ((x64 == x31) && ((x65 == x32) && ((x66 == x33) && ((x67 == x34) && ((x68 == x35) && ((x69 == x36) && ((x70 == x37) && ((x71 == x38) && true))))))))))
 (cnd (x27 == x39)
 (cnd (x39 != 0)
 (some bt)
 (C.str (pcall M d 14 [(.agg [(iz x18), (iz x19), (iz x20), (iz x21), (iz x22), (iz x23), (iz x24), (iz x25), (iz x26)])]) fun s72 =>
 some (.bool (s72 == a9))))
 (some bf))
 (some bf))
 (some bf))
 (some bf)))
 (some bf))) := by kernel_rfl
end Go.Proofs.Ytoceckjagfhfmaa.AE

namespace Go.Proofs.Ytoceckjagfhfmaa.AE
set_option linter.unusedVariables false
set_option linter.unusedSimpArgs false
set_option linter.constructorNameAsVariable false
open Go Go.Proofs.Ytoceckjagfhfmaa.Geo
attribute [local irreducible] pcall C0
set_option maxRecDepth 100000
theorem s18 (d : Nat) (x : Rep7) : pcall M (d + 1) 18 [rp x] = some (rp x) := told (r18 C0 d _ _ _ _ _ _ _ _ _) rfl
theorem reports_law (x : Rep7) (s : List UInt8) : pcall M 41 4 [rp x, .str s] = some (.bool true) := told (r4 C0 40 _ _ _ _ _ _ _ _ _ _) (by
  refine Eq.trans (pl_bool awake) ?_
  refine Eq.trans (pl_f (by rfl)) ?_
  by_cases hl : s.length > 100
  · rw [decide_eq_true (by omega), cnd_t]; exact Eq.trans (pl_bool awake) rfl
  rw [decide_eq_false (by omega), cnd_f]
  refine Eq.trans (pl_str (s14 36 x)) ?_
  refine Eq.trans (pl_tup (s15 36 (printR x) (by have := printR_len x; omega)) (by rfl)) ?_
  repeat with_reducible first | refine tt sh_ptr ?_ | refine tt sh_fptr ?_ | refine tt w2 ?_ | refine tt w3 ?_ | refine tt w8 ?_ | refine tt w9 ?_ | refine tt wf ?_ | refine tt wg ?_ | refine tt wh ?_ | refine tt wi ?_ | refine tt wj ?_ | refine tt wk ?_ | refine tt wl ?_ | refine tt wn ?_ | refine tt c_ort ?_ | refine tt c_nt ?_ | refine tt c_nf ?_ | refine tt (cnd_t _ _) ?_ | refine tt (cnd_f _ _) ?_ | refine tt w6 ?_ | refine tt w4 ?_ | refine tt w5 ?_ | refine tt w7 ?_ | refine tt wm ?_ | refine tt wo ?_ | refine tt wx ?_ | refine tt nil_ptr ?_ | refine tt len_lst ?_ | refine tt len_zsl ?_
  refine Eq.trans (pl_tup (s15 36 s (by omega)) (by rfl)) ?_
  repeat with_reducible first | refine tt sh_ptr ?_ | refine tt sh_fptr ?_ | refine tt w2 ?_ | refine tt w3 ?_ | refine tt w8 ?_ | refine tt w9 ?_ | refine tt wf ?_ | refine tt wg ?_ | refine tt wh ?_ | refine tt wi ?_ | refine tt wj ?_ | refine tt wk ?_ | refine tt wl ?_ | refine tt wn ?_ | refine tt c_ort ?_ | refine tt c_nt ?_ | refine tt c_nf ?_ | refine tt (cnd_t _ _) ?_ | refine tt (cnd_f _ _) ?_ | refine tt w6 ?_ | refine tt w4 ?_ | refine tt w5 ?_ | refine tt w7 ?_ | refine tt wm ?_ | refine tt wo ?_ | refine tt wx ?_ | refine tt nil_ptr ?_ | refine tt len_lst ?_ | refine tt len_zsl ?_
  refine Eq.trans (pl_tup (s16 35 s (by omega)) (by rfl)) ?_
  repeat with_reducible first | refine tt sh_ptr ?_ | refine tt sh_fptr ?_ | refine tt w2 ?_ | refine tt w3 ?_ | refine tt w8 ?_ | refine tt w9 ?_ | refine tt wf ?_ | refine tt wg ?_ | refine tt wh ?_ | refine tt wi ?_ | refine tt wj ?_ | refine tt wk ?_ | refine tt wl ?_ | refine tt wn ?_ | refine tt c_ort ?_ | refine tt c_nt ?_ | refine tt c_nf ?_ | refine tt (cnd_t _ _) ?_ | refine tt (cnd_f _ _) ?_ | refine tt w6 ?_ | refine tt w4 ?_ | refine tt w5 ?_ | refine tt w7 ?_ | refine tt wm ?_ | refine tt wo ?_ | refine tt wx ?_ | refine tt nil_ptr ?_ | refine tt len_lst ?_ | refine tt len_zsl ?_
  refine Eq.trans (pl_agg (s18 39 x) (by rfl)) ?_
  repeat with_reducible first | refine tt sh_ptr ?_ | refine tt sh_fptr ?_ | refine tt w2 ?_ | refine tt w3 ?_ | refine tt w8 ?_ | refine tt w9 ?_ | refine tt wf ?_ | refine tt wg ?_ | refine tt wh ?_ | refine tt wi ?_ | refine tt wj ?_ | refine tt wk ?_ | refine tt wl ?_ | refine tt wn ?_ | refine tt c_ort ?_ | refine tt c_nt ?_ | refine tt c_nf ?_ | refine tt (cnd_t _ _) ?_ | refine tt (cnd_f _ _) ?_ | refine tt w6 ?_ | refine tt w4 ?_ | refine tt w5 ?_ | refine tt w7 ?_ | refine tt wm ?_ | refine tt wo ?_ | refine tt wx ?_ | refine tt nil_ptr ?_ | refine tt len_lst ?_ | refine tt len_zsl ?_
  refine Eq.trans (pl_str (s17 36 x)) ?_
  rw [beq_self_eq_true, cnd_t]
  have fin : ∀ {y : Ans}, y = (C0.agg 9 (pcall M 40 18 [rp (readR s).1]) fun l31 =>
          C0.int .i64 l31[0]? fun z0 =>
          C0.int .i64 l31[1]? fun z1 =>
          C0.int .i64 l31[2]? fun z2 =>
          C0.int .i64 l31[3]? fun z3 =>
          C0.int .i64 l31[4]? fun z4 =>
          C0.int .i64 l31[5]? fun z5 =>
          C0.int .i64 l31[6]? fun z6 =>
          C0.int .i64 l31[7]? fun z7 =>
          C0.int .i64 l31[8]? fun z8 =>
          cnd (xor false ((z0 == (readR s).1.c) && ((z1 == (readR s).1.p) && ((z2 == (readR s).1.s) && ((z3 == (readR s).1.v) && ((z4 == (readR s).1.d) && ((z5 == (readR s).1.i) && ((z6 == (readR s).1.x) && ((z7 == (readR s).1.y) && ((z8 == (readR s).1.f) && true))))))))))
           (cnd ((readR s).2 == (readR s).2)
             (cnd ((readR s).2 != 0)
               (some (.bool true))
               (C0.str (pcall M 40 14 [rp (readR s).1]) fun s36 =>
                some (.bool (s36 == s))))
             (some (.bool false)))
           (some (.bool false))) → y = some (.bool true) := by
    rintro y rfl
    refine Eq.trans (pl_agg (s18 39 _) (by rfl)) ?_
    repeat with_reducible first | refine tt sh_ptr ?_ | refine tt sh_fptr ?_ | refine tt w2 ?_ | refine tt w3 ?_ | refine tt w8 ?_ | refine tt w9 ?_ | refine tt wf ?_ | refine tt wg ?_ | refine tt wh ?_ | refine tt wi ?_ | refine tt wj ?_ | refine tt wk ?_ | refine tt wl ?_ | refine tt wn ?_ | refine tt c_ort ?_ | refine tt c_nt ?_ | refine tt c_nf ?_ | refine tt (cnd_t _ _) ?_ | refine tt (cnd_f _ _) ?_ | refine tt w6 ?_ | refine tt w4 ?_ | refine tt w5 ?_ | refine tt w7 ?_ | refine tt wm ?_ | refine tt wo ?_ | refine tt wx ?_ | refine tt nil_ptr ?_ | refine tt len_lst ?_ | refine tt len_zsl ?_
    refine Eq.trans (pl_len (by simp)) ?_
    rw [beq_self_eq_true, cnd_t]
    by_cases h0 : (readR s).2 = 0
    · rw [h0]
      refine Eq.trans (pl_f (by rfl)) ?_
      refine Eq.trans (pl_str (s14 36 _)) ?_
      rw [(readR_ok h0).2.1, beq_self_eq_true]
    · rw [bne_iff_ne.mpr h0]; rfl
  by_cases hp : RepOk x
  · have e := read_printR hp
    have hne : printR x ≠ [] := by
      intro c
      have := congrArg List.length c
      unfold printR at this
      rw [if_pos hp, sealF_len] at this
      cases this
    rw [beq_eq_false_iff_ne.mpr hne, cnd_f, e]
    refine Eq.trans (pl_len (by simp)) ?_
    refine Eq.trans (pl_len (by rfl)) ?_
    exact fin rfl
  · have e : printR x = [] := by unfold printR; rw [if_neg hp]
    rw [e]
    refine Eq.trans (pl_len (by rfl)) ?_
    exact fin rfl)
theorem law_PeerReports (a0_0 : Int) (a0_1 : Int) (a0_2 : Int) (a0_3 : Int) (a0_4 : Int) (a0_5 : Int) (a0_6 : Int) (a0_7 : Int) (a0_8 : Int) (a1 : List UInt8) (w0_0 : (Lit.int .i64 a0_0).wf = true) (w0_1 : (Lit.int .i64 a0_1).wf = true) (w0_2 : (Lit.int .i64 a0_2).wf = true) (w0_3 : (Lit.int .i64 a0_3).wf = true) (w0_4 : (Lit.int .i64 a0_4).wf = true) (w0_5 : (Lit.int .i64 a0_5).wf = true) (w0_6 : (Lit.int .i64 a0_6).wf = true) (w0_7 : (Lit.int .i64 a0_7).wf = true) (w0_8 : (Lit.int .i64 a0_8).wf = true) (w1 : a1.length ≤ maxLen) :
    pcall M 41 4 [.agg [.int .i64 a0_0, .int .i64 a0_1, .int .i64 a0_2, .int .i64 a0_3, .int .i64 a0_4, .int .i64 a0_5, .int .i64 a0_6, .int .i64 a0_7, .int .i64 a0_8], .str a1] = some (.bool true) := reports_law ⟨a0_0, a0_1, a0_2, a0_3, a0_4, a0_5, a0_6, a0_7, a0_8⟩ a1
end Go.Proofs.Ytoceckjagfhfmaa.AE
