/- The texts that the law PeerApart needs, part 0. No conditions. -/
import Derived.Test.YtoceckjagfhfmaaMc2
namespace Go.Proofs.Ytoceckjagfhfmaa.AE
set_option linter.unusedVariables false
set_option linter.unusedSimpArgs false
set_option linter.constructorNameAsVariable false
open Go
theorem u64w (n : Int) : IntKind.u64.wrap n = n % 18446744073709551616 := by simp [IntKind.wrap, IntKind.bits, IntKind.signed]
theorem u64_small {n : Int} (h : 0 ≤ n) (h' : n < 18446744073709551616) : IntKind.u64.wrap n = n := by rw [u64w]; omega
end Go.Proofs.Ytoceckjagfhfmaa.AE

namespace Go.Proofs.Ytoceckjagfhfmaa.AE
set_option linter.unusedVariables false
set_option linter.unusedSimpArgs false
set_option linter.constructorNameAsVariable false
open Go
set_option maxRecDepth 100000
/-- apogee/peer.ReadWord -/
theorem r10 (C : Cb) (d : Nat) (a0 : List UInt8) : xcall C M unr d 10 [(.str a0)] =
 C.int .i64 (pcall M d 28 [(.str a0), (iz 6)]) fun x0 =>
 cnd (x0 != 0)
 (some (.tup [(.agg [(iz 0), (iz 0), (iz 0), (iz 0)]), (iz x0)]))
 (C.int .u32 (pcall M d 29 [(.str a0)]) fun x1 =>
 C.int .u8 (Option.map (fun b : UInt8 => AV.int .u8 (b.toNat : Int)) a0[4]?) fun x2 =>
 C.int .u8 (Option.map (fun b : UInt8 => AV.int .u8 (b.toNat : Int)) a0[4]?) fun x3 =>
 C.int .u8 (Option.map (fun b : UInt8 => AV.int .u8 (b.toNat : Int)) a0[5]?) fun x4 =>
 C.bool (pcall M d 25 [(.agg [(iz (IntKind.wrap .i64 x1)), (iz (IntKind.wrap .i64 (Int.tmod x2 16))), (iz (IntKind.wrap .i64 (IntKind.wrap .u8 (Int.tdiv x3 16)))), (iz (IntKind.wrap .i64 x4))])]) fun b5 =>
 cnd (!b5)
 (some (.tup [(.agg [(iz 0), (iz 0), (iz 0), (iz 0)]), (iz 3)]))
 (some (.tup [(.agg [(iz (IntKind.wrap .i64 x1)), (iz (IntKind.wrap .i64 (Int.tmod x2 16))), (iz (IntKind.wrap .i64 (IntKind.wrap .u8 (Int.tdiv x3 16)))), (iz (IntKind.wrap .i64 x4))]), (iz 0)]))) := by kernel_rfl
/-- apogee/peer.ReadReport -/
theorem r15 (C : Cb) (d : Nat) (a0 : List UInt8) : xcall C M unr d 15 [(.str a0)] =
 C.int .i64 (pcall M d 28 [(.str a0), (iz 10)]) fun x0 =>
 cnd (x0 != 0)
 (some (.tup [(.agg [(iz 0), (iz 0), (iz 0), (iz 0), (iz 0), (iz 0), (iz 0), (iz 0), (iz 0)]), (iz x0)]))
 (C.int .u32 (pcall M d 29 [(.str a0)]) fun x1 =>
 C.int .u8 (Option.map (fun b : UInt8 => AV.int .u8 (b.toNat : Int)) a0[4]?) fun x2 =>
 C.int .u8 (Option.map (fun b : UInt8 => AV.int .u8 (b.toNat : Int)) a0[4]?) fun x3 =>
 C.int .u8 (Option.map (fun b : UInt8 => AV.int .u8 (b.toNat : Int)) a0[5]?) fun x4 =>
 C.int .u8 (Option.map (fun b : UInt8 => AV.int .u8 (b.toNat : Int)) a0[6]?) fun x5 =>
 C.int .u8 (Option.map (fun b : UInt8 => AV.int .u8 (b.toNat : Int)) a0[7]?) fun x6 =>
 C.int .u8 (Option.map (fun b : UInt8 => AV.int .u8 (b.toNat : Int)) a0[8]?) fun x7 =>
 C.int .u8 (Option.map (fun b : UInt8 => AV.int .u8 (b.toNat : Int)) a0[8]?) fun x8 =>
 C.int .u8 (Option.map (fun b : UInt8 => AV.int .u8 (b.toNat : Int)) a0[9]?) fun x9 =>
 C.bool (pcall M d 34 [(.agg [(iz (IntKind.wrap .i64 x1)), (iz (IntKind.wrap .i64 (Int.tmod x2 16))), (iz (IntKind.wrap .i64 (IntKind.wrap .u8 (Int.tdiv x3 16)))), (iz (IntKind.wrap .i64 x4)), (iz (IntKind.wrap .i64 x5)), (iz (IntKind.wrap .i64 x6)), (iz (IntKind.wrap .i64 (Int.tmod x7 16))), (iz (IntKind.wrap .i64 (IntKind.wrap .u8 (Int.tdiv x8 16)))), (iz (IntKind.wrap .i64 x9))])]) fun b10 =>
 cnd (!b10)
 (some (.tup [(.agg [(iz 0), (iz 0), (iz 0), (iz 0), (iz 0), (iz 0), (iz 0), (iz 0), (iz 0)]), (iz 3)]))
 (some (.tup [(.agg [(iz (IntKind.wrap .i64 x1)), (iz (IntKind.wrap .i64 (Int.tmod x2 16))), (iz (IntKind.wrap .i64 (IntKind.wrap .u8 (Int.tdiv x3 16)))), (iz (IntKind.wrap .i64 x4)), (iz (IntKind.wrap .i64 x5)), (iz (IntKind.wrap .i64 x6)), (iz (IntKind.wrap .i64 (Int.tmod x7 16))), (iz (IntKind.wrap .i64 (IntKind.wrap .u8 (Int.tdiv x8 16)))), (iz (IntKind.wrap .i64 x9))]), (iz 0)]))) := by kernel_rfl
/-- apogee/apogeeref07.ReadReport -/
theorem r16 (C : Cb) (d : Nat) (a0 : List UInt8) : xcall C M unr d 16 [(.str a0)] =
 C.int .i64 (pcall M d 30 [(.str a0), (iz 10)]) fun x0 =>
 cnd (x0 != 0)
 (some (.tup [(.agg [(iz 0), (iz 0), (iz 0), (iz 0), (iz 0), (iz 0), (iz 0), (iz 0), (iz 0)]), (iz x0)]))
 (C.int .i64 (pcall M d 31 [(.str a0)]) fun x1 =>
 C.int .u8 (Option.map (fun b : UInt8 => AV.int .u8 (b.toNat : Int)) a0[4]?) fun x2 =>
 C.int .u8 (Option.map (fun b : UInt8 => AV.int .u8 (b.toNat : Int)) a0[4]?) fun x3 =>
 C.int .u8 (Option.map (fun b : UInt8 => AV.int .u8 (b.toNat : Int)) a0[5]?) fun x4 =>
 C.int .u8 (Option.map (fun b : UInt8 => AV.int .u8 (b.toNat : Int)) a0[6]?) fun x5 =>
 C.int .u8 (Option.map (fun b : UInt8 => AV.int .u8 (b.toNat : Int)) a0[7]?) fun x6 =>
 C.int .u8 (Option.map (fun b : UInt8 => AV.int .u8 (b.toNat : Int)) a0[8]?) fun x7 =>
 C.int .u8 (Option.map (fun b : UInt8 => AV.int .u8 (b.toNat : Int)) a0[8]?) fun x8 =>
 C.int .u8 (Option.map (fun b : UInt8 => AV.int .u8 (b.toNat : Int)) a0[9]?) fun x9 =>
 C.bool (pcall M d 24 [(.agg [(iz x1), (iz (Int.tmod (IntKind.wrap .i64 x2) 16)), (iz (IntKind.wrap .i64 (Int.tdiv (IntKind.wrap .i64 x3) 16))), (iz (IntKind.wrap .i64 x4)), (iz (IntKind.wrap .i64 x5)), (iz (IntKind.wrap .i64 x6)), (iz (Int.tmod (IntKind.wrap .i64 x7) 16)), (iz (IntKind.wrap .i64 (Int.tdiv (IntKind.wrap .i64 x8) 16))), (iz (IntKind.wrap .i64 x9))])]) fun b10 =>
 cnd (!b10)
 (some (.tup [(.agg [(iz 0), (iz 0), (iz 0), (iz 0), (iz 0), (iz 0), (iz 0), (iz 0), (iz 0)]), (iz 3)]))
 (some (.tup [(.agg [(iz x1), (iz (Int.tmod (IntKind.wrap .i64 x2) 16)), (iz (IntKind.wrap .i64 (Int.tdiv (IntKind.wrap .i64 x3) 16))), (iz (IntKind.wrap .i64 x4)), (iz (IntKind.wrap .i64 x5)), (iz (IntKind.wrap .i64 x6)), (iz (Int.tmod (IntKind.wrap .i64 x7) 16)), (iz (IntKind.wrap .i64 (Int.tdiv (IntKind.wrap .i64 x8) 16))), (iz (IntKind.wrap .i64 x9))]), (iz 0)]))) := by kernel_rfl
/-- apogee/apogeeref07.PrintReport -/
theorem r17 (C : Cb) (d : Nat) (a0 a1 a2 a3 a4 a5 a6 a7 a8 : Int) : xcall C M unr d 17 [(.agg [(iz a0), (iz a1), (iz a2), (iz a3), (iz a4), (iz a5), (iz a6), (iz a7), (iz a8)])] =
 C.bool (pcall M d 24 [(.agg [(iz a0), (iz a1), (iz a2), (iz a3), (iz a4), (iz a5), (iz a6), (iz a7), (iz a8)])]) fun b0 =>
 cnd (!b0)
 (some (.str []))
 (C.str (pcall M d 33 [(.int .u32 (IntKind.wrap .u32 a0))]) fun s1 =>
 cnd (decide (((List.length s1) + 6) ≤ 9223372036854775807))
 (C.str (pcall M d 32 [(.str (s1 ++ [(UInt8.ofNat (Int.toNat (IntKind.wrap .u8 (IntKind.wrap .i64 (a1 + (IntKind.wrap .i64 (16 * a2))))))), (UInt8.ofNat (Int.toNat (IntKind.wrap .u8 a3))), (UInt8.ofNat (Int.toNat (IntKind.wrap .u8 a4))), (UInt8.ofNat (Int.toNat (IntKind.wrap .u8 a5))), (UInt8.ofNat (Int.toNat (IntKind.wrap .u8 (IntKind.wrap .i64 (a6 + (IntKind.wrap .i64 (16 * a7))))))), (UInt8.ofNat (Int.toNat (IntKind.wrap .u8 a8)))]))]) fun s2 =>
 some (.str s2))
 (none)) := by kernel_rfl
/-- apogee/peer.PrintCommand -/
theorem r19 (C : Cb) (d : Nat) (a0 : Int) : xcall C M unr d 19 [(iz a0)] =
 cnd (decide (a0 < 1))
 (some (.str []))
 (cnd (decide (a0 > 3))
 (some (.str []))
 (C.int .u32 (pcall M d 38 [(.str [(UInt8.ofNat (Int.toNat (IntKind.wrap .u8 a0))), (UInt8.ofNat (Int.toNat (bits .xor .u8 (IntKind.wrap .u8 a0) 85))), (UInt8.ofNat (Int.toNat (bits .xor .u8 (IntKind.wrap .u8 a0) 170))), (UInt8.ofNat (Int.toNat (bits .xor .u8 (IntKind.wrap .u8 a0) 255)))])]) fun x0 =>
 some (.str [(UInt8.ofNat (Int.toNat (IntKind.wrap .u8 a0))), (UInt8.ofNat (Int.toNat (bits .xor .u8 (IntKind.wrap .u8 a0) 85))), (UInt8.ofNat (Int.toNat (bits .xor .u8 (IntKind.wrap .u8 a0) 170))), (UInt8.ofNat (Int.toNat (bits .xor .u8 (IntKind.wrap .u8 a0) 255))), (UInt8.ofNat (Int.toNat (IntKind.wrap .u8 (Int.fdiv x0 (2 ^ (min (Int.toNat 24) 32)))))), (UInt8.ofNat (Int.toNat (IntKind.wrap .u8 (Int.fdiv x0 (2 ^ (min (Int.toNat 16) 32)))))), (UInt8.ofNat (Int.toNat (IntKind.wrap .u8 (Int.fdiv x0 (2 ^ (min (Int.toNat 8) 32)))))), (UInt8.ofNat (Int.toNat (IntKind.wrap .u8 x0)))]))) := by kernel_rfl
/-- apogee/peer.ReadCommand -/
theorem r20 (C : Cb) (d : Nat) (a0 : List UInt8) : xcall C M unr d 20 [(.str a0)] =
 C.int .i64 (pcall M d 28 [(.str a0), (iz 4)]) fun x0 =>
 cnd (x0 != 0)
 (some (.tup [(iz 0), (iz x0)]))
 (C.int .u8 (Option.map (fun b : UInt8 => AV.int .u8 (b.toNat : Int)) a0[0]?) fun x1 =>
 C.str (pcall M d 19 [(iz (IntKind.wrap .i64 x1))]) fun s2 =>
 cnd (s2 == a0)
 (some (.tup [(iz (IntKind.wrap .i64 x1)), (iz 0)]))
 (some (.tup [(iz 0), (iz 3)]))) := by kernel_rfl
/-- (apogee/peer.Report).right -/
theorem r34 (C : Cb) (d : Nat) (a0 a1 a2 a3 a4 a5 a6 a7 a8 : Int) : xcall C M unr d 34 [(.agg [(iz a0), (iz a1), (iz a2), (iz a3), (iz a4), (iz a5), (iz a6), (iz a7), (iz a8)])] =
 C.bool (pcall M d 37 [(iz a3), (iz 255)]) fun b0 =>
 cnd (!b0)
 (some bf)
 (C.bool (pcall M d 37 [(iz a4), (iz 255)]) fun b1 =>
 cnd (!b1)
 (some bf)
 (C.bool (pcall M d 37 [(iz a5), (iz 255)]) fun b2 =>
 cnd (!b2)
 (some bf)
 (C.bool (pcall M d 37 [(iz a8), (iz 255)]) fun b3 =>
 cnd (!b3)
 (some bf)
 (C.bool (pcall M d 36 [(iz a0), (iz a1), (iz a2)]) fun b4 =>
 cnd b4
 (C.bool (pcall M d 37 [(iz a6), (iz 4)]) fun b5 =>
 cnd b5
 (C.bool (pcall M d 37 [(iz a7), (iz 4)]) fun b6 =>
 some (.bool b6))
 (some bf))
 (some bf))))) := by kernel_rfl
end Go.Proofs.Ytoceckjagfhfmaa.AE

namespace Go.Proofs.Ytoceckjagfhfmaa.AE
set_option linter.unusedVariables false
set_option linter.unusedSimpArgs false
set_option linter.constructorNameAsVariable false
open Go Go.Proofs.Ytoceckjagfhfmaa.Geo
attribute [local irreducible] pcall C0
set_option maxRecDepth 100000
def wordF (x : Wrd) : List UInt8 := be4 x.c ++ [by8 (x.p + 16 * x.s), by8 x.w]
def printW (x : Wrd) : List UInt8 := if WordOk x then sealF (wordF x) else []
def zW : Wrd := ⟨0, 0, 0, 0⟩
def takenW (s : List UInt8) : Wrd := ⟨num4 s, bt8 s 4 % 16, bt8 s 4 / 16, bt8 s 5⟩
def readW (s : List UInt8) : Wrd × Int := if openF s 6 ≠ 0 then (zW, openF s 6) else if WordOk (takenW s) then (takenW s, 0) else (zW, 3)
abbrev wrT (r : Wrd × Int) : AV := .tup [wr r.1, .int .i64 r.2]
theorem s9 (d : Nat) (x : Wrd) : pcall M (d + 4) 9 [wr x] = some (.str (printW x)) := told (r9 C0 (d + 3) _ _ _ _) (by
  refine Eq.trans (pl_bool (s25 d x)) ?_
  unfold printW
  by_cases h : WordOk x
  rotate_left
  · rw [decide_eq_false h, if_neg h]; rfl
  rw [decide_eq_true h, if_pos h]
  refine Eq.trans (pl_f (by rfl)) ?_
  obtain ⟨h1, h2, h3, h4, h5, h6⟩ := where_bd h.1
  rw [u32_small h1 (by omega), i64_small (n := 16 * x.s) (by omega) (by omega), i64_small (n := x.p + 16 * x.s) (by omega) (by omega)]
  simp only [by8e, fd24, fd16, fd8]
  refine Eq.trans (pl_int (s38 (d + 1) (wordF x) (by simp [wordF, be4]))) ?_
  rfl)
theorem s10 (d : Nat) (s : List UInt8) (hl : s.length < 1000000000000000000) : pcall M (d + 4) 10 [.str s] = some (wrT (readW s)) := told (r10 C0 (d + 3) _) (by
  refine Eq.trans (pl_int (s28 d s 6 hl (by decide))) ?_
  unfold readW
  by_cases h : openF s 6 = 0
  rotate_left
  · rw [if_pos h, bne_iff_ne.mpr h]; rfl
  rw [if_neg (by simp [h]), h]
  refine Eq.trans (pl_f (by rfl)) ?_
  have hs := (open_is h).1
  refine Eq.trans (pl_int (s29 (d + 2) s (by omega))) ?_
  refine Eq.trans (pl_int (str_ge (by omega))) ?_
  refine Eq.trans (pl_int (str_ge (by omega))) ?_
  refine Eq.trans (pl_int (str_ge (by omega))) ?_
  obtain ⟨b1, b2⟩ := bt8_bd s 4
  obtain ⟨b3, b4⟩ := bt8_bd s 5
  obtain ⟨b5, b6⟩ := num4_bd s
  have e1 : IntKind.wrap .i64 ((s.getD 5 0).toNat : Int) = bt8 s 5 := i64_b b3 b4
  have e2 : IntKind.wrap .i64 (IntKind.wrap .u8 (Int.tdiv ((s.getD 4 0).toNat : Int) 16)) = bt8 s 4 / 16 := tdiv16 b1 b2
  have e3 : IntKind.wrap .i64 (Int.tmod ((s.getD 4 0).toNat : Int) 16) = bt8 s 4 % 16 := tmod16 b1 b2
  rw [e1, e2, e3, i64_small (n := num4 s) (by omega) (by omega)]
  refine Eq.trans (pl_bool (s25 d (takenW s))) ?_
  by_cases hw : WordOk (takenW s)
  · rw [decide_eq_true hw, if_pos hw]; rfl
  · rw [decide_eq_false hw, if_neg hw]; rfl)
theorem six_of (s : List UInt8) (h : 6 ≤ s.length) : ∃ a b c e f g t, s = a :: b :: c :: e :: f :: g :: t := by
  match s, h with
  | a :: b :: c :: e :: f :: g :: t, _ => exact ⟨a, b, c, e, f, g, t, rfl⟩
theorem readW_ok {s : List UInt8} (h : (readW s).2 = 0) : WordOk (readW s).1 ∧ printW (readW s).1 = s ∧ s.length = 10 := by
  unfold readW at h ⊢
  split at h
  · rename_i h1; exact absurd h h1
  · rename_i h1
    rw [if_neg h1]
    split at h
    · rename_i h2
      rw [if_pos h2]
      have h1 : openF s 6 = 0 := Decidable.not_not.mp h1
      obtain ⟨hl, hs⟩ := open_is h1
      refine ⟨h2, ?_, hl⟩
      unfold printW
      rw [if_pos h2]
      have : wordF (takenW s) = s.take 6 := by
        obtain ⟨a, b, c, e, f, g, t, rfl⟩ := six_of s (by omega)
        · have hn : num4 (a :: b :: c :: e :: f :: g :: t) = num4 [a, b, c, e] := rfl
          have hb := be4_num4 (s := [a, b, c, e]) rfl
          have h4 := u8lt f
          unfold wordF takenW
          simp only
          rw [hn, hb]
          have e4 : bt8 (a :: b :: c :: e :: f :: g :: t) 4 = (f.toNat : Int) := rfl
          have e5 : bt8 (a :: b :: c :: e :: f :: g :: t) 5 = (g.toNat : Int) := rfl
          rw [e4, e5, show (f.toNat : Int) % 16 + 16 * ((f.toNat : Int) / 16) = f.toNat by omega, by8_b, by8_b]
          rfl
      rw [this, hs]
    · cases h
end Go.Proofs.Ytoceckjagfhfmaa.AE

namespace Go.Proofs.Ytoceckjagfhfmaa.AE
set_option linter.unusedVariables false
set_option linter.unusedSimpArgs false
set_option linter.constructorNameAsVariable false
open Go Go.Proofs.Ytoceckjagfhfmaa.Geo
attribute [local irreducible] pcall C0
set_option maxRecDepth 100000
theorem s34 (d : Nat) (x : Rep7) : pcall M (d + 3) 34 [rp x] = some (.bool (decide (RepOk x))) := told (r34 C0 (d + 2) _ _ _ _ _ _ _ _ _) (by
  refine Eq.trans (pl_bool (s37 (d + 1) _ _)) ?_
  by_cases h1 : in0 x.v 255
  rotate_left
  · rw [decide_eq_false h1, decide_eq_false (fun k : RepOk x => h1 k.1)]; rfl
  rw [decide_eq_true h1]
  refine Eq.trans (pl_f (by rfl)) ?_
  refine Eq.trans (pl_bool (s37 (d + 1) _ _)) ?_
  by_cases h2 : in0 x.d 255
  rotate_left
  · rw [decide_eq_false h2, decide_eq_false (fun k : RepOk x => h2 k.2.1)]; rfl
  rw [decide_eq_true h2]
  refine Eq.trans (pl_f (by rfl)) ?_
  refine Eq.trans (pl_bool (s37 (d + 1) _ _)) ?_
  by_cases h3 : in0 x.i 255
  rotate_left
  · rw [decide_eq_false h3, decide_eq_false (fun k : RepOk x => h3 k.2.2.1)]; rfl
  rw [decide_eq_true h3]
  refine Eq.trans (pl_f (by rfl)) ?_
  refine Eq.trans (pl_bool (s37 (d + 1) _ _)) ?_
  by_cases h4 : in0 x.f 255
  rotate_left
  · rw [decide_eq_false h4, decide_eq_false (fun k : RepOk x => h4 k.2.2.2.1)]; rfl
  rw [decide_eq_true h4]
  refine Eq.trans (pl_f (by rfl)) ?_
  have e : decide (RepOk x) = decide (WhereOk x.c x.p x.s ∧ in0 x.x 4 ∧ in0 x.y 4) := by rw [decide_eq_decide]; exact ⟨fun k => k.2.2.2.2, fun k => ⟨h1, h2, h3, h4, k⟩⟩
  rw [e]
  refine Eq.trans (pl_bool (s36 d _ _ _)) ?_
  refine cnd_dec (q := in0 x.x 4 ∧ in0 x.y 4) ?_
  refine Eq.trans (pl_bool (s37 (d + 1) _ _)) ?_
  refine cnd_dec (q := in0 x.y 4) ?_
  exact Eq.trans (pl_bool (s37 (d + 1) _ _)) rfl)
def repF (x : Rep7) : List UInt8 := be4 x.c ++ [by8 (x.p + 16 * x.s), by8 x.v, by8 x.d, by8 x.i, by8 (x.x + 16 * x.y), by8 x.f]
def printR (x : Rep7) : List UInt8 := if RepOk x then sealF (repF x) else []
def zR : Rep7 := ⟨0, 0, 0, 0, 0, 0, 0, 0, 0⟩
def takenR (s : List UInt8) : Rep7 := ⟨num4 s, bt8 s 4 % 16, bt8 s 4 / 16, bt8 s 5, bt8 s 6, bt8 s 7, bt8 s 8 % 16, bt8 s 8 / 16, bt8 s 9⟩
def readR (s : List UInt8) : Rep7 × Int := if openF s 10 ≠ 0 then (zR, openF s 10) else if RepOk (takenR s) then (takenR s, 0) else (zR, 3)
abbrev rpT (r : Rep7 × Int) : AV := .tup [rp r.1, .int .i64 r.2]
theorem rep_bd {x : Rep7} (h : RepOk x) : (0 ≤ x.c ∧ x.c ≤ 1000000 ∧ 0 ≤ x.p ∧ x.p ≤ 3 ∧ 0 ≤ x.s ∧ x.s ≤ 2) ∧ (0 ≤ x.v ∧ x.v ≤ 255 ∧ 0 ≤ x.d ∧ x.d ≤ 255 ∧ 0 ≤ x.i ∧ x.i ≤ 255) ∧ 0 ≤ x.x ∧ x.x ≤ 4 ∧ 0 ≤ x.y ∧ x.y ≤ 4 ∧ 0 ≤ x.f ∧ x.f ≤ 255 := by
  obtain ⟨⟨a1, a2⟩, ⟨a3, a4⟩, ⟨a5, a6⟩, ⟨a7, a8⟩, hw, ⟨b1, b2⟩, b3, b4⟩ := h
  exact ⟨where_bd hw, ⟨a1, a2, a3, a4, a5, a6⟩, b1, b2, b3, b4, a7, a8⟩
theorem s17 (d : Nat) (x : Rep7) : pcall M (d + 4) 17 [rp x] = some (.str (printR x)) := told (r17 C0 (d + 3) _ _ _ _ _ _ _ _ _) (by
  refine Eq.trans (pl_bool (s24 (d + 1) x)) ?_
  unfold printR
  by_cases h : RepOk x
  rotate_left
  · rw [decide_eq_false h, if_neg h]; rfl
  rw [decide_eq_true h, if_pos h]
  refine Eq.trans (pl_f (by rfl)) ?_
  obtain ⟨⟨h1, h2, h3, h4, h5, h6⟩, _, g1, g2, g3, g4, _⟩ := rep_bd h
  rw [u32_small h1 (by omega), i64_small (n := 16 * x.s) (by omega) (by omega), i64_small (n := x.p + 16 * x.s) (by omega) (by omega), i64_small (n := 16 * x.y) (by omega) (by omega), i64_small (n := x.x + 16 * x.y) (by omega) (by omega)]
  simp only [by8e]
  refine Eq.trans (pl_str (s33 (d + 2) _)) ?_
  refine Eq.trans (pl_len (by rw [be4_len]; rfl)) ?_
  refine Eq.trans (pl_str (s32 d (repF x) (by simp [repF, be4]))) ?_
  rfl)
theorem s15 (d : Nat) (s : List UInt8) (hl : s.length < 1000000000000000000) : pcall M (d + 4) 15 [.str s] = some (rpT (readR s)) := told (r15 C0 (d + 3) _) (by
  refine Eq.trans (pl_int (s28 d s 10 hl (by decide))) ?_
  unfold readR
  by_cases h : openF s 10 = 0
  rotate_left
  · rw [if_pos h, bne_iff_ne.mpr h]; rfl
  rw [if_neg (by simp [h]), h]
  refine Eq.trans (pl_f (by rfl)) ?_
  have hs := (open_is h).1
  refine Eq.trans (pl_int (s29 (d + 2) s (by omega))) ?_
  iterate 8 refine Eq.trans (pl_int (str_ge (by omega))) ?_
  obtain ⟨b1, b2⟩ := bt8_bd s 4
  obtain ⟨c1, c2⟩ := bt8_bd s 8
  obtain ⟨b5, b6⟩ := num4_bd s
  have e2 : IntKind.wrap .i64 (IntKind.wrap .u8 (Int.tdiv ((s.getD 4 0).toNat : Int) 16)) = bt8 s 4 / 16 := tdiv16 b1 b2
  have e3 : IntKind.wrap .i64 (Int.tmod ((s.getD 4 0).toNat : Int) 16) = bt8 s 4 % 16 := tmod16 b1 b2
  have e4 : IntKind.wrap .i64 (IntKind.wrap .u8 (Int.tdiv ((s.getD 8 0).toNat : Int) 16)) = bt8 s 8 / 16 := tdiv16 c1 c2
  have e5 : IntKind.wrap .i64 (Int.tmod ((s.getD 8 0).toNat : Int) 16) = bt8 s 8 % 16 := tmod16 c1 c2
  have f5 : IntKind.wrap .i64 ((s.getD 5 0).toNat : Int) = bt8 s 5 := i64_b (bt8_bd s 5).1 (bt8_bd s 5).2
  have f6 : IntKind.wrap .i64 ((s.getD 6 0).toNat : Int) = bt8 s 6 := i64_b (bt8_bd s 6).1 (bt8_bd s 6).2
  have f7 : IntKind.wrap .i64 ((s.getD 7 0).toNat : Int) = bt8 s 7 := i64_b (bt8_bd s 7).1 (bt8_bd s 7).2
  have f9 : IntKind.wrap .i64 ((s.getD 9 0).toNat : Int) = bt8 s 9 := i64_b (bt8_bd s 9).1 (bt8_bd s 9).2
  rw [e2, e3, e4, e5, f5, f6, f7, f9, i64_small (n := num4 s) (by omega) (by omega)]
  refine Eq.trans (pl_bool (s34 d (takenR s))) ?_
  by_cases hw : RepOk (takenR s)
  · rw [decide_eq_true hw, if_pos hw]; rfl
  · rw [decide_eq_false hw, if_neg hw]; rfl)
theorem s16 (d : Nat) (s : List UInt8) (hl : s.length < 1000000000000000000) : pcall M (d + 5) 16 [.str s] = some (rpT (readR s)) := told (r16 C0 (d + 4) _) (by
  refine Eq.trans (pl_int (s30 d s 10 hl (by decide))) ?_
  unfold readR
  by_cases h : openF s 10 = 0
  rotate_left
  · rw [if_pos h, bne_iff_ne.mpr h]; rfl
  rw [if_neg (by simp [h]), h]
  refine Eq.trans (pl_f (by rfl)) ?_
  have hs := (open_is h).1
  refine Eq.trans (pl_int (s31 (d + 3) s (by omega))) ?_
  iterate 8 refine Eq.trans (pl_int (str_ge (by omega))) ?_
  obtain ⟨b1, b2⟩ := bt8_bd s 4
  obtain ⟨c1, c2⟩ := bt8_bd s 8
  have e2 : IntKind.wrap .i64 (Int.tdiv (IntKind.wrap .i64 ((s.getD 4 0).toNat : Int)) 16) = bt8 s 4 / 16 := tdiv16' b1 b2
  have e3 : Int.tmod (IntKind.wrap .i64 ((s.getD 4 0).toNat : Int)) 16 = bt8 s 4 % 16 := tmod16' b1 b2
  have e4 : IntKind.wrap .i64 (Int.tdiv (IntKind.wrap .i64 ((s.getD 8 0).toNat : Int)) 16) = bt8 s 8 / 16 := tdiv16' c1 c2
  have e5 : Int.tmod (IntKind.wrap .i64 ((s.getD 8 0).toNat : Int)) 16 = bt8 s 8 % 16 := tmod16' c1 c2
  have f5 : IntKind.wrap .i64 ((s.getD 5 0).toNat : Int) = bt8 s 5 := i64_b (bt8_bd s 5).1 (bt8_bd s 5).2
  have f6 : IntKind.wrap .i64 ((s.getD 6 0).toNat : Int) = bt8 s 6 := i64_b (bt8_bd s 6).1 (bt8_bd s 6).2
  have f7 : IntKind.wrap .i64 ((s.getD 7 0).toNat : Int) = bt8 s 7 := i64_b (bt8_bd s 7).1 (bt8_bd s 7).2
  have f9 : IntKind.wrap .i64 ((s.getD 9 0).toNat : Int) = bt8 s 9 := i64_b (bt8_bd s 9).1 (bt8_bd s 9).2
  rw [e2, e3, e4, e5, f5, f6, f7, f9]
  refine Eq.trans (pl_bool (s24 (d + 2) (takenR s))) ?_
  by_cases hw : RepOk (takenR s)
  · rw [decide_eq_true hw, if_pos hw]; rfl
  · rw [decide_eq_false hw, if_neg hw]; rfl)
theorem ten_of (s : List UInt8) (h : 10 ≤ s.length) : ∃ a b c e s4 s5 s6 s7 s8 s9 t, s = a :: b :: c :: e :: s4 :: s5 :: s6 :: s7 :: s8 :: s9 :: t := by
  match s, h with
  | a :: b :: c :: e :: s4 :: s5 :: s6 :: s7 :: s8 :: s9 :: t, _ => exact ⟨a, b, c, e, s4, s5, s6, s7, s8, s9, t, rfl⟩
theorem readR_ok {s : List UInt8} (h : (readR s).2 = 0) : RepOk (readR s).1 ∧ printR (readR s).1 = s ∧ s.length = 14 := by
  unfold readR at h ⊢
  split at h
  · rename_i h1; exact absurd h h1
  · rename_i h1
    rw [if_neg h1]
    split at h
    · rename_i h2
      rw [if_pos h2]
      have h1 : openF s 10 = 0 := Decidable.not_not.mp h1
      obtain ⟨hl, hs⟩ := open_is h1
      refine ⟨h2, ?_, hl⟩
      unfold printR
      rw [if_pos h2]
      have : repF (takenR s) = s.take 10 := by
        obtain ⟨a, b, c, e, s4, s5, s6, s7, s8, s9, t, rfl⟩ := ten_of s (by omega)
        · have hb := be4_num4 (s := [a, b, c, e]) rfl
          have h4 := u8lt s4
          have h8 := u8lt s8
          have e0 : takenR (a :: b :: c :: e :: s4 :: s5 :: s6 :: s7 :: s8 :: s9 :: t) = ⟨num4 [a, b, c, e], (s4.toNat : Int) % 16, (s4.toNat : Int) / 16, s5.toNat, s6.toNat, s7.toNat, (s8.toNat : Int) % 16, (s8.toNat : Int) / 16, s9.toNat⟩ := rfl
          rw [e0]
          unfold repF
          simp only
          rw [hb, show (s4.toNat : Int) % 16 + 16 * ((s4.toNat : Int) / 16) = s4.toNat by omega, show (s8.toNat : Int) % 16 + 16 * ((s8.toNat : Int) / 16) = s8.toNat by omega, by8_b, by8_b, by8_b, by8_b, by8_b, by8_b]
          rfl
      rw [this, hs]
    · cases h
def comF (c : Int) : List UInt8 := [by8 c, by8 (Go.bits .xor .u8 (c % 256) 85), by8 (Go.bits .xor .u8 (c % 256) 170), by8 (Go.bits .xor .u8 (c % 256) 255)]
def printC (c : Int) : List UInt8 := if c < 1 ∨ c > 3 then [] else sealF (comF c)
def readC (s : List UInt8) : Int × Int := if openF s 4 ≠ 0 then (0, openF s 4) else if printC (bt8 s 0) = s then (bt8 s 0, 0) else (0, 3)
abbrev cT (r : Int × Int) : AV := .tup [.int .i64 r.1, .int .i64 r.2]
theorem by8x (n m : Int) : UInt8.ofNat (Int.toNat (Go.bits .xor .u8 n m)) = by8 (Go.bits .xor .u8 n m) := by
  unfold by8
  show UInt8.ofNat (Int.toNat (IntKind.u8.wrap _)) = UInt8.ofNat (Int.toNat (IntKind.u8.wrap _ % 256))
  rw [u8w, Int.emod_emod_of_dvd _ (by decide)]
theorem s19 (d : Nat) (c : Int) : pcall M (d + 3) 19 [.int .i64 c] = some (.str (printC c)) := told (r19 C0 (d + 2) _) (by
  unfold printC
  by_cases h1 : c < 1
  · rw [decide_eq_true h1, if_pos (.inl h1)]; rfl
  rw [decide_eq_false h1, cnd_f]
  by_cases h2 : c > 3
  · rw [decide_eq_true h2, if_pos (.inr h2)]; rfl
  rw [decide_eq_false h2, cnd_f, if_neg (by omega)]
  simp only [by8e, fd24, fd16, fd8, by8x, u8w]
  refine Eq.trans (pl_int (s38 d (comF c) (by simp [comF]))) ?_
  rfl)
theorem s20 (d : Nat) (s : List UInt8) (hl : s.length < 1000000000000000000) : pcall M (d + 4) 20 [.str s] = some (cT (readC s)) := told (r20 C0 (d + 3) _) (by
  refine Eq.trans (pl_int (s28 d s 4 hl (by decide))) ?_
  unfold readC
  by_cases h : openF s 4 = 0
  rotate_left
  · rw [if_pos h, bne_iff_ne.mpr h]; rfl
  rw [if_neg (by simp [h]), h]
  refine Eq.trans (pl_f (by rfl)) ?_
  have hs := (open_is h).1
  refine Eq.trans (pl_int (str_ge (by omega))) ?_
  have f0 : IntKind.wrap .i64 ((s.getD 0 0).toNat : Int) = bt8 s 0 := i64_b (bt8_bd s 0).1 (bt8_bd s 0).2
  rw [f0]
  refine Eq.trans (pl_str (s19 d _)) ?_
  by_cases hp : printC (bt8 s 0) = s
  · rw [if_pos hp, beq_iff_eq.mpr hp]; rfl
  · rw [if_neg hp, beq_eq_false_iff_ne.mpr hp]; rfl)
theorem readC_ok {s : List UInt8} (h : (readC s).2 = 0) : printC (readC s).1 = s ∧ s.length = 8 ∧ openF s 4 = 0 := by
  unfold readC at h ⊢
  split at h
  · rename_i h1; exact absurd h h1
  · rename_i h1
    rw [if_neg h1]
    split at h
    · rename_i h2
      rw [if_pos h2]
      have h1 : openF s 4 = 0 := Decidable.not_not.mp h1
      exact ⟨h2, (open_is h1).1, h1⟩
    · cases h
end Go.Proofs.Ytoceckjagfhfmaa.AE

namespace Go.Proofs.Ytoceckjagfhfmaa.AE
set_option linter.unusedVariables false
set_option linter.unusedSimpArgs false
set_option linter.constructorNameAsVariable false
open Go
set_option maxRecDepth 100000
/-- apogee/apogeelaw07.PeerApart -/
theorem r7 (C : Cb) (d : Nat) (a0 : List UInt8) (a1 : Int) : xcall C M unr d 7 [(.str a0), (iz a1)] =
 C.bool (pcall M d 8 []) fun b0 =>
 cnd (!b0)
 (C.bool (pcall M d 8 []) fun b1 =>
 some (.bool b1))
 (cnd (decide ((((List.length a0) : Nat) : Int) > 100))
 (C.bool (pcall M d 8 []) fun b2 =>
 some (.bool b2))
 (C.tup 2 (pcall M d 10 [(.str a0)]) fun l3 =>
 C.agg 4 l3[0]? fun l4 =>
 C.int .i64 l4[0]? fun x5 =>
 C.int .i64 l4[1]? fun x6 =>
 C.int .i64 l4[2]? fun x7 =>
 C.int .i64 l4[3]? fun x8 =>
 C.int .i64 l3[1]? fun x9 =>
 C.tup 2 (pcall M d 15 [(.str a0)]) fun l10 =>
 C.agg 9 l10[0]? fun l11 =>
 C.int .i64 l11[0]? fun x12 =>
 C.int .i64 l11[1]? fun x13 =>
 C.int .i64 l11[2]? fun x14 =>
 C.int .i64 l11[3]? fun x15 =>
 C.int .i64 l11[4]? fun x16 =>
 C.int .i64 l11[5]? fun x17 =>
 C.int .i64 l11[6]? fun x18 =>
 C.int .i64 l11[7]? fun x19 =>
 C.int .i64 l11[8]? fun x20 =>
 C.int .i64 l10[1]? fun x21 =>
 C.tup 2 (pcall M d 20 [(.str a0)]) fun l22 =>
 C.int .i64 l22[0]? fun x23 =>
 C.int .i64 l22[1]? fun x24 =>
 cnd (x9 == 0)
 (cnd (x21 == 0)
 (cnd (x24 == 0)
 (cnd ((((List.length a0) : Nat) : Int) == 0)
 (some bf)
 (cnd (decide ((IntKind.wrap .u64 (((List.length a0) : Nat) : Int)) = 0))
 (none)
 (cnd (decide (((0 : Int) ≤ (IntKind.wrap .i64 (Int.tmod (IntKind.wrap .u64 a1) (IntKind.wrap .u64 (((List.length a0) : Nat) : Int))))) ∧ ((IntKind.wrap .i64 (Int.tmod (IntKind.wrap .u64 a1) (IntKind.wrap .u64 (((List.length a0) : Nat) : Int)))) ≤ (((List.length a0) : Nat) : Int))))
 (C.tup 2 (pcall M d 10 [(.str (List.drop 0 (List.take (Int.toNat (IntKind.wrap .i64 (Int.tmod (IntKind.wrap .u64 a1) (IntKind.wrap .u64 (((List.length a0) : Nat) : Int))))) a0)))]) fun l25 =>
 C.agg 4 l25[0]? fun l26 =>
 C.int .i64 l26[0]? fun x27 =>
 C.int .i64 l26[1]? fun x28 =>
 C.int .i64 l26[2]? fun x29 =>
 C.int .i64 l26[3]? fun x30 =>
 C.int .i64 l25[1]? fun x31 =>
 C.tup 2 (pcall M d 15 [(.str (List.drop 0 (List.take (Int.toNat (IntKind.wrap .i64 (Int.tmod (IntKind.wrap .u64 a1) (IntKind.wrap .u64 (((List.length a0) : Nat) : Int))))) a0)))]) fun l32 =>
 C.agg 9 l32[0]? fun l33 =>
 C.int .i64 l33[0]? fun x34 =>
 C.int .i64 l33[1]? fun x35 =>
 C.int .i64 l33[2]? fun x36 =>
 C.int .i64 l33[3]? fun x37 =>
 C.int .i64 l33[4]? fun x38 =>
 C.int .i64 l33[5]? fun x39 =>
 C.int .i64 l33[6]? fun x40 =>
 C.int .i64 l33[7]? fun x41 =>
 C.int .i64 l33[8]? fun x42 =>
 C.int .i64 l32[1]? fun x43 =>
 C.tup 2 (pcall M d 20 [(.str (List.drop 0 (List.take (Int.toNat (IntKind.wrap .i64 (Int.tmod (IntKind.wrap .u64 a1) (IntKind.wrap .u64 (((List.length a0) : Nat) : Int))))) a0)))]) fun l44 =>
 C.int .i64 l44[0]? fun x45 =>
 C.int .i64 l44[1]? fun x46 =>
 some bf)
 (none))))
 (cnd ((((List.length a0) : Nat) : Int) == 0)
 (some bf)
 (cnd (decide ((IntKind.wrap .u64 (((List.length a0) : Nat) : Int)) = 0))
 (none)
 (cnd (decide (((0 : Int) ≤ (IntKind.wrap .i64 (Int.tmod (IntKind.wrap .u64 a1) (IntKind.wrap .u64 (((List.length a0) : Nat) : Int))))) ∧ ((IntKind.wrap .i64 (Int.tmod (IntKind.wrap .u64 a1) (IntKind.wrap .u64 (((List.length a0) : Nat) : Int)))) ≤ (((List.length a0) : Nat) : Int))))
 (C.tup 2 (pcall M d 10 [(.str (List.drop 0 (List.take (Int.toNat (IntKind.wrap .i64 (Int.tmod (IntKind.wrap .u64 a1) (IntKind.wrap .u64 (((List.length a0) : Nat) : Int))))) a0)))]) fun l47 =>
 C.agg 4 l47[0]? fun l48 =>
 C.int .i64 l48[0]? fun x49 =>
 C.int .i64 l48[1]? fun x50 =>
 C.int .i64 l48[2]? fun x51 =>
 C.int .i64 l48[3]? fun x52 =>
 C.int .i64 l47[1]? fun x53 =>
 C.tup 2 (pcall M d 15 [(.str (List.drop 0 (List.take (Int.toNat (IntKind.wrap .i64 (Int.tmod (IntKind.wrap .u64 a1) (IntKind.wrap .u64 (((List.length a0) : Nat) : Int))))) a0)))]) fun l54 =>
 C.agg 9 l54[0]? fun l55 =>
 C.int .i64 l55[0]? fun x56 =>
 C.int .i64 l55[1]? fun x57 =>
 C.int .i64 l55[2]? fun x58 =>
 C.int .i64 l55[3]? fun x59 =>
 C.int .i64 l55[4]? fun x60 =>
 C.int .i64 l55[5]? fun x61 =>
 C.int .i64 l55[6]? fun x62 =>
 C.int .i64 l55[7]? fun x63 =>
 C.int .i64 l55[8]? fun x64 =>
 C.int .i64 l54[1]? fun x65 =>
 C.tup 2 (pcall M d 20 [(.str (List.drop 0 (List.take (Int.toNat (IntKind.wrap .i64 (Int.tmod (IntKind.wrap .u64 a1) (IntKind.wrap .u64 (((List.length a0) : Nat) : Int))))) a0)))]) fun l66 =>
 C.int .i64 l66[0]? fun x67 =>
 C.int .i64 l66[1]? fun x68 =>
 some bf)
 (none)))))
 (cnd (x24 == 0)
 (cnd ((((List.length a0) : Nat) : Int) == 0)
 (some bf)
 (cnd (decide ((IntKind.wrap .u64 (((List.length a0) : Nat) : Int)) = 0))
 (none)
 (cnd (decide (((0 : Int) ≤ (IntKind.wrap .i64 (Int.tmod (IntKind.wrap .u64 a1) (IntKind.wrap .u64 (((List.length a0) : Nat) : Int))))) ∧ ((IntKind.wrap .i64 (Int.tmod (IntKind.wrap .u64 a1) (IntKind.wrap .u64 (((List.length a0) : Nat) : Int)))) ≤ (((List.length a0) : Nat) : Int))))
 (C.tup 2 (pcall M d 10 [(.str (List.drop 0 (List.take (Int.toNat (IntKind.wrap .i64 (Int.tmod (IntKind.wrap .u64 a1) (IntKind.wrap .u64 (((List.length a0) : Nat) : Int))))) a0)))]) fun l69 =>
 C.agg 4 l69[0]? fun l70 =>
 C.int .i64 l70[0]? fun x71 =>
 C.int .i64 l70[1]? fun x72 =>
 C.int .i64 l70[2]? fun x73 =>
 C.int .i64 l70[3]? fun x74 =>
 C.int .i64 l69[1]? fun x75 =>
 C.tup 2 (pcall M d 15 [(.str (List.drop 0 (List.take (Int.toNat (IntKind.wrap .i64 (Int.tmod (IntKind.wrap .u64 a1) (IntKind.wrap .u64 (((List.length a0) : Nat) : Int))))) a0)))]) fun l76 =>
 C.agg 9 l76[0]? fun l77 =>
 C.int .i64 l77[0]? fun x78 =>
 C.int .i64 l77[1]? fun x79 =>
 C.int .i64 l77[2]? fun x80 =>
 C.int .i64 l77[3]? fun x81 =>
 C.int .i64 l77[4]? fun x82 =>
 C.int .i64 l77[5]? fun x83 =>
 C.int .i64 l77[6]? fun x84 =>
 C.int .i64 l77[7]? fun x85 =>
 C.int .i64 l77[8]? fun x86 =>
 C.int .i64 l76[1]? fun x87 =>
 C.tup 2 (pcall M d 20 [(.str (List.drop 0 (List.take (Int.toNat (IntKind.wrap .i64 (Int.tmod (IntKind.wrap .u64 a1) (IntKind.wrap .u64 (((List.length a0) : Nat) : Int))))) a0)))]) fun l88 =>
 C.int .i64 l88[0]? fun x89 =>
 C.int .i64 l88[1]? fun x90 =>
 some bf)
 (none))))
 (cnd ((((List.length a0) : Nat) : Int) == 0)
 (some bf)
 (cnd (decide ((IntKind.wrap .u64 (((List.length a0) : Nat) : Int)) = 0))
 (none)
 (cnd (decide (((0 : Int) ≤ (IntKind.wrap .i64 (Int.tmod (IntKind.wrap .u64 a1) (IntKind.wrap .u64 (((List.length a0) : Nat) : Int))))) ∧ ((IntKind.wrap .i64 (Int.tmod (IntKind.wrap .u64 a1) (IntKind.wrap .u64 (((List.length a0) : Nat) : Int)))) ≤ (((List.length a0) : Nat) : Int))))
 (C.tup 2 (pcall M d 10 [(.str (List.drop 0 (List.take (Int.toNat (IntKind.wrap .i64 (Int.tmod (IntKind.wrap .u64 a1) (IntKind.wrap .u64 (((List.length a0) : Nat) : Int))))) a0)))]) fun l91 =>
 C.agg 4 l91[0]? fun l92 =>
 C.int .i64 l92[0]? fun x93 =>
 C.int .i64 l92[1]? fun x94 =>
 C.int .i64 l92[2]? fun x95 =>
 C.int .i64 l92[3]? fun x96 =>
 C.int .i64 l91[1]? fun x97 =>
 C.tup 2 (pcall M d 15 [(.str (List.drop 0 (List.take (Int.toNat (IntKind.wrap .i64 (Int.tmod (IntKind.wrap .u64 a1) (IntKind.wrap .u64 (((List.length a0) : Nat) : Int))))) a0)))]) fun l98 =>
 C.agg 9 l98[0]? fun l99 =>
 C.int .i64 l99[0]? fun x100 =>
 C.int .i64 l99[1]? fun x101 =>
 C.int .i64 l99[2]? fun x102 =>
 C.int .i64 l99[3]? fun x103 =>
 C.int .i64 l99[4]? fun x104 =>
 C.int .i64 l99[5]? fun x105 =>
 C.int .i64 l99[6]? fun x106 =>
 C.int .i64 l99[7]? fun x107 =>
 C.int .i64 l99[8]? fun x108 =>
 C.int .i64 l98[1]? fun x109 =>
 C.tup 2 (pcall M d 20 [(.str (List.drop 0 (List.take (Int.toNat (IntKind.wrap .i64 (Int.tmod (IntKind.wrap .u64 a1) (IntKind.wrap .u64 (((List.length a0) : Nat) : Int))))) a0)))]) fun l110 =>
 C.int .i64 l110[0]? fun x111 =>
 C.int .i64 l110[1]? fun x112 =>
 cnd (x9 != 0)
 (cnd (x21 != 0)
 (cnd (x24 != 0)
 (some bt)
 (some (.bool (x112 == 5))))
 (cnd (x109 == 5)
 (cnd (x24 != 0)
 (some bt)
 (some (.bool (x112 == 5))))
 (some bf)))
 (cnd (x97 == 5)
 (cnd (x21 != 0)
 (cnd (x24 != 0)
 (some bt)
 (some (.bool (x112 == 5))))
 (cnd (x109 == 5)
 (cnd (x24 != 0)
 (some bt)
 (some (.bool (x112 == 5))))
 (some bf)))
 (some bf)))
 (none))))))
 (cnd (x21 == 0)
 (cnd (x24 == 0)
 (cnd ((((List.length a0) : Nat) : Int) == 0)
 (some bf)
 (cnd (decide ((IntKind.wrap .u64 (((List.length a0) : Nat) : Int)) = 0))
 (none)
 (cnd (decide (((0 : Int) ≤ (IntKind.wrap .i64 (Int.tmod (IntKind.wrap .u64 a1) (IntKind.wrap .u64 (((List.length a0) : Nat) : Int))))) ∧ ((IntKind.wrap .i64 (Int.tmod (IntKind.wrap .u64 a1) (IntKind.wrap .u64 (((List.length a0) : Nat) : Int)))) ≤ (((List.length a0) : Nat) : Int))))
 (C.tup 2 (pcall M d 10 [(.str (List.drop 0 (List.take (Int.toNat (IntKind.wrap .i64 (Int.tmod (IntKind.wrap .u64 a1) (IntKind.wrap .u64 (((List.length a0) : Nat) : Int))))) a0)))]) fun l113 =>
 C.agg 4 l113[0]? fun l114 =>
 C.int .i64 l114[0]? fun x115 =>
 C.int .i64 l114[1]? fun x116 =>
 C.int .i64 l114[2]? fun x117 =>
 C.int .i64 l114[3]? fun x118 =>
 C.int .i64 l113[1]? fun x119 =>
 C.tup 2 (pcall M d 15 [(.str (List.drop 0 (List.take (Int.toNat (IntKind.wrap .i64 (Int.tmod (IntKind.wrap .u64 a1) (IntKind.wrap .u64 (((List.length a0) : Nat) : Int))))) a0)))]) fun l120 =>
 C.agg 9 l120[0]? fun l121 =>
 C.int .i64 l121[0]? fun x122 =>
 C.int .i64 l121[1]? fun x123 =>
 C.int .i64 l121[2]? fun x124 =>
 C.int .i64 l121[3]? fun x125 =>
 C.int .i64 l121[4]? fun x126 =>
 C.int .i64 l121[5]? fun x127 =>
 C.int .i64 l121[6]? fun x128 =>
 C.int .i64 l121[7]? fun x129 =>
 C.int .i64 l121[8]? fun x130 =>
 C.int .i64 l120[1]? fun x131 =>
 C.tup 2 (pcall M d 20 [(.str (List.drop 0 (List.take (Int.toNat (IntKind.wrap .i64 (Int.tmod (IntKind.wrap .u64 a1) (IntKind.wrap .u64 (((List.length a0) : Nat) : Int))))) a0)))]) fun l132 =>
 C.int .i64 l132[0]? fun x133 =>
 C.int .i64 l132[1]? fun x134 =>
 some bf)
 (none))))
 (cnd ((((List.length a0) : Nat) : Int) == 0)
 (some bf)
 (cnd (decide ((IntKind.wrap .u64 (((List.length a0) : Nat) : Int)) = 0))
 (none)
 (cnd (decide (((0 : Int) ≤ (IntKind.wrap .i64 (Int.tmod (IntKind.wrap .u64 a1) (IntKind.wrap .u64 (((List.length a0) : Nat) : Int))))) ∧ ((IntKind.wrap .i64 (Int.tmod (IntKind.wrap .u64 a1) (IntKind.wrap .u64 (((List.length a0) : Nat) : Int)))) ≤ (((List.length a0) : Nat) : Int))))
 (C.tup 2 (pcall M d 10 [(.str (List.drop 0 (List.take (Int.toNat (IntKind.wrap .i64 (Int.tmod (IntKind.wrap .u64 a1) (IntKind.wrap .u64 (((List.length a0) : Nat) : Int))))) a0)))]) fun l135 =>
 C.agg 4 l135[0]? fun l136 =>
 C.int .i64 l136[0]? fun x137 =>
 C.int .i64 l136[1]? fun x138 =>
 C.int .i64 l136[2]? fun x139 =>
 C.int .i64 l136[3]? fun x140 =>
 C.int .i64 l135[1]? fun x141 =>
 C.tup 2 (pcall M d 15 [(.str (List.drop 0 (List.take (Int.toNat (IntKind.wrap .i64 (Int.tmod (IntKind.wrap .u64 a1) (IntKind.wrap .u64 (((List.length a0) : Nat) : Int))))) a0)))]) fun l142 =>
 C.agg 9 l142[0]? fun l143 =>
 C.int .i64 l143[0]? fun x144 =>
 C.int .i64 l143[1]? fun x145 =>
 C.int .i64 l143[2]? fun x146 =>
 C.int .i64 l143[3]? fun x147 =>
 C.int .i64 l143[4]? fun x148 =>
 C.int .i64 l143[5]? fun x149 =>
 C.int .i64 l143[6]? fun x150 =>
 C.int .i64 l143[7]? fun x151 =>
 C.int .i64 l143[8]? fun x152 =>
 C.int .i64 l142[1]? fun x153 =>
 C.tup 2 (pcall M d 20 [(.str (List.drop 0 (List.take (Int.toNat (IntKind.wrap .i64 (Int.tmod (IntKind.wrap .u64 a1) (IntKind.wrap .u64 (((List.length a0) : Nat) : Int))))) a0)))]) fun l154 =>
 C.int .i64 l154[0]? fun x155 =>
 C.int .i64 l154[1]? fun x156 =>
 cnd (x9 != 0)
 (cnd (x21 != 0)
 (cnd (x24 != 0)
 (some bt)
 (some (.bool (x156 == 5))))
 (cnd (x153 == 5)
 (cnd (x24 != 0)
 (some bt)
 (some (.bool (x156 == 5))))
 (some bf)))
 (cnd (x141 == 5)
 (cnd (x21 != 0)
 (cnd (x24 != 0)
 (some bt)
 (some (.bool (x156 == 5))))
 (cnd (x153 == 5)
 (cnd (x24 != 0)
 (some bt)
 (some (.bool (x156 == 5))))
 (some bf)))
 (some bf)))
 (none)))))
 (cnd (x24 == 0)
 (cnd ((((List.length a0) : Nat) : Int) == 0)
 (some bf)
 (cnd (decide ((IntKind.wrap .u64 (((List.length a0) : Nat) : Int)) = 0))
 (none)
 (cnd (decide (((0 : Int) ≤ (IntKind.wrap .i64 (Int.tmod (IntKind.wrap .u64 a1) (IntKind.wrap .u64 (((List.length a0) : Nat) : Int))))) ∧ ((IntKind.wrap .i64 (Int.tmod (IntKind.wrap .u64 a1) (IntKind.wrap .u64 (((List.length a0) : Nat) : Int)))) ≤ (((List.length a0) : Nat) : Int))))
 (C.tup 2 (pcall M d 10 [(.str (List.drop 0 (List.take (Int.toNat (IntKind.wrap .i64 (Int.tmod (IntKind.wrap .u64 a1) (IntKind.wrap .u64 (((List.length a0) : Nat) : Int))))) a0)))]) fun l157 =>
 C.agg 4 l157[0]? fun l158 =>
 C.int .i64 l158[0]? fun x159 =>
 C.int .i64 l158[1]? fun x160 =>
 C.int .i64 l158[2]? fun x161 =>
 C.int .i64 l158[3]? fun x162 =>
 C.int .i64 l157[1]? fun x163 =>
 C.tup 2 (pcall M d 15 [(.str (List.drop 0 (List.take (Int.toNat (IntKind.wrap .i64 (Int.tmod (IntKind.wrap .u64 a1) (IntKind.wrap .u64 (((List.length a0) : Nat) : Int))))) a0)))]) fun l164 =>
 C.agg 9 l164[0]? fun l165 =>
 C.int .i64 l165[0]? fun x166 =>
 C.int .i64 l165[1]? fun x167 =>
 C.int .i64 l165[2]? fun x168 =>
 C.int .i64 l165[3]? fun x169 =>
 C.int .i64 l165[4]? fun x170 =>
 C.int .i64 l165[5]? fun x171 =>
 C.int .i64 l165[6]? fun x172 =>
 C.int .i64 l165[7]? fun x173 =>
 C.int .i64 l165[8]? fun x174 =>
 C.int .i64 l164[1]? fun x175 =>
 C.tup 2 (pcall M d 20 [(.str (List.drop 0 (List.take (Int.toNat (IntKind.wrap .i64 (Int.tmod (IntKind.wrap .u64 a1) (IntKind.wrap .u64 (((List.length a0) : Nat) : Int))))) a0)))]) fun l176 =>
 C.int .i64 l176[0]? fun x177 =>
 C.int .i64 l176[1]? fun x178 =>
 cnd (x9 != 0)
 (cnd (x21 != 0)
 (cnd (x24 != 0)
 (some bt)
 (some (.bool (x178 == 5))))
 (cnd (x175 == 5)
 (cnd (x24 != 0)
 (some bt)
 (some (.bool (x178 == 5))))
 (some bf)))
 (cnd (x163 == 5)
 (cnd (x21 != 0)
 (cnd (x24 != 0)
 (some bt)
 (some (.bool (x178 == 5))))
 (cnd (x175 == 5)
 (cnd (x24 != 0)
 (some bt)
 (some (.bool (x178 == 5))))
 (some bf)))
 (some bf)))
 (none))))
 (some bt))))) := by kernel_rfl
end Go.Proofs.Ytoceckjagfhfmaa.AE

namespace Go.Proofs.Ytoceckjagfhfmaa.AE
set_option linter.unusedVariables false
set_option linter.unusedSimpArgs false
set_option linter.constructorNameAsVariable false
open Go Go.Proofs.Ytoceckjagfhfmaa.Geo
attribute [local irreducible] pcall C0
set_option maxRecDepth 100000
theorem mod_bd (a : Int) (L : Nat) (h : 1 ≤ L) (h' : L ≤ 100) : 0 ≤ IntKind.wrap .i64 (Int.tmod (IntKind.wrap .u64 a) (IntKind.wrap .u64 ((L : Nat) : Int))) ∧ IntKind.wrap .i64 (Int.tmod (IntKind.wrap .u64 a) (IntKind.wrap .u64 ((L : Nat) : Int))) < (L : Int) := by
  rw [u64_small (n := (L : Int)) (by omega) (by omega), u64w, Int.tmod_eq_emod_of_nonneg (by omega)]
  have h1 := Int.emod_nonneg (a % 18446744073709551616) (show (L : Int) ≠ 0 by omega)
  have h2 := Int.emod_lt_of_pos (a % 18446744073709551616) (show (0 : Int) < (L : Int) by omega)
  rw [i64_small (by omega) (by omega)]
  exact ⟨h1, h2⟩
theorem shortW {t : List UInt8} (h : t.length < 10) : (readW t).2 = 5 := by
  have : openF t 6 = 5 := by unfold openF; rw [if_pos (by omega)]
  unfold readW; rw [this]; rfl
theorem shortR {t : List UInt8} (h : t.length < 14) : (readR t).2 = 5 := by
  have : openF t 10 = 5 := by unfold openF; rw [if_pos (by omega)]
  unfold readR; rw [this]; rfl
theorem shortC {t : List UInt8} (h : t.length < 8) : (readC t).2 = 5 := by
  have : openF t 4 = 5 := by unfold openF; rw [if_pos (by omega)]
  unfold readC; rw [this]; rfl
theorem apart_law (s : List UInt8) (a : Int) : pcall M 41 7 [.str s, .int .i64 a] = some (.bool true) := told (r7 C0 40 _ _) (by
  refine Eq.trans (pl_bool awake) ?_
  refine Eq.trans (pl_f (by rfl)) ?_
  by_cases hl : s.length > 100
  · rw [decide_eq_true (by omega), cnd_t]; exact Eq.trans (pl_bool awake) rfl
  rw [decide_eq_false (by omega), cnd_f]
  refine Eq.trans (pl_tup (s10 36 s (by omega)) (by rfl)) ?_
  repeat with_reducible first | refine tt sh_ptr ?_ | refine tt sh_fptr ?_ | refine tt w2 ?_ | refine tt w3 ?_ | refine tt w8 ?_ | refine tt w9 ?_ | refine tt wf ?_ | refine tt wg ?_ | refine tt wh ?_ | refine tt wi ?_ | refine tt wj ?_ | refine tt wk ?_ | refine tt wl ?_ | refine tt wn ?_ | refine tt c_ort ?_ | refine tt c_nt ?_ | refine tt c_nf ?_ | refine tt (cnd_t _ _) ?_ | refine tt (cnd_f _ _) ?_ | refine tt w6 ?_ | refine tt w4 ?_ | refine tt w5 ?_ | refine tt w7 ?_ | refine tt wm ?_ | refine tt wo ?_ | refine tt wx ?_ | refine tt nil_ptr ?_ | refine tt len_lst ?_ | refine tt len_zsl ?_
  refine Eq.trans (pl_tup (s15 36 s (by omega)) (by rfl)) ?_
  repeat with_reducible first | refine tt sh_ptr ?_ | refine tt sh_fptr ?_ | refine tt w2 ?_ | refine tt w3 ?_ | refine tt w8 ?_ | refine tt w9 ?_ | refine tt wf ?_ | refine tt wg ?_ | refine tt wh ?_ | refine tt wi ?_ | refine tt wj ?_ | refine tt wk ?_ | refine tt wl ?_ | refine tt wn ?_ | refine tt c_ort ?_ | refine tt c_nt ?_ | refine tt c_nf ?_ | refine tt (cnd_t _ _) ?_ | refine tt (cnd_f _ _) ?_ | refine tt w6 ?_ | refine tt w4 ?_ | refine tt w5 ?_ | refine tt w7 ?_ | refine tt wm ?_ | refine tt wo ?_ | refine tt wx ?_ | refine tt nil_ptr ?_ | refine tt len_lst ?_ | refine tt len_zsl ?_
  refine Eq.trans (pl_tup (s20 36 s (by omega)) (by rfl)) ?_
  repeat with_reducible first | refine tt sh_ptr ?_ | refine tt sh_fptr ?_ | refine tt w2 ?_ | refine tt w3 ?_ | refine tt w8 ?_ | refine tt w9 ?_ | refine tt wf ?_ | refine tt wg ?_ | refine tt wh ?_ | refine tt wi ?_ | refine tt wj ?_ | refine tt wk ?_ | refine tt wl ?_ | refine tt wn ?_ | refine tt c_ort ?_ | refine tt c_nt ?_ | refine tt c_nf ?_ | refine tt (cnd_t _ _) ?_ | refine tt (cnd_f _ _) ?_ | refine tt w6 ?_ | refine tt w4 ?_ | refine tt w5 ?_ | refine tt w7 ?_ | refine tt wm ?_ | refine tt wo ?_ | refine tt wx ?_ | refine tt nil_ptr ?_ | refine tt len_lst ?_ | refine tt len_zsl ?_
  have hW : (readW s).2 = 0 → s.length = 10 := fun h => (readW_ok h).2.2
  have hR : (readR s).2 = 0 → s.length = 14 := fun h => (readR_ok h).2.2
  have hC : (readC s).2 = 0 → s.length = 8 := fun h => (readC_ok h).2.1
  have step : ∀ (t : List UInt8) (K : Int → Int → Int → Ans), t.length ≤ 100 → K (readW t).2 (readR t).2 (readC t).2 = some (.bool true) → (C0.tup 2 (pcall M 40 10 [.str t]) fun l25 =>
                  C0.agg 4 l25[0]? fun l26 =>
                  C0.int .i64 l26[0]? fun x27 =>
                  C0.int .i64 l26[1]? fun x28 =>
                  C0.int .i64 l26[2]? fun x29 =>
                  C0.int .i64 l26[3]? fun x30 =>
                  C0.int .i64 l25[1]? fun x31 =>
                  C0.tup 2 (pcall M 40 15 [.str t]) fun l32 =>
                  C0.agg 9 l32[0]? fun l33 =>
                  C0.int .i64 l33[0]? fun x34 =>
                  C0.int .i64 l33[1]? fun x35 =>
                  C0.int .i64 l33[2]? fun x36 =>
                  C0.int .i64 l33[3]? fun x37 =>
                  C0.int .i64 l33[4]? fun x38 =>
                  C0.int .i64 l33[5]? fun x39 =>
                  C0.int .i64 l33[6]? fun x40 =>
                  C0.int .i64 l33[7]? fun x41 =>
                  C0.int .i64 l33[8]? fun x42 =>
                  C0.int .i64 l32[1]? fun x43 =>
                  C0.tup 2 (pcall M 40 20 [.str t]) fun l44 =>
                  C0.int .i64 l44[0]? fun x45 =>
                  C0.int .i64 l44[1]? fun x46 => K x31 x43 x46) = some (.bool true) := by
    intro t K ht hK
    refine Eq.trans (pl_tup (s10 36 t (by omega)) (by rfl)) ?_
    repeat with_reducible first | refine tt sh_ptr ?_ | refine tt sh_fptr ?_ | refine tt w2 ?_ | refine tt w3 ?_ | refine tt w8 ?_ | refine tt w9 ?_ | refine tt wf ?_ | refine tt wg ?_ | refine tt wh ?_ | refine tt wi ?_ | refine tt wj ?_ | refine tt wk ?_ | refine tt wl ?_ | refine tt wn ?_ | refine tt c_ort ?_ | refine tt c_nt ?_ | refine tt c_nf ?_ | refine tt (cnd_t _ _) ?_ | refine tt (cnd_f _ _) ?_ | refine tt w6 ?_ | refine tt w4 ?_ | refine tt w5 ?_ | refine tt w7 ?_ | refine tt wm ?_ | refine tt wo ?_ | refine tt wx ?_ | refine tt nil_ptr ?_ | refine tt len_lst ?_ | refine tt len_zsl ?_
    refine Eq.trans (pl_tup (s15 36 t (by omega)) (by rfl)) ?_
    repeat with_reducible first | refine tt sh_ptr ?_ | refine tt sh_fptr ?_ | refine tt w2 ?_ | refine tt w3 ?_ | refine tt w8 ?_ | refine tt w9 ?_ | refine tt wf ?_ | refine tt wg ?_ | refine tt wh ?_ | refine tt wi ?_ | refine tt wj ?_ | refine tt wk ?_ | refine tt wl ?_ | refine tt wn ?_ | refine tt c_ort ?_ | refine tt c_nt ?_ | refine tt c_nf ?_ | refine tt (cnd_t _ _) ?_ | refine tt (cnd_f _ _) ?_ | refine tt w6 ?_ | refine tt w4 ?_ | refine tt w5 ?_ | refine tt w7 ?_ | refine tt wm ?_ | refine tt wo ?_ | refine tt wx ?_ | refine tt nil_ptr ?_ | refine tt len_lst ?_ | refine tt len_zsl ?_
    refine Eq.trans (pl_tup (s20 36 t (by omega)) (by rfl)) ?_
    repeat with_reducible first | refine tt sh_ptr ?_ | refine tt sh_fptr ?_ | refine tt w2 ?_ | refine tt w3 ?_ | refine tt w8 ?_ | refine tt w9 ?_ | refine tt wf ?_ | refine tt wg ?_ | refine tt wh ?_ | refine tt wi ?_ | refine tt wj ?_ | refine tt wk ?_ | refine tt wl ?_ | refine tt wn ?_ | refine tt c_ort ?_ | refine tt c_nt ?_ | refine tt c_nf ?_ | refine tt (cnd_t _ _) ?_ | refine tt (cnd_f _ _) ?_ | refine tt w6 ?_ | refine tt w4 ?_ | refine tt w5 ?_ | refine tt w7 ?_ | refine tt wm ?_ | refine tt wo ?_ | refine tt wx ?_ | refine tt nil_ptr ?_ | refine tt len_lst ?_ | refine tt len_zsl ?_
    exact hK
  have tl : ∀ q : Int, 0 ≤ q → q < (s.length : Int) → (List.drop 0 (List.take q.toNat s)).length < s.length := by
    intro q h1 h2
    rw [List.drop_zero, List.length_take]; omega
  by_cases h1 : (readW s).2 = 0
  · have l1 := hW h1
    have h2 : (readR s).2 ≠ 0 := fun h => by have := hR h; omega
    have h3 : (readC s).2 ≠ 0 := fun h => by have := hC h; omega
    rw [h1, beq_eq_false_iff_ne.mpr h2, beq_eq_false_iff_ne.mpr h3, bne_iff_ne.mpr h2, bne_iff_ne.mpr h3]
    refine Eq.trans (pl_len (by rfl)) ?_
    rw [cnd_f, cnd_f]
    refine Eq.trans (pl_f (by rw [l1]; rfl)) ?_
    refine Eq.trans (pl_f (by rw [l1]; rfl)) ?_
    obtain ⟨q1, q2⟩ := mod_bd a s.length (by omega) (by omega)
    refine Eq.trans (pl_len (by rw [decide_eq_true_iff]; exact ⟨q1, by omega⟩)) ?_
    have ht := tl _ q1 q2
    refine step _ _ (by omega) ?_
    rw [shortW (by omega)]; rfl
  · rw [beq_eq_false_iff_ne.mpr h1, cnd_f, bne_iff_ne.mpr h1]
    by_cases h2 : (readR s).2 = 0
    · have l2 := hR h2
      have h3 : (readC s).2 ≠ 0 := fun h => by have := hC h; omega
      rw [h2, beq_eq_false_iff_ne.mpr h3, bne_iff_ne.mpr h3]
      refine Eq.trans (pl_len (by rfl)) ?_
      rw [cnd_f]
      refine Eq.trans (pl_f (by rw [l2]; rfl)) ?_
      refine Eq.trans (pl_f (by rw [l2]; rfl)) ?_
      obtain ⟨q1, q2⟩ := mod_bd a s.length (by omega) (by omega)
      refine Eq.trans (pl_len (by rw [decide_eq_true_iff]; exact ⟨q1, by omega⟩)) ?_
      have ht := tl _ q1 q2
      refine step _ _ (by omega) ?_
      rw [shortR (by omega)]; rfl
    · rw [beq_eq_false_iff_ne.mpr h2, cnd_f, bne_iff_ne.mpr h2]
      by_cases h3 : (readC s).2 = 0
      · have l3 := hC h3
        rw [h3]
        refine Eq.trans (pl_len (by rfl)) ?_
        refine Eq.trans (pl_f (by rw [l3]; rfl)) ?_
        refine Eq.trans (pl_f (by rw [l3]; rfl)) ?_
        obtain ⟨q1, q2⟩ := mod_bd a s.length (by omega) (by omega)
        refine Eq.trans (pl_len (by rw [decide_eq_true_iff]; exact ⟨q1, by omega⟩)) ?_
        have ht := tl _ q1 q2
        refine step _ _ (by omega) ?_
        rw [shortC (by omega)]; rfl
      · rw [beq_eq_false_iff_ne.mpr h3, cnd_f])
theorem law_PeerApart (a0 : List UInt8) (a1 : Int) (w0 : a0.length ≤ maxLen) (w1 : (Lit.int .i64 a1).wf = true) :
    pcall M 41 7 [.str a0, .int .i64 a1] = some (.bool true) := apart_law a0 a1
end Go.Proofs.Ytoceckjagfhfmaa.AE
