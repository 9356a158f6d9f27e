/- The texts that the law PeerWords needs, part 0. No conditions. -/
import Derived.Test.YtoceckjagfhfmaaMc2
namespace Go.Proofs.Ytoceckjagfhfmaa.AE
set_option linter.unusedVariables false
set_option linter.unusedSimpArgs false
open Go Go.Proofs.Ytoceckjagfhfmaa.Geo
attribute [local irreducible] pcall C0
theorem sealF_len (s : List UInt8) : (sealF s).length = s.length + 4 := by simp [sealF, be4_len]
theorem open_seal (s : List UInt8) : openF (sealF s) s.length = 0 := by
  unfold openF
  rw [sealF_len, if_neg (by omega), if_neg (by omega)]
  have e1 : (sealF s).take s.length = s := by unfold sealF; rw [List.take_left' rfl]
  have e2 : (sealF s).drop s.length = be4 (w32 (crcF s)) := by unfold sealF; rw [List.drop_left' rfl]
  have := num4_be4 (w32_bd (crcF s)).1 (w32_bd (crcF s)).2 []
  rw [List.append_nil] at this
  rw [e1, e2, this, if_neg (by simp)]
end Go.Proofs.Ytoceckjagfhfmaa.AE

namespace Go.Proofs.Ytoceckjagfhfmaa.AE
set_option linter.unusedVariables false
set_option linter.unusedSimpArgs false
set_option linter.constructorNameAsVariable false
open Go
set_option maxRecDepth 100000
/-- apogee/peer.ReadWord -/
theorem r10 (C : Cb) (d : Nat) (a0 : List UInt8) : xcall C M unr d 10 [(.str a0)] =
 C.int .i64 (pcall M d 28 [(.str a0), (iz 6)]) fun x0 =>
 cnd (x0 != 0)
 (some (.tup [(.agg [(iz 0), (iz 0), (iz 0), (iz 0)]), (iz x0)]))
 (C.int .u32 (pcall M d 29 [(.str a0)]) fun x1 =>
 C.int .u8 (Option.map (fun b : UInt8 => AV.int .u8 (b.toNat : Int)) a0[4]?) fun x2 =>
 C.int .u8 (Option.map (fun b : UInt8 => AV.int .u8 (b.toNat : Int)) a0[4]?) fun x3 =>
 C.int .u8 (Option.map (fun b : UInt8 => AV.int .u8 (b.toNat : Int)) a0[5]?) fun x4 =>
 C.bool (pcall M d 25 [(.agg [(iz (IntKind.wrap .i64 x1)), (iz (IntKind.wrap .i64 (Int.tmod x2 16))), (iz (IntKind.wrap .i64 (IntKind.wrap .u8 (Int.tdiv x3 16)))), (iz (IntKind.wrap .i64 x4))])]) fun b5 =>
 cnd (!b5)
 (some (.tup [(.agg [(iz 0), (iz 0), (iz 0), (iz 0)]), (iz 3)]))
 (some (.tup [(.agg [(iz (IntKind.wrap .i64 x1)), (iz (IntKind.wrap .i64 (Int.tmod x2 16))), (iz (IntKind.wrap .i64 (IntKind.wrap .u8 (Int.tdiv x3 16)))), (iz (IntKind.wrap .i64 x4))]), (iz 0)]))) := by kernel_rfl
/-- apogee/apogeeref07.ReadWord -/
theorem r11 (C : Cb) (d : Nat) (a0 : List UInt8) : xcall C M unr d 11 [(.str a0)] =
 C.int .i64 (pcall M d 30 [(.str a0), (iz 6)]) fun x0 =>
 cnd (x0 != 0)
 (some (.tup [(.agg [(iz 0), (iz 0), (iz 0), (iz 0)]), (iz x0)]))
 (C.int .i64 (pcall M d 31 [(.str a0)]) fun x1 =>
 C.int .u8 (Option.map (fun b : UInt8 => AV.int .u8 (b.toNat : Int)) a0[4]?) fun x2 =>
 C.int .u8 (Option.map (fun b : UInt8 => AV.int .u8 (b.toNat : Int)) a0[4]?) fun x3 =>
 C.int .u8 (Option.map (fun b : UInt8 => AV.int .u8 (b.toNat : Int)) a0[5]?) fun x4 =>
 C.bool (pcall M d 23 [(.agg [(iz x1), (iz (Int.tmod (IntKind.wrap .i64 x2) 16)), (iz (IntKind.wrap .i64 (Int.tdiv (IntKind.wrap .i64 x3) 16))), (iz (IntKind.wrap .i64 x4))])]) fun b5 =>
 cnd (!b5)
 (some (.tup [(.agg [(iz 0), (iz 0), (iz 0), (iz 0)]), (iz 3)]))
 (some (.tup [(.agg [(iz x1), (iz (Int.tmod (IntKind.wrap .i64 x2) 16)), (iz (IntKind.wrap .i64 (Int.tdiv (IntKind.wrap .i64 x3) 16))), (iz (IntKind.wrap .i64 x4))]), (iz 0)]))) := by kernel_rfl
/-- apogee/apogeeref07.PrintWord -/
theorem r12 (C : Cb) (d : Nat) (a0 a1 a2 a3 : Int) : xcall C M unr d 12 [(.agg [(iz a0), (iz a1), (iz a2), (iz a3)])] =
 C.bool (pcall M d 23 [(.agg [(iz a0), (iz a1), (iz a2), (iz a3)])]) fun b0 =>
 cnd (!b0)
 (some (.str []))
 (C.str (pcall M d 33 [(.int .u32 (IntKind.wrap .u32 a0))]) fun s1 =>
 cnd (decide (((List.length s1) + 2) ≤ 9223372036854775807))
 (C.str (pcall M d 32 [(.str (s1 ++ [(UInt8.ofNat (Int.toNat (IntKind.wrap .u8 (IntKind.wrap .i64 (a1 + (IntKind.wrap .i64 (16 * a2))))))), (UInt8.ofNat (Int.toNat (IntKind.wrap .u8 a3)))]))]) fun s2 =>
 some (.str s2))
 (none)) := by kernel_rfl
/-- apogee/apogeeref07.RightWord -/
theorem r23 (C : Cb) (d : Nat) (a0 a1 a2 a3 : Int) : xcall C M unr d 23 [(.agg [(iz a0), (iz a1), (iz a2), (iz a3)])] =
 C.bool (pcall M d 35 [(iz a0), (iz 1000000)]) fun b0 =>
 cnd b0
 (C.bool (pcall M d 35 [(iz a1), (iz 3)]) fun b1 =>
 cnd b1
 (C.bool (pcall M d 35 [(iz a2), (iz 2)]) fun b2 =>
 cnd b2
 (C.bool (pcall M d 35 [(iz a3), (iz 15)]) fun b3 =>
 some (.bool b3))
 (some bf))
 (some bf))
 (some bf) := by kernel_rfl
end Go.Proofs.Ytoceckjagfhfmaa.AE

namespace Go.Proofs.Ytoceckjagfhfmaa.AE
set_option linter.unusedVariables false
set_option linter.unusedSimpArgs false
set_option linter.constructorNameAsVariable false
open Go
set_option maxRecDepth 100000
/-- apogee/apogeelaw07.likeWord -/
theorem r13 (C : Cb) (d : Nat) (a0 a1 a2 a3 : Int) : xcall C M unr d 13 [(.agg [(iz a0), (iz a1), (iz a2), (iz a3)])] =
 some (.agg [(iz a0), (iz a1), (iz a2), (iz a3)]) := by kernel_rfl
end Go.Proofs.Ytoceckjagfhfmaa.AE

namespace Go.Proofs.Ytoceckjagfhfmaa.AE
set_option linter.unusedVariables false
set_option linter.unusedSimpArgs false
set_option linter.constructorNameAsVariable false
open Go Go.Proofs.Ytoceckjagfhfmaa.Geo
attribute [local irreducible] pcall C0
set_option maxRecDepth 100000
theorem s23 (d : Nat) (x : Wrd) : pcall M (d + 2) 23 [wr x] = some (.bool (decide (WordOk x))) := told (r23 C0 (d + 1) _ _ _ _) (by
  have e : decide (WordOk x) = decide (in0 x.c 1000000 ∧ in0 x.p 3 ∧ in0 x.s 2 ∧ in0 x.w 15) := by rw [decide_eq_decide]; unfold WordOk WhereOk; simp only [and_assoc]
  rw [e]
  refine Eq.trans (pl_bool (s35 d _ _)) ?_
  refine cnd_dec (q := in0 x.p 3 ∧ in0 x.s 2 ∧ in0 x.w 15) ?_
  refine Eq.trans (pl_bool (s35 d _ _)) ?_
  refine cnd_dec (q := in0 x.s 2 ∧ in0 x.w 15) ?_
  refine Eq.trans (pl_bool (s35 d _ _)) ?_
  refine cnd_dec (q := in0 x.w 15) ?_
  exact Eq.trans (pl_bool (s35 d _ _)) rfl)
end Go.Proofs.Ytoceckjagfhfmaa.AE

namespace Go.Proofs.Ytoceckjagfhfmaa.AE
set_option linter.unusedVariables false
set_option linter.unusedSimpArgs false
set_option linter.constructorNameAsVariable false
open Go Go.Proofs.Ytoceckjagfhfmaa.Geo
attribute [local irreducible] pcall C0
set_option maxRecDepth 100000
def wordF (x : Wrd) : List UInt8 := be4 x.c ++ [by8 (x.p + 16 * x.s), by8 x.w]
def printW (x : Wrd) : List UInt8 := if WordOk x then sealF (wordF x) else []
def zW : Wrd := ⟨0, 0, 0, 0⟩
def takenW (s : List UInt8) : Wrd := ⟨num4 s, bt8 s 4 % 16, bt8 s 4 / 16, bt8 s 5⟩
def readW (s : List UInt8) : Wrd × Int := if openF s 6 ≠ 0 then (zW, openF s 6) else if WordOk (takenW s) then (takenW s, 0) else (zW, 3)
abbrev wrT (r : Wrd × Int) : AV := .tup [wr r.1, .int .i64 r.2]
theorem s9 (d : Nat) (x : Wrd) : pcall M (d + 4) 9 [wr x] = some (.str (printW x)) := told (r9 C0 (d + 3) _ _ _ _) (by
  refine Eq.trans (pl_bool (s25 d x)) ?_
  unfold printW
  by_cases h : WordOk x
  rotate_left
  · rw [decide_eq_false h, if_neg h]; rfl
  rw [decide_eq_true h, if_pos h]
  refine Eq.trans (pl_f (by rfl)) ?_
  obtain ⟨h1, h2, h3, h4, h5, h6⟩ := where_bd h.1
  rw [u32_small h1 (by omega), i64_small (n := 16 * x.s) (by omega) (by omega), i64_small (n := x.p + 16 * x.s) (by omega) (by omega)]
  simp only [by8e, fd24, fd16, fd8]
  refine Eq.trans (pl_int (s38 (d + 1) (wordF x) (by simp [wordF, be4]))) ?_
  rfl)
theorem s12 (d : Nat) (x : Wrd) : pcall M (d + 4) 12 [wr x] = some (.str (printW x)) := told (r12 C0 (d + 3) _ _ _ _) (by
  refine Eq.trans (pl_bool (s23 (d + 1) x)) ?_
  unfold printW
  by_cases h : WordOk x
  rotate_left
  · rw [decide_eq_false h, if_neg h]; rfl
  rw [decide_eq_true h, if_pos h]
  refine Eq.trans (pl_f (by rfl)) ?_
  obtain ⟨h1, h2, h3, h4, h5, h6⟩ := where_bd h.1
  rw [u32_small h1 (by omega), i64_small (n := 16 * x.s) (by omega) (by omega), i64_small (n := x.p + 16 * x.s) (by omega) (by omega)]
  simp only [by8e]
  refine Eq.trans (pl_str (s33 (d + 2) _)) ?_
  refine Eq.trans (pl_len (by rw [be4_len]; rfl)) ?_
  refine Eq.trans (pl_str (s32 d (wordF x) (by simp [wordF, be4]))) ?_
  rfl)
theorem s10 (d : Nat) (s : List UInt8) (hl : s.length < 1000000000000000000) : pcall M (d + 4) 10 [.str s] = some (wrT (readW s)) := told (r10 C0 (d + 3) _) (by
  refine Eq.trans (pl_int (s28 d s 6 hl (by decide))) ?_
  unfold readW
  by_cases h : openF s 6 = 0
  rotate_left
  · rw [if_pos h, bne_iff_ne.mpr h]; rfl
  rw [if_neg (by simp [h]), h]
  refine Eq.trans (pl_f (by rfl)) ?_
  have hs := (open_is h).1
  refine Eq.trans (pl_int (s29 (d + 2) s (by omega))) ?_
  refine Eq.trans (pl_int (str_ge (by omega))) ?_
  refine Eq.trans (pl_int (str_ge (by omega))) ?_
  refine Eq.trans (pl_int (str_ge (by omega))) ?_
  obtain ⟨b1, b2⟩ := bt8_bd s 4
  obtain ⟨b3, b4⟩ := bt8_bd s 5
  obtain ⟨b5, b6⟩ := num4_bd s
  have e1 : IntKind.wrap .i64 ((s.getD 5 0).toNat : Int) = bt8 s 5 := i64_b b3 b4
  have e2 : IntKind.wrap .i64 (IntKind.wrap .u8 (Int.tdiv ((s.getD 4 0).toNat : Int) 16)) = bt8 s 4 / 16 := tdiv16 b1 b2
  have e3 : IntKind.wrap .i64 (Int.tmod ((s.getD 4 0).toNat : Int) 16) = bt8 s 4 % 16 := tmod16 b1 b2
  rw [e1, e2, e3, i64_small (n := num4 s) (by omega) (by omega)]
  refine Eq.trans (pl_bool (s25 d (takenW s))) ?_
  by_cases hw : WordOk (takenW s)
  · rw [decide_eq_true hw, if_pos hw]; rfl
  · rw [decide_eq_false hw, if_neg hw]; rfl)
theorem s11 (d : Nat) (s : List UInt8) (hl : s.length < 1000000000000000000) : pcall M (d + 5) 11 [.str s] = some (wrT (readW s)) := told (r11 C0 (d + 4) _) (by
  refine Eq.trans (pl_int (s30 d s 6 hl (by decide))) ?_
  unfold readW
  by_cases h : openF s 6 = 0
  rotate_left
  · rw [if_pos h, bne_iff_ne.mpr h]; rfl
  rw [if_neg (by simp [h]), h]
  refine Eq.trans (pl_f (by rfl)) ?_
  have hs := (open_is h).1
  refine Eq.trans (pl_int (s31 (d + 3) s (by omega))) ?_
  refine Eq.trans (pl_int (str_ge (by omega))) ?_
  refine Eq.trans (pl_int (str_ge (by omega))) ?_
  refine Eq.trans (pl_int (str_ge (by omega))) ?_
  obtain ⟨b1, b2⟩ := bt8_bd s 4
  obtain ⟨b3, b4⟩ := bt8_bd s 5
  obtain ⟨b5, b6⟩ := num4_bd s
  have e1 : IntKind.wrap .i64 ((s.getD 5 0).toNat : Int) = bt8 s 5 := i64_b b3 b4
  have e2 : IntKind.wrap .i64 (Int.tdiv (IntKind.wrap .i64 ((s.getD 4 0).toNat : Int)) 16) = bt8 s 4 / 16 := tdiv16' b1 b2
  have e3 : Int.tmod (IntKind.wrap .i64 ((s.getD 4 0).toNat : Int)) 16 = bt8 s 4 % 16 := tmod16' b1 b2
  rw [e1, e2, e3]
  refine Eq.trans (pl_bool (s23 (d + 2) (takenW s))) ?_
  by_cases hw : WordOk (takenW s)
  · rw [decide_eq_true hw, if_pos hw]; rfl
  · rw [decide_eq_false hw, if_neg hw]; rfl)
theorem taken_word {x : Wrd} (h : WordOk x) (t : List UInt8) : takenW (wordF x ++ t) = x := by
  obtain ⟨h1, h2, h3, h4, h5, h6⟩ := where_bd h.1
  obtain ⟨h7, h8⟩ := h.2
  obtain ⟨c, p, s, w⟩ := x
  simp only at *
  unfold takenW wordF
  rw [List.append_assoc, num4_be4 h1 (by omega)]
  have e4 : bt8 (be4 c ++ ([by8 (p + 16 * s), by8 w] ++ t)) 4 = p + 16 * s := by
    show ((by8 (p + 16 * s)).toNat : Int) = _
    rw [by8_n]; omega
  have e5 : bt8 (be4 c ++ ([by8 (p + 16 * s), by8 w] ++ t)) 5 = w := by
    show ((by8 w).toNat : Int) = _
    rw [by8_n]; omega
  rw [e4, e5]
  congr 1
  · omega
  · omega
theorem read_printW {x : Wrd} (h : WordOk x) : readW (printW x) = (x, 0) := by
  unfold readW printW
  rw [if_pos h]
  have hl : (wordF x).length = 6 := rfl
  have := open_seal (wordF x)
  rw [hl] at this
  rw [if_neg (by simp [this])]
  have e : takenW (sealF (wordF x)) = x := taken_word h _
  rw [e, if_pos h]
theorem six_of (s : List UInt8) (h : 6 ≤ s.length) : ∃ a b c e f g t, s = a :: b :: c :: e :: f :: g :: t := by
  match s, h with
  | a :: b :: c :: e :: f :: g :: t, _ => exact ⟨a, b, c, e, f, g, t, rfl⟩
theorem readW_ok {s : List UInt8} (h : (readW s).2 = 0) : WordOk (readW s).1 ∧ printW (readW s).1 = s ∧ s.length = 10 := by
  unfold readW at h ⊢
  split at h
  · rename_i h1; exact absurd h h1
  · rename_i h1
    rw [if_neg h1]
    split at h
    · rename_i h2
      rw [if_pos h2]
      have h1 : openF s 6 = 0 := Decidable.not_not.mp h1
      obtain ⟨hl, hs⟩ := open_is h1
      refine ⟨h2, ?_, hl⟩
      unfold printW
      rw [if_pos h2]
      have : wordF (takenW s) = s.take 6 := by
        obtain ⟨a, b, c, e, f, g, t, rfl⟩ := six_of s (by omega)
        · have hn : num4 (a :: b :: c :: e :: f :: g :: t) = num4 [a, b, c, e] := rfl
          have hb := be4_num4 (s := [a, b, c, e]) rfl
          have h4 := u8lt f
          unfold wordF takenW
          simp only
          rw [hn, hb]
          have e4 : bt8 (a :: b :: c :: e :: f :: g :: t) 4 = (f.toNat : Int) := rfl
          have e5 : bt8 (a :: b :: c :: e :: f :: g :: t) 5 = (g.toNat : Int) := rfl
          rw [e4, e5, show (f.toNat : Int) % 16 + 16 * ((f.toNat : Int) / 16) = f.toNat by omega, by8_b, by8_b]
          rfl
      rw [this, hs]
    · cases h
theorem printW_len (x : Wrd) : (printW x).length ≤ 10 := by
  unfold printW; split
  · rw [sealF_len]; exact Nat.le_refl 10
  · simp
end Go.Proofs.Ytoceckjagfhfmaa.AE

namespace Go.Proofs.Ytoceckjagfhfmaa.AE
set_option linter.unusedVariables false
set_option linter.unusedSimpArgs false
set_option linter.constructorNameAsVariable false
open Go
set_option maxRecDepth 100000
/-- apogee/apogeelaw07.PeerWords -/
theorem r3 (C : Cb) (d : Nat) (a0 a1 a2 a3 : Int) (a4 : List UInt8) : xcall C M unr d 3 [(.agg [(iz a0), (iz a1), (iz a2), (iz a3)]), (.str a4)] =
 C.bool (pcall M d 8 []) fun b0 =>
 cnd (!b0)
 (C.bool (pcall M d 8 []) fun b1 =>
 some (.bool b1))
 (cnd (decide ((((List.length a4) : Nat) : Int) > 100))
 (C.bool (pcall M d 8 []) fun b2 =>
 some (.bool b2))
 (C.str (pcall M d 9 [(.agg [(iz a0), (iz a1), (iz a2), (iz a3)])]) fun s3 =>
 C.tup 2 (pcall M d 10 [(.str s3)]) fun l4 =>
 C.agg 4 l4[0]? fun l5 =>
 C.int .i64 l5[0]? fun x6 =>
 C.int .i64 l5[1]? fun x7 =>
 C.int .i64 l5[2]? fun x8 =>
 C.int .i64 l5[3]? fun x9 =>
 C.int .i64 l4[1]? fun x10 =>
 C.tup 2 (pcall M d 10 [(.str a4)]) fun l11 =>
 C.agg 4 l11[0]? fun l12 =>
 C.int .i64 l12[0]? fun x13 =>
 C.int .i64 l12[1]? fun x14 =>
 C.int .i64 l12[2]? fun x15 =>
 C.int .i64 l12[3]? fun x16 =>
 C.int .i64 l11[1]? fun x17 =>
 C.tup 2 (pcall M d 11 [(.str a4)]) fun l18 =>
 C.agg 4 l18[0]? fun l19 =>
 C.int .i64 l19[0]? fun x20 =>
 C.int .i64 l19[1]? fun x21 =>
 C.int .i64 l19[2]? fun x22 =>
 C.int .i64 l19[3]? fun x23 =>
 C.int .i64 l18[1]? fun x24 =>
 C.agg 4 (pcall M d 13 [(.agg [(iz a0), (iz a1), (iz a2), (iz a3)])]) fun l25 =>
 C.int .i64 l25[0]? fun x26 =>
 C.int .i64 l25[1]? fun x27 =>
 C.int .i64 l25[2]? fun x28 =>
 C.int .i64 l25[3]? fun x29 =>
 C.str (pcall M d 12 [(.agg [(iz x26), (iz x27), (iz x28), (iz x29)])]) fun s30 =>
 cnd (s3 == s30)
 (cnd (s3 == [])
 (C.agg 4 (pcall M d 13 [(.agg [(iz x13), (iz x14), (iz x15), (iz x16)])]) fun l31 =>
 C.int .i64 l31[0]? fun x32 =>
 C.int .i64 l31[1]? fun x33 =>
 C.int .i64 l31[2]? fun x34 =>
 C.int .i64 l31[3]? fun x35 =>
 cnd (xor false ((x32 == x20) && ((x33 == x21) && ((x34 == x22) && ((x35 == x23) && true)))))
 (cnd (x17 == x24)
 (cnd (x24 != 0)
 (some bt)
 (C.str (pcall M d 9 [(.agg [(iz x13), (iz x14), (iz x15), (iz x16)])]) fun s36 =>
 some (.bool (s36 == a4))))
 (some bf))
 (some bf))
 (cnd (xor false ((x6 == a0) && ((x7 == a1) && ((x8 == a2) && ((x9 == a3) && true)))))
 (cnd (x10 == 0)
 (C.agg 4 (pcall M d 13 [(.agg [(iz x13), (iz x14), (iz x15), (iz x16)])]) fun l37 =>
 C.int .i64 l37[0]? fun x38 =>
 C.int .i64 l37[1]? fun x39 =>
 C.int .i64 l37[2]? fun x40 =>
 C.int .i64 l37[3]? fun x41 =>
 cnd (xor false ((x38 == x20) && ((x39 == x21) && ((x40 == x22) && ((x41 == x23) && true)))))
 (cnd (x17 == x24)
 (cnd (x24 != 0)
 (some bt)
 (C.str (pcall M d 9 [(.agg [(iz x13), (iz x14), (iz x15), (iz x16)])]) fun s42 =>
 some (.bool (s42 == a4))))
 (some bf))
 (some bf))
 (some bf))
 (some bf)))
 (some bf))) := by kernel_rfl
end Go.Proofs.Ytoceckjagfhfmaa.AE

namespace Go.Proofs.Ytoceckjagfhfmaa.AE
set_option linter.unusedVariables false
set_option linter.unusedSimpArgs false
set_option linter.constructorNameAsVariable false
open Go Go.Proofs.Ytoceckjagfhfmaa.Geo
attribute [local irreducible] pcall C0
set_option maxRecDepth 100000
theorem s13 (d : Nat) (x : Wrd) : pcall M (d + 1) 13 [wr x] = some (wr x) := told (r13 C0 d _ _ _ _) rfl
theorem words_law (x : Wrd) (s : List UInt8) : pcall M 41 3 [wr x, .str s] = some (.bool true) := told (r3 C0 40 _ _ _ _ _) (by
  refine Eq.trans (pl_bool awake) ?_
  refine Eq.trans (pl_f (by rfl)) ?_
  by_cases hl : s.length > 100
  · rw [decide_eq_true (by omega), cnd_t]; exact Eq.trans (pl_bool awake) rfl
  rw [decide_eq_false (by omega), cnd_f]
  refine Eq.trans (pl_str (s9 36 x)) ?_
  refine Eq.trans (pl_tup (s10 36 (printW x) (by have := printW_len x; omega)) (by rfl)) ?_
  repeat with_reducible first | refine tt sh_ptr ?_ | refine tt sh_fptr ?_ | refine tt w2 ?_ | refine tt w3 ?_ | refine tt w8 ?_ | refine tt w9 ?_ | refine tt wf ?_ | refine tt wg ?_ | refine tt wh ?_ | refine tt wi ?_ | refine tt wj ?_ | refine tt wk ?_ | refine tt wl ?_ | refine tt wn ?_ | refine tt c_ort ?_ | refine tt c_nt ?_ | refine tt c_nf ?_ | refine tt (cnd_t _ _) ?_ | refine tt (cnd_f _ _) ?_ | refine tt w6 ?_ | refine tt w4 ?_ | refine tt w5 ?_ | refine tt w7 ?_ | refine tt wm ?_ | refine tt wo ?_ | refine tt wx ?_ | refine tt nil_ptr ?_ | refine tt len_lst ?_ | refine tt len_zsl ?_
  refine Eq.trans (pl_tup (s10 36 s (by omega)) (by rfl)) ?_
  repeat with_reducible first | refine tt sh_ptr ?_ | refine tt sh_fptr ?_ | refine tt w2 ?_ | refine tt w3 ?_ | refine tt w8 ?_ | refine tt w9 ?_ | refine tt wf ?_ | refine tt wg ?_ | refine tt wh ?_ | refine tt wi ?_ | refine tt wj ?_ | refine tt wk ?_ | refine tt wl ?_ | refine tt wn ?_ | refine tt c_ort ?_ | refine tt c_nt ?_ | refine tt c_nf ?_ | refine tt (cnd_t _ _) ?_ | refine tt (cnd_f _ _) ?_ | refine tt w6 ?_ | refine tt w4 ?_ | refine tt w5 ?_ | refine tt w7 ?_ | refine tt wm ?_ | refine tt wo ?_ | refine tt wx ?_ | refine tt nil_ptr ?_ | refine tt len_lst ?_ | refine tt len_zsl ?_
  refine Eq.trans (pl_tup (s11 35 s (by omega)) (by rfl)) ?_
  repeat with_reducible first | refine tt sh_ptr ?_ | refine tt sh_fptr ?_ | refine tt w2 ?_ | refine tt w3 ?_ | refine tt w8 ?_ | refine tt w9 ?_ | refine tt wf ?_ | refine tt wg ?_ | refine tt wh ?_ | refine tt wi ?_ | refine tt wj ?_ | refine tt wk ?_ | refine tt wl ?_ | refine tt wn ?_ | refine tt c_ort ?_ | refine tt c_nt ?_ | refine tt c_nf ?_ | refine tt (cnd_t _ _) ?_ | refine tt (cnd_f _ _) ?_ | refine tt w6 ?_ | refine tt w4 ?_ | refine tt w5 ?_ | refine tt w7 ?_ | refine tt wm ?_ | refine tt wo ?_ | refine tt wx ?_ | refine tt nil_ptr ?_ | refine tt len_lst ?_ | refine tt len_zsl ?_
  refine Eq.trans (pl_agg (s13 39 x) (by rfl)) ?_
  repeat with_reducible first | refine tt sh_ptr ?_ | refine tt sh_fptr ?_ | refine tt w2 ?_ | refine tt w3 ?_ | refine tt w8 ?_ | refine tt w9 ?_ | refine tt wf ?_ | refine tt wg ?_ | refine tt wh ?_ | refine tt wi ?_ | refine tt wj ?_ | refine tt wk ?_ | refine tt wl ?_ | refine tt wn ?_ | refine tt c_ort ?_ | refine tt c_nt ?_ | refine tt c_nf ?_ | refine tt (cnd_t _ _) ?_ | refine tt (cnd_f _ _) ?_ | refine tt w6 ?_ | refine tt w4 ?_ | refine tt w5 ?_ | refine tt w7 ?_ | refine tt wm ?_ | refine tt wo ?_ | refine tt wx ?_ | refine tt nil_ptr ?_ | refine tt len_lst ?_ | refine tt len_zsl ?_
  refine Eq.trans (pl_str (s12 36 x)) ?_
  rw [beq_self_eq_true, cnd_t]
  have fin : ∀ {y : Ans}, y = (C0.agg 4 (pcall M 40 13 [wr (readW s).1]) fun l31 =>
          C0.int .i64 l31[0]? fun x32 =>
          C0.int .i64 l31[1]? fun x33 =>
          C0.int .i64 l31[2]? fun x34 =>
          C0.int .i64 l31[3]? fun x35 =>
          cnd (xor false ((x32 == (readW s).1.c) && ((x33 == (readW s).1.p) && ((x34 == (readW s).1.s) && ((x35 == (readW s).1.w) && true)))))
           (cnd ((readW s).2 == (readW s).2)
             (cnd ((readW s).2 != 0)
               (some (.bool true))
               (C0.str (pcall M 40 9 [wr (readW s).1]) fun s36 =>
                some (.bool (s36 == s))))
             (some (.bool false)))
           (some (.bool false))) → y = some (.bool true) := by
    rintro y rfl
    refine Eq.trans (pl_agg (s13 39 _) (by rfl)) ?_
    repeat with_reducible first | refine tt sh_ptr ?_ | refine tt sh_fptr ?_ | refine tt w2 ?_ | refine tt w3 ?_ | refine tt w8 ?_ | refine tt w9 ?_ | refine tt wf ?_ | refine tt wg ?_ | refine tt wh ?_ | refine tt wi ?_ | refine tt wj ?_ | refine tt wk ?_ | refine tt wl ?_ | refine tt wn ?_ | refine tt c_ort ?_ | refine tt c_nt ?_ | refine tt c_nf ?_ | refine tt (cnd_t _ _) ?_ | refine tt (cnd_f _ _) ?_ | refine tt w6 ?_ | refine tt w4 ?_ | refine tt w5 ?_ | refine tt w7 ?_ | refine tt wm ?_ | refine tt wo ?_ | refine tt wx ?_ | refine tt nil_ptr ?_ | refine tt len_lst ?_ | refine tt len_zsl ?_
    refine Eq.trans (pl_len (by simp)) ?_
    rw [beq_self_eq_true, cnd_t]
    by_cases h0 : (readW s).2 = 0
    · rw [h0]
      refine Eq.trans (pl_f (by rfl)) ?_
      refine Eq.trans (pl_str (s9 36 _)) ?_
      rw [(readW_ok h0).2.1, beq_self_eq_true]
    · rw [bne_iff_ne.mpr h0]; rfl
  by_cases hp : WordOk x
  · have e := read_printW hp
    have hne : printW x ≠ [] := by
      intro c
      have := congrArg List.length c
      unfold printW at this
      rw [if_pos hp, sealF_len] at this
      cases this
    rw [beq_eq_false_iff_ne.mpr hne, cnd_f, e]
    refine Eq.trans (pl_len (by simp)) ?_
    refine Eq.trans (pl_len (by rfl)) ?_
    exact fin rfl
  · have e : printW x = [] := by unfold printW; rw [if_neg hp]
    rw [e]
    refine Eq.trans (pl_len (by rfl)) ?_
    exact fin rfl)
theorem law_PeerWords (a0_0 : Int) (a0_1 : Int) (a0_2 : Int) (a0_3 : Int) (a1 : List UInt8) (w0_0 : (Lit.int .i64 a0_0).wf = true) (w0_1 : (Lit.int .i64 a0_1).wf = true) (w0_2 : (Lit.int .i64 a0_2).wf = true) (w0_3 : (Lit.int .i64 a0_3).wf = true) (w1 : a1.length ≤ maxLen) :
    pcall M 41 3 [.agg [.int .i64 a0_0, .int .i64 a0_1, .int .i64 a0_2, .int .i64 a0_3], .str a1] = some (.bool true) := words_law ⟨a0_0, a0_1, a0_2, a0_3⟩ a1
end Go.Proofs.Ytoceckjagfhfmaa.AE
