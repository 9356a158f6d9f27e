/- The texts that the law PolyMoves needs, part 0. No conditions. -/
import Derived.Test.YtkfppigcjdapnaaMc4
namespace Go.Proofs.Ytkfppigcjdapnaa.Geo
set_option linter.unusedVariables false
set_option linter.unusedSimpArgs false
set_option linter.constructorNameAsVariable false
theorem TN_mv (a b c : Pt) (x y : Int) : TN (mv a x y) (mv b x y) (mv c x y) = TN a b c := by unfold TN mv; grind
theorem Btw_mv (a b c : Pt) (x y : Int) : Btw (mv a x y) (mv b x y) (mv c x y) ↔ Btw a b c := by unfold Btw mv; omega
theorem On_mv (p a b : Pt) (x y : Int) : On (mv p x y) (mv a x y) (mv b x y) ↔ On p a b := by unfold On; rw [TN_mv, Btw_mv]
end Go.Proofs.Ytkfppigcjdapnaa.Geo

namespace Go.Proofs.Ytkfppigcjdapnaa.Geo
/-- Is it said of an odd number of the first n? -/
def xr (f : Nat → Bool) : Nat → Bool
  | 0 => false
  | n + 1 => xor (xr f n) (f n)
theorem xr_congr {f g : Nat → Bool} : ∀ {n : Nat}, (∀ i, i < n → f i = g i) → xr f n = xr g n
  | 0, _ => rfl
  | n + 1, h => by simp only [xr]; rw [xr_congr (fun i hi => h i (by omega)), h n (by omega)]
theorem xr_shift (f : Nat → Bool) : ∀ m, xr f (m + 1) = xor (f 0) (xr (fun i => f (i + 1)) m)
  | 0 => by simp [xr]
  | m + 1 => by
    rw [xr, xr_shift f m]
    simp only [xr]
    cases f 0 <;> cases xr (fun i => f (i + 1)) m <;> cases f (m + 1) <;> rfl
/-- The ray from p meets an odd number of edges of the polygon of n corners. -/
def odd (p : Pt) (v : Nat → Pt) (n : Nat) : Bool := xr (fun i => decide (Crs p (v i) (v ((i + 1) % n)))) n
end Go.Proofs.Ytkfppigcjdapnaa.Geo

namespace Go.Proofs.Ytkfppigcjdapnaa.AE
set_option linter.unusedVariables false
set_option linter.unusedSimpArgs false
set_option linter.constructorNameAsVariable false
open Go Go.Proofs.Ytkfppigcjdapnaa.Geo
theorem sideUp_on (ps : List Pt) (p : Pt) : ∀ (m i : Nat) (o : Bool), (∃ j, i ≤ j ∧ j < i + m ∧ onB p (vv ps j) (vv ps (nx ps j)) = true) → sideUp ps p m i o = 0
  | 0, i, o, ⟨j, h1, h2, _⟩ => (by omega)
  | m + 1, i, o, ⟨j, h1, h2, h3⟩ => by
    simp only [sideUp]
    cases h : onB p (vv ps i) (vv ps (nx ps i))
    · have hj : j ≠ i := fun e => by subst e; rw [h] at h3; cases h3
      exact sideUp_on ps p m (i + 1) _ ⟨j, by omega, by omega, h3⟩
    · rfl
theorem sideUp_off (ps : List Pt) (p : Pt) : ∀ (m i : Nat) (o : Bool), (∀ j, i ≤ j → j < i + m → onB p (vv ps j) (vv ps (nx ps j)) = false) → sideUp ps p m i o = sgn1 (xor o (xr (fun k => crsB ps p (i + k)) m))
  | 0, i, o, h => by simp [sideUp, xr, sgn1]
  | m + 1, i, o, h => by
    simp only [sideUp, h i (Nat.le_refl _) (by omega), cond_false]
    rw [sideUp_off ps p m (i + 1) _ (fun j a b => h j (by omega) (by omega)), xr_shift]
    have e : xr (fun k => crsB ps p (i + 1 + k)) m = xr (fun k => crsB ps p (i + (k + 1))) m := xr_congr fun k _ => by rw [Nat.add_assoc, Nat.add_comm 1 k]
    rw [e, Nat.add_zero, Bool.xor_assoc]
theorem onB_off {p a b : Pt} (h : ¬ On p a b) : onB p a b = false := decide_eq_false fun g => h g.2
theorem sideB_odd {ps : List Pt} {p : Pt} (hr : rightB ps = true) (hp : okb p = true) (h : ∀ j, j < ps.length → ¬ On p (vv ps j) (vv ps (nx ps j))) : sideB ps p = sgn1 (odd p (vv ps) ps.length) := by
  unfold sideB
  rw [hr, hp]
  simp only [cond_true]
  rw [sideUp_off ps p ps.length 0 false (fun j _ b => onB_off (h j (by omega)))]
  simp only [Bool.false_xor, Nat.zero_add]
  rfl
theorem sideB_on {ps : List Pt} {p : Pt} (hr : rightB ps = true) (hp : okb p = true) {j : Nat} (hj : j < ps.length) (h : On p (vv ps j) (vv ps (nx ps j))) : sideB ps p = 0 := by
  have ok := (right_ok hr).2.2
  unfold sideB
  rw [hr, hp]
  exact sideUp_on ps p ps.length 0 false ⟨j, by omega, by omega, onB_t.mpr ⟨⟨okb_t.mp hp, vv_ok ok hj, vv_ok ok (nx_lt hj)⟩, h⟩⟩
end Go.Proofs.Ytkfppigcjdapnaa.AE

namespace Go.Proofs.Ytkfppigcjdapnaa.AE
set_option linter.unusedVariables false
set_option linter.unusedSimpArgs false
set_option linter.constructorNameAsVariable false
open Go Go.Proofs.Ytkfppigcjdapnaa.Geo
theorem mvL_len (ps : List Pt) (x y : Int) : (mvL ps x y).length = ps.length := by simp [mvL]
theorem mvL_vv {ps : List Pt} {x y : Int} {i : Nat} (h : i < ps.length) : vv (mvL ps x y) i = mv (vv ps i) x y := by
  simp [vv, mvL, List.getD_eq_getElem?_getD, h]
theorem mvL_nx (ps : List Pt) (x y : Int) (i : Nat) : nx (mvL ps x y) i = nx ps i := by unfold nx; rw [mvL_len]
theorem Crs_mv (p a b : Pt) (x y : Int) : Crs (mv p x y) (mv a x y) (mv b x y) ↔ Crs p a b := by
  unfold Crs CrsU; simp only [TN_mv]; unfold mv; simp only; constructor <;> (intro h; omega)
theorem mv_side {ps : List Pt} {p : Pt} {x y : Int} (hr : rightB ps = true) (hr2 : rightB (mvL ps x y) = true) (hp : okb p = true) (hp2 : okb (mv p x y) = true) : sideB (mvL ps x y) (mv p x y) = sideB ps p := by
  by_cases h : ∃ j, j < ps.length ∧ On p (vv ps j) (vv ps (nx ps j))
  · obtain ⟨j, hj, ho⟩ := h
    rw [sideB_on hr hp hj ho]
    refine sideB_on hr2 hp2 (j := j) (by rw [mvL_len]; exact hj) ?_
    rw [mvL_nx, mvL_vv hj, mvL_vv (nx_lt hj)]
    exact (On_mv _ _ _ x y).mpr ho
  · have n1 : ∀ j, j < ps.length → ¬ On p (vv ps j) (vv ps (nx ps j)) := fun j hj ho => h ⟨j, hj, ho⟩
    have n2 : ∀ j, j < (mvL ps x y).length → ¬ On (mv p x y) (vv (mvL ps x y) j) (vv (mvL ps x y) (nx (mvL ps x y) j)) := by
      intro j hj ho
      rw [mvL_len] at hj
      rw [mvL_nx, mvL_vv hj, mvL_vv (nx_lt hj)] at ho
      exact n1 j hj ((On_mv _ _ _ x y).mp ho)
    rw [sideB_odd hr hp n1, sideB_odd hr2 hp2 n2, mvL_len]
    congr 1
    refine xr_congr fun i hi => ?_
    rw [mvL_vv hi, mvL_vv (Nat.mod_lt _ (by omega)), decide_eq_decide]
    exact Crs_mv _ _ _ x y
theorem left_mv (ps : List Pt) (x y : Int) : ∀ (m i : Nat) (s s' : Int), i + m = ps.length →
    leftSum (mvL ps x y) m i s' = leftSum ps m i s + (s' - s) + (if m = 0 then 0 else x * ((vv ps 0).2 - (vv ps i).2) - y * ((vv ps 0).1 - (vv ps i).1))
  | 0, i, s, s', h => by simp [leftSum]; omega
  | m + 1, i, s, s', h => by
    have hi : i < ps.length := by omega
    simp only [leftSum]
    rw [mvL_nx, mvL_vv hi, mvL_vv (nx_lt hi), left_mv ps x y m (i + 1) (s + (vv ps i).1 * (vv ps (nx ps i)).2 - (vv ps i).2 * (vv ps (nx ps i)).1) _ (by omega)]
    rw [if_neg (by omega : ¬ m + 1 = 0)]
    have e : ((mv (vv ps i) x y).1 * (mv (vv ps (nx ps i)) x y).2 - (mv (vv ps i) x y).2 * (mv (vv ps (nx ps i)) x y).1) = (vv ps i).1 * (vv ps (nx ps i)).2 - (vv ps i).2 * (vv ps (nx ps i)).1 + x * ((vv ps (nx ps i)).2 - (vv ps i).2) - y * ((vv ps (nx ps i)).1 - (vv ps i).1) := by unfold mv; simp only; grind
    by_cases hm : m = 0
    · have : nx ps i = 0 := by unfold nx; rw [show i + 1 = ps.length by omega, Nat.mod_self]
      rw [this] at e ⊢
      rw [if_pos hm]
      grind
    · have : nx ps i = i + 1 := Nat.mod_eq_of_lt (by omega)
      rw [this] at e ⊢
      rw [if_neg hm]
      grind
theorem mv_left {ps : List Pt} {x y : Int} (hr : rightB ps = true) (hr2 : rightB (mvL ps x y) = true) : leftB (mvL ps x y) = leftB ps := by
  unfold leftB
  rw [hr, hr2, mvL_len, left_mv ps x y ps.length 0 0 0 (by omega)]
  have := (right_ok hr).1
  rw [if_neg (by omega)]
  congr 2
  simp
theorem mvL_back (ps : List Pt) (x y : Int) : mvL (mvL ps x y) (-x) (-y) = ps := by
  unfold mvL
  rw [List.map_map]
  refine (List.map_congr_left fun p _ => ?_).trans (List.map_id _)
  show mv (mv p x y) (-x) (-y) = p
  unfold mv; ext <;> simp <;> omega
theorem moveB_t {ps : List Pt} {x y : Int} : moveB ps x y = true ↔ (∀ p ∈ ps, mvB p x y = true) ∧ rightB ps = true ∧ rightB (mvL ps x y) = true := by
  unfold moveB; simp only [Bool.and_eq_true, List.all_eq_true]
theorem move_back {ps : List Pt} {x y : Int} (h : moveB ps x y = true) : moveR (mvL ps x y) (-x) (-y) = .tup [.lst (ps.map pt), .bool true] := by
  obtain ⟨h1, h2, h3⟩ := moveB_t.mp h
  have : moveB (mvL ps x y) (-x) (-y) = true := moveB_t.mpr ⟨fun q hq => by
    unfold mvL at hq
    obtain ⟨p, hp, rfl⟩ := List.mem_map.mp hq
    obtain ⟨o1, o2⟩ := mvB_t.mp (h1 p hp)
    refine mvB_t.mpr ⟨o2, ?_⟩
    have : mv (mv p x y) (-x) (-y) = p := by unfold mv; ext <;> simp <;> omega
    rw [this]; exact o1, h3, by rw [mvL_back]; exact h2⟩
  unfold moveR
  rw [this, mvL_back]; rfl
end Go.Proofs.Ytkfppigcjdapnaa.AE

namespace Go.Proofs.Ytkfppigcjdapnaa.AE
set_option linter.unusedVariables false
set_option linter.unusedSimpArgs false
set_option linter.constructorNameAsVariable false
open Go
set_option maxRecDepth 100000
/-- apogee/apogeelaw11.PolyMoves -/
theorem r5 (C : Cb) (d : Nat) (a0 : List AV) (a1 a2 a3 a4 : Int) : xcall C M unr d 5 [(.lst a0), (.agg [(iz a1), (iz a2)]), (iz a3), (iz a4)] =
 C.bool (pcall M d 9 []) fun b0 =>
 cnd (!b0)
 (C.bool (pcall M d 9 []) fun b1 =>
 some (.bool b1))
 (C.bool (pcall M d 10 [(.lst a0)]) fun b2 =>
 cnd (!b2)
 (C.bool (pcall M d 9 []) fun b3 =>
 some (.bool b3))
 (C.tup 2 (pcall M d 24 [(.lst a0), (iz a3), (iz a4)]) fun l4 =>
 C.lst l4[0]? (fun l5 =>
 C.bool l4[1]? fun b7 =>
 C.tup 2 (pcall M d 25 [(.agg [(iz a1), (iz a2)]), (iz a3), (iz a4)]) fun l8 =>
 C.agg 2 l8[0]? fun l9 =>
 C.int .i64 l9[0]? fun x10 =>
 C.int .i64 l9[1]? fun x11 =>
 C.bool l8[1]? fun b12 =>
 cnd (!b7)
 (cnd ((((List.length l5) : Nat) : Int) == 0)
 (some bt)
 (some (.bool b7)))
 (cnd (!b12)
 (cnd ((((List.length l5) : Nat) : Int) == 0)
 (some bt)
 (some (.bool b7)))
 (C.tup 2 (pcall M d 24 [(.lst l5), (iz (IntKind.wrap .i64 (0 - a3))), (iz (IntKind.wrap .i64 (0 - a4)))]) fun l13 =>
 C.lst l13[0]? (fun l14 =>
 C.bool l13[1]? fun b16 =>
 C.bool (pcall M d 15 [(.lst a0)]) fun b17 =>
 cnd b17
 (C.bool (pcall M d 15 [(.lst l5)]) fun b18 =>
 cnd b18
 (C.int .i64 (pcall M d 16 [(.lst l5), (.agg [(iz x10), (iz x11)])]) fun x19 =>
 C.int .i64 (pcall M d 16 [(.lst a0), (.agg [(iz a1), (iz a2)])]) fun x20 =>
 cnd (x19 == x20)
 (C.bool (pcall M d 18 [(.lst l5)]) fun b21 =>
 C.bool (pcall M d 18 [(.lst a0)]) fun b22 =>
 cnd (xor false (b21 == b22))
 (cnd b16
 (C.bool (pcall M d 20 [(.lst l14), (.lst a0)]) fun b23 =>
 some (.bool b23))
 (some bf))
 (some bf))
 (some bf))
 (some bf))
 (some bf))
 (fun z15 =>
 none))))
 (fun z6 =>
 none))) := by kernel_rfl
end Go.Proofs.Ytkfppigcjdapnaa.AE

namespace Go.Proofs.Ytkfppigcjdapnaa.AE
set_option linter.unusedVariables false
set_option linter.unusedSimpArgs false
set_option linter.constructorNameAsVariable false
open Go Go.Proofs.Ytkfppigcjdapnaa.Geo
theorem wf64 {n : Int} (h : (Lit.int .i64 n).wf = true) : In64 n := by have := bounds_i64 h; unfold In64; omega
end Go.Proofs.Ytkfppigcjdapnaa.AE

namespace Go.Proofs.Ytkfppigcjdapnaa.AE
set_option linter.unusedVariables false
set_option linter.unusedSimpArgs false
set_option linter.constructorNameAsVariable false
open Go Go.Proofs.Ytkfppigcjdapnaa.Geo
theorem rows_pts64 : ∀ l : List AV, (∀ x ∈ l, ∃ cs, x = .agg cs ∧ CTall [(.i .i64), (.i .i64)] cs) → ∃ ps : List Pt, l = ps.map pt ∧ ∀ p ∈ ps, (-9223372036854775808 ≤ p.1 ∧ p.1 < 9223372036854775808) ∧ (-9223372036854775808 ≤ p.2 ∧ p.2 < 9223372036854775808)
  | [], _ => ⟨[], rfl, by simp⟩
  | x :: l, h => by
    obtain ⟨ps, rfl, hp⟩ := rows_pts64 l fun y hy => h y (List.mem_cons_of_mem _ hy)
    obtain ⟨_, rfl, _, _, rfl, ⟨a, rfl, wa⟩, _, _, rfl, ⟨b, rfl, wb⟩, rfl⟩ := h x (List.mem_cons_self ..)
    refine ⟨(a, b) :: ps, rfl, fun p hm => ?_⟩
    rcases List.mem_cons.mp hm with h | h
    · subst h
      have h1 := bounds_i64 wa
      have h2 := bounds_i64 wb
      exact ⟨by simp only; omega, by simp only; omega⟩
    · exact hp p h
theorem ty_pts64 {v : AV} (h : TyOK false [(.sl true [(.i .i64), (.i .i64)])] v) : ∃ ps : List Pt, v = .lst (ps.map pt) ∧ ps.length ≤ 9223372036854775807 ∧ ∀ p ∈ ps, (-9223372036854775808 ≤ p.1 ∧ p.1 < 9223372036854775808) ∧ (-9223372036854775808 ≤ p.2 ∧ p.2 < 9223372036854775808) := by
  obtain ⟨_, rfl, _, _, e, ⟨l, rfl, hl, hx⟩, rfl⟩ := h
  injection e with e _
  subst e
  obtain ⟨ps, rfl, hp⟩ := rows_pts64 l hx
  exact ⟨ps, rfl, by rw [← maxLen_eq]; simpa using hl, hp⟩
end Go.Proofs.Ytkfppigcjdapnaa.AE

namespace Go.Proofs.Ytkfppigcjdapnaa.AE
set_option linter.unusedVariables false
set_option linter.unusedSimpArgs false
set_option linter.constructorNameAsVariable false
open Go Go.Proofs.Ytkfppigcjdapnaa.Geo
set_option maxRecDepth 100000
attribute [local irreducible] pcall C0
theorem neg_mv {p : Pt} {x y : Int} (h : mvB p x y = true) : IntKind.wrap .i64 (0 - x) = -x ∧ IntKind.wrap .i64 (0 - y) = -y ∧ In64 (-x) ∧ In64 (-y) := by
  obtain ⟨⟨⟨a1, a2⟩, b1, b2⟩, ⟨c1, c2⟩, d1, d2⟩ := mvB_t.mp h
  unfold mv at *
  simp only at c1 c2 d1 d2
  unfold In64
  rw [i64w, i64w]; omega
theorem moves_core (ps : List Pt) (p : Pt) (x y : Int) (h64 : ∀ p ∈ ps, In64 p.1 ∧ In64 p.2) (h1 : In64 p.1) (h2 : In64 p.2) (hx : In64 x) (hy : In64 y) :
    pcall M 41 5 [.lst (ps.map pt), pt p, .int .i64 x, .int .i64 y] = some (.bool true) := told (r5 C0 40 _ _ _ _ _) (by
  refine Eq.trans (pl_bool awake) ?_
  repeat with_reducible first | refine tt sh_ptr ?_ | refine tt sh_fptr ?_ | refine tt w2 ?_ | refine tt w3 ?_ | refine tt w8 ?_ | refine tt w9 ?_ | refine tt wf ?_ | refine tt wg ?_ | refine tt wh ?_ | refine tt wi ?_ | refine tt wj ?_ | refine tt wk ?_ | refine tt wl ?_ | refine tt wn ?_ | refine tt c_ort ?_ | refine tt c_nt ?_ | refine tt c_nf ?_ | refine tt (cnd_t _ _) ?_ | refine tt (cnd_f _ _) ?_ | refine tt w6 ?_ | refine tt w4 ?_ | refine tt w5 ?_ | refine tt w7 ?_ | refine tt wm ?_ | refine tt wo ?_ | refine tt wx ?_ | refine tt nil_ptr ?_ | refine tt len_lst ?_ | refine tt len_zsl ?_
  refine Eq.trans (pl_bool (s10 39 ps)) ?_
  by_cases hf : (ps.length : Int) ≤ 12
  · rw [decide_eq_true hf]
    repeat with_reducible first | refine tt sh_ptr ?_ | refine tt sh_fptr ?_ | refine tt w2 ?_ | refine tt w3 ?_ | refine tt w8 ?_ | refine tt w9 ?_ | refine tt wf ?_ | refine tt wg ?_ | refine tt wh ?_ | refine tt wi ?_ | refine tt wj ?_ | refine tt wk ?_ | refine tt wl ?_ | refine tt wn ?_ | refine tt c_ort ?_ | refine tt c_nt ?_ | refine tt c_nf ?_ | refine tt (cnd_t _ _) ?_ | refine tt (cnd_f _ _) ?_ | refine tt w6 ?_ | refine tt w4 ?_ | refine tt w5 ?_ | refine tt w7 ?_ | refine tt wm ?_ | refine tt wo ?_ | refine tt wx ?_ | refine tt nil_ptr ?_ | refine tt len_lst ?_ | refine tt len_zsl ?_
    have hm := s24 27 ps x y (by omega) h64 hx hy
    have hq := s25 33 p x y h1 h2 hx hy
    cases hb : moveB ps x y
    · unfold moveR at hm
      rw [hb] at hm
      refine Eq.trans (pl_tup hm (by rfl)) ?_
      repeat with_reducible first | refine tt sh_ptr ?_ | refine tt sh_fptr ?_ | refine tt w2 ?_ | refine tt w3 ?_ | refine tt w8 ?_ | refine tt w9 ?_ | refine tt wf ?_ | refine tt wg ?_ | refine tt wh ?_ | refine tt wi ?_ | refine tt wj ?_ | refine tt wk ?_ | refine tt wl ?_ | refine tt wn ?_ | refine tt c_ort ?_ | refine tt c_nt ?_ | refine tt c_nf ?_ | refine tt (cnd_t _ _) ?_ | refine tt (cnd_f _ _) ?_ | refine tt w6 ?_ | refine tt w4 ?_ | refine tt w5 ?_ | refine tt w7 ?_ | refine tt wm ?_ | refine tt wo ?_ | refine tt wx ?_ | refine tt nil_ptr ?_ | refine tt len_lst ?_ | refine tt len_zsl ?_
      cases hv : mvB p x y
      · rw [hv, if_neg (by decide)] at hq
        refine Eq.trans (pl_tup hq (by rfl)) ?_
        repeat with_reducible first | refine tt sh_ptr ?_ | refine tt sh_fptr ?_ | refine tt w2 ?_ | refine tt w3 ?_ | refine tt w8 ?_ | refine tt w9 ?_ | refine tt wf ?_ | refine tt wg ?_ | refine tt wh ?_ | refine tt wi ?_ | refine tt wj ?_ | refine tt wk ?_ | refine tt wl ?_ | refine tt wn ?_ | refine tt c_ort ?_ | refine tt c_nt ?_ | refine tt c_nf ?_ | refine tt (cnd_t _ _) ?_ | refine tt (cnd_f _ _) ?_ | refine tt w6 ?_ | refine tt w4 ?_ | refine tt w5 ?_ | refine tt w7 ?_ | refine tt wm ?_ | refine tt wo ?_ | refine tt wx ?_ | refine tt nil_ptr ?_ | refine tt len_lst ?_ | refine tt len_zsl ?_
        rfl
      · rw [hv, if_pos rfl] at hq
        refine Eq.trans (pl_tup hq (by rfl)) ?_
        repeat with_reducible first | refine tt sh_ptr ?_ | refine tt sh_fptr ?_ | refine tt w2 ?_ | refine tt w3 ?_ | refine tt w8 ?_ | refine tt w9 ?_ | refine tt wf ?_ | refine tt wg ?_ | refine tt wh ?_ | refine tt wi ?_ | refine tt wj ?_ | refine tt wk ?_ | refine tt wl ?_ | refine tt wn ?_ | refine tt c_ort ?_ | refine tt c_nt ?_ | refine tt c_nf ?_ | refine tt (cnd_t _ _) ?_ | refine tt (cnd_f _ _) ?_ | refine tt w6 ?_ | refine tt w4 ?_ | refine tt w5 ?_ | refine tt w7 ?_ | refine tt wm ?_ | refine tt wo ?_ | refine tt wx ?_ | refine tt nil_ptr ?_ | refine tt len_lst ?_ | refine tt len_zsl ?_
        rfl
    · unfold moveR at hm
      rw [hb] at hm
      refine Eq.trans (pl_tup hm (by rfl)) ?_
      repeat with_reducible first | refine tt sh_ptr ?_ | refine tt sh_fptr ?_ | refine tt w2 ?_ | refine tt w3 ?_ | refine tt w8 ?_ | refine tt w9 ?_ | refine tt wf ?_ | refine tt wg ?_ | refine tt wh ?_ | refine tt wi ?_ | refine tt wj ?_ | refine tt wk ?_ | refine tt wl ?_ | refine tt wn ?_ | refine tt c_ort ?_ | refine tt c_nt ?_ | refine tt c_nf ?_ | refine tt (cnd_t _ _) ?_ | refine tt (cnd_f _ _) ?_ | refine tt w6 ?_ | refine tt w4 ?_ | refine tt w5 ?_ | refine tt w7 ?_ | refine tt wm ?_ | refine tt wo ?_ | refine tt wx ?_ | refine tt nil_ptr ?_ | refine tt len_lst ?_ | refine tt len_zsl ?_
      obtain ⟨k1, k2, k3⟩ := moveB_t.mp hb
      cases hv : mvB p x y
      · rw [hv, if_neg (by decide)] at hq
        refine Eq.trans (pl_tup hq (by rfl)) ?_
        repeat with_reducible first | refine tt sh_ptr ?_ | refine tt sh_fptr ?_ | refine tt w2 ?_ | refine tt w3 ?_ | refine tt w8 ?_ | refine tt w9 ?_ | refine tt wf ?_ | refine tt wg ?_ | refine tt wh ?_ | refine tt wi ?_ | refine tt wj ?_ | refine tt wk ?_ | refine tt wl ?_ | refine tt wn ?_ | refine tt c_ort ?_ | refine tt c_nt ?_ | refine tt c_nf ?_ | refine tt (cnd_t _ _) ?_ | refine tt (cnd_f _ _) ?_ | refine tt w6 ?_ | refine tt w4 ?_ | refine tt w5 ?_ | refine tt w7 ?_ | refine tt wm ?_ | refine tt wo ?_ | refine tt wx ?_ | refine tt nil_ptr ?_ | refine tt len_lst ?_ | refine tt len_zsl ?_
        have h3 := (right_ok k2).1
        refine Eq.trans (pl_f (beq_eq_false_iff_ne.mpr (by rw [List.length_map, mvL_len]; omega))) ?_
        rfl
      · rw [hv, if_pos rfl] at hq
        refine Eq.trans (pl_tup hq (by rfl)) ?_
        repeat with_reducible first | refine tt sh_ptr ?_ | refine tt sh_fptr ?_ | refine tt w2 ?_ | refine tt w3 ?_ | refine tt w8 ?_ | refine tt w9 ?_ | refine tt wf ?_ | refine tt wg ?_ | refine tt wh ?_ | refine tt wi ?_ | refine tt wj ?_ | refine tt wk ?_ | refine tt wl ?_ | refine tt wn ?_ | refine tt c_ort ?_ | refine tt c_nt ?_ | refine tt c_nf ?_ | refine tt (cnd_t _ _) ?_ | refine tt (cnd_f _ _) ?_ | refine tt w6 ?_ | refine tt w4 ?_ | refine tt w5 ?_ | refine tt w7 ?_ | refine tt wm ?_ | refine tt wo ?_ | refine tt wx ?_ | refine tt nil_ptr ?_ | refine tt len_lst ?_ | refine tt len_zsl ?_
        obtain ⟨e1, e2, n1, n2⟩ := neg_mv hv
        obtain ⟨o1, o2⟩ := mvB_t.mp hv
        rw [e1, e2]
        have hmem : ∀ q ∈ mvL ps x y, In64 q.1 ∧ In64 q.2 := by
          intro q hq
          have := (right_ok k3).2.2 q hq
          unfold OkP Okc at this
          unfold In64; omega
        have hback := (s24 27 (mvL ps x y) (-x) (-y) (by rw [mvL_len]; omega) hmem n1 n2).trans (congrArg some (move_back hb))
        refine Eq.trans (pl_tup hback (by rfl)) ?_
        repeat with_reducible first | refine tt sh_ptr ?_ | refine tt sh_fptr ?_ | refine tt w2 ?_ | refine tt w3 ?_ | refine tt w8 ?_ | refine tt w9 ?_ | refine tt wf ?_ | refine tt wg ?_ | refine tt wh ?_ | refine tt wi ?_ | refine tt wj ?_ | refine tt wk ?_ | refine tt wl ?_ | refine tt wn ?_ | refine tt c_ort ?_ | refine tt c_nt ?_ | refine tt c_nf ?_ | refine tt (cnd_t _ _) ?_ | refine tt (cnd_f _ _) ?_ | refine tt w6 ?_ | refine tt w4 ?_ | refine tt w5 ?_ | refine tt w7 ?_ | refine tt wm ?_ | refine tt wo ?_ | refine tt wx ?_ | refine tt nil_ptr ?_ | refine tt len_lst ?_ | refine tt len_zsl ?_
        refine Eq.trans (pl_bool (s15 28 ps (by omega))) ?_
        rw [k2]
        repeat with_reducible first | refine tt sh_ptr ?_ | refine tt sh_fptr ?_ | refine tt w2 ?_ | refine tt w3 ?_ | refine tt w8 ?_ | refine tt w9 ?_ | refine tt wf ?_ | refine tt wg ?_ | refine tt wh ?_ | refine tt wi ?_ | refine tt wj ?_ | refine tt wk ?_ | refine tt wl ?_ | refine tt wn ?_ | refine tt c_ort ?_ | refine tt c_nt ?_ | refine tt c_nf ?_ | refine tt (cnd_t _ _) ?_ | refine tt (cnd_f _ _) ?_ | refine tt w6 ?_ | refine tt w4 ?_ | refine tt w5 ?_ | refine tt w7 ?_ | refine tt wm ?_ | refine tt wo ?_ | refine tt wx ?_ | refine tt nil_ptr ?_ | refine tt len_lst ?_ | refine tt len_zsl ?_
        refine Eq.trans (pl_bool (s15 28 (mvL ps x y) (by rw [mvL_len]; omega))) ?_
        rw [k3]
        repeat with_reducible first | refine tt sh_ptr ?_ | refine tt sh_fptr ?_ | refine tt w2 ?_ | refine tt w3 ?_ | refine tt w8 ?_ | refine tt w9 ?_ | refine tt wf ?_ | refine tt wg ?_ | refine tt wh ?_ | refine tt wi ?_ | refine tt wj ?_ | refine tt wk ?_ | refine tt wl ?_ | refine tt wn ?_ | refine tt c_ort ?_ | refine tt c_nt ?_ | refine tt c_nf ?_ | refine tt (cnd_t _ _) ?_ | refine tt (cnd_f _ _) ?_ | refine tt w6 ?_ | refine tt w4 ?_ | refine tt w5 ?_ | refine tt w7 ?_ | refine tt wm ?_ | refine tt wo ?_ | refine tt wx ?_ | refine tt nil_ptr ?_ | refine tt len_lst ?_ | refine tt len_zsl ?_
        refine Eq.trans (pl_int (s16 27 (mvL ps x y) (mv p x y) (by rw [mvL_len]; omega))) ?_
        refine Eq.trans (pl_int (s16 27 ps p (by omega))) ?_
        rw [mv_side k2 k3 (okb_t.mpr o1) (okb_t.mpr o2), beq_self_eq_true]
        repeat with_reducible first | refine tt sh_ptr ?_ | refine tt sh_fptr ?_ | refine tt w2 ?_ | refine tt w3 ?_ | refine tt w8 ?_ | refine tt w9 ?_ | refine tt wf ?_ | refine tt wg ?_ | refine tt wh ?_ | refine tt wi ?_ | refine tt wj ?_ | refine tt wk ?_ | refine tt wl ?_ | refine tt wn ?_ | refine tt c_ort ?_ | refine tt c_nt ?_ | refine tt c_nf ?_ | refine tt (cnd_t _ _) ?_ | refine tt (cnd_f _ _) ?_ | refine tt w6 ?_ | refine tt w4 ?_ | refine tt w5 ?_ | refine tt w7 ?_ | refine tt wm ?_ | refine tt wo ?_ | refine tt wx ?_ | refine tt nil_ptr ?_ | refine tt len_lst ?_ | refine tt len_zsl ?_
        refine Eq.trans (pl_bool (s18 27 (mvL ps x y) (by rw [mvL_len]; omega))) ?_
        refine Eq.trans (pl_bool (s18 27 ps (by omega))) ?_
        rw [mv_left k2 k3]
        refine Eq.trans (pl_len (by cases leftB ps <;> rfl)) ?_
        repeat with_reducible first | refine tt sh_ptr ?_ | refine tt sh_fptr ?_ | refine tt w2 ?_ | refine tt w3 ?_ | refine tt w8 ?_ | refine tt w9 ?_ | refine tt wf ?_ | refine tt wg ?_ | refine tt wh ?_ | refine tt wi ?_ | refine tt wj ?_ | refine tt wk ?_ | refine tt wl ?_ | refine tt wn ?_ | refine tt c_ort ?_ | refine tt c_nt ?_ | refine tt c_nf ?_ | refine tt (cnd_t _ _) ?_ | refine tt (cnd_f _ _) ?_ | refine tt w6 ?_ | refine tt w4 ?_ | refine tt w5 ?_ | refine tt w7 ?_ | refine tt wm ?_ | refine tt wo ?_ | refine tt wx ?_ | refine tt nil_ptr ?_ | refine tt len_lst ?_ | refine tt len_zsl ?_
        refine Eq.trans (pl_bool (s20 39 ps ps (by omega) (by omega))) ?_
        simp
  · rw [decide_eq_false hf]
    repeat with_reducible first | refine tt sh_ptr ?_ | refine tt sh_fptr ?_ | refine tt w2 ?_ | refine tt w3 ?_ | refine tt w8 ?_ | refine tt w9 ?_ | refine tt wf ?_ | refine tt wg ?_ | refine tt wh ?_ | refine tt wi ?_ | refine tt wj ?_ | refine tt wk ?_ | refine tt wl ?_ | refine tt wn ?_ | refine tt c_ort ?_ | refine tt c_nt ?_ | refine tt c_nf ?_ | refine tt (cnd_t _ _) ?_ | refine tt (cnd_f _ _) ?_ | refine tt w6 ?_ | refine tt w4 ?_ | refine tt w5 ?_ | refine tt w7 ?_ | refine tt wm ?_ | refine tt wo ?_ | refine tt wx ?_ | refine tt nil_ptr ?_ | refine tt len_lst ?_ | refine tt len_zsl ?_
    exact pl_bool awake)
theorem law_PolyMoves (a0 : AV) (a1_0 : Int) (a1_1 : Int) (a2 : Int) (a3 : Int) (w0 : TyOK false [(.sl true [(.i .i64), (.i .i64)])] a0) (w1_0 : (Lit.int .i64 a1_0).wf = true) (w1_1 : (Lit.int .i64 a1_1).wf = true) (w2 : (Lit.int .i64 a2).wf = true) (w3 : (Lit.int .i64 a3).wf = true) :
    pcall M 41 5 [a0, .agg [.int .i64 a1_0, .int .i64 a1_1], .int .i64 a2, .int .i64 a3] = some (.bool true) := by
  obtain ⟨ps, rfl, hl, h64⟩ := ty_pts64 w0
  exact moves_core ps (a1_0, a1_1) a2 a3 h64 (wf64 w1_0) (wf64 w1_1) (wf64 w2) (wf64 w3)
end Go.Proofs.Ytkfppigcjdapnaa.AE
