/- What the functions of points tell. No conditions. -/
import Derived.Test.YtbcbaidnamebkaaAElp
import Derived.Test.YtbcbaidnamebkaaAEhp
import Derived.Test.YtbcbaidnamebkaaAEnum
import Derived.Test.YtbcbaidnamebkaaGGeo
namespace Go.Proofs.Ytbcbaidnamebkaa.AE
set_option linter.unusedVariables false
set_option linter.unusedSimpArgs false
set_option linter.constructorNameAsVariable false
open Go Go.Proofs.Ytbcbaidnamebkaa.Geo
abbrev i64 (n : Int) : AV := .int .i64 n
abbrev u64 (n : Int) : AV := .int .u64 n
abbrev pt (p : Int × Int) : AV := .agg [.int .i64 p.1, .int .i64 p.2]

theorem s43 (d : Nat) (x : Int) : pcall M (d + 1) 43 [.int .i64 x] = some (.bool false) := told (r43 C0 d x) (by simp)
theorem s44 (d : Nat) (x : Int) : pcall M (d + 1) 44 [.int .u64 x] = some (.bool false) := told (r44 C0 d x) (by simp)
theorem s34 (d : Nat) (x y : Int) : pcall M (d + 2) 34 [.int .i64 x, .int .i64 y] = some (.int .i64 (cmp x y)) := told (r34 C0 (d + 1) x y) (by
  rw [s43, s43, C0_bool, C0_bool, cnd_f, cnd_f]
  unfold cmp
  by_cases h : x < y
  · simp [h, cnd_t]
  · by_cases h2 : y < x <;> simp [h, h2, cnd_t, cnd_f])
theorem s35 (d : Nat) (x y : Int) : pcall M (d + 2) 35 [.int .u64 x, .int .u64 y] = some (.int .i64 (cmp x y)) := told (r35 C0 (d + 1) x y) (by
  rw [s44, s44, C0_bool, C0_bool, cnd_f, cnd_f]
  unfold cmp
  by_cases h : x < y
  · simp [h, cnd_t]
  · by_cases h2 : y < x <;> simp [h, h2, cnd_t, cnd_f])
theorem s21 (d : Nat) (x : Int) : pcall M (d + 1) 21 [.int .i64 x] = some (.bool (decide (Okc x))) := told (r21 C0 d x) (by
  unfold Okc
  by_cases h : x ≥ -1099511627776 <;> by_cases h2 : x ≤ 1099511627776 <;> simp [h, h2, cnd_t, cnd_f])
theorem s10 (d : Nat) (p : Int × Int) : pcall M (d + 2) 10 [pt p] = some (.bool (decide (OkP p))) := told (r10 C0 (d + 1) p.1 p.2) (by
  rw [s21, s21, C0_bool, C0_bool]
  unfold OkP
  by_cases h : Okc p.1 <;> by_cases h2 : Okc p.2 <;> simp [h, h2, cnd_t, cnd_f])
theorem s31 (d : Nat) (p : Int × Int) : pcall M (d + 3) 31 [pt p] = some (.bool (!decide (OkP p))) := told (r31 C0 (d + 2) p.1 p.2) (by
  rw [s10, C0_bool])

def fi : List Pt → Int → Int
  | [], _ => -1
  | p :: l, i => if OkP p then fi l (i + 1) else i

theorem pts_at {ps : List Pt} {i : Nat} (h : i < ps.length) : (ps.map pt)[((i : Nat) : Int).toNat]? = some (pt ps[i]) := by simp [h]
theorem s42_0 (d : Nat) (ps : List Pt) (hl : ps.length < 1000000000000000000) : ∀ (l2 : List Pt) (i f : Nat), ps.drop i = l2 → l2.length < f →
    L42f31_0 (d + 3) (ps.map pt) f (i : Nat) = some (.int .i64 (fi l2 (i : Nat))) := by
  intro l2
  induction l2 with
  | nil =>
    intro i f hd hf
    obtain ⟨f, rfl⟩ : ∃ m, f = m + 1 := ⟨f - 1, by omega⟩
    have : ps.length ≤ i := List.drop_eq_nil_iff.mp hd
    rw [L42f31_0, decide_eq_false (by simp; omega), cnd_f]; rfl
  | cons p l2 ih =>
    intro i f hd hf
    obtain ⟨f, rfl⟩ : ∃ m, f = m + 1 := ⟨f - 1, by simp at hf; omega⟩
    have hi : i < ps.length := by
      rcases Nat.lt_or_ge i ps.length with h | h
      · exact h
      · rw [List.drop_eq_nil_of_le h] at hd; cases hd
    have hp : ps[i] = p := by have := List.drop_eq_getElem_cons hi; rw [hd] at this; exact (List.cons.inj this).1.symm
    have hd2 : ps.drop (i + 1) = l2 := by have := List.drop_eq_getElem_cons hi; rw [hd] at this; exact (List.cons.inj this).2.symm
    rw [L42f31_0, decide_eq_true (by simp; omega), cnd_t, decide_eq_true (by omega), cnd_t, pts_at hi]
    refine Eq.trans (pl_agg (by rfl) (by rfl)) ?_; refine Eq.trans (pl_int (by rfl)) ?_; refine Eq.trans (pl_int (by rfl)) ?_
    rw [show pcall M (d + 3) 31 [.agg [.int .i64 ps[i].1, .int .i64 ps[i].2]] = some (.bool (!decide (OkP ps[i]))) from s31 d ps[i], C0_bool, hp]
    simp only [fi]
    by_cases h : OkP p
    · rw [decide_eq_true h, if_pos h, show IntKind.wrap .i64 ((i : Int) + 1) = ((i + 1 : Nat) : Int) by rw [IntKind.wrap_i64]; omega]
      refine (ih (i + 1) f hd2 (by simp at hf; omega)).trans ?_
      simp
    · rw [decide_eq_false h, if_neg h]; rfl
theorem s42 (d : Nat) (ps : List Pt) (hl : ps.length < 140737488355329) : pcall M (d + 4) 42 [.lst (ps.map pt), .fn 31 [] []] = some (.int .i64 (fi ps 0)) :=
  told (q42f31 (d + 3) (ps.map pt) .nilp) (s42_0 d ps (by omega) ps 0 _ rfl (by omega))
end Go.Proofs.Ytbcbaidnamebkaa.AE
