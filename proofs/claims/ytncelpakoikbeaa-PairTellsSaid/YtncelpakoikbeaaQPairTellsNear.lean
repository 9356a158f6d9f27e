/- Two navs are near: the program's answer as a plain statement. -/
import Derived.Test.YtncelpakoikbeaaPPairTellsx
namespace Go.Proofs.Ytncelpakoikbeaa.PPairTells
open Go.RowKit Go.Proofs.YtncelpakoikbeaaW.PrintWords Go.Proofs.YtncelpakoikbeaaW.PrintLast

def Rg (x : Int) : Prop := -9223372036854775808 ≤ x ∧ x < 9223372036854775808
theorem Rg.of {x : Int} (h : (Lit.int .i64 x).wf = true) : Rg x := by
  simp [Lit.wf, IntKind.min, IntKind.max, IntKind.signed, IntKind.bits] at h; unfold Rg; omega
theorem n_u64 (n : Int) : IntKind.u64.wrap n = n % 18446744073709551616 := by simp [IntKind.wrap, IntKind.bits, IntKind.signed]
def Dist (p : Int × Int) : Int := mx p.1 p.2 - mn p.1 p.2
theorem Dist_symm (x y : Int) : Dist (x, y) = Dist (y, x) := by unfold Dist mx mn; dsimp only; split <;> split <;> omega
theorem Dist_self (x : Int) : Dist (x, x) = 0 := by unfold Dist mx mn; dsimp only; split <;> omega
def Nr (l : List (Int × Int)) (eps : Int) : Prop := 0 ≤ eps ∧ ∀ p ∈ l, Dist p ≤ eps
instance (l : List (Int × Int)) (eps : Int) : Decidable (Nr l eps) := by unfold Nr; infer_instance
theorem Nr_more {l : List (Int × Int)} {e e' : Int} (h : Nr l e) (he : e ≤ e') : Nr l e' := ⟨Int.le_trans h.1 he, fun p hp => Int.le_trans (h.2 p hp) he⟩

theorem within_spec (x y eps : Int) (hx : Rg x) (hy : Rg y) (h0 : 0 ≤ eps) (h1 : eps < 9223372036854775808) : nav_within.f x y eps = some (decide (Dist (x, y) ≤ eps)) := by
  unfold nav_within.f Dist mx mn; unfold Rg at hx hy
  simp only [n_u64]
  refine congrArg some (decide_eq_decide.2 ?_)
  split <;> split <;> omega
theorem go_spec (eps : Int) (h0 : 0 ≤ eps) (h1 : eps < 9223372036854775808) : ∀ l : List (Int × Int), (∀ p ∈ l, Rg p.1 ∧ Rg p.2) → nav_Near.go eps l = some (decide (∀ p ∈ l, Dist p ≤ eps))
  | [], _ => by simp [nav_Near.go]
  | p :: l, h => by
    obtain ⟨hx, hy⟩ := h p (by simp)
    simp only [nav_Near.go]
    rw [within_spec p.1 p.2 eps hx hy h0 h1]
    simp only [Option.bind_some]
    by_cases c : Dist p ≤ eps
    · rw [if_pos (decide_eq_true c), go_spec eps h0 h1 l (fun q hq => h q (List.mem_cons_of_mem _ hq))]
      exact congrArg some (decide_eq_decide.2 (by simp [c]))
    · rw [if_neg (by simpa using c)]
      exact congrArg some (decide_eq_false (by simp [c])).symm
theorem near_spec (a0_0 a0_1 a0_2 a0_3 a0_4 a0_5 a0_6 a0_7 a1_0 a1_1 a1_2 a1_3 a1_4 a1_5 a1_6 a1_7 eps : Int) (h0_2 : Rg a0_2) (h1_2 : Rg a1_2) (h0_3 : Rg a0_3) (h1_3 : Rg a1_3) (h0_4 : Rg a0_4) (h1_4 : Rg a1_4) (h0_5 : Rg a0_5) (h1_5 : Rg a1_5) (h0_6 : Rg a0_6) (h1_6 : Rg a1_6) (h0_7 : Rg a0_7) (h1_7 : Rg a1_7) (h1 : eps < 9223372036854775808) :
    nav_Near.f a0_0 a0_1 a0_2 a0_3 a0_4 a0_5 a0_6 a0_7 a1_0 a1_1 a1_2 a1_3 a1_4 a1_5 a1_6 a1_7 eps = some (decide (Nr [(a0_2, a1_2), (a0_3, a1_3), (a0_4, a1_4), (a0_5, a1_5), (a0_6, a1_6), (a0_7, a1_7)] eps)) := by
  unfold nav_Near.f
  by_cases c : eps < 0
  · rw [if_pos c]; exact congrArg some (decide_eq_false (fun h => by have := h.1; omega)).symm
  · rw [if_neg c, go_spec eps (by omega) h1 _ (by simp [*])]
    exact congrArg some (decide_eq_decide.2 ⟨fun h => ⟨by omega, h⟩, fun h => h.2⟩)

/-- The eps that is held against. -/
def clamp (e : Int) : Int := if e < -1 then -1 else if e > 2305843009213693952 then 2305843009213693952 else e
theorem clamp_bd (e : Int) : -1 ≤ clamp e ∧ clamp e ≤ 2305843009213693952 := by unfold clamp; split <;> (try split) <;> omega
/-- What both come to. -/
def Cmp (l : List (Int × Int)) (a b : Bool) (e : Int) : Int := if a = true ∧ b = true then (if Nr l (2 * clamp e) then 3 else 4) else if a = true then 1 else if b = true then 2 else 0
theorem compare_spec (k : Nat) (hk : 1 ≤ k) (a0_0 a0_1 a0_2 a0_3 a0_4 a0_5 a0_6 a0_7 a1_0 a1_1 a1_2 a1_3 a1_4 a1_5 a1_6 a1_7 : Int) (p q : Bool) (e : Int) (h0_2 : Rg a0_2) (h1_2 : Rg a1_2) (h0_3 : Rg a0_3) (h1_3 : Rg a1_3) (h0_4 : Rg a0_4) (h1_4 : Rg a1_4) (h0_5 : Rg a0_5) (h1_5 : Rg a1_5) (h0_6 : Rg a0_6) (h1_6 : Rg a1_6) (h0_7 : Rg a0_7) (h1_7 : Rg a1_7) :
    pair_Compare.f k a0_0 a0_1 a0_2 a0_3 a0_4 a0_5 a0_6 a0_7 a1_0 a1_1 a1_2 a1_3 a1_4 a1_5 a1_6 a1_7 p q e = some (Cmp [(a0_2, a1_2), (a0_3, a1_3), (a0_4, a1_4), (a0_5, a1_5), (a0_6, a1_6), (a0_7, a1_7)] p q e) := by
  obtain ⟨k, rfl⟩ : ∃ m, k = m + 1 := ⟨k - 1, by omega⟩
  have hc := clamp_bd e
  have hcl : fix_Clamp.f e (-1) 2305843009213693952 = some (clamp e) := by unfold fix_Clamp.f clamp; split <;> (try split) <;> rfl
  have hw : wrap64 (2 * clamp e) = 2 * clamp e := by unfold wrap64; omega
  unfold pair_Compare.f Cmp
  cases p <;> cases q <;> simp only [pair_Compare.j0, if_true, Bool.false_eq_true, if_false, and_true, and_false, hcl, Option.bind_some, hw]
  rw [near_spec a0_0 a0_1 a0_2 a0_3 a0_4 a0_5 a0_6 a0_7 a1_0 a1_1 a1_2 a1_3 a1_4 a1_5 a1_6 a1_7 (2 * clamp e) h0_2 h1_2 h0_3 h1_3 h0_4 h1_4 h0_5 h1_5 h0_6 h1_6 h0_7 h1_7 (by omega)]
  simp only [Option.bind_some]
  by_cases c : Nr [(a0_2, a1_2), (a0_3, a1_3), (a0_4, a1_4), (a0_5, a1_5), (a0_6, a1_6), (a0_7, a1_7)] (2 * clamp e)
  · rw [if_pos c, if_pos (decide_eq_true c)]
  · rw [if_neg c, if_neg (by simpa using c)]
/-- The height. -/
theorem height_spec (k : Nat) (hk : 1 ≤ k) (a0_0 a0_1 a0_2 a0_3 a0_4 a0_5 a0_6 a0_7 a1_0 a1_1 a1_2 a1_3 a1_4 a1_5 a1_6 a1_7 : Int) (p q : Bool) (h0_2 : Rg a0_2) (h1_2 : Rg a1_2) (h0_3 : Rg a0_3) (h1_3 : Rg a1_3) (h0_4 : Rg a0_4) (h1_4 : Rg a1_4) (h0_5 : Rg a0_5) (h1_5 : Rg a1_5) (h0_6 : Rg a0_6) (h1_6 : Rg a1_6) (h0_7 : Rg a0_7) (h1_7 : Rg a1_7) :
    pair_Height.f k a0_0 a0_1 a0_2 a0_3 a0_4 a0_5 a0_6 a0_7 a1_0 a1_1 a1_2 a1_3 a1_4 a1_5 a1_6 a1_7 p q = some (if p = true ∧ q = true then (mn a0_4 a1_4, true) else if p = true then (a0_4, true) else if q = true then (a1_4, true) else (0, false)) := by
  unfold pair_Height.f
  rw [compare_spec k hk a0_0 a0_1 a0_2 a0_3 a0_4 a0_5 a0_6 a0_7 a1_0 a1_1 a1_2 a1_3 a1_4 a1_5 a1_6 a1_7 p q 0 h0_2 h1_2 h0_3 h1_3 h0_4 h1_4 h0_5 h1_5 h0_6 h1_6 h0_7 h1_7]
  simp only [Option.bind_some]
  unfold Cmp
  cases p <;> cases q <;> simp
  split <;> simp
end Go.Proofs.Ytncelpakoikbeaa.PPairTells
