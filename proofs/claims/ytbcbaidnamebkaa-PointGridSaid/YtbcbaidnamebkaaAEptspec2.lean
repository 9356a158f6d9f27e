/- What the functions of points tell: products, turns, ways. No conditions. -/
import Derived.Test.YtbcbaidnamebkaaAEptspec
namespace Go.Proofs.Ytbcbaidnamebkaa.AE
set_option linter.unusedVariables false
set_option linter.unusedSimpArgs false
set_option linter.constructorNameAsVariable false
open Go Go.Proofs.Ytbcbaidnamebkaa.Geo

theorem s33 (d : Nat) (x y : Int) : pcall M (d + 1) 33 [.lst [.int .i64 x, .int .i64 y]] = some (.int .i64 (if x ≠ 0 then x else y)) := told (q33 d _) (by
  rw [show (1000000000000000000 : Nat) = 999999999999999997 + 1 + 1 + 1 from rfl, L33_0]
  refine Eq.trans (pl_len (by rfl)) ?_; refine Eq.trans (pl_len (by rfl)) ?_; refine Eq.trans (pl_int (by rfl)) ?_
  by_cases hx : x = 0
  · subst hx
    refine Eq.trans (pl_f (by rfl)) ?_
    rw [L33_0]
    refine Eq.trans (pl_len (by rfl)) ?_; refine Eq.trans (pl_len (by rfl)) ?_; refine Eq.trans (pl_int (by rfl)) ?_
    by_cases hy : y = 0
    · subst hy
      refine Eq.trans (pl_f (by rfl)) ?_
      rw [L33_0]; rfl
    · rw [show (y != 0) = true by simp [hy], cnd_t]; rfl
  · rw [show (x != 0) = true by simp [hx], cnd_t, if_pos hx]; rfl)

theorem s24 (d : Nat) (a b : Int) (ha : -170141183460469231731687303715884105728 ≤ a) (ha' : a < 170141183460469231731687303715884105728) (hb : -170141183460469231731687303715884105728 ≤ b) (hb' : b < 170141183460469231731687303715884105728) :
    pcall M (d + 3) 24 [.agg [.int .i64 (hiw a), .int .u64 (low a)], .agg [.int .i64 (hiw b), .int .u64 (low b)]] = some (.int .i64 (cmp a b)) := told (r24 C0 (d + 2) _ _ _ _) (by
  rw [s34, s35, C0_int, C0_int, s33, C0_int]
  have e1 : hiw a = a / 18446744073709551616 := by unfold hiw; rw [i64_small (by omega) (by omega)]
  have e2 : hiw b = b / 18446744073709551616 := by unfold hiw; rw [i64_small (by omega) (by omega)]
  rw [e1, e2]
  unfold low cmp
  congr 2
  repeat' split
  all_goals omega)

theorem s32 (d : Nat) (a b : Int) (ha : 0 ≤ a) (ha' : a < 18446744073709551616) (hb : 0 ≤ b) (hb' : b < 18446744073709551616) :
    ∃ hi lo, pcall M (d + 1) 32 [.int .u64 a, .int .u64 b] = some (.tup [.int .u64 hi, .int .u64 lo]) ∧ hi * 18446744073709551616 + lo = a * b ∧ 0 ≤ lo ∧ lo < 18446744073709551616 ∧ 0 ≤ hi ∧ hi < 18446744073709551616 := by
  refine ⟨_, _, told (r32 C0 d a b) rfl, ?_⟩
  have h32 : ∀ x : Int, Int.fdiv x (2 ^ (min (Int.toNat 32) 64)) = x / 4294967296 := by
    intro x
    rw [show ((2 : Int) ^ (min (Int.toNat 32) 64)) = 4294967296 from by decide]
    exact Int.fdiv_eq_ediv_of_nonneg x (by decide)
  rw [u64_and32 ha ha', u64_and32 hb hb']
  simp only [h32]
  obtain ⟨a1, a0, e1, e2, e3, e4⟩ : ∃ a1 a0 : Int, a / 4294967296 = a1 ∧ a % 4294967296 = a0 ∧ a = a1 * 4294967296 + a0 ∧ (0 ≤ a0 ∧ a0 < 4294967296 ∧ 0 ≤ a1 ∧ a1 < 4294967296) := ⟨_, _, rfl, rfl, by omega, by omega⟩
  obtain ⟨b1, b0, f1, f2, f3, f4⟩ : ∃ a1 a0 : Int, b / 4294967296 = a1 ∧ b % 4294967296 = a0 ∧ b = a1 * 4294967296 + a0 ∧ (0 ≤ a0 ∧ a0 < 4294967296 ∧ 0 ≤ a1 ∧ a1 < 4294967296) := ⟨_, _, rfl, rfl, by omega, by omega⟩
  rw [e1, e2, f1, f2]
  have hp : a * b = (a1 * b1) * 18446744073709551616 + (a1 * b0 + a0 * b1) * 4294967296 + a0 * b0 := by rw [e3, f3]; grind
  rw [hp]
  have bd : ∀ x y : Int, 0 ≤ x → x < 4294967296 → 0 ≤ y → y < 4294967296 → 0 ≤ x * y ∧ x * y ≤ 18446744065119617025 := by
    intro x y h1 h2 h3 h4
    exact ⟨Int.mul_nonneg h1 h3, Int.le_trans (Int.mul_le_mul (show x ≤ 4294967295 by omega) (show y ≤ 4294967295 by omega) h3 (by omega)) (by decide)⟩
  have B11 := bd a1 b1 (by omega) (by omega) (by omega) (by omega)
  have B10 := bd a1 b0 (by omega) (by omega) (by omega) (by omega)
  have B01 := bd a0 b1 (by omega) (by omega) (by omega) (by omega)
  have B00 := bd a0 b0 (by omega) (by omega) (by omega) (by omega)
  generalize a1 * b1 = p11 at *
  generalize a1 * b0 = p10 at *
  generalize a0 * b1 = p01 at *
  generalize a0 * b0 = p00 at *
  simp only [u64w]
  rw [show ∀ x : Int, Go.bits .and .u64 (x % 18446744073709551616) 4294967295 = (x % 18446744073709551616) % 4294967296 from fun x => u64_and32 (by omega) (by omega)]
  omega

theorem s23 (d : Nat) (a b : Int) (ha : -9223372036854775808 ≤ a) (ha' : a < 9223372036854775808) (hb : -9223372036854775808 ≤ b) (hb' : b < 9223372036854775808) :
    pcall M (d + 2) 23 [.int .i64 a, .int .i64 b] = some (.agg [.int .i64 (hiw (a * b)), .int .u64 (low (a * b))]) := told (r23 C0 (d + 1) a b) (by
  obtain ⟨hi, lo, e, h0, l0, l1, i0, i1⟩ := s32 d (IntKind.u64.wrap a) (IntKind.u64.wrap b) (by rw [u64w]; omega) (by rw [u64w]; omega) (by rw [u64w]; omega) (by rw [u64w]; omega)
  have bd := mul_bd63 a b ha ha' hb hb'
  rw [e, C0_tup2]
  simp only [at0, at1, C0_int, u64w]
  rw [u64w, u64w] at h0
  unfold hiw low
  have fin : ∀ h : Int, (h * 18446744073709551616 + lo - a * b) % 340282366920938463463374607431768211456 = 0 → (some (.agg [.int .i64 (IntKind.i64.wrap h), .int .u64 lo]) : Ans) = some (.agg [.int .i64 (IntKind.i64.wrap (a * b / 18446744073709551616)), .int .u64 (a * b % 18446744073709551616)]) := by
    intro h hh
    generalize a * b = p at *
    have e2 : lo = p % 18446744073709551616 := by omega
    have e1 : IntKind.i64.wrap h = IntKind.i64.wrap (p / 18446744073709551616) := by rw [i64w, i64w]; omega
    rw [e1, e2]
  by_cases ca : a < 0
  · rw [decide_eq_true ca, cnd_t]
    have ua : a % 18446744073709551616 = a + 18446744073709551616 := by omega
    by_cases cb : b < 0
    · rw [decide_eq_true cb, cnd_t]
      have ub : b % 18446744073709551616 = b + 18446744073709551616 := by omega
      have hp : (a + 18446744073709551616) * (b + 18446744073709551616) = a * b + 18446744073709551616 * (a + b) + 340282366920938463463374607431768211456 := by grind
      rw [ua, ub, hp] at h0
      rw [ua, ub]
      refine fin _ ?_
      generalize a * b = p at *
      omega
    · rw [decide_eq_false cb, cnd_f]
      have ub : b % 18446744073709551616 = b := by omega
      have hp : (a + 18446744073709551616) * b = a * b + 18446744073709551616 * b := by grind
      rw [ua, ub, hp] at h0
      rw [ub]
      refine fin _ ?_
      generalize a * b = p at *
      omega
  · rw [decide_eq_false ca, cnd_f]
    have ua : a % 18446744073709551616 = a := by omega
    by_cases cb : b < 0
    · rw [decide_eq_true cb, cnd_t]
      have ub : b % 18446744073709551616 = b + 18446744073709551616 := by omega
      have hp : a * (b + 18446744073709551616) = a * b + 18446744073709551616 * a := by grind
      rw [ua, ub, hp] at h0
      rw [ua]
      refine fin _ ?_
      generalize a * b = p at *
      omega
    · rw [decide_eq_false cb, cnd_f]
      have ub : b % 18446744073709551616 = b := by omega
      rw [ua, ub] at h0
      refine fin _ ?_
      generalize a * b = p at *
      omega)

theorem fi_ge (ps : List Pt) : ∀ i : Int, 0 ≤ i → (fi ps i ≥ 0 ↔ ¬ ∀ p ∈ ps, OkP p) := by
  induction ps with
  | nil => intro i hi; simp [fi]
  | cons p l ih =>
    intro i hi
    simp only [fi]
    by_cases h : OkP p
    · simp only [h, if_true]; rw [ih (i + 1) (by omega)]; simp [h]
    · simp only [h, if_false]
      exact ⟨fun _ hh => h (hh p (by simp)), fun _ => hi⟩
theorem s22 (d : Nat) (ps : List Pt) (hl : ps.length < 140737488355329) : pcall M (d + 6) 22 [.lst (ps.map pt)] = some (.bool (decide (∀ p ∈ ps, OkP p))) := told (r22 C0 (d + 5) _) (by
  have h30 : pcall M (d + 5) 30 [.lst (ps.map pt), .fn 31 [] []] = some (.bool (decide (fi ps 0 ≥ 0))) := told (r30f31 C0 (d + 4) _ .nilp) (by rw [s42 d ps hl, C0_int])
  rw [h30, C0_bool]
  congr 2
  have := fi_ge ps 0 (by decide)
  by_cases h : ∀ p ∈ ps, OkP p
  · have : ¬ fi ps 0 ≥ 0 := fun hh => (this.mp hh) h
    rw [decide_eq_true h, decide_eq_false this]; rfl
  · rw [decide_eq_false h, decide_eq_true (this.mpr h)]; rfl)

def ok3 (a b c : Pt) : Prop := OkP a ∧ OkP b ∧ OkP c
instance (a b c : Pt) : Decidable (ok3 a b c) := by unfold ok3; infer_instance
def tn3 (a b c : Pt) : Int := if ok3 a b c then sg (TN a b c) else 0
def onB (p a b : Pt) : Bool := decide (ok3 p a b ∧ On p a b)
def ok4 (a b c d : Pt) : Prop := OkP a ∧ OkP b ∧ OkP c ∧ OkP d
instance (a b c d : Pt) : Decidable (ok4 a b c d) := by unfold ok4; infer_instance
def meetB (a b c d : Pt) : Bool := decide (ok4 a b c d ∧ Meet a b c d)
theorem cmp_sg (p q : Int) : cmp p q = sg (p - q) := by unfold cmp sg; split <;> split <;> (try split) <;> (try split) <;> omega

theorem s12 (d : Nat) (a b c : Pt) : pcall M (d + 7) 12 [pt a, pt b, pt c] = some (.int .i64 (tn3 a b c)) := told (r12 C0 (d + 6) _ _ _ _ _ _) (by
  have h22 := s22 d [a, b, c] (by simp)
  simp only [List.map_cons, List.map_nil, pt] at h22
  rw [h22, C0_bool]
  unfold tn3
  by_cases h : ok3 a b c
  · rw [if_pos h, decide_eq_true (by simpa [ok3] using h)]
    obtain ⟨⟨⟨ha, ha'⟩, hb, hb'⟩, ⟨⟨hc, hc'⟩, hd, hd'⟩, ⟨he, he'⟩, hf, hf'⟩ := h
    rw [i64_small (n := b.1 - a.1) (by omega) (by omega), i64_small (n := c.2 - a.2) (by omega) (by omega), i64_small (n := b.2 - a.2) (by omega) (by omega), i64_small (n := c.1 - a.1) (by omega) (by omega)]
    rw [s23 (d + 4) _ _ (by omega) (by omega) (by omega) (by omega), s23 (d + 4) _ _ (by omega) (by omega) (by omega) (by omega)]
    have p1 := prod_bd41 (x := b.1 - a.1) (y := c.2 - a.2) (by omega) (by omega) (by omega) (by omega)
    have p2 := prod_bd41 (x := b.2 - a.2) (y := c.1 - a.1) (by omega) (by omega) (by omega) (by omega)
    simp only [Bool.not_true, cnd_f, C0_agg2, at0, at1, C0_int]
    rw [s24 (d + 3) _ _ (by omega) (by omega) (by omega) (by omega), C0_int, cmp_sg]
    rfl
  · rw [if_neg h, decide_eq_false (by simpa [ok3] using h)]
    rfl)
end Go.Proofs.Ytbcbaidnamebkaa.AE
