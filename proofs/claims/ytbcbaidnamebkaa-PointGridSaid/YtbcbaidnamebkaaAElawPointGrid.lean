/- The law PointGrid, plainly. No conditions. -/
import Derived.Test.YtbcbaidnamebkaaAEptspec3
import Derived.Test.YtbcbaidnamebkaaGGrid
import Derived.Test.YtbcbaidnamebkaaAEarg
namespace Go.Proofs.Ytbcbaidnamebkaa.AE
set_option linter.unusedVariables false
set_option linter.unusedSimpArgs false
set_option linter.constructorNameAsVariable false
open Go Go.Proofs.Ytbcbaidnamebkaa.Geo
set_option maxRecDepth 100000
theorem awake : pcall M 40 9 [] = some (.bool true) := by kernel_rfl
theorem and15 (x : Int) : 0 ≤ Go.bits .and .i64 x 15 ∧ Go.bits .and .i64 x 15 ≤ 15 := by
  show 0 ≤ IntKind.i64.wrap ((BitVec.ofInt 64 x &&& BitVec.ofInt 64 15).toNat : Int) ∧ IntKind.i64.wrap ((BitVec.ofInt 64 x &&& BitVec.ofInt 64 15).toNat : Int) ≤ 15
  have h : (BitVec.ofInt 64 x &&& BitVec.ofInt 64 15).toNat ≤ 15 := by
    rw [BitVec.toNat_and]; exact Nat.and_le_right
  rw [i64w]; omega
/-- Is it at step k? -/
def hit (a b p : Pt) (k : Int) : Bool := (240 * a.1 + k * (b.1 - a.1) == 240 * p.1) && (240 * a.2 + k * (b.2 - a.2) == 240 * p.2)
def hits (a b p : Pt) : Nat → Bool → Int → Bool
  | 0, on, _ => on
  | n + 1, on, k => hits a b p n (on || hit a b p k) (k + 1)
theorem hits_iff (a b p : Pt) : ∀ (n : Nat) (on : Bool) (k : Int), hits a b p n on k = true ↔ on = true ∨ ∃ j, k ≤ j ∧ j < k + n ∧ hit a b p j = true := by
  intro n
  induction n with
  | zero => intro on k; simp only [hits]; constructor
            · exact .inl
            · rintro (h | ⟨j, h1, h2, _⟩)
              · exact h
              · omega
  | succ n ih =>
    intro on k
    simp only [hits]
    rw [ih, Bool.or_eq_true]
    constructor
    · rintro ((h | h) | ⟨j, h1, h2, h3⟩)
      · exact .inl h
      · exact .inr ⟨k, by omega, by omega, h⟩
      · exact .inr ⟨j, by omega, by omega, h3⟩
    · rintro (h | ⟨j, h1, h2, h3⟩)
      · exact .inl (.inl h)
      · by_cases he : j = k
        · subst he; exact .inl (.inr h3)
        · exact .inr ⟨j, by omega, by omega, h3⟩
def Small (p : Pt) : Prop := 0 ≤ p.1 ∧ p.1 ≤ 15 ∧ 0 ≤ p.2 ∧ p.2 ≤ 15
theorem bd15 {k u v : Int} (h0 : 0 ≤ k) (h1 : k ≤ 240) (hu : 0 ≤ u) (hu' : u ≤ 15) (hv : 0 ≤ v) (hv' : v ≤ 15) : -3600 ≤ k * (v - u) ∧ k * (v - u) ≤ 3600 := by
  have q1 := Int.mul_le_mul h1 (show v - u ≤ 15 by omega) |> fun _ => Int.mul_nonneg h0 (show 0 ≤ 15 - (v - u) by omega)
  have q2 := Int.mul_nonneg h0 (show 0 ≤ 15 + (v - u) by omega)
  rw [Int.mul_sub] at q1
  rw [Int.mul_add] at q2
  omega
theorem loop (d : Nat) (a b p : Pt) (ha : Small a) (hb : Small b) (hp : Small p) : ∀ (n : Nat) (f : Nat) (on : Bool) (k : Int), k + n = 241 → 0 ≤ k → n < f →
    L8_0 d a.1 a.2 b.1 b.2 p.1 p.2 f on k = X8_0_0 d a.1 a.2 b.1 b.2 p.1 p.2 (hits a b p n on k) := by
  intro n
  induction n with
  | zero =>
    intro f on k hk h0 hf
    obtain ⟨f, rfl⟩ : ∃ m, f = m + 1 := ⟨f - 1, by omega⟩
    rw [L8_0, decide_eq_false (by omega), cnd_f]; rfl
  | succ n ih =>
    intro f on k hk h0 hf
    obtain ⟨f, rfl⟩ : ∃ m, f = m + 1 := ⟨f - 1, by omega⟩
    obtain ⟨a1, a2, a3, a4⟩ := ha
    obtain ⟨b1, b2, b3, b4⟩ := hb
    obtain ⟨p1, p2, p3, p4⟩ := hp
    have q1 := bd15 h0 (by omega) a1 a2 b1 b2
    have q2 := bd15 h0 (by omega) a3 a4 b3 b4
    rw [L8_0, decide_eq_true (by omega), cnd_t]
    simp only [i64_small (n := b.1 - a.1) (by omega) (by omega), i64_small (n := b.2 - a.2) (by omega) (by omega), i64_small (n := k * (b.1 - a.1)) (by omega) (by omega), i64_small (n := k * (b.2 - a.2)) (by omega) (by omega), i64_small (n := 240 * a.1) (by omega) (by omega), i64_small (n := 240 * a.2) (by omega) (by omega), i64_small (n := 240 * p.1) (by omega) (by omega), i64_small (n := 240 * p.2) (by omega) (by omega),
      i64_small (n := 240 * a.1 + k * (b.1 - a.1)) (by omega) (by omega), i64_small (n := 240 * a.2 + k * (b.2 - a.2)) (by omega) (by omega), i64_small (n := k + 1) (by omega) (by omega)]
    have I := fun o => ih f o (k + 1) (by omega) (by omega) (by omega)
    simp only [hits]
    rw [I, I, I]
    cases on
    · rw [cnd_f]
      unfold hit
      cases (240 * a.1 + k * (b.1 - a.1) == 240 * p.1)
      · rfl
      · simp [cnd_t]
    · rw [cnd_t]; simp
theorem max4 (x y : Int) : (if (-y) > (if y > (if (-x) > x then (-x) else x) then y else (if (-x) > x then (-x) else x)) then (-y) else (if y > (if (-x) > x then (-x) else x) then y else (if (-x) > x then (-x) else x))) = max (max x (-x)) (max y (-y)) := by
  split <;> split <;> split <;> omega
theorem grid_core (a b p : Pt) (ha : Small a) (hb : Small b) (hp : Small p) : X8_0_0 40 a.1 a.2 b.1 b.2 p.1 p.2 (hits a b p 241 false 0) = some (.bool true) := by
  obtain ⟨a1, a2, a3, a4⟩ := ha
  obtain ⟨b1, b2, b3, b4⟩ := hb
  obtain ⟨p1, p2, p3, p4⟩ := hp
  have o := s14 32 p a b
  simp only [pt] at o
  unfold X8_0_0
  rw [awake, o]
  simp only [C0_bool, cnd_t]
  rw [show a.1 - b.1 = -(b.1 - a.1) by omega, show a.2 - b.2 = -(b.2 - a.2) by omega]
  simp only [i64_small (n := b.1 - a.1) (by omega) (by omega), i64_small (n := b.2 - a.2) (by omega) (by omega), i64_small (n := -(b.1 - a.1)) (by omega) (by omega), i64_small (n := -(b.2 - a.2)) (by omega) (by omega)]
  rw [max4]
  have hok : ok3 p a b := by unfold ok3 OkP Okc; omega
  have hon : onB p a b = true ↔ On p a b := by rw [onB_t]; exact ⟨fun h => h.2, fun h => ⟨hok, h⟩⟩
  obtain ⟨n, hn⟩ : ∃ n, n = max (max (b.1 - a.1) (-(b.1 - a.1))) (max (b.2 - a.2) (-(b.2 - a.2))) := ⟨_, rfl⟩
  rw [← hn]
  by_cases h0 : n = 0
  · subst h0
    rw [show ((0 : Int) == 0) = true from rfl, cnd_t, show ((0 : Int) != 0) = false from rfl, cnd_f]
    have hab : b = a := Prod.ext (by omega) (by omega)
    have : onB p a b = (p.1 == a.1 && (p.2 == a.2 && true)) := by
      rw [Bool.eq_iff_iff, hon, hab, On_one]
      simp only [Bool.and_eq_true, beq_iff_eq, and_true]
      exact ⟨fun h => by subst h; exact ⟨rfl, rfl⟩, fun h => Prod.ext h.1 h.2⟩
    rw [this]; simp
  · rw [show (n == 0) = false by simp [h0], cnd_f, decide_eq_false h0, cnd_f]
    by_cases hd : Int.tmod 240 n = 0
    · rw [show (Int.tmod 240 n != 0) = false by simp [hd], cnd_f]
      have hd2 : 240 % n = 0 := by rwa [Int.tmod_eq_emod_of_nonneg (by omega)] at hd
      have : onB p a b = hits a b p 241 false 0 := by
        rw [Bool.eq_iff_iff, hon, hits_iff]
        constructor
        · intro h
          obtain ⟨k, k0, k1, k2, k3⟩ := grid_fwd (n := n) (by omega) (by omega) hd2 h
          exact .inr ⟨k, by omega, by omega, by unfold hit; simp [k2, k3]⟩
        · rintro (h | ⟨k, k0, k1, k2⟩)
          · cases h
          · unfold hit at k2
            simp only [Bool.and_eq_true, beq_iff_eq] at k2
            exact grid_bwd (by omega) (by omega) k2.1 k2.2
      rw [this]; simp
    · rw [show (Int.tmod 240 n != 0) = true by simp [hd], cnd_t, show (n != 0) = true by simp [h0], cnd_t]
theorem law_PointGrid (a0_0 : Int) (a0_1 : Int) (a1_0 : Int) (a1_1 : Int) (a2_0 : Int) (a2_1 : Int) (w0_0 : (Lit.int .i64 a0_0).wf = true) (w0_1 : (Lit.int .i64 a0_1).wf = true) (w1_0 : (Lit.int .i64 a1_0).wf = true) (w1_1 : (Lit.int .i64 a1_1).wf = true) (w2_0 : (Lit.int .i64 a2_0).wf = true) (w2_1 : (Lit.int .i64 a2_1).wf = true) :
    pcall M 41 8 [.agg [.int .i64 a0_0, .int .i64 a0_1], .agg [.int .i64 a1_0, .int .i64 a1_1], .agg [.int .i64 a2_0, .int .i64 a2_1]] = some (.bool true) := told (q8 40 _ _ _ _ _ _) (by
  have s := fun x => (told (r19 C0 39 x) rfl : pcall M 40 19 [.int .i64 x] = some (.int .i64 (bits .and .i64 x 15)))
  rw [s, s, s, s, s, s]
  simp only [C0_int]
  have q := fun x y => (show Small (bits .and .i64 x 15, bits .and .i64 y 15) from ⟨(and15 x).1, (and15 x).2, (and15 y).1, (and15 y).2⟩)
  exact (loop 40 (bits .and .i64 a0_0 15, bits .and .i64 a0_1 15) (bits .and .i64 a1_0 15, bits .and .i64 a1_1 15) (bits .and .i64 a2_0 15, bits .and .i64 a2_1 15) (q _ _) (q _ _) (q _ _) 241 _ false 0 (by omega) (by omega) (by omega)).trans (grid_core _ _ _ (q _ _) (q _ _) (q _ _)))
end Go.Proofs.Ytbcbaidnamebkaa.AE
