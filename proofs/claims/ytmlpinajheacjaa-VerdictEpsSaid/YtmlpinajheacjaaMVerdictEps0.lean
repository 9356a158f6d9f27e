/- The texts that the law VerdictEps needs, part 0. No conditions. -/
import Derived.Test.YtmlpinajheacjaaMc4
namespace Go.Proofs.Ytmlpinajheacjaa.Geo
/-- With less eps, and times within: within. -/
theorem side_in {x v e lo hi x' v' e' lo' hi' : Int} (h0 : 0 ≤ lo') (h1 : lo' ≤ lo) (h2 : lo ≤ hi) (h3 : hi ≤ hi') (hx : x' - e' ≤ x - e) (hx' : x + e ≤ x' + e') (hv : v' - e' ≤ v - e) (hv' : v + e ≤ v' + e') :
    loS x' v' e' lo' hi' ≤ loS x v e lo hi ∧ hiS x v e lo hi ≤ hiS x' v' e' lo' hi' := by
  have a1 := lin_lo (v := v' - e') (lo := lo') (hi := hi') (s := lo) h1 (by omega)
  have a2 := lin_lo (v := v' - e') (lo := lo') (hi := hi') (s := hi) (by omega) h3
  have b1 := lin_hi (v := v' + e') (lo := lo') (hi := hi') (s := lo) h1 (by omega)
  have b2 := lin_hi (v := v' + e') (lo := lo') (hi := hi') (s := hi) (by omega) h3
  have c1 := sl_mono hv (show 0 ≤ lo by omega)
  have c2 := sl_mono hv (show 0 ≤ hi by omega)
  have d1 := sl_mono hv' (show 0 ≤ lo by omega)
  have d2 := sl_mono hv' (show 0 ≤ hi by omega)
  unfold loS hiS; omega
end Go.Proofs.Ytmlpinajheacjaa.Geo

namespace Go.Proofs.Ytmlpinajheacjaa.Geo
theorem id_ab (a b p q v : Pt) (h : v = a ∨ v = b) : (b.2 - a.2) * TN p q v = TN a b p * (v.2 - q.2) - TN a b q * (v.2 - p.2) := by
  rcases h with rfl | rfl <;> (unfold TN; grind)
theorem pos_of_mul {x y : Int} (hy : 0 < y) (h : 0 < x * y) : 0 < x := by
  refine Int.not_le.1 fun c => ?_
  have := Int.mul_nonneg (show 0 ≤ -x by omega) (show 0 ≤ y by omega)
  rw [Int.neg_mul] at this; omega
theorem neg_of_mul {x y : Int} (hy : 0 < y) (h : x * y < 0) : x < 0 := by
  refine Int.not_le.1 fun c => ?_
  have := Int.mul_nonneg c (show 0 ≤ y by omega)
  omega
theorem mul_nn_pos {x y : Int} (hx : x < 0) (hy : y < 0) : 0 < x * y := by
  have := Int.mul_pos (show 0 < -x by omega) (show 0 < -y by omega)
  rwa [Int.neg_mul_neg] at this
theorem Cross_of {a b p q : Pt} (h1 : (TN a b p < 0 ∧ TN a b q > 0) ∨ (TN a b p > 0 ∧ TN a b q < 0)) (h2 : (TN p q a < 0 ∧ TN p q b > 0) ∨ (TN p q a > 0 ∧ TN p q b < 0)) : Meet p q a b :=
  Or.inr (Or.inr (Or.inr (Or.inr ⟨sg_mul_neg.2 h2, sg_mul_neg.2 h1⟩)))
/-- THE EDGE AND THE WAY, the edge told from its lower end, the way from its lower one. -/
theorem parity_up (p q a b : Pt) (hpq : p.2 ≤ q.2) (hab : a.2 ≤ b.2) (hm : ¬ Meet p q a b) :
    ((CrsU p a b ↔ CrsU q a b) ↔ (Rgt p q a ↔ Rgt p q b)) := by
  have np : ¬ On p a b := fun h => hm (Or.inl h)
  have nq : ¬ On q a b := fun h => hm (Or.inr (Or.inl h))
  have na : ¬ On a p q := fun h => hm (Or.inr (Or.inr (Or.inl h)))
  have nb : ¬ On b p q := fun h => hm (Or.inr (Or.inr (Or.inr (Or.inl h))))
  have nc : ∀ (_ : (TN a b p < 0 ∧ TN a b q > 0) ∨ (TN a b p > 0 ∧ TN a b q < 0)) (_ : (TN p q a < 0 ∧ TN p q b > 0) ∨ (TN p q a > 0 ∧ TN p q b < 0)), False := fun h1 h2 => hm (Cross_of h1 h2)
  have ia := id_ab a b p q a (Or.inl rfl)
  have ib := id_ab a b p q b (Or.inr rfl)
  have ip := id_ab p q a b p (Or.inl rfl)
  have iq := id_ab p q a b q (Or.inr rfl)
  generalize hP : TN a b p = P at *
  generalize hQ : TN a b q = Q at *
  generalize hA : TN p q a = A at *
  generalize hB : TN p q b = B at *
  unfold CrsU Rgt
  rw [hP, hQ, hA, hB]
  by_cases c1 : b.2 ≤ p.2
  · -- both below
    constructor <;> intro _ <;> constructor <;> intro h <;> omega
  · by_cases c2 : q.2 < a.2
    · constructor <;> intro _ <;> constructor <;> intro h <;> omega
    · by_cases c3 : a.2 ≤ p.2
      · by_cases c4 : q.2 < b.2
        · -- below, above: the edge spans both heights
          have key : P > 0 ↔ Q > 0 := by
            constructor
            · intro h
              refine Int.not_le.1 fun h' => ?_
              by_cases h0 : Q = 0
              · exact nq (On_of_height (by rw [hQ]; exact h0) (by omega) (by omega) (by omega))
              · have h5 : Q < 0 := by omega
                have d1 := mul_pn (show 0 ≤ P by omega) (show a.2 - q.2 ≤ 0 by omega)
                have d2 := mul_nn (show Q ≤ 0 by omega) (show a.2 - p.2 ≤ 0 by omega)
                have d3 := Int.mul_pos h (show 0 < b.2 - q.2 by omega)
                have d4 := mul_np (show Q ≤ 0 by omega) (show 0 ≤ b.2 - p.2 by omega)
                have hb1 : 0 < B := pos_of_mul (show 0 < b.2 - a.2 by omega) (by rw [Int.mul_comm]; omega)
                by_cases h1 : A < 0
                · exact nc (Or.inr ⟨h, h5⟩) (Or.inl ⟨h1, hb1⟩)
                · -- a is on the line, at the way's one height
                  have : (b.2 - a.2) * A ≤ 0 := by omega
                  have hA0 : A = 0 := by
                    refine Int.le_antisymm (Int.not_lt.1 fun c => ?_) (by omega)
                    have := Int.mul_pos (show 0 < b.2 - a.2 by omega) c; omega
                  rw [hA0, Int.mul_zero] at ia
                  have e1 : a.2 = q.2 := by
                    refine Int.le_antisymm (by omega) (Int.not_lt.1 fun c => ?_)
                    have := mul_pn_neg h (show a.2 - q.2 < 0 by omega); omega
                  have hpq2 : p.2 = q.2 := by omega
                  refine na ⟨by rw [hA]; exact hA0, ?_⟩
                  -- p.1 < a.1 < q.1
                  unfold TN at hP hQ
                  rw [show p.2 - a.2 = 0 by omega, Int.mul_zero] at hP
                  rw [show q.2 - a.2 = 0 by omega, Int.mul_zero] at hQ
                  have x1 : p.1 < a.1 := by
                    refine Int.not_le.1 fun c => ?_
                    have := Int.mul_nonneg (show 0 ≤ b.2 - a.2 by omega) (show 0 ≤ p.1 - a.1 by omega); omega
                  have x2 : a.1 < q.1 := by
                    refine Int.not_le.1 fun c => ?_
                    have := mul_pn (show 0 ≤ b.2 - a.2 by omega) (show q.1 - a.1 ≤ 0 by omega); omega
                  unfold Btw; omega
            · intro h
              refine Int.not_le.1 fun h' => ?_
              by_cases h0 : P = 0
              · exact np (On_of_height (by rw [hP]; exact h0) (by omega) (by omega) (by omega))
              · have h5 : P < 0 := by omega
                have d1 := mul_nn (show P ≤ 0 by omega) (show a.2 - q.2 ≤ 0 by omega)
                have d2 := mul_pn (show 0 ≤ Q by omega) (show a.2 - p.2 ≤ 0 by omega)
                have d3 := mul_np_neg h5 (show 0 < b.2 - q.2 by omega)
                have d4 := Int.mul_nonneg (show 0 ≤ Q by omega) (show 0 ≤ b.2 - p.2 by omega)
                have hb1 : B < 0 := neg_of_mul (show 0 < b.2 - a.2 by omega) (by rw [Int.mul_comm]; omega)
                by_cases h1 : A > 0
                · exact nc (Or.inl ⟨h5, h⟩) (Or.inr ⟨h1, hb1⟩)
                · have : 0 ≤ (b.2 - a.2) * A := by omega
                  have hA0 : A = 0 := by
                    refine Int.le_antisymm (by omega) (Int.not_lt.1 fun c => ?_)
                    have := mul_pn_neg (show 0 < b.2 - a.2 by omega) c; omega
                  rw [hA0, Int.mul_zero] at ia
                  have e1 : a.2 = q.2 := by
                    refine Int.le_antisymm (by omega) (Int.not_lt.1 fun c => ?_)
                    have := mul_nn_pos h5 (show a.2 - q.2 < 0 by omega); omega
                  refine na ⟨by rw [hA]; exact hA0, ?_⟩
                  unfold TN at hP hQ
                  rw [show p.2 - a.2 = 0 by omega, Int.mul_zero] at hP
                  rw [show q.2 - a.2 = 0 by omega, Int.mul_zero] at hQ
                  have x1 : a.1 < p.1 := by
                    refine Int.not_le.1 fun c => ?_
                    have := mul_pn (show 0 ≤ b.2 - a.2 by omega) (show p.1 - a.1 ≤ 0 by omega); omega
                  have x2 : q.1 < a.1 := by
                    refine Int.not_le.1 fun c => ?_
                    have := Int.mul_nonneg (show 0 ≤ b.2 - a.2 by omega) (show 0 ≤ q.1 - a.1 by omega); omega
                  unfold Btw; omega
          constructor
          · intro _; constructor <;> intro h <;> omega
          · intro _
            constructor
            · intro h; exact ⟨by omega, by omega, key.1 h.2.2⟩
            · intro h; exact ⟨by omega, by omega, key.2 h.2.2⟩
        · -- below, between
          have key : P > 0 ↔ B < 0 := by
            have e := ip
            constructor
            · intro h
              refine Int.not_le.1 fun h' => ?_
              by_cases h0 : B = 0
              · exact nb (On_of_height (by rw [hB]; exact h0) (by omega) (by omega) (by omega))
              · have h5 : B > 0 := by omega
                have d0 := Int.mul_pos (show 0 < q.2 - p.2 by omega) h
                have d1 := Int.mul_nonneg (show 0 ≤ B by omega) (show 0 ≤ p.2 - a.2 by omega)
                have hA1 : A < 0 := by
                  refine Int.not_le.1 fun c => ?_
                  have := mul_pn c (show p.2 - b.2 ≤ 0 by omega); omega
                have d2 := mul_np (show A ≤ 0 by omega) (show 0 ≤ q.2 - b.2 by omega)
                have d3 := Int.mul_pos h5 (show 0 < q.2 - a.2 by omega)
                have hQ1 : Q < 0 := neg_of_mul (show 0 < q.2 - p.2 by omega) (by rw [Int.mul_comm]; omega)
                exact nc (Or.inr ⟨h, hQ1⟩) (Or.inl ⟨hA1, h5⟩)
            · intro h
              refine Int.not_le.1 fun h' => ?_
              by_cases h0 : P = 0
              · exact np (On_of_height (by rw [hP]; exact h0) (by omega) (by omega) (by omega))
              · have h5 : P < 0 := by omega
                have d0 := mul_pn_neg (show 0 < q.2 - p.2 by omega) h5
                have d1 := mul_np (show B ≤ 0 by omega) (show 0 ≤ p.2 - a.2 by omega)
                have hA1 : A > 0 := by
                  refine Int.not_le.1 fun c => ?_
                  have := mul_nn c (show p.2 - b.2 ≤ 0 by omega); omega
                have d2 := Int.mul_nonneg (show 0 ≤ A by omega) (show 0 ≤ q.2 - b.2 by omega)
                have d3 := mul_np_neg h (show 0 < q.2 - a.2 by omega)
                have hQ1 : Q > 0 := pos_of_mul (show 0 < q.2 - p.2 by omega) (by rw [Int.mul_comm]; omega)
                exact nc (Or.inl ⟨h5, hQ1⟩) (Or.inr ⟨hA1, h⟩)
          constructor
          · intro h
            constructor
            · intro h'; omega
            · intro h'
              have := h.1 ⟨by omega, by omega, key.2 h'.2.2⟩; omega
          · intro h
            constructor
            · intro h'
              have := h.2 ⟨by omega, by omega, key.1 h'.2.2⟩; omega
            · intro h'; omega
      · by_cases c4 : q.2 < b.2
        · -- between, above
          have key : Q > 0 ↔ A < 0 := by
            constructor
            · intro h
              refine Int.not_le.1 fun h' => ?_
              by_cases h0 : A = 0
              · exact na (On_of_height (by rw [hA]; exact h0) (by omega) (by omega) (by omega))
              · have h5 : A > 0 := by omega
                have d0 := Int.mul_pos (show 0 < q.2 - p.2 by omega) h
                have d1 := mul_pn_neg h5 (show q.2 - b.2 < 0 by omega)
                have hB1 : B < 0 := by
                  refine Int.not_le.1 fun c => ?_
                  have := Int.mul_nonneg c (show 0 ≤ q.2 - a.2 by omega); omega
                have d2 := mul_pn_neg h5 (show p.2 - b.2 < 0 by omega)
                have d3 := mul_nn_pos hB1 (show p.2 - a.2 < 0 by omega)
                have hP1 : P < 0 := neg_of_mul (show 0 < q.2 - p.2 by omega) (by rw [Int.mul_comm]; omega)
                exact nc (Or.inl ⟨hP1, h⟩) (Or.inr ⟨h5, hB1⟩)
            · intro h
              refine Int.not_le.1 fun h' => ?_
              by_cases h0 : Q = 0
              · exact nq (On_of_height (by rw [hQ]; exact h0) (by omega) (by omega) (by omega))
              · have h5 : Q < 0 := by omega
                have d0 := mul_pn_neg (show 0 < q.2 - p.2 by omega) h5
                have d1 := mul_nn_pos h (show q.2 - b.2 < 0 by omega)
                have hB1 : B > 0 := by
                  refine Int.not_le.1 fun c => ?_
                  have := mul_np c (show 0 ≤ q.2 - a.2 by omega); omega
                have d2 := mul_nn_pos h (show p.2 - b.2 < 0 by omega)
                have d3 := mul_pn_neg hB1 (show p.2 - a.2 < 0 by omega)
                have hP1 : P > 0 := pos_of_mul (show 0 < q.2 - p.2 by omega) (by rw [Int.mul_comm]; omega)
                exact nc (Or.inr ⟨hP1, h5⟩) (Or.inl ⟨h, hB1⟩)
          constructor
          · intro h
            constructor
            · intro h'
              have := h.2 ⟨by omega, by omega, key.2 h'.2.2⟩; omega
            · intro h'; omega
          · intro h
            constructor
            · intro h'; omega
            · intro h'
              have := h.1 ⟨by omega, by omega, key.1 h'.2.2⟩; omega
        · -- both between
          have key : A < 0 ↔ B < 0 := by
            constructor
            · intro h
              refine Int.not_le.1 fun h' => ?_
              by_cases h0 : B = 0
              · exact nb (On_of_height (by rw [hB]; exact h0) (by omega) (by omega) (by omega))
              · have h5 : B > 0 := by omega
                have d1 := mul_nn_pos h (show p.2 - b.2 < 0 by omega)
                have d2 := mul_pn_neg h5 (show p.2 - a.2 < 0 by omega)
                have hP1 : P > 0 := pos_of_mul (show 0 < q.2 - p.2 by omega) (by rw [Int.mul_comm]; omega)
                have d3 := mul_np (show A ≤ 0 by omega) (show 0 ≤ q.2 - b.2 by omega)
                have d4 := Int.mul_nonneg (show 0 ≤ B by omega) (show 0 ≤ q.2 - a.2 by omega)
                by_cases h6 : Q < 0
                · exact nc (Or.inr ⟨hP1, h6⟩) (Or.inl ⟨h, h5⟩)
                · have h7 : (q.2 - p.2) * Q ≤ 0 := by omega
                  have hQ0 : Q = 0 := by
                    refine Int.le_antisymm (Int.not_lt.1 fun c => ?_) (by omega)
                    have := Int.mul_pos (show 0 < q.2 - p.2 by omega) c; omega
                  rw [hQ0, Int.mul_zero] at iq
                  have e1 : q.2 = a.2 := by
                    refine Int.le_antisymm (Int.not_lt.1 fun c => ?_) (by omega)
                    have := Int.mul_pos h5 (show 0 < q.2 - a.2 by omega); omega
                  refine nq ⟨by rw [hQ]; exact hQ0, ?_⟩
                  unfold TN at hA hB
                  have ea : A = (q.2 - p.2) * (q.1 - a.1) := by rw [← hA, ← e1]; grind
                  have eb : B = (q.2 - p.2) * (q.1 - b.1) := by rw [← hB, show b.2 = q.2 by omega]; grind
                  have x1 : q.1 < a.1 := by
                    refine Int.not_le.1 fun c => ?_
                    have := Int.mul_nonneg (show 0 ≤ q.2 - p.2 by omega) (show 0 ≤ q.1 - a.1 by omega); omega
                  have x2 : b.1 < q.1 := by
                    refine Int.not_le.1 fun c => ?_
                    have := mul_pn (show 0 ≤ q.2 - p.2 by omega) (show q.1 - b.1 ≤ 0 by omega); omega
                  unfold Btw; omega
            · intro h
              refine Int.not_le.1 fun h' => ?_
              by_cases h0 : A = 0
              · exact na (On_of_height (by rw [hA]; exact h0) (by omega) (by omega) (by omega))
              · have h5 : A > 0 := by omega
                have d1 := mul_pn_neg h5 (show p.2 - b.2 < 0 by omega)
                have d2 := mul_nn_pos h (show p.2 - a.2 < 0 by omega)
                have hP1 : P < 0 := neg_of_mul (show 0 < q.2 - p.2 by omega) (by rw [Int.mul_comm]; omega)
                have d3 := Int.mul_nonneg (show 0 ≤ A by omega) (show 0 ≤ q.2 - b.2 by omega)
                have d4 := mul_np (show B ≤ 0 by omega) (show 0 ≤ q.2 - a.2 by omega)
                by_cases h6 : Q > 0
                · exact nc (Or.inl ⟨hP1, h6⟩) (Or.inr ⟨h5, h⟩)
                · have h7 : 0 ≤ (q.2 - p.2) * Q := by omega
                  have hQ0 : Q = 0 := by
                    refine Int.le_antisymm (by omega) (Int.not_lt.1 fun c => ?_)
                    have := mul_pn_neg (show 0 < q.2 - p.2 by omega) c; omega
                  rw [hQ0, Int.mul_zero] at iq
                  have e1 : q.2 = a.2 := by
                    refine Int.le_antisymm (Int.not_lt.1 fun c => ?_) (by omega)
                    have := mul_np_neg h (show 0 < q.2 - a.2 by omega); omega
                  refine nq ⟨by rw [hQ]; exact hQ0, ?_⟩
                  unfold TN at hA hB
                  have ea : A = (q.2 - p.2) * (q.1 - a.1) := by rw [← hA, ← e1]; grind
                  have eb : B = (q.2 - p.2) * (q.1 - b.1) := by rw [← hB, show b.2 = q.2 by omega]; grind
                  have x1 : a.1 < q.1 := by
                    refine Int.not_le.1 fun c => ?_
                    have := mul_pn (show 0 ≤ q.2 - p.2 by omega) (show q.1 - a.1 ≤ 0 by omega); omega
                  have x2 : q.1 < b.1 := by
                    refine Int.not_le.1 fun c => ?_
                    have := Int.mul_nonneg (show 0 ≤ q.2 - p.2 by omega) (show 0 ≤ q.1 - b.1 by omega); omega
                  unfold Btw; omega
          constructor
          · intro _
            constructor
            · intro h; exact ⟨by omega, by omega, key.1 h.2.2⟩
            · intro h; exact ⟨by omega, by omega, key.2 h.2.2⟩
          · intro _; constructor <;> intro h <;> omega
end Go.Proofs.Ytmlpinajheacjaa.Geo

namespace Go.Proofs.Ytmlpinajheacjaa.Geo
/-- Is it said of an odd number of the first n? -/
def xr (f : Nat → Bool) : Nat → Bool
  | 0 => false
  | n + 1 => xor (xr f n) (f n)
theorem xr_xor (f g : Nat → Bool) : ∀ n, xr (fun i => xor (f i) (g i)) n = xor (xr f n) (xr g n)
  | 0 => rfl
  | n + 1 => by
    simp only [xr, xr_xor f g n]
    cases xr f n <;> cases xr g n <;> cases f n <;> cases g n <;> rfl
theorem xr_congr {f g : Nat → Bool} : ∀ {n : Nat}, (∀ i, i < n → f i = g i) → xr f n = xr g n
  | 0, _ => rfl
  | n + 1, h => by simp only [xr]; rw [xr_congr (fun i hi => h i (by omega)), h n (by omega)]
theorem xr_shift (f : Nat → Bool) : ∀ m, xr f (m + 1) = xor (f 0) (xr (fun i => f (i + 1)) m)
  | 0 => by simp [xr]
  | m + 1 => by
    rw [xr, xr_shift f m]
    simp only [xr]
    cases f 0 <;> cases xr (fun i => f (i + 1)) m <;> cases f (m + 1) <;> rfl
theorem xr_rot (f : Nat → Bool) (n : Nat) : xr (fun i => f ((i + 1) % n)) n = xr f n := by
  cases n with
  | zero => rfl
  | succ m =>
    rw [xr_shift f m]
    simp only [xr, Nat.mod_self]
    rw [xr_congr (g := fun i => f (i + 1)) (fun i hi => by rw [Nat.mod_eq_of_lt (by omega)])]
    cases f 0 <;> cases xr (fun i => f (i + 1)) m <;> rfl
/-- What is told of both ends comes to nothing, all the way round. -/
theorem xr_ends (r : Nat → Bool) (n : Nat) : xr (fun i => xor (r i) (r ((i + 1) % n))) n = false := by
  rw [xr_xor r (fun i => r ((i + 1) % n)), xr_rot]; cases xr r n <;> rfl
/-- The ray from p meets an odd number of edges of the polygon of n corners. -/
def odd (p : Pt) (v : Nat → Pt) (n : Nat) : Bool := xr (fun i => decide (Crs p (v i) (v ((i + 1) % n)))) n
theorem parity_dec (p q a b : Pt) (hpq : p.2 ≤ q.2) (hm : ¬ Meet p q a b) :
    xor (decide (Crs p a b)) (decide (Crs q a b)) = xor (decide (Rgt p q a)) (decide (Rgt p q b)) := by
  have none : ∀ x u w : Pt, u.2 ≤ w.2 → ¬ CrsU x w u := fun x u w h h' => by unfold CrsU at h'; omega
  rcases Int.le_total a.2 b.2 with h | h
  · have k := parity_up p q a b hpq h hm
    have e1 : Crs p a b ↔ CrsU p a b := ⟨fun x => x.elim id (fun y => absurd y (none p a b h)), Or.inl⟩
    have e2 : Crs q a b ↔ CrsU q a b := ⟨fun x => x.elim id (fun y => absurd y (none q a b h)), Or.inl⟩
    have d1 : decide (Crs p a b) = decide (CrsU p a b) := decide_eq_decide.2 e1
    have d2 : decide (Crs q a b) = decide (CrsU q a b) := decide_eq_decide.2 e2
    rw [d1, d2]
    by_cases x1 : CrsU p a b <;> by_cases x2 : CrsU q a b <;> by_cases x3 : Rgt p q a <;> by_cases x4 : Rgt p q b <;> simp_all
  · have k := parity_up p q b a hpq h (fun m => hm (Meet_cd.1 m))
    have e1 : Crs p a b ↔ CrsU p b a := ⟨fun x => x.elim (fun y => absurd y (none p b a h)) id, Or.inr⟩
    have e2 : Crs q a b ↔ CrsU q b a := ⟨fun x => x.elim (fun y => absurd y (none q b a h)) id, Or.inr⟩
    have d1 : decide (Crs p a b) = decide (CrsU p b a) := decide_eq_decide.2 e1
    have d2 : decide (Crs q a b) = decide (CrsU q b a) := decide_eq_decide.2 e2
    rw [d1, d2]
    by_cases x1 : CrsU p b a <;> by_cases x2 : CrsU q b a <;> by_cases x3 : Rgt p q a <;> by_cases x4 : Rgt p q b <;> simp_all
/-- THE THEOREM: of two places whose way meets no edge the rays meet as many, but for an even number. -/
theorem odd_same (p q : Pt) (v : Nat → Pt) (n : Nat) (hm : ∀ i, i < n → ¬ Meet p q (v i) (v ((i + 1) % n))) : odd p v n = odd q v n := by
  have one : ∀ p q : Pt, p.2 ≤ q.2 → (∀ i, i < n → ¬ Meet p q (v i) (v ((i + 1) % n))) → odd p v n = odd q v n := by
    intro p q hpq hm
    have h := xr_xor (fun i => decide (Crs p (v i) (v ((i + 1) % n)))) (fun i => decide (Crs q (v i) (v ((i + 1) % n)))) n
    rw [xr_congr (fun i hi => parity_dec p q (v i) (v ((i + 1) % n)) hpq (hm i hi)), xr_ends (fun i => decide (Rgt p q (v i))) n] at h
    unfold odd
    revert h
    cases xr (fun i => decide (Crs p (v i) (v ((i + 1) % n)))) n <;> cases xr (fun i => decide (Crs q (v i) (v ((i + 1) % n)))) n <;> simp
  rcases Int.le_total p.2 q.2 with h | h
  · exact one p q h hm
  · exact (one q p h (fun i hi m => hm i hi (Meet_ab.1 m))).symm
end Go.Proofs.Ytmlpinajheacjaa.Geo

namespace Go.Proofs.Ytmlpinajheacjaa.Geo
/-- A way between two places of the box, that meets another way: that one meets the box. -/
theorem MeetB_of_meet {x0 y0 x1 y1 : Int} {p q u v : Pt} (hx : x0 ≤ x1) (hy : y0 ≤ y1) (hp : HasB x0 y0 x1 y1 u) (hq : HasB x0 y0 x1 y1 v) (h : Meet p q u v) : MeetB x0 y0 x1 y1 p q :=
  (MeetB_iff hx hy).2 (side_met hp hq (fun w hw => by unfold Btw at hw; unfold HasB at *; omega) h)
end Go.Proofs.Ytmlpinajheacjaa.Geo

namespace Go.Proofs.Ytmlpinajheacjaa.AE
set_option linter.unusedVariables false
set_option linter.unusedSimpArgs false
set_option linter.constructorNameAsVariable false
open Go Go.Proofs.Ytmlpinajheacjaa.Geo
def hasX (b : Bx) (p : Pt) : Bool := rightX b && (okb p && (decide (b.1.1 ≤ p.1) && (decide (p.1 ≤ b.2.1) && (decide (b.1.2 ≤ p.2) && decide (p.2 ≤ b.2.2)))))
def inX (a b : Bx) : Bool := rightX a && (hasX b a.1 && hasX b a.2)
theorem hasX_t {b : Bx} {p : Pt} : hasX b p = true ↔ rightX b = true ∧ OkP p ∧ HasB b.1.1 b.1.2 b.2.1 b.2.2 p := by
  unfold hasX HasB; simp only [Bool.and_eq_true, okb_t, decide_eq_true_iff]
end Go.Proofs.Ytmlpinajheacjaa.AE

namespace Go.Proofs.Ytmlpinajheacjaa.AE
set_option linter.unusedVariables false
set_option linter.unusedSimpArgs false
set_option linter.constructorNameAsVariable false
open Go Go.Proofs.Ytmlpinajheacjaa.Geo
attribute [local irreducible] pcall C0
set_option maxRecDepth 100000
theorem and_i64_bd (x m : Int) (h0 : 0 ≤ m) (h1 : m < 9223372036854775808) : 0 ≤ Go.bits .and .i64 x m ∧ Go.bits .and .i64 x m ≤ m := by
  show 0 ≤ IntKind.i64.wrap ((BitVec.ofInt 64 x &&& BitVec.ofInt 64 m).toNat : Int) ∧ IntKind.i64.wrap ((BitVec.ofInt 64 x &&& BitVec.ofInt 64 m).toNat : Int) ≤ m
  have e : ((BitVec.ofInt 64 m).toNat : Int) = m := by rw [BitVec.toNat_ofInt]; omega
  have h : (BitVec.ofInt 64 x &&& BitVec.ofInt 64 m).toNat ≤ (BitVec.ofInt 64 m).toNat := by rw [BitVec.toNat_and]; exact Nat.and_le_right
  rw [i64w]; omega
theorem eps_bd (x : Int) : ∃ e, bits .and .i64 x 1023 = e ∧ 0 ≤ e ∧ e ≤ 1023 := ⟨_, rfl, and_i64_bd x 1023 (by omega) (by omega)⟩
/-- Within e in all numbers. -/
def Near (n m : Nav) (e : Int) : Prop := (n.x - e ≤ m.x ∧ m.x ≤ n.x + e) ∧ (n.y - e ≤ m.y ∧ m.y ≤ n.y + e) ∧ (n.z - e ≤ m.z ∧ m.z ≤ n.z + e) ∧ (n.vx - e ≤ m.vx ∧ m.vx ≤ n.vx + e) ∧ (n.vy - e ≤ m.vy ∧ m.vy ≤ n.vy + e) ∧ (n.vz - e ≤ m.vz ∧ m.vz ≤ n.vz + e)
theorem near_refl (n : Nav) {e : Int} (h : 0 ≤ e) : Near n n e := by unfold Near; omega
/-- With less eps, around a place within the rest of it. -/
theorem box_in {n m : Nav} {e w lo hi lo' hi' : Int} (k : Near n m w) (e0 : 0 ≤ e) (h : rightX (boxN m e lo hi) = true) (h' : rightX (boxN n (e + w) lo' hi') = true) (l0 : 0 ≤ lo') (h1 : lo' ≤ lo) (h2 : lo ≤ hi) (h3 : hi ≤ hi') : inX (boxN m e lo hi) (boxN n (e + w) lo' hi') = true := by
  obtain ⟨kx, ky, _, kvx, kvy, _⟩ := k
  have x := side_in (x := m.x) (v := m.vx) (e := e) (lo := lo) (hi := hi) (x' := n.x) (v' := n.vx) (e' := e + w) (lo' := lo') (hi' := hi') l0 h1 h2 h3 (by omega) (by omega) (by omega) (by omega)
  have y := side_in (x := m.y) (v := m.vy) (e := e) (lo := lo) (hi := hi) (x' := n.y) (v' := n.vy) (e' := e + w) (lo' := lo') (hi' := hi') l0 h1 h2 h3 (by omega) (by omega) (by omega) (by omega)
  unfold boxN at h h' ⊢
  rw [rightX_t] at h h'
  unfold inX
  simp only [Bool.and_eq_true, hasX_t, rightX_t, HasB]
  obtain ⟨o1, o2, o3, o4⟩ := h
  obtain ⟨p1, p2, p3, p4⟩ := h'
  simp only at o3 o4 p3 p4
  exact ⟨⟨o1, o2, o3, o4⟩, ⟨⟨p1, p2, p3, p4⟩, o1, by omega⟩, ⟨p1, p2, p3, p4⟩, o2, by omega⟩
end Go.Proofs.Ytmlpinajheacjaa.AE

namespace Go.Proofs.Ytmlpinajheacjaa.AE
set_option linter.unusedVariables false
set_option linter.unusedSimpArgs false
set_option linter.constructorNameAsVariable false
open Go Go.Proofs.Ytmlpinajheacjaa.Geo
theorem sideUp_off (ps : List Pt) (p : Pt) : ∀ (m i : Nat) (o : Bool), (∀ j, i ≤ j → j < i + m → onB p (vv ps j) (vv ps (nx ps j)) = false) → sideUp ps p m i o = sgn1 (xor o (xr (fun k => crsB ps p (i + k)) m))
  | 0, i, o, h => by simp [sideUp, xr, sgn1]
  | m + 1, i, o, h => by
    simp only [sideUp, h i (Nat.le_refl _) (by omega), cond_false]
    rw [sideUp_off ps p m (i + 1) _ (fun j a b => h j (by omega) (by omega)), xr_shift]
    have e : xr (fun k => crsB ps p (i + 1 + k)) m = xr (fun k => crsB ps p (i + (k + 1))) m := xr_congr fun k _ => by rw [Nat.add_assoc, Nat.add_comm 1 k]
    rw [e, Nat.add_zero, Bool.xor_assoc]
theorem onB_off {p a b : Pt} (h : ¬ On p a b) : onB p a b = false := decide_eq_false fun g => h g.2
theorem sideB_odd {ps : List Pt} {p : Pt} (hr : rightB ps = true) (hp : okb p = true) (h : ∀ j, j < ps.length → ¬ On p (vv ps j) (vv ps (nx ps j))) : sideB ps p = sgn1 (odd p (vv ps) ps.length) := by
  unfold sideB
  rw [hr, hp]
  simp only [cond_true]
  rw [sideUp_off ps p ps.length 0 false (fun j _ b => onB_off (h j (by omega)))]
  simp only [Bool.false_xor, Nat.zero_add]
  rfl
theorem sgn1_ne (o : Bool) : sgn1 o ≠ 0 := by cases o <;> decide
/-- Of two places whose way meets no edge both are on one side. -/
theorem side_same {ps : List Pt} {p q : Pt} (hr : rightB ps = true) (hp : okb p = true) (hq : okb q = true) (hm : ∀ j, j < ps.length → ¬ Meet p q (vv ps j) (vv ps (nx ps j))) : sideB ps p = sideB ps q ∧ sideB ps p ≠ 0 := by
  have n1 : ∀ j, j < ps.length → ¬ On p (vv ps j) (vv ps (nx ps j)) := fun j hj h => hm j hj (.inl h)
  have n2 : ∀ j, j < ps.length → ¬ On q (vv ps j) (vv ps (nx ps j)) := fun j hj h => hm j hj (.inr (.inl h))
  rw [sideB_odd hr hp n1, sideB_odd hr hq n2, odd_same p q (vv ps) ps.length hm]
  exact ⟨rfl, sgn1_ne _⟩
end Go.Proofs.Ytmlpinajheacjaa.AE

namespace Go.Proofs.Ytmlpinajheacjaa.AE
set_option linter.unusedVariables false
set_option linter.unusedSimpArgs false
set_option linter.constructorNameAsVariable false
open Go Go.Proofs.Ytmlpinajheacjaa.Geo
theorem upAny_iff (f : Nat → Bool) : ∀ (m i : Nat), upAny f m i = true ↔ ∃ j, i ≤ j ∧ j < i + m ∧ f j = true
  | 0, i => by simp only [upAny]; exact ⟨fun h => (by cases h), fun ⟨j, h1, h2, _⟩ => (by omega)⟩
  | m + 1, i => by
    simp only [upAny, Bool.or_eq_true, upAny_iff f m (i + 1)]
    constructor
    · rintro (h | ⟨j, h1, h2, h3⟩)
      · exact ⟨i, Nat.le_refl _, by omega, h⟩
      · exact ⟨j, by omega, by omega, h3⟩
    · rintro ⟨j, h1, h2, h3⟩
      by_cases hj : j = i
      · subst hj; exact .inl h3
      · exact .inr ⟨j, by omega, by omega, h3⟩
end Go.Proofs.Ytmlpinajheacjaa.AE

namespace Go.Proofs.Ytmlpinajheacjaa.AE
set_option linter.unusedVariables false
set_option linter.unusedSimpArgs false
set_option linter.constructorNameAsVariable false
open Go Go.Proofs.Ytmlpinajheacjaa.Geo
theorem corner_neg {x0 y0 x1 y1 : Int} {p q v : Pt} (hv : HasB x0 y0 x1 y1 v) (h : TN p q (x0, y0) < 0 ∧ TN p q (x1, y0) < 0 ∧ TN p q (x1, y1) < 0 ∧ TN p q (x0, y1) < 0) : TN p q v < 0 := by
  obtain ⟨h1, h2, h3, h4⟩ := h
  have := corner_pos (p := q) (q := p) hv ⟨by rw [TN_swap]; omega, by rw [TN_swap]; omega, by rw [TN_swap]; omega, by rw [TN_swap]; omega⟩
  rw [TN_swap] at this; omega
theorem MeetB_mono {a b c e x0 y0 x1 y1 : Int} {p q : Pt} (h1 : x0 ≤ a) (h2 : y0 ≤ b) (h3 : c ≤ x1) (h4 : e ≤ y1) (hx : a ≤ c) (hy : b ≤ e) (h : MeetB a b c e p q) : MeetB x0 y0 x1 y1 p q := by
  obtain ⟨ho, hs⟩ := (MeetB_iff hx hy).mp h
  refine (MeetB_iff (by omega) (by omega)).mpr ⟨by unfold Ovl at *; omega, fun h => hs ?_⟩
  have k : ∀ u v, (u = a ∨ u = c) → (v = b ∨ v = e) → HasB x0 y0 x1 y1 (u, v) := fun u v hu hv => by unfold HasB; simp only; omega
  rcases h with h | h
  · exact .inl ⟨corner_pos (k a b (.inl rfl) (.inl rfl)) h, corner_pos (k c b (.inr rfl) (.inl rfl)) h, corner_pos (k c e (.inr rfl) (.inr rfl)) h, corner_pos (k a e (.inl rfl) (.inr rfl)) h⟩
  · exact .inr ⟨corner_neg (k a b (.inl rfl) (.inl rfl)) h, corner_neg (k c b (.inr rfl) (.inl rfl)) h, corner_neg (k c e (.inr rfl) (.inr rfl)) h, corner_neg (k a e (.inl rfl) (.inr rfl)) h⟩
theorem stays {b s : Bx} {ps : List Pt} (hr : rightB ps = true) (hb : rightX b = true) (hs : inX s b = true) (h0 : relX b ps ≠ 0) :
    relX s ps = relX b ps ∧ ∀ v, okb v = true → HasB b.1.1 b.1.2 b.2.1 b.2.2 v → sideB ps v = relX b ps := by
  have ok := (right_ok hr).2.2
  obtain ⟨ob1, ob2, bx, by_⟩ := rightX_t.mp hb
  unfold inX at hs
  simp only [Bool.and_eq_true] at hs
  obtain ⟨hsr, hs1, hs2⟩ := hs
  obtain ⟨os1, os2, sx, sy⟩ := rightX_t.mp hsr
  obtain ⟨-, -, k1⟩ := hasX_t.mp hs1
  obtain ⟨-, -, k2⟩ := hasX_t.mp hs2
  have e0 : relX b ps = sideB ps b.1 ∧ upAny (fun i => meetsX b (vv ps i) (vv ps (nx ps i))) ps.length 0 = false := by
    unfold relX at h0 ⊢
    rw [hb, hr] at h0 ⊢
    simp only [cond_true] at h0 ⊢
    cases hu : upAny (fun i => meetsX b (vv ps i) (vv ps (nx ps i))) ps.length 0
    · exact ⟨rfl, rfl⟩
    · rw [hu] at h0; exact absurd rfl h0
  obtain ⟨e0, hu⟩ := e0
  have no : ∀ j, j < ps.length → ¬ MeetB b.1.1 b.1.2 b.2.1 b.2.2 (vv ps j) (vv ps (nx ps j)) := by
    intro j hj hm
    have : upAny (fun i => meetsX b (vv ps i) (vv ps (nx ps i))) ps.length 0 = true := (upAny_iff _ _ _).mpr ⟨j, by omega, by omega, by
      unfold meetsX
      rw [hb, okb_t.mpr (vv_ok ok hj), okb_t.mpr (vv_ok ok (nx_lt hj)), decide_eq_true hm]; rfl⟩
    rw [hu] at this; cases this
  have side : ∀ v, okb v = true → HasB b.1.1 b.1.2 b.2.1 b.2.2 v → sideB ps v = sideB ps b.1 := fun v hv hh =>
    (side_same hr hv (okb_t.mpr ob1) fun j hj hm => no j hj (MeetB_of_meet bx by_ hh (by unfold HasB; omega) (Meet_swap.mpr hm))).1
  refine ⟨?_, fun v hv hh => by rw [e0]; exact side v hv hh⟩
  have hu2 : upAny (fun i => meetsX s (vv ps i) (vv ps (nx ps i))) ps.length 0 = false := by
    cases h : upAny (fun i => meetsX s (vv ps i) (vv ps (nx ps i))) ps.length 0
    · rfl
    · obtain ⟨j, j1, j2, j3⟩ := (upAny_iff _ _ _).mp h
      unfold meetsX at j3
      simp only [Bool.and_eq_true, decide_eq_true_iff] at j3
      unfold HasB at k1 k2
      exact absurd (MeetB_mono (by omega) (by omega) (by omega) (by omega) sx sy j3.2.2.2) (no j (by omega))
  rw [e0]
  unfold relX
  rw [hsr, hr, hu2]
  simp only [cond_true, cond_false]
  exact side s.1 (okb_t.mpr os1) k1
end Go.Proofs.Ytmlpinajheacjaa.AE

namespace Go.Proofs.Ytmlpinajheacjaa.AE
set_option linter.unusedVariables false
set_option linter.unusedSimpArgs false
set_option linter.constructorNameAsVariable false
open Go Go.Proofs.Ytmlpinajheacjaa.Geo
theorem spd_lt (n : Nav) (m e : Int) : spdN n m e < 0 ↔ absX n.vx - e > m ∨ absX n.vy - e > m ∨ absX n.vz - e > m := by
  unfold spdN; simp only [spdX]; split <;> (try split) <;> (try split) <;> (try split) <;> (try split) <;> (try split) <;> omega
theorem spd_gt {n : Nav} {m e : Int} (he : 0 ≤ e) : 0 < spdN n m e ↔ absX n.vx + e ≤ m ∧ absX n.vy + e ≤ m ∧ absX n.vz + e ≤ m := by
  unfold spdN; simp only [spdX]; split <;> (try split) <;> (try split) <;> (try split) <;> (try split) <;> (try split) <;> omega
/-- What is in a box that is on one side is on that side. -/
theorem rel_in {b s : Bx} {ps : List Pt} (hr : rightB ps = true) (hb : rightX b = true) (hs : inX s b = true) (h : relX b ps ≠ 0) : relX s ps = relX b ps := (stays hr hb hs h).1
/-- With more eps. -/
theorem eps_core {n : Nav} {most e w : Int} {a b : Bx} {ps : List Pt} (e0 : 0 ≤ e) (w0 : 0 ≤ w) (hr : rightB ps = true) (hb : rightX b = true) (hs : inX a b = true) :
    verN (spdN n most (e + w)) (relX b ps) = verN (spdN n most e) (relX a ps) ∨ verN (spdN n most (e + w)) (relX b ps) = 2 := by
  have r : relX b ps ≠ 0 → relX a ps = relX b ps := fun h => rel_in hr hb hs h
  have s1 := spd_lt n most e
  have s2 := spd_gt (n := n) (m := most) e0
  have s3 := spd_lt n most (e + w)
  have s4 := spd_gt (n := n) (m := most) (show 0 ≤ e + w by omega)
  generalize spdN n most e = x at *
  generalize spdN n most (e + w) = y at *
  generalize relX a ps = u at *
  generalize relX b ps = v at *
  generalize absX n.vx = p at *
  generalize absX n.vy = q at *
  generalize absX n.vz = s at *
  have k1 : y < 0 → x < 0 := fun h => s1.mpr (by have := s3.mp h; omega)
  have k2 : 0 < y → 0 < x := fun h => s2.mpr (by have := s4.mp h; omega)
  unfold verN
  by_cases h1 : y < 0 ∨ v < 0
  · left; rw [if_pos h1, if_pos]
    rcases h1 with h | h
    · exact .inl (k1 h)
    · right; have := r (by omega); omega
  · rw [if_neg h1]
    by_cases h2 : 0 < y ∧ 0 < v
    · left
      have := r (by omega); have := k2 h2.1
      rw [if_pos h2, if_neg (by omega), if_pos (by omega)]
    · right; rw [if_neg h2]
theorem ver_rng (s r : Int) : verN s r = 1 ∨ verN s r = 2 ∨ verN s r = 3 := by unfold verN; split <;> (try split) <;> simp
end Go.Proofs.Ytmlpinajheacjaa.AE

namespace Go.Proofs.Ytmlpinajheacjaa.AE
set_option linter.unusedVariables false
set_option linter.unusedSimpArgs false
set_option linter.constructorNameAsVariable false
open Go Go.Proofs.Ytmlpinajheacjaa.Geo
attribute [local irreducible] pcall C0
set_option maxRecDepth 100000
theorem s7 (d : Nat) (ps : List Pt) (g v m u : Int) (hl : ps.length ≤ 140737488355328) : pcall M (d + 10) 7 [ph ps g v m u] = some (.bool (decide (RightPh ps g v m u))) := told (r7 C0 (d + 9) _ _ _ _ _) (by
  refine Eq.trans (pl_bool (s18 d ps hl)) ?_
  by_cases h : rightB ps = true
  rotate_left
  · refine Eq.trans (pl_f (Bool.eq_false_iff.mpr h)) ?_
    rw [decide_eq_false (fun k => h k.1)]
  · refine Eq.trans (pl_len h) ?_
    refine Eq.trans (pl_bool (s19 (d + 8) _ _ _)) ?_
    by_cases h1 : 1 ≤ g ∧ g ≤ 100
    · rw [decide_eq_true h1, cnd_t]
      refine Eq.trans (pl_bool (s19 (d + 8) _ _ _)) ?_
      by_cases h2 : 1 ≤ v ∧ v ≤ 65536
      · rw [decide_eq_true h2, cnd_t]
        refine Eq.trans (pl_bool (s19 (d + 8) _ _ _)) ?_
        by_cases h3 : 1 ≤ m ∧ m ≤ 1000000
        · rw [decide_eq_true h3, cnd_t]
          refine Eq.trans (pl_bool (s19 (d + 8) _ _ _)) ?_
          by_cases h4 : 0 ≤ u ∧ u ≤ 1073741824
          · rw [decide_eq_true h4, decide_eq_true ⟨h, h1, h2, h3, h4⟩]
          · rw [decide_eq_false h4, decide_eq_false (fun h => h4 h.2.2.2.2)]
        · rw [decide_eq_false h3, cnd_f, decide_eq_false (fun h => h3 h.2.2.2.1)]
      · rw [decide_eq_false h2, cnd_f, decide_eq_false (fun h => h2 h.2.2.1)]
    · rw [decide_eq_false h1, cnd_f, decide_eq_false (fun h => h1 h.2.1)])
end Go.Proofs.Ytmlpinajheacjaa.AE

namespace Go.Proofs.Ytmlpinajheacjaa.AE
set_option linter.unusedVariables false
set_option linter.unusedSimpArgs false
set_option linter.constructorNameAsVariable false
open Go Go.Proofs.Ytmlpinajheacjaa.Geo
theorem rows_pts : ∀ l : List AV, (∀ x ∈ l, ∃ cs, x = .agg cs ∧ CTall [(.i .i64), (.i .i64)] cs) → ∃ ps : List Pt, l = ps.map pt
  | [], _ => ⟨[], rfl⟩
  | x :: l, h => by
    obtain ⟨ps, rfl⟩ := rows_pts l fun y hy => h y (List.mem_cons_of_mem _ hy)
    obtain ⟨_, rfl, _, _, rfl, ⟨a, rfl, _⟩, _, _, rfl, ⟨b, rfl, _⟩, rfl⟩ := h x (List.mem_cons_self ..)
    exact ⟨(a, b) :: ps, rfl⟩
end Go.Proofs.Ytmlpinajheacjaa.AE

namespace Go.Proofs.Ytmlpinajheacjaa.AE
set_option linter.unusedVariables false
set_option linter.unusedSimpArgs false
set_option linter.constructorNameAsVariable false
open Go Go.Proofs.Ytmlpinajheacjaa.Geo
attribute [local irreducible] pcall C0
set_option maxRecDepth 100000
theorem ty_ph {v : AV} (h : TyOK true [(.sl true [(.i .i64), (.i .i64)]), (.i .i64), (.i .i64), (.i .i64), (.i .i64)] v) : ∃ ps g w m u, v = ph ps g w m u := by
  obtain ⟨l, rfl, _, _, rfl, ⟨r, rfl, hl, hx⟩, _, _, rfl, ⟨g, rfl, _⟩, _, _, rfl, ⟨w, rfl, _⟩, _, _, rfl, ⟨m, rfl, _⟩, _, _, rfl, ⟨u, rfl, _⟩, rfl⟩ := h
  obtain ⟨ps, rfl⟩ := rows_pts r hx
  exact ⟨ps, g, w, m, u, rfl⟩
end Go.Proofs.Ytmlpinajheacjaa.AE

namespace Go.Proofs.Ytmlpinajheacjaa.AE
set_option linter.unusedVariables false
set_option linter.unusedSimpArgs false
set_option linter.constructorNameAsVariable false
open Go
set_option maxRecDepth 100000
/-- apogee/apogeelaw19.VerdictTruth -/
theorem r3 (C : Cb) (d : Nat) (a0 a1 a2 a3 a4 a5 a6 a7 : Int) (a8 : List AV) (a9 a10 a11 a12 a13 a14 a15 a16 a17 a18 a19 : Int) : xcall C M unr d 3 [(.agg [(iz a0), (iz a1), (iz a2), (iz a3), (iz a4), (iz a5), (iz a6), (iz a7)]), (.agg [(.lst a8), (iz a9), (iz a10), (iz a11), (iz a12)]), (iz a13), (.agg [(iz a14), (iz a15), (iz a16), (iz a17), (iz a18), (iz a19)])] =
 C.bool (pcall M d 6 []) fun b0 =>
 cnd (!b0)
 (C.bool (pcall M d 6 []) fun b1 =>
 some (.bool b1))
 (cnd (decide ((((List.length a8) : Nat) : Int) > 12))
 (C.bool (pcall M d 6 []) fun b2 =>
 some (.bool b2))
 (C.bool (pcall M d 7 [(.agg [(.lst a8), (iz a9), (iz a10), (iz a11), (iz a12)])]) fun b3 =>
 cnd (!b3)
 (C.bool (pcall M d 6 []) fun b4 =>
 some (.bool b4))
 (C.agg 8 (pcall M d 8 [(.agg [(iz a0), (iz a1), (iz a2), (iz a3), (iz a4), (iz a5), (iz a6), (iz a7)])]) fun l5 =>
 C.int .i64 l5[0]? fun x6 =>
 C.int .i64 l5[1]? fun x7 =>
 C.int .i64 l5[2]? fun x8 =>
 C.int .i64 l5[3]? fun x9 =>
 C.int .i64 l5[4]? fun x10 =>
 C.int .i64 l5[5]? fun x11 =>
 C.int .i64 l5[6]? fun x12 =>
 C.int .i64 l5[7]? fun x13 =>
 C.agg 8 (pcall M d 9 [(.agg [(iz x6), (iz x7), (iz x8), (iz x9), (iz x10), (iz x11), (iz x12), (iz x13)]), (.agg [(iz a14), (iz a15), (iz a16), (iz a17), (iz a18), (iz a19)]), (iz (bits .and .i64 a13 1023))]) fun l14 =>
 C.int .i64 l14[0]? fun x15 =>
 C.int .i64 l14[1]? fun x16 =>
 C.int .i64 l14[2]? fun x17 =>
 C.int .i64 l14[3]? fun x18 =>
 C.int .i64 l14[4]? fun x19 =>
 C.int .i64 l14[5]? fun x20 =>
 C.int .i64 l14[6]? fun x21 =>
 C.int .i64 l14[7]? fun x22 =>
 C.int .i64 (pcall M d 10 [(.agg [(iz x6), (iz x7), (iz x8), (iz x9), (iz x10), (iz x11), (iz x12), (iz x13)]), (.agg [(.lst a8), (iz a9), (iz a10), (iz a11), (iz a12)]), (iz 0)]) fun x23 =>
 C.int .i64 (pcall M d 10 [(.agg [(iz x15), (iz x16), (iz x17), (iz x18), (iz x19), (iz x20), (iz x21), (iz x22)]), (.agg [(.lst a8), (iz a9), (iz a10), (iz a11), (iz a12)]), (iz (bits .and .i64 a13 1023))]) fun x24 =>
 cnd (x23 == 1)
 (cnd (!(x24 == 3))
 (cnd (x23 == 3)
 (some (.bool (!(x24 == 1))))
 (some bt))
 (some bf))
 (cnd (x23 == 3)
 (some (.bool (!(x24 == 1))))
 (some bt))))) := by kernel_rfl
end Go.Proofs.Ytmlpinajheacjaa.AE

namespace Go.Proofs.Ytmlpinajheacjaa.AE
set_option linter.unusedVariables false
set_option linter.unusedSimpArgs false
set_option linter.constructorNameAsVariable false
open Go
set_option maxRecDepth 100000
/-- apogee/apogeelaw19.VerdictEps -/
theorem r5 (C : Cb) (d : Nat) (a0 a1 a2 a3 a4 a5 a6 a7 : Int) (a8 : List AV) (a9 a10 a11 a12 a13 a14 : Int) : xcall C M unr d 5 [(.agg [(iz a0), (iz a1), (iz a2), (iz a3), (iz a4), (iz a5), (iz a6), (iz a7)]), (.agg [(.lst a8), (iz a9), (iz a10), (iz a11), (iz a12)]), (iz a13), (iz a14)] =
 C.bool (pcall M d 6 []) fun b0 =>
 cnd (!b0)
 (C.bool (pcall M d 6 []) fun b1 =>
 some (.bool b1))
 (cnd (decide ((((List.length a8) : Nat) : Int) > 12))
 (C.bool (pcall M d 6 []) fun b2 =>
 some (.bool b2))
 (C.bool (pcall M d 7 [(.agg [(.lst a8), (iz a9), (iz a10), (iz a11), (iz a12)])]) fun b3 =>
 cnd (!b3)
 (C.bool (pcall M d 6 []) fun b4 =>
 some (.bool b4))
 (C.int .i64 (pcall M d 10 [(.agg [(iz a0), (iz a1), (iz a2), (iz a3), (iz a4), (iz a5), (iz a6), (iz a7)]), (.agg [(.lst a8), (iz a9), (iz a10), (iz a11), (iz a12)]), (iz (bits .and .i64 a13 1023))]) fun x5 =>
 C.int .i64 (pcall M d 10 [(.agg [(iz a0), (iz a1), (iz a2), (iz a3), (iz a4), (iz a5), (iz a6), (iz a7)]), (.agg [(.lst a8), (iz a9), (iz a10), (iz a11), (iz a12)]), (iz (IntKind.wrap .i64 ((bits .and .i64 a13 1023) + (bits .and .i64 a14 1023))))]) fun x6 =>
 cnd (x5 == 4)
 (cnd (x6 == 4)
 (C.bool (pcall M d 14 [(.agg [(iz a0), (iz a1), (iz a2), (iz a3), (iz a4), (iz a5), (iz a6), (iz a7)]), (iz a9), (iz (bits .and .i64 a13 1023))]) fun b7 =>
 some (.bool (!b7)))
 (some bf))
 (cnd (x6 == x5)
 (some bt)
 (cnd (x6 == 4)
 (some bt)
 (some (.bool (x6 == 2)))))))) := by kernel_rfl
end Go.Proofs.Ytmlpinajheacjaa.AE

namespace Go.Proofs.Ytmlpinajheacjaa.AE
set_option linter.unusedVariables false
set_option linter.unusedSimpArgs false
set_option linter.constructorNameAsVariable false
open Go Go.Proofs.Ytmlpinajheacjaa.Geo
attribute [local irreducible] pcall C0
set_option maxRecDepth 100000
theorem eps_law (n : Nav) (ps : List Pt) (g v m u e w : Int) : pcall M 41 5 [nv n, ph ps g v m u, .int .i64 e, .int .i64 w] = some (.bool true) := told (r5 C0 40 _ _ _ _ _ _ _ _ _ _ _ _ _ _ _) (by
  refine Eq.trans (pl_bool awake) ?_
  repeat with_reducible first | refine tt sh_ptr ?_ | refine tt sh_fptr ?_ | refine tt w2 ?_ | refine tt w3 ?_ | refine tt w8 ?_ | refine tt w9 ?_ | refine tt wf ?_ | refine tt wg ?_ | refine tt wh ?_ | refine tt wi ?_ | refine tt wj ?_ | refine tt wk ?_ | refine tt wl ?_ | refine tt wn ?_ | refine tt c_ort ?_ | refine tt c_nt ?_ | refine tt c_nf ?_ | refine tt (cnd_t _ _) ?_ | refine tt (cnd_f _ _) ?_ | refine tt w6 ?_ | refine tt w4 ?_ | refine tt w5 ?_ | refine tt w7 ?_ | refine tt wm ?_ | refine tt wo ?_ | refine tt wx ?_ | refine tt nil_ptr ?_ | refine tt len_lst ?_ | refine tt len_zsl ?_
  by_cases h : (((ps.map pt).length : Nat) : Int) > 12
  · rw [decide_eq_true h, cnd_t]; exact pl_bool awake
  rw [decide_eq_false h, cnd_f]
  rw [List.length_map] at h
  have hl : ps.length ≤ 140737488355328 := by omega
  refine Eq.trans (pl_bool (s7 30 ps g v m u hl)) ?_
  by_cases hp : RightPh ps g v m u
  rotate_left
  · rw [decide_eq_false hp]
    refine Eq.trans (pl_len (by rfl)) ?_
    exact pl_bool awake
  rw [decide_eq_true hp]
  repeat with_reducible first | refine tt sh_ptr ?_ | refine tt sh_fptr ?_ | refine tt w2 ?_ | refine tt w3 ?_ | refine tt w8 ?_ | refine tt w9 ?_ | refine tt wf ?_ | refine tt wg ?_ | refine tt wh ?_ | refine tt wi ?_ | refine tt wj ?_ | refine tt wk ?_ | refine tt wl ?_ | refine tt wn ?_ | refine tt c_ort ?_ | refine tt c_nt ?_ | refine tt c_nf ?_ | refine tt (cnd_t _ _) ?_ | refine tt (cnd_f _ _) ?_ | refine tt w6 ?_ | refine tt w4 ?_ | refine tt w5 ?_ | refine tt w7 ?_ | refine tt wm ?_ | refine tt wo ?_ | refine tt wx ?_ | refine tt nil_ptr ?_ | refine tt len_lst ?_ | refine tt len_zsl ?_
  obtain ⟨hr, ⟨g0, g1⟩, _⟩ := hp
  obtain ⟨e, ee, e0, e1⟩ := eps_bd e
  obtain ⟨w, ew, w0, w1⟩ := eps_bd w
  rw [ee, ew, i64_small (n := e + w) (by omega) (by omega)]
  by_cases hb : MayB n g e
  · have hm : MayB n g (e + w) := ⟨hb.1, by omega, hb.2.2⟩
    obtain ⟨lo, hi, q1, f1, f2⟩ := ofI 24 n ps g v m u e hl hb
    obtain ⟨lo', hi', q2, f3, f4⟩ := ofI 24 n ps g v m u (e + w) hl hm
    refine Eq.trans (pl_int q1) ?_
    refine Eq.trans (pl_int q2) ?_
    have r1 := box_right hb f1 f2
    have r2 := box_right hm f3 f4
    have m1 := falls_mono f3 f1 (by omega) (by omega)
    have m2 := falls_mono f2 f4 (by omega) (by omega)
    have m3 := falls_mono f1 f2 (by omega) (by omega)
    have hs := box_in (near_refl n w0) e0 r1 r2 f3.1 m1 (show lo ≤ hi + 2 by omega) (show hi + 2 ≤ hi' + 2 by omega)
    have k := eps_core (n := n) (most := v) e0 w0 hr r2 hs
    have k1 := ver_rng (spdN n v e) (relX (boxN n e lo (hi + 2)) ps)
    have k2 := ver_rng (spdN n v (e + w)) (relX (boxN n (e + w) lo' (hi' + 2)) ps)
    generalize verN (spdN n v e) (relX (boxN n e lo (hi + 2)) ps) = x at *
    generalize verN (spdN n v (e + w)) (relX (boxN n (e + w) lo' (hi' + 2)) ps) = y at *
    have h4 : x ≠ 4 := by omega
    have h5 : y ≠ 4 := by omega
    by_cases h1 : y = x
    · subst h1
      simp only [beq_eq_false_iff_ne.mpr h4, beq_self_eq_true]; rfl
    · have h2 : y = 2 := by omega
      subst h2
      simp only [beq_eq_false_iff_ne.mpr h4, beq_eq_false_iff_ne.mpr h1]; rfl
  · have hm : ¬ MayB n g (e + w) := fun h => hb ⟨h.1, by omega, h.2.2⟩
    refine Eq.trans (pl_int (ofI_no 24 n ps g v m u e hb)) ?_
    refine Eq.trans (pl_int (ofI_no 24 n ps g v m u (e + w) hm)) ?_
    refine Eq.trans (pl_len (by rfl)) ?_; refine Eq.trans (pl_len (by rfl)) ?_
    refine Eq.trans (pl_bool (s14 38 n g e)) ?_
    rw [decide_eq_false hb]; rfl)
theorem law_VerdictEps (a0_0 : Int) (a0_1 : Int) (a0_2 : Int) (a0_3 : Int) (a0_4 : Int) (a0_5 : Int) (a0_6 : Int) (a0_7 : Int) (a1 : AV) (a2 : Int) (a3 : Int) (w0_0 : (Lit.int .i64 a0_0).wf = true) (w0_1 : (Lit.int .i64 a0_1).wf = true) (w0_2 : (Lit.int .i64 a0_2).wf = true) (w0_3 : (Lit.int .i64 a0_3).wf = true) (w0_4 : (Lit.int .i64 a0_4).wf = true) (w0_5 : (Lit.int .i64 a0_5).wf = true) (w0_6 : (Lit.int .i64 a0_6).wf = true) (w0_7 : (Lit.int .i64 a0_7).wf = true) (w1 : TyOK true [(.sl true [(.i .i64), (.i .i64)]), (.i .i64), (.i .i64), (.i .i64), (.i .i64)] a1) (w2 : (Lit.int .i64 a2).wf = true) (w3 : (Lit.int .i64 a3).wf = true) :
    pcall M 41 5 [.agg [.int .i64 a0_0, .int .i64 a0_1, .int .i64 a0_2, .int .i64 a0_3, .int .i64 a0_4, .int .i64 a0_5, .int .i64 a0_6, .int .i64 a0_7], a1, .int .i64 a2, .int .i64 a3] = some (.bool true) := by
  obtain ⟨ps, g, w, m, u, rfl⟩ := ty_ph w1
  exact eps_law ⟨a0_0, a0_1, a0_2, a0_3, a0_4, a0_5, a0_6, a0_7⟩ ps g w m u a2 a3
end Go.Proofs.Ytmlpinajheacjaa.AE
