/- Places, turns and ways in the plane of whole numbers: plain laws, no program in sight. -/
namespace Go.Proofs.Ytbcbaidnamebkaa.Geo
set_option linter.unusedVariables false
set_option linter.unusedSimpArgs false
set_option linter.constructorNameAsVariable false

abbrev Pt := Int × Int
def Okc (x : Int) : Prop := -1099511627776 ≤ x ∧ x ≤ 1099511627776
instance (x : Int) : Decidable (Okc x) := by unfold Okc; infer_instance
def OkP (p : Pt) : Prop := Okc p.1 ∧ Okc p.2
instance (p : Pt) : Decidable (OkP p) := by unfold OkP; infer_instance
/-- Twice the area from a over b to c. -/
def TN (a b c : Pt) : Int := (b.1 - a.1) * (c.2 - a.2) - (b.2 - a.2) * (c.1 - a.1)
def sg (v : Int) : Int := if v < 0 then -1 else if v = 0 then 0 else 1
theorem sg_neg (v : Int) : sg (-v) = -sg v := by unfold sg; split <;> split <;> (try split) <;> (try split) <;> omega
theorem sg_zero {v : Int} : sg v = 0 ↔ v = 0 := by unfold sg; split <;> (try split) <;> omega
theorem sg_pos {v : Int} : sg v > 0 ↔ v > 0 := by unfold sg; split <;> (try split) <;> omega
theorem sg_lt {v : Int} : sg v < 0 ↔ v < 0 := by unfold sg; split <;> (try split) <;> omega
theorem sg_cases (v : Int) : (v < 0 ∧ sg v = -1) ∨ (v = 0 ∧ sg v = 0) ∨ (v > 0 ∧ sg v = 1) := by unfold sg; split <;> (try split) <;> omega
/-- Two signs that are opposite. -/
theorem sg_mul_neg {u v : Int} : sg u * sg v < 0 ↔ (u < 0 ∧ v > 0) ∨ (u > 0 ∧ v < 0) := by
  rcases sg_cases u with ⟨h, e⟩ | ⟨h, e⟩ | ⟨h, e⟩ <;> rcases sg_cases v with ⟨h', e'⟩ | ⟨h', e'⟩ | ⟨h', e'⟩ <;> rw [e, e'] <;> simp <;> omega

theorem TN_cyc (a b c : Pt) : TN b c a = TN a b c := by unfold TN; grind
theorem TN_rev (a b c : Pt) : TN c b a = -TN a b c := by unfold TN; grind
theorem TN_swap (a b c : Pt) : TN b a c = -TN a b c := by unfold TN; grind
theorem TN_aab (a b : Pt) : TN a a b = 0 := by unfold TN; grind
theorem TN_abb (a b : Pt) : TN a b b = 0 := by unfold TN; grind
theorem TN_aba (a b : Pt) : TN a b a = 0 := by unfold TN; grind

/-- Both numbers are between those of two places. -/
def Btw (p a b : Pt) : Prop := ((a.1 ≤ p.1 ∧ p.1 ≤ b.1) ∨ (b.1 ≤ p.1 ∧ p.1 ≤ a.1)) ∧ ((a.2 ≤ p.2 ∧ p.2 ≤ b.2) ∨ (b.2 ≤ p.2 ∧ p.2 ≤ a.2))
instance (p a b : Pt) : Decidable (Btw p a b) := by unfold Btw; infer_instance
theorem Btw_swap {p a b : Pt} : Btw p b a ↔ Btw p a b := by unfold Btw; omega
/-- On the way from a to b. -/
def On (p a b : Pt) : Prop := TN a b p = 0 ∧ Btw p a b
instance (p a b : Pt) : Decidable (On p a b) := by unfold On; infer_instance
theorem On_swap {p a b : Pt} : On p b a ↔ On p a b := by
  unfold On; rw [TN_swap, Btw_swap]
  exact ⟨fun h => ⟨by have := h.1; omega, h.2⟩, fun h => ⟨by have := h.1; omega, h.2⟩⟩
theorem On_a (a b : Pt) : On a a b := ⟨TN_aba a b, by unfold Btw; omega⟩
theorem On_b (a b : Pt) : On b a b := ⟨TN_abb a b, by unfold Btw; omega⟩
theorem On_one {p a : Pt} : On p a a ↔ p = a := by
  constructor
  · rintro ⟨_, h⟩; unfold Btw at h; exact Prod.ext (by omega) (by omega)
  · rintro rfl; exact On_a _ _
/-- The one way crosses the other one. -/
def Cross (a b c d : Pt) : Prop := sg (TN a b c) * sg (TN a b d) < 0 ∧ sg (TN c d a) * sg (TN c d b) < 0
instance (a b c d : Pt) : Decidable (Cross a b c d) := by unfold Cross; infer_instance
def Meet (a b c d : Pt) : Prop := On a c d ∨ On b c d ∨ On c a b ∨ On d a b ∨ Cross a b c d
instance (a b c d : Pt) : Decidable (Meet a b c d) := by unfold Meet; infer_instance
theorem Cross_swap {a b c d : Pt} : Cross c d a b ↔ Cross a b c d := by unfold Cross; exact And.comm
theorem Cross_ab {a b c d : Pt} : Cross b a c d ↔ Cross a b c d := by
  unfold Cross; rw [TN_swap a b c, TN_swap a b d, sg_neg, sg_neg, Int.neg_mul_neg, Int.mul_comm (sg (TN c d b))]
theorem Cross_cd {a b c d : Pt} : Cross a b d c ↔ Cross a b c d := by rw [← Cross_swap, Cross_ab, Cross_swap]
theorem Meet_swap {a b c d : Pt} : Meet c d a b ↔ Meet a b c d := by unfold Meet; rw [Cross_swap]; constructor <;> (rintro (h | h | h | h | h) <;> simp [h])
theorem Meet_ab {a b c d : Pt} : Meet b a c d ↔ Meet a b c d := by
  unfold Meet; rw [Cross_ab, On_swap (p := c), On_swap (p := d)]; constructor <;> (rintro (h | h | h | h | h) <;> simp [h])
theorem Meet_cd {a b c d : Pt} : Meet a b d c ↔ Meet a b c d := by rw [← Meet_swap, Meet_ab, Meet_swap]
theorem Meet_self (a b : Pt) : Meet a b a b := Or.inl (On_a a b)
theorem Meet_cc {a b c : Pt} : Meet a b c c ↔ On c a b := by
  constructor
  · rintro (h | h | h | h | h)
    · rw [On_one.1 h]; exact On_a _ _
    · rw [On_one.1 h]; exact On_b _ _
    · exact h
    · exact h
    · exfalso; have := h.1; rw [sg_mul_neg] at this; omega
  · intro h; exact Or.inr (Or.inr (Or.inl h))

/-! Moved, mirrored, turned -/
def mv (p : Pt) (x y : Int) : Pt := (p.1 + x, p.2 + y)
theorem TN_mv (a b c : Pt) (x y : Int) : TN (mv a x y) (mv b x y) (mv c x y) = TN a b c := by unfold TN mv; grind
theorem Btw_mv (a b c : Pt) (x y : Int) : Btw (mv a x y) (mv b x y) (mv c x y) ↔ Btw a b c := by unfold Btw mv; omega
theorem On_mv (p a b : Pt) (x y : Int) : On (mv p x y) (mv a x y) (mv b x y) ↔ On p a b := by unfold On; rw [TN_mv, Btw_mv]
theorem Cross_mv (a b c d : Pt) (x y : Int) : Cross (mv a x y) (mv b x y) (mv c x y) (mv d x y) ↔ Cross a b c d := by unfold Cross; simp only [TN_mv]
theorem Meet_mv (a b c d : Pt) (x y : Int) : Meet (mv a x y) (mv b x y) (mv c x y) (mv d x y) ↔ Meet a b c d := by unfold Meet; simp only [On_mv, Cross_mv]
def mir (p : Pt) : Pt := (-p.1, p.2)
theorem TN_mir (a b c : Pt) : TN (mir a) (mir b) (mir c) = -TN a b c := by unfold TN mir; grind
theorem On_mir (p a b : Pt) : On (mir p) (mir a) (mir b) ↔ On p a b := by unfold On; rw [TN_mir]; unfold Btw mir; omega
theorem Cross_mir (a b c d : Pt) : Cross (mir a) (mir b) (mir c) (mir d) ↔ Cross a b c d := by unfold Cross; simp only [TN_mir, sg_neg, Int.neg_mul_neg]
theorem Meet_mir (a b c d : Pt) : Meet (mir a) (mir b) (mir c) (mir d) ↔ Meet a b c d := by unfold Meet; simp only [On_mir, Cross_mir]
def qua (p : Pt) : Pt := (-p.2, p.1)
theorem TN_qua (a b c : Pt) : TN (qua a) (qua b) (qua c) = TN a b c := by unfold TN qua; grind
theorem On_qua (p a b : Pt) : On (qua p) (qua a) (qua b) ↔ On p a b := by unfold On; rw [TN_qua]; unfold Btw qua; omega
theorem Cross_qua (a b c d : Pt) : Cross (qua a) (qua b) (qua c) (qua d) ↔ Cross a b c d := by unfold Cross; simp only [TN_qua]
theorem Meet_qua (a b c d : Pt) : Meet (qua a) (qua b) (qua c) (qua d) ↔ Meet a b c d := by unfold Meet; simp only [On_qua, Cross_qua]
end Go.Proofs.Ytbcbaidnamebkaa.Geo
