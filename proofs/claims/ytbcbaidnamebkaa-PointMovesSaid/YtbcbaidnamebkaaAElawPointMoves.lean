/- The law PointMoves, plainly. No conditions. -/
import Derived.Test.YtbcbaidnamebkaaAEptspec6
import Derived.Test.YtbcbaidnamebkaaAEarg
namespace Go.Proofs.Ytbcbaidnamebkaa.AE
set_option linter.unusedVariables false
set_option linter.unusedSimpArgs false
set_option linter.constructorNameAsVariable false
open Go Go.Proofs.Ytbcbaidnamebkaa.Geo
set_option maxRecDepth 100000
theorem wf64 {n : Int} (h : (Lit.int .i64 n).wf = true) : In64 n := by have := bounds_i64 h; unfold In64; omega
theorem awake : pcall M 40 9 [] = some (.bool true) := by kernel_rfl

theorem mv_back (p : Pt) (x y : Int) : mv (mv p x y) (-x) (-y) = p := by unfold mv; ext <;> simp <;> omega
theorem neg_mv {p : Pt} {x y : Int} (h : mvB p x y = true) : IntKind.wrap .i64 (0 - x) = -x ∧ IntKind.wrap .i64 (0 - y) = -y := by
  obtain ⟨⟨a1, a2⟩, b1, b2⟩ := mvB_t.mp h
  unfold Okc mv at *
  simp only at b1 b2
  rw [i64w, i64w]; omega
theorem back (p : Pt) (x y : Int) (h : mvB p x y = true) : pcall M 40 18 [.agg [.int .i64 (mv p x y).1, .int .i64 (mv p x y).2], .int .i64 (IntKind.wrap .i64 (0 - x)), .int .i64 (IntKind.wrap .i64 (0 - y))] = some (.tup [pt p, .bool true]) := by
  have hb := neg_mv h
  obtain ⟨o1, o2⟩ := mvB_t.mp h
  have e1 := o1.1; have e2 := o1.2; have e3 := o2.1; have e4 := o2.2
  have k : mvB (mv p x y) (-x) (-y) = true := mvB_t.mpr ⟨o2, by rw [mv_back]; exact o1⟩
  have := s18 33 (mv p x y) (-x) (-y) (by unfold In64 Okc at *; omega) (by unfold In64 Okc at *; omega) (by unfold In64 Okc mv at *; simp only at e3; omega) (by unfold In64 Okc mv at *; simp only at e4; omega)
  rw [if_pos k, mv_back] at this
  rw [hb.1, hb.2]
  exact this
theorem beq2 (x y : Int) : (x == x && (y == y && true)) = true := by simp
theorem moves_core (a b c e : Pt) (x y : Int) (ha1 : In64 a.1) (ha2 : In64 a.2) (hb1 : In64 b.1) (hb2 : In64 b.2) (hc1 : In64 c.1) (hc2 : In64 c.2) (he1 : In64 e.1) (he2 : In64 e.2) (hx : In64 x) (hy : In64 y) :
    pcall M 41 5 [pt a, pt b, pt c, pt e, .int .i64 x, .int .i64 y] = some (.bool true) := told (r5 C0 40 _ _ _ _ _ _ _ _ _ _) (by
  have m := fun p q r s => s16 31 p q r s
  have o := fun p q r => s14 32 p q r
  have t := fun p q r => s12 33 p q r
  simp only [pt] at m o t
  have va := s18 33 a x y ha1 ha2 hx hy
  have vb := s18 33 b x y hb1 hb2 hx hy
  have vc := s18 33 c x y hc1 hc2 hx hy
  have ve := s18 33 e x y he1 he2 hx hy
  simp only [pt] at va vb vc ve
  rw [awake, va, vb, vc, ve]
  simp only [C0_bool, Bool.not_true, cnd_f]
  by_cases ma : mvB a x y = true
  · have ba := back a x y ma
    simp only [pt] at ba
    rw [if_pos ma, C0_tup2]
    simp only [at0, at1, C0_agg2, C0_int, C0_bool, Bool.not_true, cnd_f]
    rw [ba, C0_tup2]
    simp only [at0, at1, C0_agg2, C0_int, C0_bool, Bool.not_true, cnd_f, beq2, Bool.xor_self]
    by_cases mb : mvB b x y = true
    · have bb := back b x y mb
      simp only [pt] at bb
      rw [if_pos mb, C0_tup2]
      simp only [at0, at1, C0_agg2, C0_int, C0_bool, Bool.not_true, cnd_f]
      rw [bb, C0_tup2]
      simp only [at0, at1, C0_agg2, C0_int, C0_bool, Bool.not_true, cnd_f, beq2, Bool.xor_self]
      by_cases mc : mvB c x y = true
      · have bc := back c x y mc
        simp only [pt] at bc
        rw [if_pos mc, C0_tup2]
        simp only [at0, at1, C0_agg2, C0_int, C0_bool, Bool.not_true, cnd_f]
        rw [bc, C0_tup2]
        simp only [at0, at1, C0_agg2, C0_int, C0_bool, Bool.not_true, cnd_f, beq2, Bool.xor_self]
        by_cases me : mvB e x y = true
        · have be := back e x y me
          simp only [pt] at be
          rw [if_pos me, C0_tup2]
          simp only [at0, at1, C0_agg2, C0_int, C0_bool, Bool.not_true, cnd_f]
          rw [be, C0_tup2]
          simp only [at0, at1, C0_agg2, C0_int, C0_bool, Bool.not_true, cnd_f, beq2, Bool.xor_self]
          rw [t a b c, t (mv a x y) (mv b x y) (mv c x y), o a b c, o (mv a x y) (mv b x y) (mv c x y), m a b c e, m (mv a x y) (mv b x y) (mv c x y) (mv e x y)]
          simp only [C0_int, C0_bool]
          obtain ⟨ka, ka'⟩ := mvB_t.mp ma
          obtain ⟨kb, kb'⟩ := mvB_t.mp mb
          obtain ⟨kc, kc'⟩ := mvB_t.mp mc
          obtain ⟨ke, ke'⟩ := mvB_t.mp me
          have q1 : tn3 (mv a x y) (mv b x y) (mv c x y) = tn3 a b c := by rw [tn3_sg ⟨ka', kb', kc'⟩, tn3_sg ⟨ka, kb, kc⟩, TN_mv]
          have q2 : onB (mv a x y) (mv b x y) (mv c x y) = onB a b c := by
            rw [Bool.eq_iff_iff, onB_t, onB_t, On_mv]; exact ⟨fun h => ⟨⟨ka, kb, kc⟩, h.2⟩, fun h => ⟨⟨ka', kb', kc'⟩, h.2⟩⟩
          have q3 : meetB (mv a x y) (mv b x y) (mv c x y) (mv e x y) = meetB a b c e := by
            rw [Bool.eq_iff_iff, meetB_t, meetB_t, Meet_mv]; exact ⟨fun h => ⟨⟨ka, kb, kc, ke⟩, h.2⟩, fun h => ⟨⟨ka', kb', kc', ke'⟩, h.2⟩⟩
          rw [q1, q2, q3]
          simp [cnd_t]
        · rw [if_neg me, C0_tup2]; rfl
      · rw [if_neg mc, C0_tup2]; rfl
    · rw [if_neg mb, C0_tup2]; rfl
  · rw [if_neg ma, C0_tup2]; rfl)
theorem law_PointMoves (a0_0 : Int) (a0_1 : Int) (a1_0 : Int) (a1_1 : Int) (a2_0 : Int) (a2_1 : Int) (a3_0 : Int) (a3_1 : Int) (a4 : Int) (a5 : Int) (w0_0 : (Lit.int .i64 a0_0).wf = true) (w0_1 : (Lit.int .i64 a0_1).wf = true) (w1_0 : (Lit.int .i64 a1_0).wf = true) (w1_1 : (Lit.int .i64 a1_1).wf = true) (w2_0 : (Lit.int .i64 a2_0).wf = true) (w2_1 : (Lit.int .i64 a2_1).wf = true) (w3_0 : (Lit.int .i64 a3_0).wf = true) (w3_1 : (Lit.int .i64 a3_1).wf = true) (w4 : (Lit.int .i64 a4).wf = true) (w5 : (Lit.int .i64 a5).wf = true) :
    pcall M 41 5 [.agg [.int .i64 a0_0, .int .i64 a0_1], .agg [.int .i64 a1_0, .int .i64 a1_1], .agg [.int .i64 a2_0, .int .i64 a2_1], .agg [.int .i64 a3_0, .int .i64 a3_1], .int .i64 a4, .int .i64 a5] = some (.bool true) :=
  moves_core (a0_0, a0_1) (a1_0, a1_1) (a2_0, a2_1) (a3_0, a3_1) a4 a5 (wf64 w0_0) (wf64 w0_1) (wf64 w1_0) (wf64 w1_1) (wf64 w2_0) (wf64 w2_1) (wf64 w3_0) (wf64 w3_1) (wf64 w4) (wf64 w5)
end Go.Proofs.Ytbcbaidnamebkaa.AE
