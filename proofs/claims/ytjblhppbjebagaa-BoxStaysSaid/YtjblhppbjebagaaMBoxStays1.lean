/- The texts that the law BoxStays needs, part 1. No conditions. -/
import Derived.Test.YtjblhppbjebagaaMBoxStays0
namespace Go.Proofs.Ytjblhppbjebagaa.AE
set_option linter.unusedVariables false
set_option linter.unusedSimpArgs false
set_option linter.constructorNameAsVariable false
open Go Go.Proofs.Ytjblhppbjebagaa.Geo
theorem nx_up {ps : List Pt} {k i : Nat} (hk : k < i) (hi : i < ps.length) : nx ps k = k + 1 := Nat.mod_eq_of_lt (by omega)
theorem nx_back {ps : List Pt} {k i : Nat} (hk : k < i) (hi : i < ps.length) : nx ps i = k ↔ k = 0 ∧ i = ps.length - 1 := by
  unfold nx
  by_cases h : i + 1 = ps.length
  · rw [h, Nat.mod_self]; omega
  · rw [Nat.mod_eq_of_lt (by omega)]; omega
theorem rsimple2 (d : Nat) (ps : List Pt) (k : Nat) (hl : ps.length ≤ 140737488355328) (kN : Int → Heap → Ans) (kR : Bool → Heap → Ans) (rN rR : Ans) (hN : ∀ H, kN ((k + 1 : Nat) : Int) H = rN) (hR : ∀ H, kR false H = rR) :
    ∀ (m i f : Nat) (H : Heap), i + m = ps.length → m < f → k < i →
    L45_2 (d + 7) (ps.map pt) (ps.length : Nat) (k : Nat) kN kR f (i : Nat) H = bif upAll (fun i => pairB ps k i) m i then rN else rR := by
  intro m
  induction m with
  | zero =>
    intro i f H hi hf hk
    obtain ⟨f, rfl⟩ : ∃ g, f = g + 1 := ⟨f - 1, by omega⟩
    rw [L45_2, decide_eq_false (by omega), cnd_f, X45_2_0, i64_small (by omega) (by omega)]
    exact hN H
  | succ m ih =>
    intro i f H hi hf hk
    obtain ⟨f, rfl⟩ : ∃ g, f = g + 1 := ⟨f - 1, by omega⟩
    have hkl : k < ps.length := by omega
    have hil : i < ps.length := by omega
    have o := fun p q r => s54 (d + 1) p q r
    have mt := s42 d (vv ps k) (vv ps (nx ps k)) (vv ps i) (vv ps (nx ps i))
    simp only [pt] at o mt
    have w1 : IntKind.wrap .i64 ((i : Int) + 1) = ((i + 1 : Nat) : Int) := by rw [i64_small (by omega) (by omega)]; rfl
    have w2 : IntKind.wrap .i64 ((k : Int) + 1) = ((k + 1 : Nat) : Int) := by rw [i64_small (by omega) (by omega)]; rfl
    have w3 : IntKind.wrap .i64 ((ps.length : Int) - 1) = ((ps.length - 1 : Nat) : Int) := by rw [i64_small (by omega) (by omega)]; omega
    rw [L45_2, decide_eq_true (by omega), cnd_t]
    refine Eq.trans (ix_lst (by omega) (vv_at hkl) (by rfl)) ?_
    refine Eq.trans (hop_eq (by rfl)) ?_; refine Eq.trans (pl_agg (by rfl) (by rfl)) ?_; refine Eq.trans (pl_int (by rfl)) ?_; refine Eq.trans (pl_int (by rfl)) ?_
    refine Eq.trans (snp_free (by rfl)) ?_
    refine Eq.trans (pl_agg (s58 (d + 6) ps k hkl hl) (by rfl)) ?_
    refine Eq.trans (pl_int (by rfl)) ?_; refine Eq.trans (pl_int (by rfl)) ?_; refine Eq.trans (pl_len (by rfl)) ?_
    refine Eq.trans (ix_lst (by omega) (vv_at hil) (by rfl)) ?_
    refine Eq.trans (hop_eq (by rfl)) ?_; refine Eq.trans (pl_agg (by rfl) (by rfl)) ?_; refine Eq.trans (pl_int (by rfl)) ?_; refine Eq.trans (pl_int (by rfl)) ?_
    refine Eq.trans (snp_free (by rfl)) ?_
    refine Eq.trans (pl_agg (s58 (d + 6) ps i hil hl) (by rfl)) ?_
    refine Eq.trans (pl_int (by rfl)) ?_; refine Eq.trans (pl_int (by rfl)) ?_; refine Eq.trans (pl_len (by rfl)) ?_
    refine Eq.trans al_n ?_; refine Eq.trans al_s ?_; refine Eq.trans al_s ?_; refine Eq.trans al_s ?_
    refine Eq.trans (C0_disj (by rfl)) ?_
    refine Eq.trans (st_s (by rfl) (by rfl) (by rfl)) ?_
    refine Eq.trans (C0_disj (by rfl)) ?_
    refine Eq.trans (st_s (by rfl) (by rfl) (by rfl)) ?_; refine Eq.trans (st_s (by rfl) (by rfl) (by rfl)) ?_; refine Eq.trans (st_s (by rfl) (by rfl) (by rfl)) ?_; refine Eq.trans (ld_s (by rfl) (by rfl) (by rfl)) ?_; refine Eq.trans (pl_agg (by rfl) (by rfl)) ?_; refine Eq.trans (pl_int (by rfl)) ?_; refine Eq.trans (pl_int (by rfl)) ?_; refine Eq.trans (ld_s (by rfl) (by rfl) (by rfl)) ?_; refine Eq.trans (pl_agg (by rfl) (by rfl)) ?_; refine Eq.trans (pl_int (by rfl)) ?_; refine Eq.trans (pl_int (by rfl)) ?_
    rw [pt_beq, w1, w2, w3, cast_beq, cast_beq, show ((k : Int) == 0) = decide (k = 0) from cast_beq k 0]
    simp only [upAll, pairB, apartB]
    by_cases he : vv ps i = vv ps k
    · rw [decide_eq_true he.symm, cnd_t, decide_eq_true he]; exact hR _
    · rw [decide_eq_false (fun h => he h.symm), cnd_f, decide_eq_false he]
      by_cases h1 : i = k + 1
      · rw [decide_eq_true h1, cnd_t, if_pos (by rw [nx_up hk hil, h1])]
        refine Eq.trans (ld_s (by rfl) (by rfl) (by rfl)) ?_; refine Eq.trans (pl_agg (by rfl) (by rfl)) ?_; refine Eq.trans (pl_int (by rfl)) ?_; refine Eq.trans (pl_int (by rfl)) ?_; refine Eq.trans (ld_s (by rfl) (by rfl) (by rfl)) ?_; refine Eq.trans (pl_agg (by rfl) (by rfl)) ?_; refine Eq.trans (pl_int (by rfl)) ?_; refine Eq.trans (pl_int (by rfl)) ?_; refine Eq.trans (ld_s (by rfl) (by rfl) (by rfl)) ?_; refine Eq.trans (pl_agg (by rfl) (by rfl)) ?_; refine Eq.trans (pl_int (by rfl)) ?_; refine Eq.trans (pl_int (by rfl)) ?_
        refine Eq.trans (pl_bool (o (vv ps (nx ps i)) (vv ps k) (vv ps (nx ps k)))) ?_
        cases onB (vv ps (nx ps i)) (vv ps k) (vv ps (nx ps k))
        · refine Eq.trans (pl_f (by rfl)) ?_; refine Eq.trans (ld_s (by rfl) (by rfl) (by rfl)) ?_; refine Eq.trans (pl_agg (by rfl) (by rfl)) ?_; refine Eq.trans (pl_int (by rfl)) ?_; refine Eq.trans (pl_int (by rfl)) ?_; refine Eq.trans (ld_s (by rfl) (by rfl) (by rfl)) ?_; refine Eq.trans (pl_agg (by rfl) (by rfl)) ?_; refine Eq.trans (pl_int (by rfl)) ?_; refine Eq.trans (pl_int (by rfl)) ?_; refine Eq.trans (ld_s (by rfl) (by rfl) (by rfl)) ?_; refine Eq.trans (pl_agg (by rfl) (by rfl)) ?_; refine Eq.trans (pl_int (by rfl)) ?_; refine Eq.trans (pl_int (by rfl)) ?_
          refine Eq.trans (pl_bool (o (vv ps k) (vv ps i) (vv ps (nx ps i)))) ?_
          cases onB (vv ps k) (vv ps i) (vv ps (nx ps i))
          · refine Eq.trans (pl_f (by rfl)) ?_
            exact ih (i + 1) f _ (by omega) (by omega) (by omega)
          · exact hR _
        · exact hR _
      · rw [decide_eq_false h1, cnd_f, if_neg (by rw [nx_up hk hil]; omega)]
        by_cases h2 : k = 0
        · rw [decide_eq_true h2, cnd_t]
          by_cases h3 : i = ps.length - 1
          · rw [decide_eq_true h3, cnd_t, if_pos ((nx_back hk hil).mpr ⟨h2, h3⟩)]
            refine Eq.trans (ld_s (by rfl) (by rfl) (by rfl)) ?_; refine Eq.trans (pl_agg (by rfl) (by rfl)) ?_; refine Eq.trans (pl_int (by rfl)) ?_; refine Eq.trans (pl_int (by rfl)) ?_; refine Eq.trans (ld_s (by rfl) (by rfl) (by rfl)) ?_; refine Eq.trans (pl_agg (by rfl) (by rfl)) ?_; refine Eq.trans (pl_int (by rfl)) ?_; refine Eq.trans (pl_int (by rfl)) ?_; refine Eq.trans (ld_s (by rfl) (by rfl) (by rfl)) ?_; refine Eq.trans (pl_agg (by rfl) (by rfl)) ?_; refine Eq.trans (pl_int (by rfl)) ?_; refine Eq.trans (pl_int (by rfl)) ?_
            refine Eq.trans (pl_bool (o (vv ps i) (vv ps k) (vv ps (nx ps k)))) ?_
            cases onB (vv ps i) (vv ps k) (vv ps (nx ps k))
            · refine Eq.trans (pl_f (by rfl)) ?_; refine Eq.trans (ld_s (by rfl) (by rfl) (by rfl)) ?_; refine Eq.trans (pl_agg (by rfl) (by rfl)) ?_; refine Eq.trans (pl_int (by rfl)) ?_; refine Eq.trans (pl_int (by rfl)) ?_; refine Eq.trans (ld_s (by rfl) (by rfl) (by rfl)) ?_; refine Eq.trans (pl_agg (by rfl) (by rfl)) ?_; refine Eq.trans (pl_int (by rfl)) ?_; refine Eq.trans (pl_int (by rfl)) ?_; refine Eq.trans (ld_s (by rfl) (by rfl) (by rfl)) ?_; refine Eq.trans (pl_agg (by rfl) (by rfl)) ?_; refine Eq.trans (pl_int (by rfl)) ?_; refine Eq.trans (pl_int (by rfl)) ?_
              refine Eq.trans (pl_bool (o (vv ps (nx ps k)) (vv ps i) (vv ps (nx ps i)))) ?_
              cases onB (vv ps (nx ps k)) (vv ps i) (vv ps (nx ps i))
              · refine Eq.trans (pl_f (by rfl)) ?_
                exact ih (i + 1) f _ (by omega) (by omega) (by omega)
              · exact hR _
            · exact hR _
          · rw [decide_eq_false h3, cnd_f, if_neg (fun h => h3 ((nx_back hk hil).mp h).2)]
            refine Eq.trans (ld_s (by rfl) (by rfl) (by rfl)) ?_; refine Eq.trans (pl_agg (by rfl) (by rfl)) ?_; refine Eq.trans (pl_int (by rfl)) ?_; refine Eq.trans (pl_int (by rfl)) ?_; refine Eq.trans (ld_s (by rfl) (by rfl) (by rfl)) ?_; refine Eq.trans (pl_agg (by rfl) (by rfl)) ?_; refine Eq.trans (pl_int (by rfl)) ?_; refine Eq.trans (pl_int (by rfl)) ?_; refine Eq.trans (ld_s (by rfl) (by rfl) (by rfl)) ?_; refine Eq.trans (pl_agg (by rfl) (by rfl)) ?_; refine Eq.trans (pl_int (by rfl)) ?_; refine Eq.trans (pl_int (by rfl)) ?_; refine Eq.trans (ld_s (by rfl) (by rfl) (by rfl)) ?_; refine Eq.trans (pl_agg (by rfl) (by rfl)) ?_; refine Eq.trans (pl_int (by rfl)) ?_; refine Eq.trans (pl_int (by rfl)) ?_
            refine Eq.trans (pl_bool mt) ?_
            cases meetB (vv ps k) (vv ps (nx ps k)) (vv ps i) (vv ps (nx ps i))
            · refine Eq.trans (pl_f (by rfl)) ?_
              exact ih (i + 1) f _ (by omega) (by omega) (by omega)
            · exact hR _
        · rw [decide_eq_false h2, cnd_f, if_neg (fun h => h2 ((nx_back hk hil).mp h).1)]
          refine Eq.trans (ld_s (by rfl) (by rfl) (by rfl)) ?_; refine Eq.trans (pl_agg (by rfl) (by rfl)) ?_; refine Eq.trans (pl_int (by rfl)) ?_; refine Eq.trans (pl_int (by rfl)) ?_; refine Eq.trans (ld_s (by rfl) (by rfl) (by rfl)) ?_; refine Eq.trans (pl_agg (by rfl) (by rfl)) ?_; refine Eq.trans (pl_int (by rfl)) ?_; refine Eq.trans (pl_int (by rfl)) ?_; refine Eq.trans (ld_s (by rfl) (by rfl) (by rfl)) ?_; refine Eq.trans (pl_agg (by rfl) (by rfl)) ?_; refine Eq.trans (pl_int (by rfl)) ?_; refine Eq.trans (pl_int (by rfl)) ?_; refine Eq.trans (ld_s (by rfl) (by rfl) (by rfl)) ?_; refine Eq.trans (pl_agg (by rfl) (by rfl)) ?_; refine Eq.trans (pl_int (by rfl)) ?_; refine Eq.trans (pl_int (by rfl)) ?_
          refine Eq.trans (pl_bool mt) ?_
          cases meetB (vv ps k) (vv ps (nx ps k)) (vv ps i) (vv ps (nx ps i))
          · refine Eq.trans (pl_f (by rfl)) ?_
            exact ih (i + 1) f _ (by omega) (by omega) (by omega)
          · exact hR _
theorem rsimple1 (d : Nat) (ps : List Pt) (hl : ps.length ≤ 140737488355328) : ∀ (m k f : Nat) (H : Heap), k + m = ps.length → m < f →
    L45_1 (d + 7) (ps.map pt) (ps.length : Nat) f (k : Nat) H = some (.bool (upAll (fun k => upAll (fun i => pairB ps k i) (ps.length - k - 1) (k + 1)) m k)) := by
  intro m
  induction m with
  | zero =>
    intro k f H hk hf
    obtain ⟨f, rfl⟩ : ∃ g, f = g + 1 := ⟨f - 1, by omega⟩
    rw [L45_1, decide_eq_false (by omega), cnd_f]; rfl
  | succ m ih =>
    intro k f H hk hf
    obtain ⟨f, rfl⟩ : ∃ g, f = g + 1 := ⟨f - 1, by omega⟩
    rw [L45_1, decide_eq_true (by omega), cnd_t, show IntKind.wrap .i64 ((k : Int) + 1) = ((k + 1 : Nat) : Int) by rw [i64_small (by omega) (by omega)]; rfl]
    refine (rsimple2 d ps k hl _ _ _ (some (.bool false)) (fun H => ih (k + 1) f H (by omega) (by omega)) (fun H => rfl) (ps.length - k - 1) (k + 1) _ H (by omega) (by omega) (by omega)).trans ?_
    simp only [upAll]
    cases upAll (fun i => pairB ps k i) (ps.length - k - 1) (k + 1) <;> rfl
theorem rsimple0 (d : Nat) (ps : List Pt) (hl : ps.length ≤ 140737488355328) : ∀ (l2 : List Pt) (i f : Nat) (H : Heap), ps.drop i = l2 → l2.length < f →
    L45_0 (d + 7) (ps.map pt) (ps.length : Nat) f (i : Nat) H = some (.bool (l2.all okb && allPairs ps)) := by
  intro l2
  induction l2 with
  | nil =>
    intro i f H hd hf
    obtain ⟨f, rfl⟩ : ∃ m, f = m + 1 := ⟨f - 1, by omega⟩
    have : ps.length ≤ i := List.drop_eq_nil_iff.mp hd
    rw [L45_0, decide_eq_false (by omega), cnd_f, X45_0_0]
    refine (rsimple1 d ps hl ps.length 0 1000000000000000000 H (by omega) (by omega)).trans ?_
    unfold allPairs
    rw [pairs_two]; rfl
  | cons p l2 ih =>
    intro i f H hd hf
    obtain ⟨f, rfl⟩ : ∃ m, f = m + 1 := ⟨f - 1, by simp at hf; omega⟩
    have hi : i < ps.length := by
      rcases Nat.lt_or_ge i ps.length with h | h
      · exact h
      · rw [List.drop_eq_nil_of_le h] at hd; cases hd
    have hp : ps[i] = p := by have := List.drop_eq_getElem_cons hi; rw [hd] at this; exact (List.cons.inj this).1.symm
    have hd2 : ps.drop (i + 1) = l2 := by have := List.drop_eq_getElem_cons hi; rw [hd] at this; exact (List.cons.inj this).2.symm
    have hr := s26 (d + 6) ps[i]
    simp only [pt] at hr
    rw [L45_0, decide_eq_true (by omega), cnd_t]
    refine Eq.trans (ix_lst (by omega) (pts_at hi) (by rfl)) ?_
    refine Eq.trans (hop_eq (by rfl)) ?_; refine Eq.trans (pl_agg (by rfl) (by rfl)) ?_; refine Eq.trans (pl_int (by rfl)) ?_; refine Eq.trans (pl_int (by rfl)) ?_
    rw [hr, C0_bool, hp, List.all_cons]
    change cnd (!okb p) _ _ = _
    cases okb p
    · rfl
    · refine Eq.trans (pl_f (by rfl)) ?_
      rw [show IntKind.wrap .i64 ((i : Int) + 1) = ((i + 1 : Nat) : Int) by rw [IntKind.wrap_i64]; omega, ih (i + 1) f _ hd2 (by simp at hf; omega), Bool.true_and]
theorem s45 (d : Nat) (ps : List Pt) (hl : ps.length ≤ 140737488355328) : pcall M (d + 8) 45 [.lst (ps.map pt)] = some (.bool (simpleB ps)) := told (q45 (d + 7) _) (by
  refine Eq.trans (hop_eq (by rfl)) ?_; refine Eq.trans (pl_int (by rfl)) ?_
  have h0 := rsimple0 d ps hl ps 0 1000000000000000000 [] rfl (by omega)
  rw [pmap_len]
  unfold simpleB
  by_cases h1 : 3 ≤ ps.length
  · rw [decide_eq_false (by omega), cnd_f, decide_eq_true h1]
    by_cases h2 : ps.length ≤ 8
    · rw [decide_eq_false (by omega), cnd_f, decide_eq_true h2]
      exact h0
    · rw [decide_eq_true (by omega), cnd_t, decide_eq_false h2]; rfl
  · rw [decide_eq_true (by omega), cnd_t, decide_eq_false h1]; rfl)
theorem rright0 (d : Nat) (ps : List Pt) (h8 : ps.length ≤ 8) : ∀ (l2 : List Pt) (i f : Nat), ps.drop i = l2 → l2.length < f →
    L29_0 (d + 8) (ps.map pt) f (i : Nat) = some (.bool (!l2.any farB && simpleB ps)) := by
  intro l2
  induction l2 with
  | nil =>
    intro i f hd hf
    obtain ⟨f, rfl⟩ : ∃ m, f = m + 1 := ⟨f - 1, by omega⟩
    have : ps.length ≤ i := List.drop_eq_nil_iff.mp hd
    rw [L29_0, pmap_len, decide_eq_false (by omega), cnd_f, X29_0_0, s45 d ps (by omega), C0_bool]; rfl
  | cons p l2 ih =>
    intro i f hd hf
    obtain ⟨f, rfl⟩ : ∃ m, f = m + 1 := ⟨f - 1, by simp at hf; omega⟩
    have hi : i < ps.length := by
      rcases Nat.lt_or_ge i ps.length with h | h
      · exact h
      · rw [List.drop_eq_nil_of_le h] at hd; cases hd
    have hp : ps[i] = p := by have := List.drop_eq_getElem_cons hi; rw [hd] at this; exact (List.cons.inj this).1.symm
    have hd2 : ps.drop (i + 1) = l2 := by have := List.drop_eq_getElem_cons hi; rw [hd] at this; exact (List.cons.inj this).2.symm
    rw [L29_0, pmap_len, decide_eq_true (by omega), cnd_t, decide_eq_true (by omega), cnd_t, decide_eq_true (by omega), cnd_t, pts_at hi, hp]
    refine Eq.trans (pl_agg (by rfl) (by rfl)) ?_; refine Eq.trans (pl_int (by rfl)) ?_; refine Eq.trans (pl_int (by rfl)) ?_
    rw [List.any_cons]
    by_cases c1 : p.1 < -1073741824
    · rw [decide_eq_true c1, cnd_t, show farB p = true by unfold farB; rw [decide_eq_false (by omega)]; rfl]; rfl
    · rw [decide_eq_false c1, cnd_f, cnd_t]
      refine Eq.trans (pl_agg (by rfl) (by rfl)) ?_; refine Eq.trans (pl_int (by rfl)) ?_; refine Eq.trans (pl_int (by rfl)) ?_
      by_cases c2 : p.1 > 1073741824
      · rw [decide_eq_true c2, cnd_t, show farB p = true by unfold farB; rw [decide_eq_false (by omega)]; rfl]; rfl
      · rw [decide_eq_false c2, cnd_f, cnd_t]
        refine Eq.trans (pl_agg (by rfl) (by rfl)) ?_; refine Eq.trans (pl_int (by rfl)) ?_; refine Eq.trans (pl_int (by rfl)) ?_
        by_cases c3 : p.2 < -1073741824
        · rw [decide_eq_true c3, cnd_t, show farB p = true by unfold farB; rw [decide_eq_false (by omega)]; rfl]; rfl
        · rw [decide_eq_false c3, cnd_f, cnd_t]
          refine Eq.trans (pl_agg (by rfl) (by rfl)) ?_; refine Eq.trans (pl_int (by rfl)) ?_; refine Eq.trans (pl_int (by rfl)) ?_
          by_cases c4 : p.2 > 1073741824
          · rw [decide_eq_true c4, cnd_t, show farB p = true by unfold farB; rw [decide_eq_false (by omega)]; rfl]; rfl
          · rw [decide_eq_false c4, cnd_f, show farB p = false by unfold farB; rw [decide_eq_true (by omega)]; rfl, show IntKind.wrap .i64 ((i : Int) + 1) = ((i + 1 : Nat) : Int) by rw [IntKind.wrap_i64]; omega,
              ih (i + 1) f hd2 (by simp at hf; omega), Bool.false_or]
theorem s29 (d : Nat) (ps : List Pt) (hl : ps.length ≤ 140737488355328) : pcall M (d + 9) 29 [.lst (ps.map pt)] = some (.bool (rightB ps)) := told (q29 (d + 8) _) (by
  by_cases h8 : ps.length ≤ 8
  · refine (rright0 d ps h8 ps 0 1000000000000000000 rfl (by omega)).trans ?_
    rw [Bool.and_comm]; rfl
  · have : rightB ps = false := by
      rw [← Bool.not_eq_true]; intro h
      unfold rightB at h
      exact h8 (simple_ok (Bool.and_eq_true_iff.mp h).1).2.1
    rw [this, show (1000000000000000000 : Nat) = 999999999999999999 + 1 from rfl, L29_0, pmap_len, decide_eq_true (by omega), cnd_t, decide_eq_false (by omega), cnd_f, X29_0_0, s45 d ps hl, C0_bool]
    congr 2
    rw [← Bool.not_eq_true]; intro h; exact h8 (simple_ok h).2.1)
end Go.Proofs.Ytjblhppbjebagaa.AE

namespace Go.Proofs.Ytjblhppbjebagaa.Geo
theorem id_ab (a b p q v : Pt) (h : v = a ∨ v = b) : (b.2 - a.2) * TN p q v = TN a b p * (v.2 - q.2) - TN a b q * (v.2 - p.2) := by
  rcases h with rfl | rfl <;> (unfold TN; grind)
theorem pos_of_mul {x y : Int} (hy : 0 < y) (h : 0 < x * y) : 0 < x := by
  refine Int.not_le.1 fun c => ?_
  have := Int.mul_nonneg (show 0 ≤ -x by omega) (show 0 ≤ y by omega)
  rw [Int.neg_mul] at this; omega
theorem neg_of_mul {x y : Int} (hy : 0 < y) (h : x * y < 0) : x < 0 := by
  refine Int.not_le.1 fun c => ?_
  have := Int.mul_nonneg c (show 0 ≤ y by omega)
  omega
theorem mul_nn_pos {x y : Int} (hx : x < 0) (hy : y < 0) : 0 < x * y := by
  have := Int.mul_pos (show 0 < -x by omega) (show 0 < -y by omega)
  rwa [Int.neg_mul_neg] at this
theorem Cross_of {a b p q : Pt} (h1 : (TN a b p < 0 ∧ TN a b q > 0) ∨ (TN a b p > 0 ∧ TN a b q < 0)) (h2 : (TN p q a < 0 ∧ TN p q b > 0) ∨ (TN p q a > 0 ∧ TN p q b < 0)) : Meet p q a b :=
  Or.inr (Or.inr (Or.inr (Or.inr ⟨sg_mul_neg.2 h2, sg_mul_neg.2 h1⟩)))
/-- THE EDGE AND THE WAY, the edge told from its lower end, the way from its lower one. -/
theorem parity_up (p q a b : Pt) (hpq : p.2 ≤ q.2) (hab : a.2 ≤ b.2) (hm : ¬ Meet p q a b) :
    ((CrsU p a b ↔ CrsU q a b) ↔ (Rgt p q a ↔ Rgt p q b)) := by
  have np : ¬ On p a b := fun h => hm (Or.inl h)
  have nq : ¬ On q a b := fun h => hm (Or.inr (Or.inl h))
  have na : ¬ On a p q := fun h => hm (Or.inr (Or.inr (Or.inl h)))
  have nb : ¬ On b p q := fun h => hm (Or.inr (Or.inr (Or.inr (Or.inl h))))
  have nc : ∀ (_ : (TN a b p < 0 ∧ TN a b q > 0) ∨ (TN a b p > 0 ∧ TN a b q < 0)) (_ : (TN p q a < 0 ∧ TN p q b > 0) ∨ (TN p q a > 0 ∧ TN p q b < 0)), False := fun h1 h2 => hm (Cross_of h1 h2)
  have ia := id_ab a b p q a (Or.inl rfl)
  have ib := id_ab a b p q b (Or.inr rfl)
  have ip := id_ab p q a b p (Or.inl rfl)
  have iq := id_ab p q a b q (Or.inr rfl)
  generalize hP : TN a b p = P at *
  generalize hQ : TN a b q = Q at *
  generalize hA : TN p q a = A at *
  generalize hB : TN p q b = B at *
  unfold CrsU Rgt
  rw [hP, hQ, hA, hB]
  by_cases c1 : b.2 ≤ p.2
  · -- both below
    constructor <;> intro _ <;> constructor <;> intro h <;> omega
  · by_cases c2 : q.2 < a.2
    · constructor <;> intro _ <;> constructor <;> intro h <;> omega
    · by_cases c3 : a.2 ≤ p.2
      · by_cases c4 : q.2 < b.2
        · -- below, above: the edge spans both heights
          have key : P > 0 ↔ Q > 0 := by
            constructor
            · intro h
              refine Int.not_le.1 fun h' => ?_
              by_cases h0 : Q = 0
              · exact nq (On_of_height (by rw [hQ]; exact h0) (by omega) (by omega) (by omega))
              · have h5 : Q < 0 := by omega
                have d1 := mul_pn (show 0 ≤ P by omega) (show a.2 - q.2 ≤ 0 by omega)
                have d2 := mul_nn (show Q ≤ 0 by omega) (show a.2 - p.2 ≤ 0 by omega)
                have d3 := Int.mul_pos h (show 0 < b.2 - q.2 by omega)
                have d4 := mul_np (show Q ≤ 0 by omega) (show 0 ≤ b.2 - p.2 by omega)
                have hb1 : 0 < B := pos_of_mul (show 0 < b.2 - a.2 by omega) (by rw [Int.mul_comm]; omega)
                by_cases h1 : A < 0
                · exact nc (Or.inr ⟨h, h5⟩) (Or.inl ⟨h1, hb1⟩)
                · -- a is on the line, at the way's one height
                  have : (b.2 - a.2) * A ≤ 0 := by omega
                  have hA0 : A = 0 := by
                    refine Int.le_antisymm (Int.not_lt.1 fun c => ?_) (by omega)
                    have := Int.mul_pos (show 0 < b.2 - a.2 by omega) c; omega
                  rw [hA0, Int.mul_zero] at ia
                  have e1 : a.2 = q.2 := by
                    refine Int.le_antisymm (by omega) (Int.not_lt.1 fun c => ?_)
                    have := mul_pn_neg h (show a.2 - q.2 < 0 by omega); omega
                  have hpq2 : p.2 = q.2 := by omega
                  refine na ⟨by rw [hA]; exact hA0, ?_⟩
                  -- p.1 < a.1 < q.1
                  unfold TN at hP hQ
                  rw [show p.2 - a.2 = 0 by omega, Int.mul_zero] at hP
                  rw [show q.2 - a.2 = 0 by omega, Int.mul_zero] at hQ
                  have x1 : p.1 < a.1 := by
                    refine Int.not_le.1 fun c => ?_
                    have := Int.mul_nonneg (show 0 ≤ b.2 - a.2 by omega) (show 0 ≤ p.1 - a.1 by omega); omega
                  have x2 : a.1 < q.1 := by
                    refine Int.not_le.1 fun c => ?_
                    have := mul_pn (show 0 ≤ b.2 - a.2 by omega) (show q.1 - a.1 ≤ 0 by omega); omega
                  unfold Btw; omega
            · intro h
              refine Int.not_le.1 fun h' => ?_
              by_cases h0 : P = 0
              · exact np (On_of_height (by rw [hP]; exact h0) (by omega) (by omega) (by omega))
              · have h5 : P < 0 := by omega
                have d1 := mul_nn (show P ≤ 0 by omega) (show a.2 - q.2 ≤ 0 by omega)
                have d2 := mul_pn (show 0 ≤ Q by omega) (show a.2 - p.2 ≤ 0 by omega)
                have d3 := mul_np_neg h5 (show 0 < b.2 - q.2 by omega)
                have d4 := Int.mul_nonneg (show 0 ≤ Q by omega) (show 0 ≤ b.2 - p.2 by omega)
                have hb1 : B < 0 := neg_of_mul (show 0 < b.2 - a.2 by omega) (by rw [Int.mul_comm]; omega)
                by_cases h1 : A > 0
                · exact nc (Or.inl ⟨h5, h⟩) (Or.inr ⟨h1, hb1⟩)
                · have : 0 ≤ (b.2 - a.2) * A := by omega
                  have hA0 : A = 0 := by
                    refine Int.le_antisymm (by omega) (Int.not_lt.1 fun c => ?_)
                    have := mul_pn_neg (show 0 < b.2 - a.2 by omega) c; omega
                  rw [hA0, Int.mul_zero] at ia
                  have e1 : a.2 = q.2 := by
                    refine Int.le_antisymm (by omega) (Int.not_lt.1 fun c => ?_)
                    have := mul_nn_pos h5 (show a.2 - q.2 < 0 by omega); omega
                  refine na ⟨by rw [hA]; exact hA0, ?_⟩
                  unfold TN at hP hQ
                  rw [show p.2 - a.2 = 0 by omega, Int.mul_zero] at hP
                  rw [show q.2 - a.2 = 0 by omega, Int.mul_zero] at hQ
                  have x1 : a.1 < p.1 := by
                    refine Int.not_le.1 fun c => ?_
                    have := mul_pn (show 0 ≤ b.2 - a.2 by omega) (show p.1 - a.1 ≤ 0 by omega); omega
                  have x2 : q.1 < a.1 := by
                    refine Int.not_le.1 fun c => ?_
                    have := Int.mul_nonneg (show 0 ≤ b.2 - a.2 by omega) (show 0 ≤ q.1 - a.1 by omega); omega
                  unfold Btw; omega
          constructor
          · intro _; constructor <;> intro h <;> omega
          · intro _
            constructor
            · intro h; exact ⟨by omega, by omega, key.1 h.2.2⟩
            · intro h; exact ⟨by omega, by omega, key.2 h.2.2⟩
        · -- below, between
          have key : P > 0 ↔ B < 0 := by
            have e := ip
            constructor
            · intro h
              refine Int.not_le.1 fun h' => ?_
              by_cases h0 : B = 0
              · exact nb (On_of_height (by rw [hB]; exact h0) (by omega) (by omega) (by omega))
              · have h5 : B > 0 := by omega
                have d0 := Int.mul_pos (show 0 < q.2 - p.2 by omega) h
                have d1 := Int.mul_nonneg (show 0 ≤ B by omega) (show 0 ≤ p.2 - a.2 by omega)
                have hA1 : A < 0 := by
                  refine Int.not_le.1 fun c => ?_
                  have := mul_pn c (show p.2 - b.2 ≤ 0 by omega); omega
                have d2 := mul_np (show A ≤ 0 by omega) (show 0 ≤ q.2 - b.2 by omega)
                have d3 := Int.mul_pos h5 (show 0 < q.2 - a.2 by omega)
                have hQ1 : Q < 0 := neg_of_mul (show 0 < q.2 - p.2 by omega) (by rw [Int.mul_comm]; omega)
                exact nc (Or.inr ⟨h, hQ1⟩) (Or.inl ⟨hA1, h5⟩)
            · intro h
              refine Int.not_le.1 fun h' => ?_
              by_cases h0 : P = 0
              · exact np (On_of_height (by rw [hP]; exact h0) (by omega) (by omega) (by omega))
              · have h5 : P < 0 := by omega
                have d0 := mul_pn_neg (show 0 < q.2 - p.2 by omega) h5
                have d1 := mul_np (show B ≤ 0 by omega) (show 0 ≤ p.2 - a.2 by omega)
                have hA1 : A > 0 := by
                  refine Int.not_le.1 fun c => ?_
                  have := mul_nn c (show p.2 - b.2 ≤ 0 by omega); omega
                have d2 := Int.mul_nonneg (show 0 ≤ A by omega) (show 0 ≤ q.2 - b.2 by omega)
                have d3 := mul_np_neg h (show 0 < q.2 - a.2 by omega)
                have hQ1 : Q > 0 := pos_of_mul (show 0 < q.2 - p.2 by omega) (by rw [Int.mul_comm]; omega)
                exact nc (Or.inl ⟨h5, hQ1⟩) (Or.inr ⟨hA1, h⟩)
          constructor
          · intro h
            constructor
            · intro h'; omega
            · intro h'
              have := h.1 ⟨by omega, by omega, key.2 h'.2.2⟩; omega
          · intro h
            constructor
            · intro h'
              have := h.2 ⟨by omega, by omega, key.1 h'.2.2⟩; omega
            · intro h'; omega
      · by_cases c4 : q.2 < b.2
        · -- between, above
          have key : Q > 0 ↔ A < 0 := by
            constructor
            · intro h
              refine Int.not_le.1 fun h' => ?_
              by_cases h0 : A = 0
              · exact na (On_of_height (by rw [hA]; exact h0) (by omega) (by omega) (by omega))
              · have h5 : A > 0 := by omega
                have d0 := Int.mul_pos (show 0 < q.2 - p.2 by omega) h
                have d1 := mul_pn_neg h5 (show q.2 - b.2 < 0 by omega)
                have hB1 : B < 0 := by
                  refine Int.not_le.1 fun c => ?_
                  have := Int.mul_nonneg c (show 0 ≤ q.2 - a.2 by omega); omega
                have d2 := mul_pn_neg h5 (show p.2 - b.2 < 0 by omega)
                have d3 := mul_nn_pos hB1 (show p.2 - a.2 < 0 by omega)
                have hP1 : P < 0 := neg_of_mul (show 0 < q.2 - p.2 by omega) (by rw [Int.mul_comm]; omega)
                exact nc (Or.inl ⟨hP1, h⟩) (Or.inr ⟨h5, hB1⟩)
            · intro h
              refine Int.not_le.1 fun h' => ?_
              by_cases h0 : Q = 0
              · exact nq (On_of_height (by rw [hQ]; exact h0) (by omega) (by omega) (by omega))
              · have h5 : Q < 0 := by omega
                have d0 := mul_pn_neg (show 0 < q.2 - p.2 by omega) h5
                have d1 := mul_nn_pos h (show q.2 - b.2 < 0 by omega)
                have hB1 : B > 0 := by
                  refine Int.not_le.1 fun c => ?_
                  have := mul_np c (show 0 ≤ q.2 - a.2 by omega); omega
                have d2 := mul_nn_pos h (show p.2 - b.2 < 0 by omega)
                have d3 := mul_pn_neg hB1 (show p.2 - a.2 < 0 by omega)
                have hP1 : P > 0 := pos_of_mul (show 0 < q.2 - p.2 by omega) (by rw [Int.mul_comm]; omega)
                exact nc (Or.inr ⟨hP1, h5⟩) (Or.inl ⟨h, hB1⟩)
          constructor
          · intro h
            constructor
            · intro h'
              have := h.2 ⟨by omega, by omega, key.2 h'.2.2⟩; omega
            · intro h'; omega
          · intro h
            constructor
            · intro h'; omega
            · intro h'
              have := h.1 ⟨by omega, by omega, key.1 h'.2.2⟩; omega
        · -- both between
          have key : A < 0 ↔ B < 0 := by
            constructor
            · intro h
              refine Int.not_le.1 fun h' => ?_
              by_cases h0 : B = 0
              · exact nb (On_of_height (by rw [hB]; exact h0) (by omega) (by omega) (by omega))
              · have h5 : B > 0 := by omega
                have d1 := mul_nn_pos h (show p.2 - b.2 < 0 by omega)
                have d2 := mul_pn_neg h5 (show p.2 - a.2 < 0 by omega)
                have hP1 : P > 0 := pos_of_mul (show 0 < q.2 - p.2 by omega) (by rw [Int.mul_comm]; omega)
                have d3 := mul_np (show A ≤ 0 by omega) (show 0 ≤ q.2 - b.2 by omega)
                have d4 := Int.mul_nonneg (show 0 ≤ B by omega) (show 0 ≤ q.2 - a.2 by omega)
                by_cases h6 : Q < 0
                · exact nc (Or.inr ⟨hP1, h6⟩) (Or.inl ⟨h, h5⟩)
                · have h7 : (q.2 - p.2) * Q ≤ 0 := by omega
                  have hQ0 : Q = 0 := by
                    refine Int.le_antisymm (Int.not_lt.1 fun c => ?_) (by omega)
                    have := Int.mul_pos (show 0 < q.2 - p.2 by omega) c; omega
                  rw [hQ0, Int.mul_zero] at iq
                  have e1 : q.2 = a.2 := by
                    refine Int.le_antisymm (Int.not_lt.1 fun c => ?_) (by omega)
                    have := Int.mul_pos h5 (show 0 < q.2 - a.2 by omega); omega
                  refine nq ⟨by rw [hQ]; exact hQ0, ?_⟩
                  unfold TN at hA hB
                  have ea : A = (q.2 - p.2) * (q.1 - a.1) := by rw [← hA, ← e1]; grind
                  have eb : B = (q.2 - p.2) * (q.1 - b.1) := by rw [← hB, show b.2 = q.2 by omega]; grind
                  have x1 : q.1 < a.1 := by
                    refine Int.not_le.1 fun c => ?_
                    have := Int.mul_nonneg (show 0 ≤ q.2 - p.2 by omega) (show 0 ≤ q.1 - a.1 by omega); omega
                  have x2 : b.1 < q.1 := by
                    refine Int.not_le.1 fun c => ?_
                    have := mul_pn (show 0 ≤ q.2 - p.2 by omega) (show q.1 - b.1 ≤ 0 by omega); omega
                  unfold Btw; omega
            · intro h
              refine Int.not_le.1 fun h' => ?_
              by_cases h0 : A = 0
              · exact na (On_of_height (by rw [hA]; exact h0) (by omega) (by omega) (by omega))
              · have h5 : A > 0 := by omega
                have d1 := mul_pn_neg h5 (show p.2 - b.2 < 0 by omega)
                have d2 := mul_nn_pos h (show p.2 - a.2 < 0 by omega)
                have hP1 : P < 0 := neg_of_mul (show 0 < q.2 - p.2 by omega) (by rw [Int.mul_comm]; omega)
                have d3 := Int.mul_nonneg (show 0 ≤ A by omega) (show 0 ≤ q.2 - b.2 by omega)
                have d4 := mul_np (show B ≤ 0 by omega) (show 0 ≤ q.2 - a.2 by omega)
                by_cases h6 : Q > 0
                · exact nc (Or.inl ⟨hP1, h6⟩) (Or.inr ⟨h5, h⟩)
                · have h7 : 0 ≤ (q.2 - p.2) * Q := by omega
                  have hQ0 : Q = 0 := by
                    refine Int.le_antisymm (by omega) (Int.not_lt.1 fun c => ?_)
                    have := mul_pn_neg (show 0 < q.2 - p.2 by omega) c; omega
                  rw [hQ0, Int.mul_zero] at iq
                  have e1 : q.2 = a.2 := by
                    refine Int.le_antisymm (Int.not_lt.1 fun c => ?_) (by omega)
                    have := mul_np_neg h (show 0 < q.2 - a.2 by omega); omega
                  refine nq ⟨by rw [hQ]; exact hQ0, ?_⟩
                  unfold TN at hA hB
                  have ea : A = (q.2 - p.2) * (q.1 - a.1) := by rw [← hA, ← e1]; grind
                  have eb : B = (q.2 - p.2) * (q.1 - b.1) := by rw [← hB, show b.2 = q.2 by omega]; grind
                  have x1 : a.1 < q.1 := by
                    refine Int.not_le.1 fun c => ?_
                    have := mul_pn (show 0 ≤ q.2 - p.2 by omega) (show q.1 - a.1 ≤ 0 by omega); omega
                  have x2 : q.1 < b.1 := by
                    refine Int.not_le.1 fun c => ?_
                    have := Int.mul_nonneg (show 0 ≤ q.2 - p.2 by omega) (show 0 ≤ q.1 - b.1 by omega); omega
                  unfold Btw; omega
          constructor
          · intro _
            constructor
            · intro h; exact ⟨by omega, by omega, key.1 h.2.2⟩
            · intro h; exact ⟨by omega, by omega, key.2 h.2.2⟩
          · intro _; constructor <;> intro h <;> omega
end Go.Proofs.Ytjblhppbjebagaa.Geo

namespace Go.Proofs.Ytjblhppbjebagaa.Geo
/-- Is it said of an odd number of the first n? -/
def xr (f : Nat → Bool) : Nat → Bool
  | 0 => false
  | n + 1 => xor (xr f n) (f n)
theorem xr_xor (f g : Nat → Bool) : ∀ n, xr (fun i => xor (f i) (g i)) n = xor (xr f n) (xr g n)
  | 0 => rfl
  | n + 1 => by
    simp only [xr, xr_xor f g n]
    cases xr f n <;> cases xr g n <;> cases f n <;> cases g n <;> rfl
theorem xr_congr {f g : Nat → Bool} : ∀ {n : Nat}, (∀ i, i < n → f i = g i) → xr f n = xr g n
  | 0, _ => rfl
  | n + 1, h => by simp only [xr]; rw [xr_congr (fun i hi => h i (by omega)), h n (by omega)]
theorem xr_shift (f : Nat → Bool) : ∀ m, xr f (m + 1) = xor (f 0) (xr (fun i => f (i + 1)) m)
  | 0 => by simp [xr]
  | m + 1 => by
    rw [xr, xr_shift f m]
    simp only [xr]
    cases f 0 <;> cases xr (fun i => f (i + 1)) m <;> cases f (m + 1) <;> rfl
theorem xr_rot (f : Nat → Bool) (n : Nat) : xr (fun i => f ((i + 1) % n)) n = xr f n := by
  cases n with
  | zero => rfl
  | succ m =>
    rw [xr_shift f m]
    simp only [xr, Nat.mod_self]
    rw [xr_congr (g := fun i => f (i + 1)) (fun i hi => by rw [Nat.mod_eq_of_lt (by omega)])]
    cases f 0 <;> cases xr (fun i => f (i + 1)) m <;> rfl
/-- What is told of both ends comes to nothing, all the way round. -/
theorem xr_ends (r : Nat → Bool) (n : Nat) : xr (fun i => xor (r i) (r ((i + 1) % n))) n = false := by
  rw [xr_xor r (fun i => r ((i + 1) % n)), xr_rot]; cases xr r n <;> rfl
/-- The ray from p meets an odd number of edges of the polygon of n corners. -/
def odd (p : Pt) (v : Nat → Pt) (n : Nat) : Bool := xr (fun i => decide (Crs p (v i) (v ((i + 1) % n)))) n
theorem parity_dec (p q a b : Pt) (hpq : p.2 ≤ q.2) (hm : ¬ Meet p q a b) :
    xor (decide (Crs p a b)) (decide (Crs q a b)) = xor (decide (Rgt p q a)) (decide (Rgt p q b)) := by
  have none : ∀ x u w : Pt, u.2 ≤ w.2 → ¬ CrsU x w u := fun x u w h h' => by unfold CrsU at h'; omega
  rcases Int.le_total a.2 b.2 with h | h
  · have k := parity_up p q a b hpq h hm
    have e1 : Crs p a b ↔ CrsU p a b := ⟨fun x => x.elim id (fun y => absurd y (none p a b h)), Or.inl⟩
    have e2 : Crs q a b ↔ CrsU q a b := ⟨fun x => x.elim id (fun y => absurd y (none q a b h)), Or.inl⟩
    have d1 : decide (Crs p a b) = decide (CrsU p a b) := decide_eq_decide.2 e1
    have d2 : decide (Crs q a b) = decide (CrsU q a b) := decide_eq_decide.2 e2
    rw [d1, d2]
    by_cases x1 : CrsU p a b <;> by_cases x2 : CrsU q a b <;> by_cases x3 : Rgt p q a <;> by_cases x4 : Rgt p q b <;> simp_all
  · have k := parity_up p q b a hpq h (fun m => hm (Meet_cd.1 m))
    have e1 : Crs p a b ↔ CrsU p b a := ⟨fun x => x.elim (fun y => absurd y (none p b a h)) id, Or.inr⟩
    have e2 : Crs q a b ↔ CrsU q b a := ⟨fun x => x.elim (fun y => absurd y (none q b a h)) id, Or.inr⟩
    have d1 : decide (Crs p a b) = decide (CrsU p b a) := decide_eq_decide.2 e1
    have d2 : decide (Crs q a b) = decide (CrsU q b a) := decide_eq_decide.2 e2
    rw [d1, d2]
    by_cases x1 : CrsU p b a <;> by_cases x2 : CrsU q b a <;> by_cases x3 : Rgt p q a <;> by_cases x4 : Rgt p q b <;> simp_all
/-- THE THEOREM: of two places whose way meets no edge the rays meet as many, but for an even number. -/
theorem odd_same (p q : Pt) (v : Nat → Pt) (n : Nat) (hm : ∀ i, i < n → ¬ Meet p q (v i) (v ((i + 1) % n))) : odd p v n = odd q v n := by
  have one : ∀ p q : Pt, p.2 ≤ q.2 → (∀ i, i < n → ¬ Meet p q (v i) (v ((i + 1) % n))) → odd p v n = odd q v n := by
    intro p q hpq hm
    have h := xr_xor (fun i => decide (Crs p (v i) (v ((i + 1) % n)))) (fun i => decide (Crs q (v i) (v ((i + 1) % n)))) n
    rw [xr_congr (fun i hi => parity_dec p q (v i) (v ((i + 1) % n)) hpq (hm i hi)), xr_ends (fun i => decide (Rgt p q (v i))) n] at h
    unfold odd
    revert h
    cases xr (fun i => decide (Crs p (v i) (v ((i + 1) % n)))) n <;> cases xr (fun i => decide (Crs q (v i) (v ((i + 1) % n)))) n <;> simp
  rcases Int.le_total p.2 q.2 with h | h
  · exact one p q h hm
  · exact (one q p h (fun i hi m => hm i hi (Meet_ab.1 m))).symm
end Go.Proofs.Ytjblhppbjebagaa.Geo

namespace Go.Proofs.Ytjblhppbjebagaa.AE
set_option linter.unusedVariables false
set_option linter.unusedSimpArgs false
set_option linter.constructorNameAsVariable false
open Go Go.Proofs.Ytjblhppbjebagaa.Geo
theorem sideUp_off (ps : List Pt) (p : Pt) : ∀ (m i : Nat) (o : Bool), (∀ j, i ≤ j → j < i + m → onB p (vv ps j) (vv ps (nx ps j)) = false) → sideUp ps p m i o = sgn1 (xor o (xr (fun k => crsB ps p (i + k)) m))
  | 0, i, o, h => by simp [sideUp, xr, sgn1]
  | m + 1, i, o, h => by
    simp only [sideUp, h i (Nat.le_refl _) (by omega), cond_false]
    rw [sideUp_off ps p m (i + 1) _ (fun j a b => h j (by omega) (by omega)), xr_shift]
    have e : xr (fun k => crsB ps p (i + 1 + k)) m = xr (fun k => crsB ps p (i + (k + 1))) m := xr_congr fun k _ => by rw [Nat.add_assoc, Nat.add_comm 1 k]
    rw [e, Nat.add_zero, Bool.xor_assoc]
theorem onB_off {p a b : Pt} (h : ¬ On p a b) : onB p a b = false := decide_eq_false fun g => h g.2
theorem sideB_odd {ps : List Pt} {p : Pt} (hr : rightB ps = true) (hp : okb p = true) (h : ∀ j, j < ps.length → ¬ On p (vv ps j) (vv ps (nx ps j))) : sideB ps p = sgn1 (odd p (vv ps) ps.length) := by
  unfold sideB
  rw [hr, hp]
  simp only [cond_true]
  rw [sideUp_off ps p ps.length 0 false (fun j _ b => onB_off (h j (by omega)))]
  simp only [Bool.false_xor, Nat.zero_add]
  rfl
theorem sgn1_ne (o : Bool) : sgn1 o ≠ 0 := by cases o <;> decide
/-- Of two places whose way meets no edge both are on one side. -/
theorem side_same {ps : List Pt} {p q : Pt} (hr : rightB ps = true) (hp : okb p = true) (hq : okb q = true) (hm : ∀ j, j < ps.length → ¬ Meet p q (vv ps j) (vv ps (nx ps j))) : sideB ps p = sideB ps q ∧ sideB ps p ≠ 0 := by
  have n1 : ∀ j, j < ps.length → ¬ On p (vv ps j) (vv ps (nx ps j)) := fun j hj h => hm j hj (.inl h)
  have n2 : ∀ j, j < ps.length → ¬ On q (vv ps j) (vv ps (nx ps j)) := fun j hj h => hm j hj (.inr (.inl h))
  rw [sideB_odd hr hp n1, sideB_odd hr hq n2, odd_same p q (vv ps) ps.length hm]
  exact ⟨rfl, sgn1_ne _⟩
end Go.Proofs.Ytjblhppbjebagaa.AE

namespace Go.Proofs.Ytjblhppbjebagaa.Geo
/-- A way between two places of the box, that meets another way: that one meets the box. -/
theorem MeetB_of_meet {x0 y0 x1 y1 : Int} {p q u v : Pt} (hx : x0 ≤ x1) (hy : y0 ≤ y1) (hp : HasB x0 y0 x1 y1 u) (hq : HasB x0 y0 x1 y1 v) (h : Meet p q u v) : MeetB x0 y0 x1 y1 p q :=
  (MeetB_iff hx hy).2 (side_met hp hq (fun w hw => by unfold Btw at hw; unfold HasB at *; omega) h)
end Go.Proofs.Ytjblhppbjebagaa.Geo

namespace Go.Proofs.Ytjblhppbjebagaa.AE
set_option linter.unusedVariables false
set_option linter.unusedSimpArgs false
set_option linter.constructorNameAsVariable false
open Go Go.Proofs.Ytjblhppbjebagaa.Geo
theorem upAny_iff (f : Nat → Bool) : ∀ (m i : Nat), upAny f m i = true ↔ ∃ j, i ≤ j ∧ j < i + m ∧ f j = true
  | 0, i => by simp only [upAny]; exact ⟨fun h => (by cases h), fun ⟨j, h1, h2, _⟩ => (by omega)⟩
  | m + 1, i => by
    simp only [upAny, Bool.or_eq_true, upAny_iff f m (i + 1)]
    constructor
    · rintro (h | ⟨j, h1, h2, h3⟩)
      · exact ⟨i, Nat.le_refl _, by omega, h⟩
      · exact ⟨j, by omega, by omega, h3⟩
    · rintro ⟨j, h1, h2, h3⟩
      by_cases hj : j = i
      · subst hj; exact .inl h3
      · exact .inr ⟨j, by omega, by omega, h3⟩
end Go.Proofs.Ytjblhppbjebagaa.AE

namespace Go.Proofs.Ytjblhppbjebagaa.AE
set_option linter.unusedVariables false
set_option linter.unusedSimpArgs false
set_option linter.constructorNameAsVariable false
open Go Go.Proofs.Ytjblhppbjebagaa.Geo
def toX (b : Bx) (p : Pt) : Pt := (min (max p.1 b.1.1) b.2.1, min (max p.2 b.1.2) b.2.2)
end Go.Proofs.Ytjblhppbjebagaa.AE

namespace Go.Proofs.Ytjblhppbjebagaa.AE
set_option linter.unusedVariables false
set_option linter.unusedSimpArgs false
set_option linter.constructorNameAsVariable false
open Go Go.Proofs.Ytjblhppbjebagaa.Geo
theorem corner_neg {x0 y0 x1 y1 : Int} {p q v : Pt} (hv : HasB x0 y0 x1 y1 v) (h : TN p q (x0, y0) < 0 ∧ TN p q (x1, y0) < 0 ∧ TN p q (x1, y1) < 0 ∧ TN p q (x0, y1) < 0) : TN p q v < 0 := by
  obtain ⟨h1, h2, h3, h4⟩ := h
  have := corner_pos (p := q) (q := p) hv ⟨by rw [TN_swap]; omega, by rw [TN_swap]; omega, by rw [TN_swap]; omega, by rw [TN_swap]; omega⟩
  rw [TN_swap] at this; omega
theorem MeetB_mono {a b c e x0 y0 x1 y1 : Int} {p q : Pt} (h1 : x0 ≤ a) (h2 : y0 ≤ b) (h3 : c ≤ x1) (h4 : e ≤ y1) (hx : a ≤ c) (hy : b ≤ e) (h : MeetB a b c e p q) : MeetB x0 y0 x1 y1 p q := by
  obtain ⟨ho, hs⟩ := (MeetB_iff hx hy).mp h
  refine (MeetB_iff (by omega) (by omega)).mpr ⟨by unfold Ovl at *; omega, fun h => hs ?_⟩
  have k : ∀ u v, (u = a ∨ u = c) → (v = b ∨ v = e) → HasB x0 y0 x1 y1 (u, v) := fun u v hu hv => by unfold HasB; simp only; omega
  rcases h with h | h
  · exact .inl ⟨corner_pos (k a b (.inl rfl) (.inl rfl)) h, corner_pos (k c b (.inr rfl) (.inl rfl)) h, corner_pos (k c e (.inr rfl) (.inr rfl)) h, corner_pos (k a e (.inl rfl) (.inr rfl)) h⟩
  · exact .inr ⟨corner_neg (k a b (.inl rfl) (.inl rfl)) h, corner_neg (k c b (.inr rfl) (.inl rfl)) h, corner_neg (k c e (.inr rfl) (.inr rfl)) h, corner_neg (k a e (.inl rfl) (.inr rfl)) h⟩
theorem stays {b s : Bx} {ps : List Pt} (hr : rightB ps = true) (hb : rightX b = true) (hs : inX s b = true) (h0 : relX b ps ≠ 0) :
    relX s ps = relX b ps ∧ ∀ v, okb v = true → HasB b.1.1 b.1.2 b.2.1 b.2.2 v → sideB ps v = relX b ps := by
  have ok := (right_ok hr).2.2
  obtain ⟨ob1, ob2, bx, by_⟩ := rightX_t.mp hb
  unfold inX at hs
  simp only [Bool.and_eq_true] at hs
  obtain ⟨hsr, hs1, hs2⟩ := hs
  obtain ⟨os1, os2, sx, sy⟩ := rightX_t.mp hsr
  obtain ⟨-, -, k1⟩ := hasX_t.mp hs1
  obtain ⟨-, -, k2⟩ := hasX_t.mp hs2
  have e0 : relX b ps = sideB ps b.1 ∧ upAny (fun i => meetsX b (vv ps i) (vv ps (nx ps i))) ps.length 0 = false := by
    unfold relX at h0 ⊢
    rw [hb, hr] at h0 ⊢
    simp only [cond_true] at h0 ⊢
    cases hu : upAny (fun i => meetsX b (vv ps i) (vv ps (nx ps i))) ps.length 0
    · exact ⟨rfl, rfl⟩
    · rw [hu] at h0; exact absurd rfl h0
  obtain ⟨e0, hu⟩ := e0
  have no : ∀ j, j < ps.length → ¬ MeetB b.1.1 b.1.2 b.2.1 b.2.2 (vv ps j) (vv ps (nx ps j)) := by
    intro j hj hm
    have : upAny (fun i => meetsX b (vv ps i) (vv ps (nx ps i))) ps.length 0 = true := (upAny_iff _ _ _).mpr ⟨j, by omega, by omega, by
      unfold meetsX
      rw [hb, okb_t.mpr (vv_ok ok hj), okb_t.mpr (vv_ok ok (nx_lt hj)), decide_eq_true hm]; rfl⟩
    rw [hu] at this; cases this
  have side : ∀ v, okb v = true → HasB b.1.1 b.1.2 b.2.1 b.2.2 v → sideB ps v = sideB ps b.1 := fun v hv hh =>
    (side_same hr hv (okb_t.mpr ob1) fun j hj hm => no j hj (MeetB_of_meet bx by_ hh (by unfold HasB; omega) (Meet_swap.mpr hm))).1
  refine ⟨?_, fun v hv hh => by rw [e0]; exact side v hv hh⟩
  have hu2 : upAny (fun i => meetsX s (vv ps i) (vv ps (nx ps i))) ps.length 0 = false := by
    cases h : upAny (fun i => meetsX s (vv ps i) (vv ps (nx ps i))) ps.length 0
    · rfl
    · obtain ⟨j, j1, j2, j3⟩ := (upAny_iff _ _ _).mp h
      unfold meetsX at j3
      simp only [Bool.and_eq_true, decide_eq_true_iff] at j3
      unfold HasB at k1 k2
      exact absurd (MeetB_mono (by omega) (by omega) (by omega) (by omega) sx sy j3.2.2.2) (no j (by omega))
  rw [e0]
  unfold relX
  rw [hsr, hr, hu2]
  simp only [cond_true, cond_false]
  exact side s.1 (okb_t.mpr os1) k1
theorem toX_has {b : Bx} (p : Pt) (hb : rightX b = true) : HasB b.1.1 b.1.2 b.2.1 b.2.2 (toX b p) ∧ okb (toX b p) = true := by
  obtain ⟨⟨⟨u1, u2⟩, u3, u4⟩, ⟨⟨u5, u6⟩, u7, u8⟩, ux, uy⟩ := rightX_t.mp hb
  have h : HasB b.1.1 b.1.2 b.2.1 b.2.2 (toX b p) := by unfold HasB toX; simp only; omega
  refine ⟨h, okb_t.mpr ?_⟩
  obtain ⟨h1, h2, h3, h4⟩ := h
  exact ⟨⟨by omega, by omega⟩, by omega, by omega⟩
def spanX (p q : Pt) : Bx := ((min p.1 q.1, min p.2 q.2), (max p.1 q.1, max p.2 q.2))
theorem span_in {b : Bx} {p q : Pt} (hb : rightX b = true) (hp : HasB b.1.1 b.1.2 b.2.1 b.2.2 p) (hq : HasB b.1.1 b.1.2 b.2.1 b.2.2 q) : inX (spanX p q) b = true := by
  obtain ⟨⟨⟨u1, u2⟩, u3, u4⟩, ⟨⟨u5, u6⟩, u7, u8⟩, ux, uy⟩ := rightX_t.mp hb
  unfold HasB at hp hq
  have o1 : OkP (spanX p q).1 := ⟨⟨by unfold spanX; simp only; omega, by unfold spanX; simp only; omega⟩, by unfold spanX; simp only; omega, by unfold spanX; simp only; omega⟩
  have o2 : OkP (spanX p q).2 := ⟨⟨by unfold spanX; simp only; omega, by unfold spanX; simp only; omega⟩, by unfold spanX; simp only; omega, by unfold spanX; simp only; omega⟩
  unfold inX
  rw [rightX_t.mpr ⟨o1, o2, by unfold spanX; simp only; omega, by unfold spanX; simp only; omega⟩, hasX_t.mpr ⟨hb, o1, by unfold HasB spanX; simp only; omega⟩, hasX_t.mpr ⟨hb, o2, by unfold HasB spanX; simp only; omega⟩]; rfl
end Go.Proofs.Ytjblhppbjebagaa.AE

namespace Go.Proofs.Ytjblhppbjebagaa.AE
set_option linter.unusedVariables false
set_option linter.unusedSimpArgs false
set_option linter.constructorNameAsVariable false
open Go
set_option maxRecDepth 100000
/-- apogee/apogeelaw12.BoxStays -/
theorem r6 (C : Cb) (d : Nat) (a0 a1 a2 a3 : Int) (a4 : List AV) (a5 a6 a7 a8 : Int) : xcall C M unr d 6 [(.agg [(.int .i64 a0), (.int .i64 a1), (.int .i64 a2), (.int .i64 a3)]), (.lst a4), (.agg [(.int .i64 a5), (.int .i64 a6)]), (.agg [(.int .i64 a7), (.int .i64 a8)])] =
  C.bool (pcall M d 11 []) fun b0 =>
  cnd (!b0)
   (C.bool (pcall M d 11 []) fun b1 =>
   some (.bool b1))
   (cnd (decide ((((List.length a4) : Nat) : Int) > 12))
   (C.bool (pcall M d 11 []) fun b2 =>
   some (.bool b2))
   (C.bool (pcall M d 29 [(.lst a4)]) fun b3 =>
   cnd (!b3)
   (C.bool (pcall M d 11 []) fun b4 =>
   some (.bool b4))
   (C.bool (pcall M d 13 [(.agg [(.int .i64 a0), (.int .i64 a1), (.int .i64 a2), (.int .i64 a3)])]) fun b5 =>
   cnd (!b5)
   (C.bool (pcall M d 11 []) fun b6 =>
   some (.bool b6))
   (C.int .i64 (pcall M d 27 [(.agg [(.int .i64 a0), (.int .i64 a1), (.int .i64 a2), (.int .i64 a3)]), (.lst a4)]) fun x7 =>
   C.agg 2 (pcall M d 30 [(.agg [(.int .i64 a5), (.int .i64 a6)]), (.fptr (.agg [(.int .i64 a0), (.int .i64 a1), (.int .i64 a2), (.int .i64 a3)]) 0)]) fun l8 =>
   C.int .i64 l8[0]? fun x9 =>
   C.int .i64 l8[1]? fun x10 =>
   C.agg 2 (pcall M d 30 [(.agg [(.int .i64 a7), (.int .i64 a8)]), (.fptr (.agg [(.int .i64 a0), (.int .i64 a1), (.int .i64 a2), (.int .i64 a3)]) 0)]) fun l11 =>
   C.int .i64 l11[0]? fun x12 =>
   C.int .i64 l11[1]? fun x13 =>
   C.bool (pcall M d 17 [(.agg [(.int .i64 (if (x12 < x9) then x12 else x9)), (.int .i64 (if (x13 < x10) then x13 else x10)), (.int .i64 (if (x12 > x9) then x12 else x9)), (.int .i64 (if (x13 > x10) then x13 else x10))]), (.agg [(.int .i64 a0), (.int .i64 a1), (.int .i64 a2), (.int .i64 a3)])]) fun b14 =>
   cnd (!b14)
   (some (.bool false))
   (cnd (x7 == 0)
   (some (.bool true))
   (C.int .i64 (pcall M d 27 [(.agg [(.int .i64 (if (x12 < x9) then x12 else x9)), (.int .i64 (if (x13 < x10) then x13 else x10)), (.int .i64 (if (x12 > x9) then x12 else x9)), (.int .i64 (if (x13 > x10) then x13 else x10))]), (.lst a4)]) fun x15 =>
   cnd (x15 == x7)
   (C.int .i64 (pcall M d 31 [(.lst a4), (.agg [(.int .i64 x9), (.int .i64 x10)])]) fun x16 =>
   cnd (x16 == x7)
   (C.int .i64 (pcall M d 31 [(.lst a4), (.agg [(.int .i64 x12), (.int .i64 x13)])]) fun x17 =>
   some (.bool (x17 == x7)))
   (some (.bool false)))
   (some (.bool false)))))))) := by kernel_rfl
end Go.Proofs.Ytjblhppbjebagaa.AE

namespace Go.Proofs.Ytjblhppbjebagaa.AE
set_option linter.unusedVariables false
set_option linter.unusedSimpArgs false
set_option linter.constructorNameAsVariable false
open Go Go.Proofs.Ytjblhppbjebagaa.Geo
theorem maxLen_eq : Go.maxLen = 9223372036854775807 := by decide
theorem rows_pts : ∀ l : List AV, (∀ x ∈ l, ∃ cs, x = .agg cs ∧ CTall [(.i .i64), (.i .i64)] cs) → ∃ ps : List Pt, l = ps.map pt
  | [], _ => ⟨[], rfl⟩
  | x :: l, h => by
    obtain ⟨ps, rfl⟩ := rows_pts l fun y hy => h y (List.mem_cons_of_mem _ hy)
    obtain ⟨_, rfl, _, _, rfl, ⟨a, rfl, _⟩, _, _, rfl, ⟨b, rfl, _⟩, rfl⟩ := h x (List.mem_cons_self ..)
    exact ⟨(a, b) :: ps, rfl⟩
theorem ty_pts {v : AV} (h : TyOK false [(.sl true [(.i .i64), (.i .i64)])] v) : ∃ ps : List Pt, v = .lst (ps.map pt) ∧ ps.length ≤ 9223372036854775807 := by
  obtain ⟨_, rfl, _, _, e, ⟨l, rfl, hl, hx⟩, rfl⟩ := h
  injection e with e _
  subst e
  obtain ⟨ps, rfl⟩ := rows_pts l hx
  exact ⟨ps, rfl, by rw [← maxLen_eq]; simpa using hl⟩
end Go.Proofs.Ytjblhppbjebagaa.AE

namespace Go.Proofs.Ytjblhppbjebagaa.AE
set_option linter.unusedVariables false
set_option linter.unusedSimpArgs false
set_option linter.constructorNameAsVariable false
open Go Go.Proofs.Ytjblhppbjebagaa.Geo
set_option maxRecDepth 100000
theorem s30 (d : Nat) (b : Bx) (p : Pt) : pcall M (d + 1) 30 [pt p, .fptr (bx b) 0] = some (pt (toX b p)) := told (r30 C0 d _ _ _ _ _ _) (by
  have e1 : (if (b.2.1 < (if (b.1.1 > p.1) then b.1.1 else p.1)) then b.2.1 else (if (b.1.1 > p.1) then b.1.1 else p.1)) = (toX b p).1 := by unfold toX; simp only; omega
  have e2 : (if (b.2.2 < (if (b.1.2 > p.2) then b.1.2 else p.2)) then b.2.2 else (if (b.1.2 > p.2) then b.1.2 else p.2)) = (toX b p).2 := by unfold toX; simp only; omega
  rw [e1, e2])
theorem stays_core (b : Bx) (ps : List Pt) (p q : Pt) : pcall M 41 6 [bx b, .lst (ps.map pt), pt p, pt q] = some (.bool true) := told (r6 C0 40 _ _ _ _ _ _ _ _ _) (by
  refine Eq.trans (pl_bool awake) ?_
  refine Eq.trans (pl_f (by rfl)) ?_
  rw [pmap_len]
  by_cases h : (ps.length : Int) > 12
  · rw [decide_eq_true h, cnd_t]
    exact pl_bool awake
  · rw [decide_eq_false h, cnd_f]
    have hl : ps.length ≤ 140737488355328 := by omega
    refine Eq.trans (pl_bool (s29 31 ps hl)) ?_
    cases hr : rightB ps
    · refine Eq.trans (pl_len (by rfl)) ?_; exact pl_bool awake
    · refine Eq.trans (pl_f (by rfl)) ?_
      refine Eq.trans (pl_bool (s13 38 b)) ?_
      cases hb : rightX b
      · refine Eq.trans (pl_len (by rfl)) ?_; exact pl_bool awake
      · refine Eq.trans (pl_f (by rfl)) ?_
        refine Eq.trans (pl_int (s27 26 b ps hl)) ?_
        refine Eq.trans (pl_agg (s30 39 b p) (by rfl)) ?_
        refine Eq.trans (pl_int (by rfl)) ?_; refine Eq.trans (pl_int (by rfl)) ?_
        refine Eq.trans (pl_agg (s30 39 b q) (by rfl)) ?_
        refine Eq.trans (pl_int (by rfl)) ?_; refine Eq.trans (pl_int (by rfl)) ?_
        rw [mn (toX b p).1 (toX b q).1, mn (toX b p).2 (toX b q).2, mx (toX b p).1 (toX b q).1, mx (toX b p).2 (toX b q).2]
        obtain ⟨hp, op⟩ := toX_has p hb
        obtain ⟨hq, oq⟩ := toX_has q hb
        have hin := span_in hb hp hq
        refine Eq.trans (pl_bool (s17 35 (spanX (toX b p) (toX b q)) b)) ?_
        rw [hin]
        refine Eq.trans (pl_f (by rfl)) ?_
        by_cases h0 : relX b ps = 0
        · rw [h0]; rfl
        · refine Eq.trans (pl_f (by simpa using h0)) ?_
          obtain ⟨g1, g2⟩ := stays hr hb hin h0
          refine Eq.trans (pl_int (s27 26 (spanX (toX b p) (toX b q)) ps hl)) ?_
          rw [g1, beq_self_eq_true]
          refine Eq.trans (pl_len (by rfl)) ?_
          refine Eq.trans (pl_int (s31 27 ps (toX b p) hl)) ?_
          rw [g2 _ op hp, beq_self_eq_true]
          refine Eq.trans (pl_len (by rfl)) ?_
          refine Eq.trans (pl_int (s31 27 ps (toX b q) hl)) ?_
          rw [g2 _ oq hq, beq_self_eq_true])
theorem law_BoxStays (a0_0 : Int) (a0_1 : Int) (a0_2 : Int) (a0_3 : Int) (a1 : AV) (a2_0 : Int) (a2_1 : Int) (a3_0 : Int) (a3_1 : Int) (w0_0 : (Lit.int .i64 a0_0).wf = true) (w0_1 : (Lit.int .i64 a0_1).wf = true) (w0_2 : (Lit.int .i64 a0_2).wf = true) (w0_3 : (Lit.int .i64 a0_3).wf = true) (w1 : TyOK false [(.sl true [(.i .i64), (.i .i64)])] a1) (w2_0 : (Lit.int .i64 a2_0).wf = true) (w2_1 : (Lit.int .i64 a2_1).wf = true) (w3_0 : (Lit.int .i64 a3_0).wf = true) (w3_1 : (Lit.int .i64 a3_1).wf = true) :
    pcall M 41 6 [.agg [.int .i64 a0_0, .int .i64 a0_1, .int .i64 a0_2, .int .i64 a0_3], a1, .agg [.int .i64 a2_0, .int .i64 a2_1], .agg [.int .i64 a3_0, .int .i64 a3_1]] = some (.bool true) := by
  obtain ⟨ps, rfl, hl⟩ := ty_pts w1
  exact stays_core ((a0_0, a0_1), (a0_2, a0_3)) ps (a2_0, a2_1) (a3_0, a3_1)
end Go.Proofs.Ytjblhppbjebagaa.AE
