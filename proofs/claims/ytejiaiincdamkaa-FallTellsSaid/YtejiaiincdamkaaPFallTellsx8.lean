-- Written by this session's own driver (wip/xprint) over the kit's print; Lean checks it.
import Derived.Test.YtejiaiincdamkaaPFallTellsx0
import Derived.Test.YtejiaiincdamkaaPFallTellsx3
import Derived.Test.YtejiaiincdamkaaPFallTellsx4
import Derived.Test.YtejiaiincdamkaaPFallTellsx5
import Derived.Test.YtejiaiincdamkaaPFallTellsx7
namespace Go.Proofs.Ytejiaiincdamkaa.PFallTells
open Go.RowKit Go.Proofs.YtejiaiincdamkaaW.PrintWords Go.Proofs.YtejiaiincdamkaaW.PrintLast Go.Proofs.YtejiaiincdamkaaW.PrintMore
attribute [local go_sem] max2_int min2_int max_two min_two max_three min_three max_four min_four   -- for this text's walks alone
set_option linter.unusedVariables false
set_option linter.unusedSimpArgs false

/-! ### apogeelaw17_FallTells: function 3 -/
def apogeelaw17_FallTells.j0 : Nat → Int → Int → Int → Int → Int → Int → Bool → Int → Bool → Bool → Option (Bool)
  | 0, _, _, _, _, _, _, _, _, _, _ => none
  | k + 1, x0, x1, x2, x3, x9, x11, x12, x13, x15, x66 => if x66 = true then (some false) else (if x15 = true then ((apogeeref17_Time.f k x0 x1 x2).bind fun t242 => (if x9 = t242 then ((apogeeref17_Top.f x0 x1 x2).bind fun t243 => (if x13 = t243 then (if x12 = true then ((apogeeref17_Above.f x0 x1 x2 x3).bind fun t244 => (some (x11 == t244))) else (if x11 = 0 then (some true) else (some false))) else (some false))) else (some false))) else (if x9 = 0 then (if x11 = 0 then (some (x13 == 0)) else (some false)) else (some false)))
def apogeelaw17_FallTells.f (k : Nat) (a0 : Int) (a1 : Int) (a2 : Int) (a3 : Int) : Option (Bool) := (fall_Time.f k a0 a1 a2).bind fun bt234 => ((fall_Above.f k a0 a1 a2 a3).bind fun bt236 => ((fall_Top.f k a0 a1 a2).bind fun bt238 => ((apogeeref17_May.f a0 a1 a2).bind fun t240 => ((apogeelaw17_awake.f k).bind fun t241 => (if t241 = true then (if (bt234.2 != t240) = true then (apogeelaw17_FallTells.j0 k a0 a1 a2 a3 bt234.1 bt236.1 bt236.2 bt238.1 t240 true) else (if (bt238.2 != t240) = true then (apogeelaw17_FallTells.j0 k a0 a1 a2 a3 bt234.1 bt236.1 bt236.2 bt238.1 t240 true) else (if t240 = true then (if a3 ≥ 0 then (apogeelaw17_FallTells.j0 k a0 a1 a2 a3 bt234.1 bt236.1 bt236.2 bt238.1 t240 (bt236.2 != (decide (a3 ≤ 16777216)))) else (apogeelaw17_FallTells.j0 k a0 a1 a2 a3 bt234.1 bt236.1 bt236.2 bt238.1 t240 (bt236.2 != false))) else (apogeelaw17_FallTells.j0 k a0 a1 a2 a3 bt234.1 bt236.1 bt236.2 bt238.1 t240 (bt236.2 != false))))) else (apogeelaw17_FallTells.j0 k a0 a1 a2 a3 bt234.1 bt236.1 bt236.2 bt238.1 t240 true))))))
theorem apogeelaw17_FallTells.mono_l : ∀ k, (∀ y0 y1 y2 y3 y4 y5 y6 y7 y8 y9, LeO (apogeelaw17_FallTells.j0 k y0 y1 y2 y3 y4 y5 y6 y7 y8 y9) (apogeelaw17_FallTells.j0 (k + 1) y0 y1 y2 y3 y4 y5 y6 y7 y8 y9))
  | 0 => fun _ _ _ _ _ _ _ _ _ _ r h => by simp [apogeelaw17_FallTells.j0] at h
  | k + 1 => by
    have ih0 := apogeelaw17_FallTells.mono_l k
    · intro y0 y1 y2 y3 y4 y5 y6 y7 y8 y9
      unfold apogeelaw17_FallTells.j0
      repeat' first
      | (with_reducible exact ih0 _ _ _ _ _ _ _ _ _ _)
      | (with_reducible exact apogeelaw17_awake.mono _)
      | (with_reducible exact apogeeref17_Time.mono _ _ _ _)
      | (with_reducible exact fall_Above.mono _ _ _ _ _)
      | (with_reducible exact fall_Time.mono _ _ _ _)
      | (with_reducible exact fall_Top.mono _ _ _ _)
      | (with_reducible exact LeO.refl _)
      | (with_reducible exact LeO.none _)
      | (with_reducible refine LeO.ite ?_ ?_)
      | (with_reducible refine LeO.bind ?_ (fun _ => ?_))
      | exact ih0 _ _ _ _ _ _ _ _ _ _
      | exact apogeelaw17_awake.mono _
      | exact apogeeref17_Time.mono _ _ _ _
      | exact fall_Above.mono _ _ _ _ _
      | exact fall_Time.mono _ _ _ _
      | exact fall_Top.mono _ _ _ _
      | exact LeO.none _
      | refine LeO.ite ?_ ?_
      | refine LeO.bind ?_ (fun _ => ?_)
theorem apogeelaw17_FallTells.mono : ∀ a0 a1 a2 a3 k, LeO (apogeelaw17_FallTells.f k a0 a1 a2 a3) (apogeelaw17_FallTells.f (k + 1) a0 a1 a2 a3) := by
  intro a0 a1 a2 a3 k
  have ih0 := apogeelaw17_FallTells.mono_l k
  unfold apogeelaw17_FallTells.f
  repeat' first
      | (with_reducible exact ih0 _ _ _ _ _ _ _ _ _ _)
      | (with_reducible exact apogeelaw17_awake.mono _)
      | (with_reducible exact apogeeref17_Time.mono _ _ _ _)
      | (with_reducible exact fall_Above.mono _ _ _ _ _)
      | (with_reducible exact fall_Time.mono _ _ _ _)
      | (with_reducible exact fall_Top.mono _ _ _ _)
      | (with_reducible exact LeO.refl _)
      | (with_reducible exact LeO.none _)
      | (with_reducible refine LeO.ite ?_ ?_)
      | (with_reducible refine LeO.bind ?_ (fun _ => ?_))
      | exact ih0 _ _ _ _ _ _ _ _ _ _
      | exact apogeelaw17_awake.mono _
      | exact apogeeref17_Time.mono _ _ _ _
      | exact fall_Above.mono _ _ _ _ _
      | exact fall_Time.mono _ _ _ _
      | exact fall_Top.mono _ _ _ _
      | exact LeO.none _
      | refine LeO.ite ?_ ?_
      | refine LeO.bind ?_ (fun _ => ?_)
set_option maxHeartbeats 8000000 in
set_option maxRecDepth 100000 in
theorem apogeelaw17_FallTells.calls (k : Nat) (a0 : Int) (a1 : Int) (a2 : Int) (a3 : Int) (r : Bool) (w : World) (h : apogeelaw17_FallTells.f k a0 a1 a2 a3 = some r) :
    Calls Try.prog 3 #[.int .i64 a0, .int .i64 a1, .int .i64 a2, .int .i64 a3] w fun e w' => e = .returned (.bool r) ∧ Below w.heap.size w w' := by
  have HB := Aside0.mk (Below.refl w.heap.size w)
  have H : ((fall_Time.f k a0 a1 a2).bind fun bt234 => ((fall_Above.f k a0 a1 a2 a3).bind fun bt236 => ((fall_Top.f k a0 a1 a2).bind fun bt238 => ((apogeeref17_May.f a0 a1 a2).bind fun t240 => ((apogeelaw17_awake.f k).bind fun t241 => (if t241 = true then (if (bt234.2 != t240) = true then (apogeelaw17_FallTells.j0 k a0 a1 a2 a3 bt234.1 bt236.1 bt236.2 bt238.1 t240 true) else (if (bt238.2 != t240) = true then (apogeelaw17_FallTells.j0 k a0 a1 a2 a3 bt234.1 bt236.1 bt236.2 bt238.1 t240 true) else (if t240 = true then (if a3 ≥ 0 then (apogeelaw17_FallTells.j0 k a0 a1 a2 a3 bt234.1 bt236.1 bt236.2 bt238.1 t240 (bt236.2 != (decide (a3 ≤ 16777216)))) else (apogeelaw17_FallTells.j0 k a0 a1 a2 a3 bt234.1 bt236.1 bt236.2 bt238.1 t240 (bt236.2 != false))) else (apogeelaw17_FallTells.j0 k a0 a1 a2 a3 bt234.1 bt236.1 bt236.2 bt238.1 t240 (bt236.2 != false))))) else (apogeelaw17_FallTells.j0 k a0 a1 a2 a3 bt234.1 bt236.1 bt236.2 bt238.1 t240 true))))))) = some r := h
  clear h
  replace H := Option.bind_eq_some_iff.mp H
  obtain ⟨⟨t234, t235⟩, A50, H⟩ := H
  replace H : ((fall_Above.f k a0 a1 a2 a3).bind fun bt236 => ((fall_Top.f k a0 a1 a2).bind fun bt238 => ((apogeeref17_May.f a0 a1 a2).bind fun t240 => ((apogeelaw17_awake.f k).bind fun t241 => (if t241 = true then (if (t235 != t240) = true then (apogeelaw17_FallTells.j0 k a0 a1 a2 a3 t234 bt236.1 bt236.2 bt238.1 t240 true) else (if (bt238.2 != t240) = true then (apogeelaw17_FallTells.j0 k a0 a1 a2 a3 t234 bt236.1 bt236.2 bt238.1 t240 true) else (if t240 = true then (if a3 ≥ 0 then (apogeelaw17_FallTells.j0 k a0 a1 a2 a3 t234 bt236.1 bt236.2 bt238.1 t240 (bt236.2 != (decide (a3 ≤ 16777216)))) else (apogeelaw17_FallTells.j0 k a0 a1 a2 a3 t234 bt236.1 bt236.2 bt238.1 t240 (bt236.2 != false))) else (apogeelaw17_FallTells.j0 k a0 a1 a2 a3 t234 bt236.1 bt236.2 bt238.1 t240 (bt236.2 != false))))) else (apogeelaw17_FallTells.j0 k a0 a1 a2 a3 t234 bt236.1 bt236.2 bt238.1 t240 true)))))) = some r := H
  have A5 := Aside0.mk A50
  clear A50
  replace H := Option.bind_eq_some_iff.mp H
  obtain ⟨⟨t236, t237⟩, A60, H⟩ := H
  replace H : ((fall_Top.f k a0 a1 a2).bind fun bt238 => ((apogeeref17_May.f a0 a1 a2).bind fun t240 => ((apogeelaw17_awake.f k).bind fun t241 => (if t241 = true then (if (t235 != t240) = true then (apogeelaw17_FallTells.j0 k a0 a1 a2 a3 t234 t236 t237 bt238.1 t240 true) else (if (bt238.2 != t240) = true then (apogeelaw17_FallTells.j0 k a0 a1 a2 a3 t234 t236 t237 bt238.1 t240 true) else (if t240 = true then (if a3 ≥ 0 then (apogeelaw17_FallTells.j0 k a0 a1 a2 a3 t234 t236 t237 bt238.1 t240 (t237 != (decide (a3 ≤ 16777216)))) else (apogeelaw17_FallTells.j0 k a0 a1 a2 a3 t234 t236 t237 bt238.1 t240 (t237 != false))) else (apogeelaw17_FallTells.j0 k a0 a1 a2 a3 t234 t236 t237 bt238.1 t240 (t237 != false))))) else (apogeelaw17_FallTells.j0 k a0 a1 a2 a3 t234 t236 t237 bt238.1 t240 true))))) = some r := H
  have A6 := Aside0.mk A60
  clear A60
  replace H := Option.bind_eq_some_iff.mp H
  obtain ⟨⟨t238, t239⟩, A70, H⟩ := H
  replace H : ((apogeeref17_May.f a0 a1 a2).bind fun t240 => ((apogeelaw17_awake.f k).bind fun t241 => (if t241 = true then (if (t235 != t240) = true then (apogeelaw17_FallTells.j0 k a0 a1 a2 a3 t234 t236 t237 t238 t240 true) else (if (t239 != t240) = true then (apogeelaw17_FallTells.j0 k a0 a1 a2 a3 t234 t236 t237 t238 t240 true) else (if t240 = true then (if a3 ≥ 0 then (apogeelaw17_FallTells.j0 k a0 a1 a2 a3 t234 t236 t237 t238 t240 (t237 != (decide (a3 ≤ 16777216)))) else (apogeelaw17_FallTells.j0 k a0 a1 a2 a3 t234 t236 t237 t238 t240 (t237 != false))) else (apogeelaw17_FallTells.j0 k a0 a1 a2 a3 t234 t236 t237 t238 t240 (t237 != false))))) else (apogeelaw17_FallTells.j0 k a0 a1 a2 a3 t234 t236 t237 t238 t240 true)))) = some r := H
  have A7 := Aside0.mk A70
  clear A70
  replace H := Option.bind_eq_some_iff.mp H
  obtain ⟨t240, A80, H⟩ := H
  replace H : ((apogeelaw17_awake.f k).bind fun t241 => (if t241 = true then (if (t235 != t240) = true then (apogeelaw17_FallTells.j0 k a0 a1 a2 a3 t234 t236 t237 t238 t240 true) else (if (t239 != t240) = true then (apogeelaw17_FallTells.j0 k a0 a1 a2 a3 t234 t236 t237 t238 t240 true) else (if t240 = true then (if a3 ≥ 0 then (apogeelaw17_FallTells.j0 k a0 a1 a2 a3 t234 t236 t237 t238 t240 (t237 != (decide (a3 ≤ 16777216)))) else (apogeelaw17_FallTells.j0 k a0 a1 a2 a3 t234 t236 t237 t238 t240 (t237 != false))) else (apogeelaw17_FallTells.j0 k a0 a1 a2 a3 t234 t236 t237 t238 t240 (t237 != false))))) else (apogeelaw17_FallTells.j0 k a0 a1 a2 a3 t234 t236 t237 t238 t240 true))) = some r := H
  have A8 := Aside0.mk A80
  clear A80
  have HC9 := Aside0.mk H
  clear H
  go_enter Try.func3, Try.ntmps3
  go_upto_region 5 with (first | ((with_reducible refine gate_callee (f := 9) rfl ?_); refine goesL_ (some 20) rfl rfl Try.func9 (by kernel_rfl) rfl #[.int .i64 a0, .int .i64 a1, .int .i64 a2] rfl (by (try simp only [List.map_toArray, List.map_cons, List.map_nil]); first | done | rfl | (simp only [List.length_drop, List.length_take]; rfl)) ?_; (with_reducible refine (fall_Time.calls k a0 a1 a2 t234 t235 _ A5.out).mono ?_); rintro e w10 ⟨rfl, hb⟩; refine ⟨_, rfl, ?_⟩; have n0_ := Aside0.mk (below_step (by repeat (first | (with_reducible first | exact HB.out | apply below_alloc | apply pw_below_drewN | apply below_drew1) | exact HB.out)) hb); clear HB; have HB := n0_; clear n0_; (try clear hb); (try clear hb2); (try clear hk); (try clear hi)) | ((with_reducible refine gate_callee (f := 10) rfl ?_); refine goesL_ (some 28) rfl rfl Try.func10 (by kernel_rfl) rfl #[.int .i64 a0, .int .i64 a1, .int .i64 a2, .int .i64 a3] rfl (by (try simp only [List.map_toArray, List.map_cons, List.map_nil]); first | done | rfl | (simp only [List.length_drop, List.length_take]; rfl)) ?_; (with_reducible refine (fall_Above.calls k a0 a1 a2 a3 t236 t237 _ A6.out).mono ?_); rintro e w11 ⟨rfl, hb⟩; refine ⟨_, rfl, ?_⟩; have n0_ := Aside0.mk (below_step (by repeat (first | (with_reducible first | exact HB.out | apply below_alloc | apply pw_below_drewN | apply below_drew1) | exact HB.out)) hb); clear HB; have HB := n0_; clear n0_; (try clear hb); (try clear hb2); (try clear hk); (try clear hi)) | ((with_reducible refine gate_callee (f := 11) rfl ?_); refine goesL_ (some 35) rfl rfl Try.func11 (by kernel_rfl) rfl #[.int .i64 a0, .int .i64 a1, .int .i64 a2] rfl (by (try simp only [List.map_toArray, List.map_cons, List.map_nil]); first | done | rfl | (simp only [List.length_drop, List.length_take]; rfl)) ?_; (with_reducible refine (fall_Top.calls k a0 a1 a2 t238 t239 _ A7.out).mono ?_); rintro e w12 ⟨rfl, hb⟩; refine ⟨_, rfl, ?_⟩; have n0_ := Aside0.mk (below_step (by repeat (first | (with_reducible first | exact HB.out | apply below_alloc | apply pw_below_drewN | apply below_drew1) | exact HB.out)) hb); clear HB; have HB := n0_; clear n0_; (try clear hb); (try clear hb2); (try clear hk); (try clear hi)) | ((with_reducible refine gate_callee (f := 12) rfl ?_); refine goesL_ (some 41) rfl rfl Try.func12 (by kernel_rfl) rfl #[.int .i64 a0, .int .i64 a1, .int .i64 a2] rfl (by (try simp only [List.map_toArray, List.map_cons, List.map_nil]); first | done | rfl | (simp only [List.length_drop, List.length_take]; rfl)) ?_; (with_reducible refine (apogeeref17_May.calls a0 a1 a2 t240 _ A8.out).mono ?_); rintro e w' ⟨rfl, ⟨nd, rfl⟩⟩; refine ⟨_, rfl, ?_⟩))
  (try simp only [Act.put, List.setIfInBounds_toArray, List.set_cons_zero, List.set_cons_succ])
  go_cut [66] (fun v66 wc => ∃ (kq : Nat) (x66_8 : Bool), v66 = .bool x66_8 ∧ Aside0 (apogeelaw17_FallTells.j0 kq a0 a1 a2 a3 t234 t236 t237 t238 t240 x66_8 = some r) ∧ Aside0 (kq ≤ k) ∧ Aside0 (Below w.heap.size w wc))
  case first =>
    have H := HC9.out
    clear HC9
    replace H := Option.bind_eq_some_iff.mp H
    obtain ⟨t241, A130, H⟩ := H
    replace H : (if t241 = true then (if (t235 != t240) = true then (apogeelaw17_FallTells.j0 k a0 a1 a2 a3 t234 t236 t237 t238 t240 true) else (if (t239 != t240) = true then (apogeelaw17_FallTells.j0 k a0 a1 a2 a3 t234 t236 t237 t238 t240 true) else (if t240 = true then (if a3 ≥ 0 then (apogeelaw17_FallTells.j0 k a0 a1 a2 a3 t234 t236 t237 t238 t240 (t237 != (decide (a3 ≤ 16777216)))) else (apogeelaw17_FallTells.j0 k a0 a1 a2 a3 t234 t236 t237 t238 t240 (t237 != false))) else (apogeelaw17_FallTells.j0 k a0 a1 a2 a3 t234 t236 t237 t238 t240 (t237 != false))))) else (apogeelaw17_FallTells.j0 k a0 a1 a2 a3 t234 t236 t237 t238 t240 true)) = some r := H
    have A13 := Aside0.mk A130
    clear A130
    by_cases c14 : t241 = true
    · subst c14
      have H1 : (if (t235 != t240) = true then (apogeelaw17_FallTells.j0 k a0 a1 a2 a3 t234 t236 t237 t238 t240 true) else (if (t239 != t240) = true then (apogeelaw17_FallTells.j0 k a0 a1 a2 a3 t234 t236 t237 t238 t240 true) else (if t240 = true then (if a3 ≥ 0 then (apogeelaw17_FallTells.j0 k a0 a1 a2 a3 t234 t236 t237 t238 t240 (t237 != (decide (a3 ≤ 16777216)))) else (apogeelaw17_FallTells.j0 k a0 a1 a2 a3 t234 t236 t237 t238 t240 (t237 != false))) else (apogeelaw17_FallTells.j0 k a0 a1 a2 a3 t234 t236 t237 t238 t240 (t237 != false))))) = some r := by rw [if_pos rfl] at H; exact H
      clear H
      have H := H1
      clear H1
      by_cases c15 : (t235 != t240) = true
      · rw [if_pos c15] at H
        have c15b0 : (t235 != t240) = true := c15
        (try (have c15b1 : decide (t235 = t240) = false := by simpa using c15))
        (try (have c15b2 : (t235 == t240) = false := by simpa using c15))
        (try (have c15b3 : ¬ (t235 = t240) := by simpa using c15))
        clear c15
        (first | rw [c15b0] | (simp only [i64_w, i32_w]; rw [c15b0]) | skip)
        have H' := Aside0.mk H
        clear H
        go_wp2_with (first | ((with_reducible refine gate_callee (f := 13) rfl ?_); refine goesL_ (some 42) rfl rfl Try.func13 (by kernel_rfl) rfl #[] rfl (by (try simp only [List.map_toArray, List.map_cons, List.map_nil]); first | done | rfl | (simp only [List.length_drop, List.length_take]; rfl)) ?_; (with_reducible refine (apogeelaw17_awake.calls k  true _ A13.out).mono ?_); rintro e w16 ⟨rfl, hb⟩; refine ⟨_, rfl, ?_⟩; have n0_ := Aside0.mk (below_step (by repeat (first | (with_reducible first | exact HB.out | apply below_alloc | apply pw_below_drewN | apply below_drew1) | exact HB.out)) hb); clear HB; have HB := n0_; clear n0_; (try clear hb); (try clear hb2); (try clear hk); (try clear hi)))
        go_meet
        case rel => exact ⟨_, (true), (by first | rfl | (simp; done) | (simp [*]; done)), H', ⟨by first | omega | exact Nat.le_refl _⟩, ⟨by repeat (first | (with_reducible first | exact HB.out | apply below_alloc | apply pw_below_drewN | apply below_drew1) | exact HB.out)⟩⟩
      · rw [if_neg c15] at H
        have c15b0 : (t235 != t240) = false := by simpa using c15
        (try (have c15b1 : decide (t235 = t240) = true := by simpa using c15))
        (try (have c15b2 : (t235 == t240) = true := by simpa using c15))
        clear c15
        (first | rw [c15b0] | (simp only [i64_w, i32_w]; rw [c15b0]) | skip)
        by_cases c17 : (t239 != t240) = true
        · rw [if_pos c17] at H
          have c17b0 : (t239 != t240) = true := c17
          (try (have c17b1 : decide (t239 = t240) = false := by simpa using c17))
          (try (have c17b2 : (t239 == t240) = false := by simpa using c17))
          (try (have c17b3 : ¬ (t239 = t240) := by simpa using c17))
          clear c17
          have H' := Aside0.mk H
          clear H
          go_wp2_with (first | ((with_reducible refine gate_callee (f := 13) rfl ?_); refine goesL_ (some 42) rfl rfl Try.func13 (by kernel_rfl) rfl #[] rfl (by (try simp only [List.map_toArray, List.map_cons, List.map_nil]); first | done | rfl | (simp only [List.length_drop, List.length_take]; rfl)) ?_; (with_reducible refine (apogeelaw17_awake.calls k  true _ A13.out).mono ?_); rintro e w18 ⟨rfl, hb⟩; refine ⟨_, rfl, ?_⟩; have n0_ := Aside0.mk (below_step (by repeat (first | (with_reducible first | exact HB.out | apply below_alloc | apply pw_below_drewN | apply below_drew1) | exact HB.out)) hb); clear HB; have HB := n0_; clear n0_; (try clear hb); (try clear hb2); (try clear hk); (try clear hi)))
          go_meet
          case rel => exact ⟨_, (true), (by first | rfl | (simp; done) | (simp [*]; done)), H', ⟨by first | omega | exact Nat.le_refl _⟩, ⟨by repeat (first | (with_reducible first | exact HB.out | apply below_alloc | apply pw_below_drewN | apply below_drew1) | exact HB.out)⟩⟩
        · rw [if_neg c17] at H
          have c17b0 : (t239 != t240) = false := by simpa using c17
          (try (have c17b1 : decide (t239 = t240) = true := by simpa using c17))
          (try (have c17b2 : (t239 == t240) = true := by simpa using c17))
          clear c17
          by_cases c19 : t240 = true
          · subst c19
            have H1 : (if a3 ≥ 0 then (apogeelaw17_FallTells.j0 k a0 a1 a2 a3 t234 t236 t237 t238 true (t237 != (decide (a3 ≤ 16777216)))) else (apogeelaw17_FallTells.j0 k a0 a1 a2 a3 t234 t236 t237 t238 true (t237 != false))) = some r := by rw [if_pos rfl] at H; exact H
            clear H
            have H := H1
            clear H1
            by_cases c20 : a3 ≥ 0
            · rw [if_pos c20] at H
              have c20b0 : decide (0 ≤ a3) = true := decide_eq_true c20
              clear c20
              have H' := Aside0.mk H
              clear H
              go_wp2_with (first | ((with_reducible refine gate_callee (f := 13) rfl ?_); refine goesL_ (some 42) rfl rfl Try.func13 (by kernel_rfl) rfl #[] rfl (by (try simp only [List.map_toArray, List.map_cons, List.map_nil]); first | done | rfl | (simp only [List.length_drop, List.length_take]; rfl)) ?_; (with_reducible refine (apogeelaw17_awake.calls k  true _ A13.out).mono ?_); rintro e w21 ⟨rfl, hb⟩; refine ⟨_, rfl, ?_⟩; have n0_ := Aside0.mk (below_step (by repeat (first | (with_reducible first | exact HB.out | apply below_alloc | apply pw_below_drewN | apply below_drew1) | exact HB.out)) hb); clear HB; have HB := n0_; clear n0_; (try clear hb); (try clear hb2); (try clear hk); (try clear hi)))
              go_meet
              case rel => exact ⟨_, ((t237 != (decide (a3 ≤ 16777216)))), (by first | rfl | (simp; done) | (simp [*]; done)), H', ⟨by first | omega | exact Nat.le_refl _⟩, ⟨by repeat (first | (with_reducible first | exact HB.out | apply below_alloc | apply pw_below_drewN | apply below_drew1) | exact HB.out)⟩⟩
            · rw [if_neg c20] at H
              have c20b0 : decide (0 ≤ a3) = false := decide_eq_false c20
              clear c20
              have H' := Aside0.mk H
              clear H
              go_wp2_with (first | ((with_reducible refine gate_callee (f := 13) rfl ?_); refine goesL_ (some 42) rfl rfl Try.func13 (by kernel_rfl) rfl #[] rfl (by (try simp only [List.map_toArray, List.map_cons, List.map_nil]); first | done | rfl | (simp only [List.length_drop, List.length_take]; rfl)) ?_; (with_reducible refine (apogeelaw17_awake.calls k  true _ A13.out).mono ?_); rintro e w22 ⟨rfl, hb⟩; refine ⟨_, rfl, ?_⟩; have n0_ := Aside0.mk (below_step (by repeat (first | (with_reducible first | exact HB.out | apply below_alloc | apply pw_below_drewN | apply below_drew1) | exact HB.out)) hb); clear HB; have HB := n0_; clear n0_; (try clear hb); (try clear hb2); (try clear hk); (try clear hi)))
              go_meet
              case rel => exact ⟨_, ((t237 != false)), (by first | rfl | (simp; done) | (simp [*]; done)), H', ⟨by first | omega | exact Nat.le_refl _⟩, ⟨by repeat (first | (with_reducible first | exact HB.out | apply below_alloc | apply pw_below_drewN | apply below_drew1) | exact HB.out)⟩⟩
          · replace c19 := Bool.eq_false_iff.mpr c19
            subst c19
            have H1 : (apogeelaw17_FallTells.j0 k a0 a1 a2 a3 t234 t236 t237 t238 false (t237 != false)) = some r := by rw [if_neg (show ¬ (false = true) by decide)] at H; exact H
            clear H
            have H := H1
            clear H1
            have H' := Aside0.mk H
            clear H
            go_wp2_with (first | ((with_reducible refine gate_callee (f := 13) rfl ?_); refine goesL_ (some 42) rfl rfl Try.func13 (by kernel_rfl) rfl #[] rfl (by (try simp only [List.map_toArray, List.map_cons, List.map_nil]); first | done | rfl | (simp only [List.length_drop, List.length_take]; rfl)) ?_; (with_reducible refine (apogeelaw17_awake.calls k  true _ A13.out).mono ?_); rintro e w23 ⟨rfl, hb⟩; refine ⟨_, rfl, ?_⟩; have n0_ := Aside0.mk (below_step (by repeat (first | (with_reducible first | exact HB.out | apply below_alloc | apply pw_below_drewN | apply below_drew1) | exact HB.out)) hb); clear HB; have HB := n0_; clear n0_; (try clear hb); (try clear hb2); (try clear hk); (try clear hi)))
            go_meet
            case rel => exact ⟨_, ((t237 != false)), (by first | rfl | (simp; done) | (simp [*]; done)), H', ⟨by first | omega | exact Nat.le_refl _⟩, ⟨by repeat (first | (with_reducible first | exact HB.out | apply below_alloc | apply pw_below_drewN | apply below_drew1) | exact HB.out)⟩⟩
    · replace c14 := Bool.eq_false_iff.mpr c14
      subst c14
      have H1 : (apogeelaw17_FallTells.j0 k a0 a1 a2 a3 t234 t236 t237 t238 t240 true) = some r := by rw [if_neg (show ¬ (false = true) by decide)] at H; exact H
      clear H
      have H := H1
      clear H1
      have H' := Aside0.mk H
      clear H
      go_wp2_with (first | ((with_reducible refine gate_callee (f := 13) rfl ?_); refine goesL_ (some 42) rfl rfl Try.func13 (by kernel_rfl) rfl #[] rfl (by (try simp only [List.map_toArray, List.map_cons, List.map_nil]); first | done | rfl | (simp only [List.length_drop, List.length_take]; rfl)) ?_; (with_reducible refine (apogeelaw17_awake.calls k  false _ A13.out).mono ?_); rintro e w24 ⟨rfl, hb⟩; refine ⟨_, rfl, ?_⟩; have n0_ := Aside0.mk (below_step (by repeat (first | (with_reducible first | exact HB.out | apply below_alloc | apply pw_below_drewN | apply below_drew1) | exact HB.out)) hb); clear HB; have HB := n0_; clear n0_; (try clear hb); (try clear hb2); (try clear hk); (try clear hi)))
      go_meet
      case rel => exact ⟨_, (true), (by first | rfl | (simp; done) | (simp [*]; done)), H', ⟨by first | omega | exact Nat.le_refl _⟩, ⟨by repeat (first | (with_reducible first | exact HB.out | apply below_alloc | apply pw_below_drewN | apply below_drew1) | exact HB.out)⟩⟩
  case rest =>
    clear HC9
    try clear c1
    try clear c2
    try clear p2
    try clear c3
    try clear c9
    try clear c10
    try clear c11
    try clear c12
    try clear c13
    try clear c14
    try clear c15
    try clear c15b0
    try clear c15b1
    try clear c15b2
    try clear c17
    try clear c17b0
    try clear c17b1
    try clear c17b2
    try clear c19
    try clear c20
    try clear c20b0
    obtain ⟨kq, x66_8, rfl, HA, HJ8, HB⟩ := hcut
    cases kq with
    | zero => exact absurd HA.out (by simp [apogeelaw17_FallTells.j0])
    | succ kj8 =>
      have H := HA.out
      clear HA
      simp only [apogeelaw17_FallTells.j0] at H
      by_cases c25 : x66_8 = true
      · subst c25
        have H1 : (some false) = some r := by rw [if_pos rfl] at H; exact H
        clear H
        have H := H1
        clear H1
        obtain rfl := Option.some.inj H
        go_wp2
        go_ret
        exact ⟨by first | rfl | (simp [errW_none, errW_some] <;> rfl) | (simp [*, errW_none, errW_some] <;> rfl), by repeat (first | (with_reducible first | exact HB.out | apply below_alloc | apply pw_below_drewN | apply below_drew1) | exact HB.out)⟩
      · replace c25 := Bool.eq_false_iff.mpr c25
        subst c25
        have H1 : (if t240 = true then ((apogeeref17_Time.f kj8 a0 a1 a2).bind fun t242 => (if t234 = t242 then ((apogeeref17_Top.f a0 a1 a2).bind fun t243 => (if t238 = t243 then (if t237 = true then ((apogeeref17_Above.f a0 a1 a2 a3).bind fun t244 => (some (t236 == t244))) else (if t236 = 0 then (some true) else (some false))) else (some false))) else (some false))) else (if t234 = 0 then (if t236 = 0 then (some (t238 == 0)) else (some false)) else (some false))) = some r := by rw [if_neg (show ¬ (false = true) by decide)] at H; exact H
        clear H
        have H := H1
        clear H1
        by_cases c26 : t240 = true
        · subst c26
          have H1 : ((apogeeref17_Time.f kj8 a0 a1 a2).bind fun t242 => (if t234 = t242 then ((apogeeref17_Top.f a0 a1 a2).bind fun t243 => (if t238 = t243 then (if t237 = true then ((apogeeref17_Above.f a0 a1 a2 a3).bind fun t244 => (some (t236 == t244))) else (if t236 = 0 then (some true) else (some false))) else (some false))) else (some false))) = some r := by rw [if_pos rfl] at H; exact H
          clear H
          have H := H1
          clear H1
          replace H := Option.bind_eq_some_iff.mp H
          obtain ⟨t242, A270, H⟩ := H
          replace H : (if t234 = t242 then ((apogeeref17_Top.f a0 a1 a2).bind fun t243 => (if t238 = t243 then (if t237 = true then ((apogeeref17_Above.f a0 a1 a2 a3).bind fun t244 => (some (t236 == t244))) else (if t236 = 0 then (some true) else (some false))) else (some false))) else (some false)) = some r := H
          have A27 := Aside0.mk A270
          clear A270
          by_cases c28 : t234 = t242
          · rw [if_pos c28] at H
            have c28b0 : (t234 == t242) = true := beq_iff_eq.mpr c28
            have c28b1 : (t234 != t242) = false := bne_eq_false_iff_eq.mpr c28
            clear c28
            replace H := Option.bind_eq_some_iff.mp H
            obtain ⟨t243, A290, H⟩ := H
            replace H : (if t238 = t243 then (if t237 = true then ((apogeeref17_Above.f a0 a1 a2 a3).bind fun t244 => (some (t236 == t244))) else (if t236 = 0 then (some true) else (some false))) else (some false)) = some r := H
            have A29 := Aside0.mk A290
            clear A290
            by_cases c30 : t238 = t243
            · rw [if_pos c30] at H
              have c30b0 : (t238 == t243) = true := beq_iff_eq.mpr c30
              have c30b1 : (t238 != t243) = false := bne_eq_false_iff_eq.mpr c30
              clear c30
              by_cases c31 : t237 = true
              · subst c31
                have H1 : ((apogeeref17_Above.f a0 a1 a2 a3).bind fun t244 => (some (t236 == t244))) = some r := by rw [if_pos rfl] at H; exact H
                clear H
                have H := H1
                clear H1
                replace H := Option.bind_eq_some_iff.mp H
                obtain ⟨t244, A320, H⟩ := H
                replace H : (some (t236 == t244)) = some r := H
                have A32 := Aside0.mk A320
                clear A320
                obtain rfl := Option.some.inj H
                go_wp2_with (first | ((with_reducible refine gate_callee (f := 14) rfl ?_); refine goesL_ (some 83) rfl rfl Try.func14 (by kernel_rfl) rfl #[.int .i64 a0, .int .i64 a1, .int .i64 a2] rfl (by (try simp only [List.map_toArray, List.map_cons, List.map_nil]); first | done | rfl | (simp only [List.length_drop, List.length_take]; rfl)) ?_; (with_reducible refine (apogeeref17_Time.calls kj8 a0 a1 a2 t242 _ A27.out).mono ?_); rintro e w33 ⟨rfl, hb⟩; refine ⟨_, rfl, ?_⟩; have n0_ := Aside0.mk (below_step (by repeat (first | (with_reducible first | exact HB.out | apply below_alloc | apply pw_below_drewN | apply below_drew1) | exact HB.out)) hb); clear HB; have HB := n0_; clear n0_; (try clear hb); (try clear hb2); (try clear hk); (try clear hi)) | (go_at_call 15; (with_reducible refine (apogeeref17_Top.calls a0 a1 a2 t243 _ A29.out).mono ?_); rintro e w34 ⟨rfl, hb⟩; have n0_ := Aside0.mk (below_step (by repeat (first | (with_reducible first | exact HB.out | apply below_alloc | apply pw_below_drewN | apply below_drew1) | exact HB.out)) hb); clear HB; have HB := n0_; clear n0_; (try clear hb); (try clear hb2); (try clear hk); (try clear hi)) | (go_at_call 16; (with_reducible refine (apogeeref17_Above.calls a0 a1 a2 a3 t244 _ A32.out).mono ?_); rintro e w' ⟨rfl, ⟨nd, rfl⟩⟩))
                go_ret
                exact ⟨by first | rfl | (simp [errW_none, errW_some] <;> rfl) | (simp [*, errW_none, errW_some] <;> rfl), by repeat (first | (with_reducible first | exact HB.out | apply below_alloc | apply pw_below_drewN | apply below_drew1) | exact HB.out)⟩
              · replace c31 := Bool.eq_false_iff.mpr c31
                subst c31
                have H1 : (if t236 = 0 then (some true) else (some false)) = some r := by rw [if_neg (show ¬ (false = true) by decide)] at H; exact H
                clear H
                have H := H1
                clear H1
                by_cases c35 : t236 = 0
                · rw [if_pos c35] at H
                  have c35b0 : (t236 == 0) = true := beq_iff_eq.mpr c35
                  have c35b1 : (t236 != 0) = false := bne_eq_false_iff_eq.mpr c35
                  clear c35
                  obtain rfl := Option.some.inj H
                  go_wp2_with (first | ((with_reducible refine gate_callee (f := 14) rfl ?_); refine goesL_ (some 83) rfl rfl Try.func14 (by kernel_rfl) rfl #[.int .i64 a0, .int .i64 a1, .int .i64 a2] rfl (by (try simp only [List.map_toArray, List.map_cons, List.map_nil]); first | done | rfl | (simp only [List.length_drop, List.length_take]; rfl)) ?_; (with_reducible refine (apogeeref17_Time.calls kj8 a0 a1 a2 t242 _ A27.out).mono ?_); rintro e w36 ⟨rfl, hb⟩; refine ⟨_, rfl, ?_⟩; have n0_ := Aside0.mk (below_step (by repeat (first | (with_reducible first | exact HB.out | apply below_alloc | apply pw_below_drewN | apply below_drew1) | exact HB.out)) hb); clear HB; have HB := n0_; clear n0_; (try clear hb); (try clear hb2); (try clear hk); (try clear hi)) | (go_at_call 15; (with_reducible refine (apogeeref17_Top.calls a0 a1 a2 t243 _ A29.out).mono ?_); rintro e w37 ⟨rfl, hb⟩; have n0_ := Aside0.mk (below_step (by repeat (first | (with_reducible first | exact HB.out | apply below_alloc | apply pw_below_drewN | apply below_drew1) | exact HB.out)) hb); clear HB; have HB := n0_; clear n0_; (try clear hb); (try clear hb2); (try clear hk); (try clear hi)))
                  go_ret
                  exact ⟨by first | rfl | (simp [errW_none, errW_some] <;> rfl) | (simp [*, errW_none, errW_some] <;> rfl), by repeat (first | (with_reducible first | exact HB.out | apply below_alloc | apply pw_below_drewN | apply below_drew1) | exact HB.out)⟩
                · rw [if_neg c35] at H
                  have c35b0 : (t236 == 0) = false := beq_eq_false_iff_ne.mpr c35
                  have c35b1 : (t236 != 0) = true := bne_iff_ne.mpr c35
                  obtain rfl := Option.some.inj H
                  go_wp2_with (first | ((with_reducible refine gate_callee (f := 14) rfl ?_); refine goesL_ (some 83) rfl rfl Try.func14 (by kernel_rfl) rfl #[.int .i64 a0, .int .i64 a1, .int .i64 a2] rfl (by (try simp only [List.map_toArray, List.map_cons, List.map_nil]); first | done | rfl | (simp only [List.length_drop, List.length_take]; rfl)) ?_; (with_reducible refine (apogeeref17_Time.calls kj8 a0 a1 a2 t242 _ A27.out).mono ?_); rintro e w38 ⟨rfl, hb⟩; refine ⟨_, rfl, ?_⟩; have n0_ := Aside0.mk (below_step (by repeat (first | (with_reducible first | exact HB.out | apply below_alloc | apply pw_below_drewN | apply below_drew1) | exact HB.out)) hb); clear HB; have HB := n0_; clear n0_; (try clear hb); (try clear hb2); (try clear hk); (try clear hi)) | (go_at_call 15; (with_reducible refine (apogeeref17_Top.calls a0 a1 a2 t243 _ A29.out).mono ?_); rintro e w39 ⟨rfl, hb⟩; have n0_ := Aside0.mk (below_step (by repeat (first | (with_reducible first | exact HB.out | apply below_alloc | apply pw_below_drewN | apply below_drew1) | exact HB.out)) hb); clear HB; have HB := n0_; clear n0_; (try clear hb); (try clear hb2); (try clear hk); (try clear hi)))
                  go_ret
                  exact ⟨by first | rfl | (simp [errW_none, errW_some] <;> rfl) | (simp [*, errW_none, errW_some] <;> rfl), by repeat (first | (with_reducible first | exact HB.out | apply below_alloc | apply pw_below_drewN | apply below_drew1) | exact HB.out)⟩
            · rw [if_neg c30] at H
              have c30b0 : (t238 == t243) = false := beq_eq_false_iff_ne.mpr c30
              have c30b1 : (t238 != t243) = true := bne_iff_ne.mpr c30
              obtain rfl := Option.some.inj H
              go_wp2_with (first | ((with_reducible refine gate_callee (f := 14) rfl ?_); refine goesL_ (some 83) rfl rfl Try.func14 (by kernel_rfl) rfl #[.int .i64 a0, .int .i64 a1, .int .i64 a2] rfl (by (try simp only [List.map_toArray, List.map_cons, List.map_nil]); first | done | rfl | (simp only [List.length_drop, List.length_take]; rfl)) ?_; (with_reducible refine (apogeeref17_Time.calls kj8 a0 a1 a2 t242 _ A27.out).mono ?_); rintro e w40 ⟨rfl, hb⟩; refine ⟨_, rfl, ?_⟩; have n0_ := Aside0.mk (below_step (by repeat (first | (with_reducible first | exact HB.out | apply below_alloc | apply pw_below_drewN | apply below_drew1) | exact HB.out)) hb); clear HB; have HB := n0_; clear n0_; (try clear hb); (try clear hb2); (try clear hk); (try clear hi)) | (go_at_call 15; (with_reducible refine (apogeeref17_Top.calls a0 a1 a2 t243 _ A29.out).mono ?_); rintro e w41 ⟨rfl, hb⟩; have n0_ := Aside0.mk (below_step (by repeat (first | (with_reducible first | exact HB.out | apply below_alloc | apply pw_below_drewN | apply below_drew1) | exact HB.out)) hb); clear HB; have HB := n0_; clear n0_; (try clear hb); (try clear hb2); (try clear hk); (try clear hi)))
              go_ret
              exact ⟨by first | rfl | (simp [errW_none, errW_some] <;> rfl) | (simp [*, errW_none, errW_some] <;> rfl), by repeat (first | (with_reducible first | exact HB.out | apply below_alloc | apply pw_below_drewN | apply below_drew1) | exact HB.out)⟩
          · rw [if_neg c28] at H
            have c28b0 : (t234 == t242) = false := beq_eq_false_iff_ne.mpr c28
            have c28b1 : (t234 != t242) = true := bne_iff_ne.mpr c28
            obtain rfl := Option.some.inj H
            go_wp2_with (first | ((with_reducible refine gate_callee (f := 14) rfl ?_); refine goesL_ (some 83) rfl rfl Try.func14 (by kernel_rfl) rfl #[.int .i64 a0, .int .i64 a1, .int .i64 a2] rfl (by (try simp only [List.map_toArray, List.map_cons, List.map_nil]); first | done | rfl | (simp only [List.length_drop, List.length_take]; rfl)) ?_; (with_reducible refine (apogeeref17_Time.calls kj8 a0 a1 a2 t242 _ A27.out).mono ?_); rintro e w42 ⟨rfl, hb⟩; refine ⟨_, rfl, ?_⟩; have n0_ := Aside0.mk (below_step (by repeat (first | (with_reducible first | exact HB.out | apply below_alloc | apply pw_below_drewN | apply below_drew1) | exact HB.out)) hb); clear HB; have HB := n0_; clear n0_; (try clear hb); (try clear hb2); (try clear hk); (try clear hi)))
            go_ret
            exact ⟨by first | rfl | (simp [errW_none, errW_some] <;> rfl) | (simp [*, errW_none, errW_some] <;> rfl), by repeat (first | (with_reducible first | exact HB.out | apply below_alloc | apply pw_below_drewN | apply below_drew1) | exact HB.out)⟩
        · replace c26 := Bool.eq_false_iff.mpr c26
          subst c26
          have H1 : (if t234 = 0 then (if t236 = 0 then (some (t238 == 0)) else (some false)) else (some false)) = some r := by rw [if_neg (show ¬ (false = true) by decide)] at H; exact H
          clear H
          have H := H1
          clear H1
          by_cases c43 : t234 = 0
          · rw [if_pos c43] at H
            have c43b0 : (t234 == 0) = true := beq_iff_eq.mpr c43
            have c43b1 : (t234 != 0) = false := bne_eq_false_iff_eq.mpr c43
            clear c43
            by_cases c44 : t236 = 0
            · rw [if_pos c44] at H
              have c44b0 : (t236 == 0) = true := beq_iff_eq.mpr c44
              have c44b1 : (t236 != 0) = false := bne_eq_false_iff_eq.mpr c44
              clear c44
              obtain rfl := Option.some.inj H
              go_wp2
              go_ret
              exact ⟨by first | rfl | (simp [errW_none, errW_some] <;> rfl) | (simp [*, errW_none, errW_some] <;> rfl), by repeat (first | (with_reducible first | exact HB.out | apply below_alloc | apply pw_below_drewN | apply below_drew1) | exact HB.out)⟩
            · rw [if_neg c44] at H
              have c44b0 : (t236 == 0) = false := beq_eq_false_iff_ne.mpr c44
              have c44b1 : (t236 != 0) = true := bne_iff_ne.mpr c44
              obtain rfl := Option.some.inj H
              go_wp2
              go_ret
              exact ⟨by first | rfl | (simp [errW_none, errW_some] <;> rfl) | (simp [*, errW_none, errW_some] <;> rfl), by repeat (first | (with_reducible first | exact HB.out | apply below_alloc | apply pw_below_drewN | apply below_drew1) | exact HB.out)⟩
          · rw [if_neg c43] at H
            have c43b0 : (t234 == 0) = false := beq_eq_false_iff_ne.mpr c43
            have c43b1 : (t234 != 0) = true := bne_iff_ne.mpr c43
            obtain rfl := Option.some.inj H
            go_wp2
            go_ret
            exact ⟨by first | rfl | (simp [errW_none, errW_some] <;> rfl) | (simp [*, errW_none, errW_some] <;> rfl), by repeat (first | (with_reducible first | exact HB.out | apply below_alloc | apply pw_below_drewN | apply below_drew1) | exact HB.out)⟩

/-- THE ONE PURE STATEMENT of apogeelaw17_FallTells: yours. -/
def apogeelaw17_FallTells.Pure : Prop := ∀ (a0 : Int) (a1 : Int) (a2 : Int) (a3 : Int), (Lit.int .i64 a0).wf = true → (Lit.int .i64 a1).wf = true → (Lit.int .i64 a2).wf = true → (Lit.int .i64 a3).wf = true → ∃ k, apogeelaw17_FallTells.f k a0 a1 a2 a3 = some true
theorem apogeelaw17_FallTells.walk (P : apogeelaw17_FallTells.Pure) (a0 : Int) (a1 : Int) (a2 : Int) (a3 : Int) (w : World) (w0 : (Lit.int .i64 a0).wf = true) (w1 : (Lit.int .i64 a1).wf = true) (w2 : (Lit.int .i64 a2).wf = true) (w3 : (Lit.int .i64 a3).wf = true) :
    Calls Try.prog 3 #[.int .i64 a0, .int .i64 a1, .int .i64 a2, .int .i64 a3] w fun e w' => e = .returned (.bool true) ∧ Below w.heap.size w w' := by
  obtain ⟨k, h⟩ := P a0 a1 a2 a3 w0 w1 w2 w3
  refine (apogeelaw17_FallTells.calls k a0 a1 a2 a3 true w h).mono ?_
  rintro e w' ⟨rfl, hd⟩
  exact ⟨rfl, hd⟩

end Go.Proofs.Ytejiaiincdamkaa.PFallTells
