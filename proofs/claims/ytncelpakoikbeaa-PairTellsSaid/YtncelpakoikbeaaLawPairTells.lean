/- The row of the law PairTells: the given statement PairTellsSaid holds of the program, for every input. No conditions. -/
import Derived.Test.YtncelpakoikbeaaRows
import Derived.Test.YtncelpakoikbeaaPPairTellsx5
import Derived.Test.YtncelpakoikbeaaPurePairTells
import Derived.WalkKit
import Derived.ProofKit
import Derived.OpenShut
import Derived.ShutString
import Derived.ChangeOld
import Derived.Below
import Derived.SizedLaws
namespace Go.Proofs.Ytncelpakoikbeaa.pairTells
open Go.ChangeShapes Go.WideShapes Go.ChangeAt Go.RowKit
open Go.ChangeMaps (open_string shut_string)
set_option linter.unusedVariables false
theorem own : ownKnob Try.prog.godebug = none := by kernel_rfl
theorem laidOut : laidOutB Try.prog = true := by kernel_rfl
theorem open_T23 {H : Type} {enc : TypeId × Value → H} {w : World} {base : Nat} {spare : Nat → Bool} {held : Bool} {fuel : Nat} {cs : List Value} {x : DataW H × List MemPlace} (h : DataW.trod enc Try.prog w base spare held fuel 23 cs = some x) :
    ∃ (x0 : Int) (x1 : Int) (x2 : Int) (x3 : Int) (x4 : Int) (x5 : Int) (x6 : Int) (x7 : Int), cs = [.int .i64 x0, .int .i64 x1, .int .i64 x2, .int .i64 x3, .int .i64 x4, .int .i64 x5, .int .i64 x6, .int .i64 x7] ∧ (Lit.int .i64 x0).wf = true ∧ (Lit.int .i64 x1).wf = true ∧ (Lit.int .i64 x2).wf = true ∧ (Lit.int .i64 x3).wf = true ∧ (Lit.int .i64 x4).wf = true ∧ (Lit.int .i64 x5).wf = true ∧ (Lit.int .i64 x6).wf = true ∧ (Lit.int .i64 x7).wf = true := by
  obtain ⟨xs, m, _, _, hl, hlen, hf⟩ := DataW.trod_struct Try.underlying23 h
  rw [show Try.prog.cellsOf 23 = 8 from by kernel_rfl] at hl
  obtain ⟨c0, c1, c2, c3, c4, c5, c6, c7, rfl⟩ : ∃ c0 c1 c2 c3 c4 c5 c6 c7, cs = [c0, c1, c2, c3, c4, c5, c6, c7] := by
    match cs, hl with
    | [c0, c1, c2, c3, c4, c5, c6, c7], _ => exact ⟨c0, c1, c2, c3, c4, c5, c6, c7, rfl⟩
  obtain ⟨y0, e0⟩ : ∃ y, xs[0]? = some y := ⟨_, List.getElem?_eq_getElem (by rw [hlen]; decide)⟩
  have t0 := hf 0 _ rfl
  rw [e0] at t0
  replace t0 : DataW.trod enc Try.prog w base spare held m 3 [c0] = some y0 := by
    have hc : Try.prog.cellsOf 3 = 1 := by kernel_rfl
    simpa [hc] using t0
  obtain ⟨x0, v0, _, w0⟩ := DataW.trod_int Try.underlying3 t0
  obtain rfl := (List.cons.inj v0).1
  obtain ⟨y1, e1⟩ : ∃ y, xs[1]? = some y := ⟨_, List.getElem?_eq_getElem (by rw [hlen]; decide)⟩
  have t1 := hf 1 _ rfl
  rw [e1] at t1
  replace t1 : DataW.trod enc Try.prog w base spare held m 3 [c1] = some y1 := by
    have hc : Try.prog.cellsOf 3 = 1 := by kernel_rfl
    simpa [hc] using t1
  obtain ⟨x1, v1, _, w1⟩ := DataW.trod_int Try.underlying3 t1
  obtain rfl := (List.cons.inj v1).1
  obtain ⟨y2, e2⟩ : ∃ y, xs[2]? = some y := ⟨_, List.getElem?_eq_getElem (by rw [hlen]; decide)⟩
  have t2 := hf 2 _ rfl
  rw [e2] at t2
  replace t2 : DataW.trod enc Try.prog w base spare held m 2 [c2] = some y2 := by
    have hc : Try.prog.cellsOf 2 = 1 := by kernel_rfl
    simpa [hc] using t2
  obtain ⟨x2, v2, _, w2⟩ := DataW.trod_int Try.underlying2 t2
  obtain rfl := (List.cons.inj v2).1
  obtain ⟨y3, e3⟩ : ∃ y, xs[3]? = some y := ⟨_, List.getElem?_eq_getElem (by rw [hlen]; decide)⟩
  have t3 := hf 3 _ rfl
  rw [e3] at t3
  replace t3 : DataW.trod enc Try.prog w base spare held m 2 [c3] = some y3 := by
    have hc : Try.prog.cellsOf 2 = 1 := by kernel_rfl
    simpa [hc] using t3
  obtain ⟨x3, v3, _, w3⟩ := DataW.trod_int Try.underlying2 t3
  obtain rfl := (List.cons.inj v3).1
  obtain ⟨y4, e4⟩ : ∃ y, xs[4]? = some y := ⟨_, List.getElem?_eq_getElem (by rw [hlen]; decide)⟩
  have t4 := hf 4 _ rfl
  rw [e4] at t4
  replace t4 : DataW.trod enc Try.prog w base spare held m 2 [c4] = some y4 := by
    have hc : Try.prog.cellsOf 2 = 1 := by kernel_rfl
    simpa [hc] using t4
  obtain ⟨x4, v4, _, w4⟩ := DataW.trod_int Try.underlying2 t4
  obtain rfl := (List.cons.inj v4).1
  obtain ⟨y5, e5⟩ : ∃ y, xs[5]? = some y := ⟨_, List.getElem?_eq_getElem (by rw [hlen]; decide)⟩
  have t5 := hf 5 _ rfl
  rw [e5] at t5
  replace t5 : DataW.trod enc Try.prog w base spare held m 2 [c5] = some y5 := by
    have hc : Try.prog.cellsOf 2 = 1 := by kernel_rfl
    simpa [hc] using t5
  obtain ⟨x5, v5, _, w5⟩ := DataW.trod_int Try.underlying2 t5
  obtain rfl := (List.cons.inj v5).1
  obtain ⟨y6, e6⟩ : ∃ y, xs[6]? = some y := ⟨_, List.getElem?_eq_getElem (by rw [hlen]; decide)⟩
  have t6 := hf 6 _ rfl
  rw [e6] at t6
  replace t6 : DataW.trod enc Try.prog w base spare held m 2 [c6] = some y6 := by
    have hc : Try.prog.cellsOf 2 = 1 := by kernel_rfl
    simpa [hc] using t6
  obtain ⟨x6, v6, _, w6⟩ := DataW.trod_int Try.underlying2 t6
  obtain rfl := (List.cons.inj v6).1
  obtain ⟨y7, e7⟩ : ∃ y, xs[7]? = some y := ⟨_, List.getElem?_eq_getElem (by rw [hlen]; decide)⟩
  have t7 := hf 7 _ rfl
  rw [e7] at t7
  replace t7 : DataW.trod enc Try.prog w base spare held m 2 [c7] = some y7 := by
    have hc : Try.prog.cellsOf 2 = 1 := by kernel_rfl
    simpa [hc] using t7
  obtain ⟨x7, v7, _, w7⟩ := DataW.trod_int Try.underlying2 t7
  obtain rfl := (List.cons.inj v7).1
  exact ⟨x0, x1, x2, x3, x4, x5, x6, x7, rfl, w0, w1, w2, w3, w4, w5, w6, w7⟩
set_option maxRecDepth 100000 in
theorem lifted (os : Os) (started : os.Started) (H : Type) (enc : TypeId × Value → H) :
    ReturnsInHanded {} Try.checked os 3 .any (Rows.pairTellsSpec.pre6 enc Try.prog Try.f3 Rows.pairTellsRow.domain false) (Rows.pairTellsSpec.post enc Try.prog Try.f3 false true false false) := by
  refine returnsInHanded_of_change_sized (C := Try.checked) own started (by kernel_rfl) Try.func3
    (ChangeSpec.witness6 (enc := enc) (C := Try.checked) false ⟨#[], #[.agg #[.int .i64 0, .int .i64 0, .int .i64 0, .int .i64 0, .int .i64 0, .int .i64 0, .int .i64 0, .int .i64 0], .agg #[.int .i64 0, .int .i64 0, .int .i64 0, .int .i64 0, .int .i64 0, .int .i64 0, .int .i64 0, .int .i64 0], .bool false, .bool false, .int .i64 0], []⟩ 8 (by kernel_rfl) (by kernel_rfl) (by kernel_rfl) (by kernel_rfl)) ?_
  intro W base args ds gs before hval0 hW hcnd hsz0 _
  have hsz : (DataW.weightsEach Try.prog (Try.f3.params.toList ++ Rows.pairTellsSpec.plain.varTypes Try.prog) (ds ++ gs)).all (· ≤ reachBytes) = true := hsz0
  have hval : ∀ (j : Nat) t v, Try.f3.params[j]? = some t → args[j]? = some v → Value.okWide Try.prog W .any base t v := hval0
  have hW' := hW
  obtain ⟨p, q, hA0, hV, rfl, hfz, hnd⟩ := hW
  have hA : DataW.TrodAll enc Try.prog W 0 (fun _ => true) true Try.f3.params.toList args.toList ds p := hA0
  rw [Try.params3] at hA hval hsz
  obtain ⟨v0, vs0, d0, ds0, p0, q0, hargs, rfl, rfl, h0, r0⟩ := trodAll_cons hA
  obtain ⟨v1, vs1, d1, ds1, p1, q1, rfl, rfl, rfl, h1, r1⟩ := trodAll_cons r0
  obtain ⟨v2, vs2, d2, ds2, p2, q2, rfl, rfl, rfl, h2, r2⟩ := trodAll_cons r1
  obtain ⟨v3, vs3, d3, ds3, p3, q3, rfl, rfl, rfl, h3, r3⟩ := trodAll_cons r2
  obtain ⟨v4, vs4, d4, ds4, p4, q4, rfl, rfl, rfl, h4, r4⟩ := trodAll_cons r3
  obtain ⟨rfl, rfl, rfl⟩ := trodAll_nil r4
  obtain rfl : args = #[v0, v1, v2, v3, v4] := by cases args; simp_all
  obtain ⟨rfl, rfl⟩ := trodVars_none hV
  obtain ⟨cs0, rfl, _⟩ := okWide_struct Try.underlying23 (hval 0 23 v0 rfl rfl)
  have k0 := h0
  have lt0 : ∀ x ∈ p0, x.block < W.heap.size := by obtain ⟨m, hm⟩ := k0; exact DataW.trod_lt m _ _ _ hm
  obtain ⟨a0_0, a0_1, a0_2, a0_3, a0_4, a0_5, a0_6, a0_7, z0, w0_0, w0_1, w0_2, w0_3, w0_4, w0_5, w0_6, w0_7⟩ : ∃ (a0_0 : Int) (a0_1 : Int) (a0_2 : Int) (a0_3 : Int) (a0_4 : Int) (a0_5 : Int) (a0_6 : Int) (a0_7 : Int), cs0 = #[.int .i64 a0_0, .int .i64 a0_1, .int .i64 a0_2, .int .i64 a0_3, .int .i64 a0_4, .int .i64 a0_5, .int .i64 a0_6, .int .i64 a0_7] ∧ (Lit.int .i64 a0_0).wf = true ∧ (Lit.int .i64 a0_1).wf = true ∧ (Lit.int .i64 a0_2).wf = true ∧ (Lit.int .i64 a0_3).wf = true ∧ (Lit.int .i64 a0_4).wf = true ∧ (Lit.int .i64 a0_5).wf = true ∧ (Lit.int .i64 a0_6).wf = true ∧ (Lit.int .i64 a0_7).wf = true := by
    obtain ⟨fuel, hf⟩ := h0
    obtain ⟨a0_0, a0_1, a0_2, a0_3, a0_4, a0_5, a0_6, a0_7, hcs, hw⟩ := open_T23 hf
    exact ⟨a0_0, a0_1, a0_2, a0_3, a0_4, a0_5, a0_6, a0_7, by rw [← Array.toList_inj]; exact hcs, hw⟩
  subst z0
  obtain ⟨cs1, rfl, _⟩ := okWide_struct Try.underlying23 (hval 1 23 v1 rfl rfl)
  have k1 := h1
  have lt1 : ∀ x ∈ p1, x.block < W.heap.size := by obtain ⟨m, hm⟩ := k1; exact DataW.trod_lt m _ _ _ hm
  obtain ⟨a1_0, a1_1, a1_2, a1_3, a1_4, a1_5, a1_6, a1_7, z1, w1_0, w1_1, w1_2, w1_3, w1_4, w1_5, w1_6, w1_7⟩ : ∃ (a1_0 : Int) (a1_1 : Int) (a1_2 : Int) (a1_3 : Int) (a1_4 : Int) (a1_5 : Int) (a1_6 : Int) (a1_7 : Int), cs1 = #[.int .i64 a1_0, .int .i64 a1_1, .int .i64 a1_2, .int .i64 a1_3, .int .i64 a1_4, .int .i64 a1_5, .int .i64 a1_6, .int .i64 a1_7] ∧ (Lit.int .i64 a1_0).wf = true ∧ (Lit.int .i64 a1_1).wf = true ∧ (Lit.int .i64 a1_2).wf = true ∧ (Lit.int .i64 a1_3).wf = true ∧ (Lit.int .i64 a1_4).wf = true ∧ (Lit.int .i64 a1_5).wf = true ∧ (Lit.int .i64 a1_6).wf = true ∧ (Lit.int .i64 a1_7).wf = true := by
    obtain ⟨fuel, hf⟩ := h1
    obtain ⟨a1_0, a1_1, a1_2, a1_3, a1_4, a1_5, a1_6, a1_7, hcs, hw⟩ := open_T23 hf
    exact ⟨a1_0, a1_1, a1_2, a1_3, a1_4, a1_5, a1_6, a1_7, by rw [← Array.toList_inj]; exact hcs, hw⟩
  subst z1
  obtain ⟨a2, rfl, rfl, rfl⟩ := open_bool Try.underlying4 (hval 2 4 v2 rfl rfl) h2
  obtain ⟨a3, rfl, rfl, rfl⟩ := open_bool Try.underlying4 (hval 3 4 v3 rfl rfl) h3
  obtain ⟨a4, rfl, rfl, rfl, w4⟩ := open_int Try.underlying2 (hval 4 2 v4 rfl rfl) h4
  clear hA0 hval0 hsz0 hsz
  refine (PPairTells.apogeelaw16_PairTells.walk Pure.PairTells a0_0 a0_1 a0_2 a0_3 a0_4 a0_5 a0_6 a0_7 a1_0 a1_1 a1_2 a1_3 a1_4 a1_5 a1_6 a1_7 a2 a3 a4 W w0_0 w0_1 w0_2 w0_3 w0_4 w0_5 w0_6 w0_7 w1_0 w1_1 w1_2 w1_3 w1_4 w1_5 w1_6 w1_7 w4).mono fun e W' ⟨he, bel⟩ => ?_
  subst he
  exact ⟨_, rfl, _, _, _, [], _, [], hW', trodAll_mk1 (shut_bool Try.underlying4 _), (trodAll_cons_mk (Below.trod laidOut (by kernel_rfl) (of_decide_eq_true (by kernel_rfl)) k0 bel lt0) (trodAll_cons_mk (Below.trod laidOut (by kernel_rfl) (of_decide_eq_true (by kernel_rfl)) k1 bel lt1) (trodAll_cons_mk (shut_bool Try.underlying4 _) (trodAll_cons_mk (shut_bool Try.underlying4 _) (trodAll_cons_mk (shut_int Try.underlying2 w4) trodAll_mk0))))), rfl, bel.frame _, fun h => by cases h⟩
theorem over : Rows.pairTellsRow.holds Try.pinned (OpenSpec.ofChange Rows.pairTellsSpec) :=
  OpenClaim.holds_of_wide 3 Try.f3 rfl rfl rfl rfl rfl rfl rfl ⟨rfl, rfl, rfl, rfl, rfl⟩ rfl rfl rfl rfl rfl (by kernel_rfl) Try.func3 (by kernel_rfl)
    (of_decide_eq_true (by kernel_rfl)) (by unfold Func.isWrapper; first | (rw [if_pos (by decide +kernel)]; kernel_rfl) | (rw [if_neg (by decide +kernel)]; exact ⟨rfl, rfl⟩))
    (fun os started H enc _ => lifted os started H enc)
theorem proved : Rows.PairTellsSaid := over
#print axioms proved
end Go.Proofs.Ytncelpakoikbeaa.pairTells
namespace Go.Proofs.Ytncelpakoikbeaa
/-- The row, under a short name, for the claim. -/
theorem pairTells_holds : Rows.PairTellsSaid := pairTells.proved
end Go.Proofs.Ytncelpakoikbeaa
