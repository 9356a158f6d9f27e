/- The row of the law PointMirror: the given statement PointMirrorSaid holds of the program, for every input. No conditions. -/
import Derived.Test.YtbcbaidnamebkaaRows
import Derived.Test.YtbcbaidnamebkaaAEclaw
import Derived.Test.YtbcbaidnamebkaaAElawPointMirror
import Derived.WalkKit
import Derived.ProofKit
import Derived.OpenShut
import Derived.ShutString
import Derived.ChangeOld
import Derived.Below
import Derived.SizedLaws
namespace Go.Proofs.Ytbcbaidnamebkaa.pointMirror
open Go.ChangeShapes Go.WideShapes Go.ChangeAt Go.RowKit
open Go.ChangeMaps (open_string shut_string)
set_option linter.unusedVariables false
theorem own : ownKnob Try.prog.godebug = none := by kernel_rfl
theorem laidOut : laidOutB Try.prog = true := by kernel_rfl
theorem open_T23 {H : Type} {enc : TypeId × Value → H} {w : World} {base : Nat} {spare : Nat → Bool} {held : Bool} {fuel : Nat} {cs : List Value} {x : DataW H × List MemPlace} (h : DataW.trod enc Try.prog w base spare held fuel 23 cs = some x) :
    ∃ (x0 : Int) (x1 : Int), cs = [.int .i64 x0, .int .i64 x1] ∧ (Lit.int .i64 x0).wf = true ∧ (Lit.int .i64 x1).wf = true := by
  obtain ⟨xs, m, _, _, hl, hlen, hf⟩ := DataW.trod_struct Try.underlying23 h
  rw [show Try.prog.cellsOf 23 = 2 from by kernel_rfl] at hl
  obtain ⟨c0, c1, rfl⟩ : ∃ c0 c1, cs = [c0, c1] := by
    match cs, hl with
    | [c0, c1], _ => exact ⟨c0, c1, rfl⟩
  obtain ⟨y0, e0⟩ : ∃ y, xs[0]? = some y := ⟨_, List.getElem?_eq_getElem (by rw [hlen]; decide)⟩
  have t0 := hf 0 _ rfl
  rw [e0] at t0
  replace t0 : DataW.trod enc Try.prog w base spare held m 2 [c0] = some y0 := by
    have hc : Try.prog.cellsOf 2 = 1 := by kernel_rfl
    simpa [hc] using t0
  obtain ⟨x0, v0, _, w0⟩ := DataW.trod_int Try.underlying2 t0
  obtain rfl := (List.cons.inj v0).1
  obtain ⟨y1, e1⟩ : ∃ y, xs[1]? = some y := ⟨_, List.getElem?_eq_getElem (by rw [hlen]; decide)⟩
  have t1 := hf 1 _ rfl
  rw [e1] at t1
  replace t1 : DataW.trod enc Try.prog w base spare held m 2 [c1] = some y1 := by
    have hc : Try.prog.cellsOf 2 = 1 := by kernel_rfl
    simpa [hc] using t1
  obtain ⟨x1, v1, _, w1⟩ := DataW.trod_int Try.underlying2 t1
  obtain rfl := (List.cons.inj v1).1
  exact ⟨x0, x1, rfl, w0, w1⟩
set_option maxRecDepth 100000 in
theorem lifted (os : Os) (started : os.Started) (H : Type) (enc : TypeId × Value → H) :
    ReturnsInHanded {} Try.checked os 7 .any (Rows.pointMirrorSpec.pre6 enc Try.prog Try.f7 Rows.pointMirrorRow.domain false) (Rows.pointMirrorSpec.post enc Try.prog Try.f7 false true false false) := by
  refine returnsInHanded_of_change_sized (C := Try.checked) own started (by kernel_rfl) Try.func7
    (ChangeSpec.witness6 (enc := enc) (C := Try.checked) false ⟨#[], #[.agg #[.int .i64 0, .int .i64 0], .agg #[.int .i64 0, .int .i64 0], .agg #[.int .i64 0, .int .i64 0], .agg #[.int .i64 0, .int .i64 0]], []⟩ 8 (by kernel_rfl) (by kernel_rfl) (by kernel_rfl) (by kernel_rfl)) ?_
  intro W base args ds gs before hval0 hW hcnd hsz0 _
  have hsz : (DataW.weightsEach Try.prog (Try.f7.params.toList ++ Rows.pointMirrorSpec.plain.varTypes Try.prog) (ds ++ gs)).all (· ≤ reachBytes) = true := hsz0
  have hval : ∀ (j : Nat) t v, Try.f7.params[j]? = some t → args[j]? = some v → Value.okWide Try.prog W .any base t v := hval0
  have hW' := hW
  obtain ⟨p, q, hA0, hV, rfl, hfz, hnd⟩ := hW
  have hA : DataW.TrodAll enc Try.prog W 0 (fun _ => true) true Try.f7.params.toList args.toList ds p := hA0
  rw [Try.params7] at hA hval hsz
  obtain ⟨v0, vs0, d0, ds0, p0, q0, hargs, rfl, rfl, h0, r0⟩ := trodAll_cons hA
  obtain ⟨v1, vs1, d1, ds1, p1, q1, rfl, rfl, rfl, h1, r1⟩ := trodAll_cons r0
  obtain ⟨v2, vs2, d2, ds2, p2, q2, rfl, rfl, rfl, h2, r2⟩ := trodAll_cons r1
  obtain ⟨v3, vs3, d3, ds3, p3, q3, rfl, rfl, rfl, h3, r3⟩ := trodAll_cons r2
  obtain ⟨rfl, rfl, rfl⟩ := trodAll_nil r3
  obtain rfl : args = #[v0, v1, v2, v3] := by cases args; simp_all
  obtain ⟨rfl, rfl⟩ := trodVars_none hV
  obtain ⟨cs0, rfl, _⟩ := okWide_struct Try.underlying23 (hval 0 23 v0 rfl rfl)
  have k0 := h0
  have lt0 : ∀ x ∈ p0, x.block < W.heap.size := by obtain ⟨m, hm⟩ := k0; exact DataW.trod_lt m _ _ _ hm
  obtain ⟨a0_0, a0_1, z0, w0_0, w0_1⟩ : ∃ (a0_0 : Int) (a0_1 : Int), cs0 = #[.int .i64 a0_0, .int .i64 a0_1] ∧ (Lit.int .i64 a0_0).wf = true ∧ (Lit.int .i64 a0_1).wf = true := by
    obtain ⟨fuel, hf⟩ := h0
    obtain ⟨a0_0, a0_1, hcs, hw⟩ := open_T23 hf
    exact ⟨a0_0, a0_1, by rw [← Array.toList_inj]; exact hcs, hw⟩
  subst z0
  obtain ⟨cs1, rfl, _⟩ := okWide_struct Try.underlying23 (hval 1 23 v1 rfl rfl)
  have k1 := h1
  have lt1 : ∀ x ∈ p1, x.block < W.heap.size := by obtain ⟨m, hm⟩ := k1; exact DataW.trod_lt m _ _ _ hm
  obtain ⟨a1_0, a1_1, z1, w1_0, w1_1⟩ : ∃ (a1_0 : Int) (a1_1 : Int), cs1 = #[.int .i64 a1_0, .int .i64 a1_1] ∧ (Lit.int .i64 a1_0).wf = true ∧ (Lit.int .i64 a1_1).wf = true := by
    obtain ⟨fuel, hf⟩ := h1
    obtain ⟨a1_0, a1_1, hcs, hw⟩ := open_T23 hf
    exact ⟨a1_0, a1_1, by rw [← Array.toList_inj]; exact hcs, hw⟩
  subst z1
  obtain ⟨cs2, rfl, _⟩ := okWide_struct Try.underlying23 (hval 2 23 v2 rfl rfl)
  have k2 := h2
  have lt2 : ∀ x ∈ p2, x.block < W.heap.size := by obtain ⟨m, hm⟩ := k2; exact DataW.trod_lt m _ _ _ hm
  obtain ⟨a2_0, a2_1, z2, w2_0, w2_1⟩ : ∃ (a2_0 : Int) (a2_1 : Int), cs2 = #[.int .i64 a2_0, .int .i64 a2_1] ∧ (Lit.int .i64 a2_0).wf = true ∧ (Lit.int .i64 a2_1).wf = true := by
    obtain ⟨fuel, hf⟩ := h2
    obtain ⟨a2_0, a2_1, hcs, hw⟩ := open_T23 hf
    exact ⟨a2_0, a2_1, by rw [← Array.toList_inj]; exact hcs, hw⟩
  subst z2
  obtain ⟨cs3, rfl, _⟩ := okWide_struct Try.underlying23 (hval 3 23 v3 rfl rfl)
  have k3 := h3
  have lt3 : ∀ x ∈ p3, x.block < W.heap.size := by obtain ⟨m, hm⟩ := k3; exact DataW.trod_lt m _ _ _ hm
  obtain ⟨a3_0, a3_1, z3, w3_0, w3_1⟩ : ∃ (a3_0 : Int) (a3_1 : Int), cs3 = #[.int .i64 a3_0, .int .i64 a3_1] ∧ (Lit.int .i64 a3_0).wf = true ∧ (Lit.int .i64 a3_1).wf = true := by
    obtain ⟨fuel, hf⟩ := h3
    obtain ⟨a3_0, a3_1, hcs, hw⟩ := open_T23 hf
    exact ⟨a3_0, a3_1, by rw [← Array.toList_inj]; exact hcs, hw⟩
  subst z3
  clear hA0 hval0 hsz0 hsz
  refine (AE.law_calls (AE.law_PointMirror (a0_0, a0_1) (a1_0, a1_1) (a2_0, a2_1) (a3_0, a3_1)) W rfl (AE.frl_cons (.agg _ [.int .i64 a0_0, .int .i64 a0_1] rfl (AE.frl_cons (.int _ _) (AE.frl_cons (.int _ _) AE.frl_nil))) (AE.frl_cons (.agg _ [.int .i64 a1_0, .int .i64 a1_1] rfl (AE.frl_cons (.int _ _) (AE.frl_cons (.int _ _) AE.frl_nil))) (AE.frl_cons (.agg _ [.int .i64 a2_0, .int .i64 a2_1] rfl (AE.frl_cons (.int _ _) (AE.frl_cons (.int _ _) AE.frl_nil))) (AE.frl_cons (.agg _ [.int .i64 a3_0, .int .i64 a3_1] rfl (AE.frl_cons (.int _ _) (AE.frl_cons (.int _ _) AE.frl_nil))) AE.frl_nil))))).mono fun e W' ⟨he, bel⟩ => ?_
  subst he
  exact ⟨_, rfl, _, _, _, [], _, [], hW', trodAll_mk1 (shut_bool Try.underlying4 _), (trodAll_cons_mk (Below.trod laidOut (by kernel_rfl) (of_decide_eq_true (by kernel_rfl)) k0 bel lt0) (trodAll_cons_mk (Below.trod laidOut (by kernel_rfl) (of_decide_eq_true (by kernel_rfl)) k1 bel lt1) (trodAll_cons_mk (Below.trod laidOut (by kernel_rfl) (of_decide_eq_true (by kernel_rfl)) k2 bel lt2) (trodAll_cons_mk (Below.trod laidOut (by kernel_rfl) (of_decide_eq_true (by kernel_rfl)) k3 bel lt3) trodAll_mk0)))), rfl, bel.frame _, fun h => by cases h⟩
theorem over : Rows.pointMirrorRow.holds Try.pinned (OpenSpec.ofChange Rows.pointMirrorSpec) :=
  OpenClaim.holds_of_wide 7 Try.f7 rfl rfl rfl rfl rfl rfl rfl ⟨rfl, rfl, rfl, rfl, rfl⟩ rfl rfl rfl rfl rfl (by kernel_rfl) Try.func7 (by kernel_rfl)
    (of_decide_eq_true (by kernel_rfl)) (by unfold Func.isWrapper; first | (rw [if_pos (by decide +kernel)]; kernel_rfl) | (rw [if_neg (by decide +kernel)]; exact ⟨rfl, rfl⟩))
    (fun os started H enc _ => lifted os started H enc)
theorem proved : Rows.PointMirrorSaid := over
#print axioms proved
end Go.Proofs.Ytbcbaidnamebkaa.pointMirror
namespace Go.Proofs.Ytbcbaidnamebkaa
/-- The row, under a short name, for the claim. -/
theorem pointMirror_holds : Rows.PointMirrorSaid := pointMirror.proved
end Go.Proofs.Ytbcbaidnamebkaa
