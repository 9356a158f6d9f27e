/- The row of the law BoxOrder: the given statement BoxOrderSaid holds of the program, for every input. No conditions. -/
import Derived.Test.YtjblhppbjebagaaRows
import Derived.Test.YtjblhppbjebagaaMBoxOrder0
import Derived.WalkKit
import Derived.ProofKit
import Derived.OpenShut
import Derived.ShutString
import Derived.ChangeOld
import Derived.Below
import Derived.SizedLaws
namespace Go.Proofs.Ytjblhppbjebagaa.boxOrder
open Go.ChangeShapes Go.WideShapes Go.ChangeAt Go.RowKit
open Go.ChangeMaps (open_string shut_string)
set_option linter.unusedVariables false
theorem own : ownKnob Try.prog.godebug = none := by kernel_rfl
theorem laidOut : laidOutB Try.prog = true := by kernel_rfl
set_option maxRecDepth 100000 in
theorem lifted (os : Os) (started : os.Started) (H : Type) (enc : TypeId × Value → H) :
    ReturnsInHanded {} Try.checked os 8 .any (Rows.boxOrderSpec.pre6 enc Try.prog Try.f8 Rows.boxOrderRow.domain false) (Rows.boxOrderSpec.post enc Try.prog Try.f8 false true false false) := by
  refine returnsInHanded_of_change_sized (C := Try.checked) own started (by kernel_rfl) Try.func8
    (ChangeSpec.witness6 (enc := enc) (C := Try.checked) false ⟨#[], #[.agg #[.int .i64 0, .int .i64 0, .int .i64 0, .int .i64 0], .agg #[.int .i64 0, .int .i64 0, .int .i64 0, .int .i64 0], .agg #[.int .i64 0, .int .i64 0, .int .i64 0, .int .i64 0], .agg #[.int .i64 0, .int .i64 0], .int .i64 0, .int .i64 0], []⟩ 8 (by kernel_rfl) (by kernel_rfl) (by kernel_rfl) (by kernel_rfl)) ?_
  intro W base args ds gs before hval0 hW hcnd hsz0 _
  have hval : ∀ (j : Nat) t v, Try.f8.params[j]? = some t → args[j]? = some v → Value.okWide Try.prog W .any base t v := hval0
  have hW' := hW
  obtain ⟨p, q, hA0, hV, rfl, hfz, hnd⟩ := hW
  have hA : DataW.TrodAll enc Try.prog W 0 (fun _ => true) true Try.f8.params.toList args.toList ds p := hA0
  rw [Try.params8] at hA hval
  obtain ⟨v0, vs0, d0, ds0, p0, q0, hargs, rfl, rfl, h0, r0⟩ := trodAll_cons hA
  obtain ⟨v1, vs1, d1, ds1, p1, q1, rfl, rfl, rfl, h1, r1⟩ := trodAll_cons r0
  obtain ⟨v2, vs2, d2, ds2, p2, q2, rfl, rfl, rfl, h2, r2⟩ := trodAll_cons r1
  obtain ⟨v3, vs3, d3, ds3, p3, q3, rfl, rfl, rfl, h3, r3⟩ := trodAll_cons r2
  obtain ⟨v4, vs4, d4, ds4, p4, q4, rfl, rfl, rfl, h4, r4⟩ := trodAll_cons r3
  obtain ⟨v5, vs5, d5, ds5, p5, q5, rfl, rfl, rfl, h5, r5⟩ := trodAll_cons r4
  obtain ⟨rfl, rfl, rfl⟩ := trodAll_nil r5
  obtain rfl : args = #[v0, v1, v2, v3, v4, v5] := by cases args; simp_all
  obtain ⟨rfl, rfl⟩ := trodVars_none hV
  obtain ⟨cs0, rfl, _⟩ := okWide_struct Try.underlying25 (hval 0 25 v0 rfl rfl)
  have k0 := h0
  have lt0 : ∀ x ∈ p0, x.block < W.heap.size := by obtain ⟨m, hm⟩ := k0; exact DataW.trod_lt m _ _ _ hm
  obtain ⟨a0, ty0, fr0⟩ := AE.open_ag (l := [(.i .i64), (.i .i64), (.i .i64), (.i .i64)]) (by kernel_rfl) h0
  obtain ⟨_, rfl, _, _, rfl, ⟨a0_0, rfl, w0_0⟩, _, _, rfl, ⟨a0_1, rfl, w0_1⟩, _, _, rfl, ⟨a0_2, rfl, w0_2⟩, _, _, rfl, ⟨a0_3, rfl, w0_3⟩, rfl⟩ := ty0
  obtain ⟨cs1, rfl, _⟩ := okWide_struct Try.underlying25 (hval 1 25 v1 rfl rfl)
  have k1 := h1
  have lt1 : ∀ x ∈ p1, x.block < W.heap.size := by obtain ⟨m, hm⟩ := k1; exact DataW.trod_lt m _ _ _ hm
  obtain ⟨a1, ty1, fr1⟩ := AE.open_ag (l := [(.i .i64), (.i .i64), (.i .i64), (.i .i64)]) (by kernel_rfl) h1
  obtain ⟨_, rfl, _, _, rfl, ⟨a1_0, rfl, w1_0⟩, _, _, rfl, ⟨a1_1, rfl, w1_1⟩, _, _, rfl, ⟨a1_2, rfl, w1_2⟩, _, _, rfl, ⟨a1_3, rfl, w1_3⟩, rfl⟩ := ty1
  obtain ⟨cs2, rfl, _⟩ := okWide_struct Try.underlying25 (hval 2 25 v2 rfl rfl)
  have k2 := h2
  have lt2 : ∀ x ∈ p2, x.block < W.heap.size := by obtain ⟨m, hm⟩ := k2; exact DataW.trod_lt m _ _ _ hm
  obtain ⟨a2, ty2, fr2⟩ := AE.open_ag (l := [(.i .i64), (.i .i64), (.i .i64), (.i .i64)]) (by kernel_rfl) h2
  obtain ⟨_, rfl, _, _, rfl, ⟨a2_0, rfl, w2_0⟩, _, _, rfl, ⟨a2_1, rfl, w2_1⟩, _, _, rfl, ⟨a2_2, rfl, w2_2⟩, _, _, rfl, ⟨a2_3, rfl, w2_3⟩, rfl⟩ := ty2
  obtain ⟨cs3, rfl, _⟩ := okWide_struct Try.underlying23 (hval 3 23 v3 rfl rfl)
  have k3 := h3
  have lt3 : ∀ x ∈ p3, x.block < W.heap.size := by obtain ⟨m, hm⟩ := k3; exact DataW.trod_lt m _ _ _ hm
  obtain ⟨a3, ty3, fr3⟩ := AE.open_ag (l := [(.i .i64), (.i .i64)]) (by kernel_rfl) h3
  obtain ⟨_, rfl, _, _, rfl, ⟨a3_0, rfl, w3_0⟩, _, _, rfl, ⟨a3_1, rfl, w3_1⟩, rfl⟩ := ty3
  obtain ⟨x4, rfl⟩ := okWide_int Try.underlying2 (hval 4 2 v4 rfl rfl)
  have k4 := h4
  have lt4 : ∀ x ∈ p4, x.block < W.heap.size := by obtain ⟨m, hm⟩ := k4; exact DataW.trod_lt m _ _ _ hm
  obtain ⟨a4, ty4, fr4⟩ := AE.open_sc (l := [(.i .i64)]) rfl (by kernel_rfl) h4
  obtain ⟨_, rfl, _, _, e4, hc4, rfl⟩ := ty4
  injection e4 with e4 _
  subst e4
  obtain ⟨b4, rfl, w4⟩ := hc4
  obtain ⟨x5, rfl⟩ := okWide_int Try.underlying2 (hval 5 2 v5 rfl rfl)
  have k5 := h5
  have lt5 : ∀ x ∈ p5, x.block < W.heap.size := by obtain ⟨m, hm⟩ := k5; exact DataW.trod_lt m _ _ _ hm
  obtain ⟨a5, ty5, fr5⟩ := AE.open_sc (l := [(.i .i64)]) rfl (by kernel_rfl) h5
  obtain ⟨_, rfl, _, _, e5, hc5, rfl⟩ := ty5
  injection e5 with e5 _
  subst e5
  obtain ⟨b5, rfl, w5⟩ := hc5
  clear hA0 hval0 hsz0
  refine (AE.law_calls (AE.law_BoxOrder a0_0 a0_1 a0_2 a0_3 a1_0 a1_1 a1_2 a1_3 a2_0 a2_1 a2_2 a2_3 a3_0 a3_1 b4 b5 w0_0 w0_1 w0_2 w0_3 w1_0 w1_1 w1_2 w1_3 w2_0 w2_1 w2_2 w2_3 w3_0 w3_1 w4 w5) W rfl (AE.frl_cons fr0 (AE.frl_cons fr1 (AE.frl_cons fr2 (AE.frl_cons fr3 (AE.frl_cons fr4 (AE.frl_cons fr5 AE.frl_nil))))))).mono fun e W' ⟨he, bel⟩ => ?_
  subst he
  exact ⟨_, rfl, _, _, _, [], _, [], hW', trodAll_mk1 (shut_bool Try.underlying4 _), (trodAll_cons_mk (Below.trod laidOut (by kernel_rfl) (of_decide_eq_true (by kernel_rfl)) k0 bel lt0) (trodAll_cons_mk (Below.trod laidOut (by kernel_rfl) (of_decide_eq_true (by kernel_rfl)) k1 bel lt1) (trodAll_cons_mk (Below.trod laidOut (by kernel_rfl) (of_decide_eq_true (by kernel_rfl)) k2 bel lt2) (trodAll_cons_mk (Below.trod laidOut (by kernel_rfl) (of_decide_eq_true (by kernel_rfl)) k3 bel lt3) (trodAll_cons_mk (Below.trod laidOut (by kernel_rfl) (of_decide_eq_true (by kernel_rfl)) k4 bel lt4) (trodAll_cons_mk (Below.trod laidOut (by kernel_rfl) (of_decide_eq_true (by kernel_rfl)) k5 bel lt5) trodAll_mk0)))))), rfl, bel.frame _, fun h => by cases h⟩
theorem over : Rows.boxOrderRow.holds Try.pinned (OpenSpec.ofChange Rows.boxOrderSpec) :=
  OpenClaim.holds_of_wide 8 Try.f8 rfl rfl rfl rfl rfl rfl rfl ⟨rfl, rfl, rfl, rfl, rfl⟩ rfl rfl rfl rfl rfl (by kernel_rfl) Try.func8 (by kernel_rfl)
    (of_decide_eq_true (by kernel_rfl)) (by unfold Func.isWrapper; first | (rw [if_pos (by decide +kernel)]; kernel_rfl) | (rw [if_neg (by decide +kernel)]; exact ⟨rfl, rfl⟩))
    (fun os started H enc _ => lifted os started H enc)
theorem proved : Rows.BoxOrderSaid := over
#print axioms proved
end Go.Proofs.Ytjblhppbjebagaa.boxOrder
namespace Go.Proofs.Ytjblhppbjebagaa
/-- The row, under a short name, for the claim. -/
theorem boxOrder_holds : Rows.BoxOrderSaid := boxOrder.proved
end Go.Proofs.Ytjblhppbjebagaa
