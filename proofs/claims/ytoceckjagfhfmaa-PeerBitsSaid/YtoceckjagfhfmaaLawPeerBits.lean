/- The row of the law PeerBits: the given statement PeerBitsSaid holds of the program, for every input. No conditions. -/
import Derived.Test.YtoceckjagfhfmaaRows
import Derived.Test.YtoceckjagfhfmaaMPeerBits6
import Derived.WalkKit
import Derived.ProofKit
import Derived.OpenShut
import Derived.ShutString
import Derived.ChangeOld
import Derived.Below
import Derived.SizedLaws
namespace Go.Proofs.Ytoceckjagfhfmaa.peerBits
open Go.ChangeShapes Go.WideShapes Go.ChangeAt Go.RowKit
open Go.ChangeMaps (open_string shut_string)
set_option linter.unusedVariables false
theorem own : ownKnob Try.prog.godebug = none := by kernel_rfl
theorem laidOut : laidOutB Try.prog = true := by kernel_rfl
set_option maxRecDepth 100000 in
theorem lifted (os : Os) (started : os.Started) (H : Type) (enc : TypeId × Value → H) :
    ReturnsInHanded {} Try.checked os 6 .any (Rows.peerBitsSpec.pre6 enc Try.prog Try.f6 Rows.peerBitsRow.domain false) (Rows.peerBitsSpec.post enc Try.prog Try.f6 false true false false) := by
  refine returnsInHanded_of_change_sized (C := Try.checked) own started (by kernel_rfl) Try.func6
    (ChangeSpec.witness6 (enc := enc) (C := Try.checked) false ⟨#[], #[.agg #[.int .i64 0, .int .i64 0, .int .i64 0, .int .i64 0], .agg #[.int .i64 0, .int .i64 0, .int .i64 0, .int .i64 0, .int .i64 0, .int .i64 0, .int .i64 0, .int .i64 0, .int .i64 0], .int .i64 0, .int .i64 0, .int .u32 0], []⟩ 8 (by kernel_rfl) (by kernel_rfl) (by kernel_rfl) (by kernel_rfl)) ?_
  intro W base args ds gs before hval0 hW hcnd hsz0 _
  have hval : ∀ (j : Nat) t v, Try.f6.params[j]? = some t → args[j]? = some v → Value.okWide Try.prog W .any base t v := hval0
  have hW' := hW
  obtain ⟨p, q, hA0, hV, rfl, hfz, hnd⟩ := hW
  have hA : DataW.TrodAll enc Try.prog W 0 (fun _ => true) true Try.f6.params.toList args.toList ds p := hA0
  rw [Try.params6] at hA hval
  obtain ⟨v0, vs0, d0, ds0, p0, q0, hargs, rfl, rfl, h0, r0⟩ := trodAll_cons hA
  obtain ⟨v1, vs1, d1, ds1, p1, q1, rfl, rfl, rfl, h1, r1⟩ := trodAll_cons r0
  obtain ⟨v2, vs2, d2, ds2, p2, q2, rfl, rfl, rfl, h2, r2⟩ := trodAll_cons r1
  obtain ⟨v3, vs3, d3, ds3, p3, q3, rfl, rfl, rfl, h3, r3⟩ := trodAll_cons r2
  obtain ⟨v4, vs4, d4, ds4, p4, q4, rfl, rfl, rfl, h4, r4⟩ := trodAll_cons r3
  obtain ⟨rfl, rfl, rfl⟩ := trodAll_nil r4
  obtain rfl : args = #[v0, v1, v2, v3, v4] := by cases args; simp_all
  obtain ⟨rfl, rfl⟩ := trodVars_none hV
  obtain ⟨cs0, rfl, _⟩ := okWide_struct Try.underlying23 (hval 0 23 v0 rfl rfl)
  have k0 := h0
  have lt0 : ∀ x ∈ p0, x.block < W.heap.size := by obtain ⟨m, hm⟩ := k0; exact DataW.trod_lt m _ _ _ hm
  obtain ⟨a0, ty0, fr0⟩ := AE.open_ag (l := [(.i .i64), (.i .i64), (.i .i64), (.i .i64)]) (by kernel_rfl) h0
  obtain ⟨_, rfl, _, _, rfl, ⟨a0_0, rfl, w0_0⟩, _, _, rfl, ⟨a0_1, rfl, w0_1⟩, _, _, rfl, ⟨a0_2, rfl, w0_2⟩, _, _, rfl, ⟨a0_3, rfl, w0_3⟩, rfl⟩ := ty0
  obtain ⟨cs1, rfl, _⟩ := okWide_struct Try.underlying37 (hval 1 37 v1 rfl rfl)
  have k1 := h1
  have lt1 : ∀ x ∈ p1, x.block < W.heap.size := by obtain ⟨m, hm⟩ := k1; exact DataW.trod_lt m _ _ _ hm
  obtain ⟨a1, ty1, fr1⟩ := AE.open_ag (l := [(.i .i64), (.i .i64), (.i .i64), (.i .i64), (.i .i64), (.i .i64), (.i .i64), (.i .i64), (.i .i64)]) (by kernel_rfl) h1
  obtain ⟨_, rfl, _, _, rfl, ⟨a1_0, rfl, w1_0⟩, _, _, rfl, ⟨a1_1, rfl, w1_1⟩, _, _, rfl, ⟨a1_2, rfl, w1_2⟩, _, _, rfl, ⟨a1_3, rfl, w1_3⟩, _, _, rfl, ⟨a1_4, rfl, w1_4⟩, _, _, rfl, ⟨a1_5, rfl, w1_5⟩, _, _, rfl, ⟨a1_6, rfl, w1_6⟩, _, _, rfl, ⟨a1_7, rfl, w1_7⟩, _, _, rfl, ⟨a1_8, rfl, w1_8⟩, rfl⟩ := ty1
  obtain ⟨x2, rfl⟩ := okWide_int Try.underlying3 (hval 2 3 v2 rfl rfl)
  have k2 := h2
  have lt2 : ∀ x ∈ p2, x.block < W.heap.size := by obtain ⟨m, hm⟩ := k2; exact DataW.trod_lt m _ _ _ hm
  obtain ⟨a2, ty2, fr2⟩ := AE.open_sc (l := [(.i .i64)]) rfl (by kernel_rfl) h2
  obtain ⟨_, rfl, _, _, e2, hc2, rfl⟩ := ty2
  injection e2 with e2 _
  subst e2
  obtain ⟨b2, rfl, w2⟩ := hc2
  obtain ⟨x3, rfl⟩ := okWide_int Try.underlying3 (hval 3 3 v3 rfl rfl)
  have k3 := h3
  have lt3 : ∀ x ∈ p3, x.block < W.heap.size := by obtain ⟨m, hm⟩ := k3; exact DataW.trod_lt m _ _ _ hm
  obtain ⟨a3, ty3, fr3⟩ := AE.open_sc (l := [(.i .i64)]) rfl (by kernel_rfl) h3
  obtain ⟨_, rfl, _, _, e3, hc3, rfl⟩ := ty3
  injection e3 with e3 _
  subst e3
  obtain ⟨b3, rfl, w3⟩ := hc3
  obtain ⟨x4, rfl⟩ := okWide_int Try.underlying53 (hval 4 53 v4 rfl rfl)
  have k4 := h4
  have lt4 : ∀ x ∈ p4, x.block < W.heap.size := by obtain ⟨m, hm⟩ := k4; exact DataW.trod_lt m _ _ _ hm
  obtain ⟨a4, ty4, fr4⟩ := AE.open_sc (l := [(.i .u32)]) rfl (by kernel_rfl) h4
  obtain ⟨_, rfl, _, _, e4, hc4, rfl⟩ := ty4
  injection e4 with e4 _
  subst e4
  obtain ⟨b4, rfl, w4⟩ := hc4
  clear hA0 hval0 hsz0
  refine (AE.law_calls (AE.law_PeerBits a0_0 a0_1 a0_2 a0_3 a1_0 a1_1 a1_2 a1_3 a1_4 a1_5 a1_6 a1_7 a1_8 b2 b3 b4 w0_0 w0_1 w0_2 w0_3 w1_0 w1_1 w1_2 w1_3 w1_4 w1_5 w1_6 w1_7 w1_8 w2 w3 w4) W rfl (AE.frl_cons fr0 (AE.frl_cons fr1 (AE.frl_cons fr2 (AE.frl_cons fr3 (AE.frl_cons fr4 AE.frl_nil)))))).mono fun e W' ⟨he, bel⟩ => ?_
  subst he
  exact ⟨_, rfl, _, _, _, [], _, [], hW', trodAll_mk1 (shut_bool Try.underlying4 _), (trodAll_cons_mk (Below.trod laidOut (by kernel_rfl) (of_decide_eq_true (by kernel_rfl)) k0 bel lt0) (trodAll_cons_mk (Below.trod laidOut (by kernel_rfl) (of_decide_eq_true (by kernel_rfl)) k1 bel lt1) (trodAll_cons_mk (Below.trod laidOut (by kernel_rfl) (of_decide_eq_true (by kernel_rfl)) k2 bel lt2) (trodAll_cons_mk (Below.trod laidOut (by kernel_rfl) (of_decide_eq_true (by kernel_rfl)) k3 bel lt3) (trodAll_cons_mk (Below.trod laidOut (by kernel_rfl) (of_decide_eq_true (by kernel_rfl)) k4 bel lt4) trodAll_mk0))))), rfl, bel.frame _, fun h => by cases h⟩
theorem over : Rows.peerBitsRow.holds Try.pinned (OpenSpec.ofChange Rows.peerBitsSpec) :=
  OpenClaim.holds_of_wide 6 Try.f6 rfl rfl rfl rfl rfl rfl rfl ⟨rfl, rfl, rfl, rfl, rfl⟩ rfl rfl rfl rfl rfl (by kernel_rfl) Try.func6 (by kernel_rfl)
    (of_decide_eq_true (by kernel_rfl)) (by unfold Func.isWrapper; first | (rw [if_pos (by decide +kernel)]; kernel_rfl) | (rw [if_neg (by decide +kernel)]; exact ⟨rfl, rfl⟩))
    (fun os started H enc _ => lifted os started H enc)
theorem proved : Rows.PeerBitsSaid := over
#print axioms proved
end Go.Proofs.Ytoceckjagfhfmaa.peerBits
namespace Go.Proofs.Ytoceckjagfhfmaa
/-- The row, under a short name, for the claim. -/
theorem peerBits_holds : Rows.PeerBitsSaid := peerBits.proved
end Go.Proofs.Ytoceckjagfhfmaa
