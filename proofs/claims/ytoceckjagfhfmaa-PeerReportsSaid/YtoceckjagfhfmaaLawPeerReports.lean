/- The row of the law PeerReports: the given statement PeerReportsSaid holds of the program, for every input. No conditions. -/
import Derived.Test.YtoceckjagfhfmaaRows
import Derived.Test.YtoceckjagfhfmaaMPeerReports0
import Derived.WalkKit
import Derived.ProofKit
import Derived.OpenShut
import Derived.ShutString
import Derived.ChangeOld
import Derived.Below
import Derived.SizedLaws
namespace Go.Proofs.Ytoceckjagfhfmaa.peerReports
open Go.ChangeShapes Go.WideShapes Go.ChangeAt Go.RowKit
open Go.ChangeMaps (open_string shut_string)
set_option linter.unusedVariables false
theorem own : ownKnob Try.prog.godebug = none := by kernel_rfl
theorem laidOut : laidOutB Try.prog = true := by kernel_rfl
set_option maxRecDepth 100000 in
theorem lifted (os : Os) (started : os.Started) (H : Type) (enc : TypeId × Value → H) :
    ReturnsInHanded {} Try.checked os 4 .any (Rows.peerReportsSpec.pre6 enc Try.prog Try.f4 Rows.peerReportsRow.domain false) (Rows.peerReportsSpec.post enc Try.prog Try.f4 false true false false) := by
  refine returnsInHanded_of_change_sized (C := Try.checked) own started (by kernel_rfl) Try.func4
    (ChangeSpec.witness6 (enc := enc) (C := Try.checked) false ⟨#[], #[.agg #[.int .i64 0, .int .i64 0, .int .i64 0, .int .i64 0, .int .i64 0, .int .i64 0, .int .i64 0, .int .i64 0, .int .i64 0], .string ByteArray.empty], []⟩ 8 (by kernel_rfl) (by kernel_rfl) (by kernel_rfl) (by kernel_rfl)) ?_
  intro W base args ds gs before hval0 hW hcnd hsz0 _
  have hval : ∀ (j : Nat) t v, Try.f4.params[j]? = some t → args[j]? = some v → Value.okWide Try.prog W .any base t v := hval0
  have hW' := hW
  obtain ⟨p, q, hA0, hV, rfl, hfz, hnd⟩ := hW
  have hA : DataW.TrodAll enc Try.prog W 0 (fun _ => true) true Try.f4.params.toList args.toList ds p := hA0
  rw [Try.params4] at hA hval
  obtain ⟨v0, vs0, d0, ds0, p0, q0, hargs, rfl, rfl, h0, r0⟩ := trodAll_cons hA
  obtain ⟨v1, vs1, d1, ds1, p1, q1, rfl, rfl, rfl, h1, r1⟩ := trodAll_cons r0
  obtain ⟨rfl, rfl, rfl⟩ := trodAll_nil r1
  obtain rfl : args = #[v0, v1] := by cases args; simp_all
  obtain ⟨rfl, rfl⟩ := trodVars_none hV
  obtain ⟨cs0, rfl, _⟩ := okWide_struct Try.underlying37 (hval 0 37 v0 rfl rfl)
  have k0 := h0
  have lt0 : ∀ x ∈ p0, x.block < W.heap.size := by obtain ⟨m, hm⟩ := k0; exact DataW.trod_lt m _ _ _ hm
  obtain ⟨a0, ty0, fr0⟩ := AE.open_ag (l := [(.i .i64), (.i .i64), (.i .i64), (.i .i64), (.i .i64), (.i .i64), (.i .i64), (.i .i64), (.i .i64)]) (by kernel_rfl) h0
  obtain ⟨_, rfl, _, _, rfl, ⟨a0_0, rfl, w0_0⟩, _, _, rfl, ⟨a0_1, rfl, w0_1⟩, _, _, rfl, ⟨a0_2, rfl, w0_2⟩, _, _, rfl, ⟨a0_3, rfl, w0_3⟩, _, _, rfl, ⟨a0_4, rfl, w0_4⟩, _, _, rfl, ⟨a0_5, rfl, w0_5⟩, _, _, rfl, ⟨a0_6, rfl, w0_6⟩, _, _, rfl, ⟨a0_7, rfl, w0_7⟩, _, _, rfl, ⟨a0_8, rfl, w0_8⟩, rfl⟩ := ty0
  obtain ⟨x1, rfl⟩ := okWide_string Try.underlying9 (hval 1 9 v1 rfl rfl)
  have k1 := h1
  have lt1 : ∀ x ∈ p1, x.block < W.heap.size := by obtain ⟨m, hm⟩ := k1; exact DataW.trod_lt m _ _ _ hm
  obtain ⟨a1, ty1, fr1⟩ := AE.open_sc (l := [.s]) rfl (by kernel_rfl) h1
  obtain ⟨_, rfl, _, _, e1, hc1, rfl⟩ := ty1
  injection e1 with e1 _
  subst e1
  obtain ⟨b1, rfl, w1⟩ := hc1
  clear hA0 hval0 hsz0
  refine (AE.law_calls (AE.law_PeerReports a0_0 a0_1 a0_2 a0_3 a0_4 a0_5 a0_6 a0_7 a0_8 b1 w0_0 w0_1 w0_2 w0_3 w0_4 w0_5 w0_6 w0_7 w0_8 w1) W rfl (AE.frl_cons fr0 (AE.frl_cons fr1 AE.frl_nil))).mono fun e W' ⟨he, bel⟩ => ?_
  subst he
  exact ⟨_, rfl, _, _, _, [], _, [], hW', trodAll_mk1 (shut_bool Try.underlying4 _), (trodAll_cons_mk (Below.trod laidOut (by kernel_rfl) (of_decide_eq_true (by kernel_rfl)) k0 bel lt0) (trodAll_cons_mk (Below.trod laidOut (by kernel_rfl) (of_decide_eq_true (by kernel_rfl)) k1 bel lt1) trodAll_mk0)), rfl, bel.frame _, fun h => by cases h⟩
theorem over : Rows.peerReportsRow.holds Try.pinned (OpenSpec.ofChange Rows.peerReportsSpec) :=
  OpenClaim.holds_of_wide 4 Try.f4 rfl rfl rfl rfl rfl rfl rfl ⟨rfl, rfl, rfl, rfl, rfl⟩ rfl rfl rfl rfl rfl (by kernel_rfl) Try.func4 (by kernel_rfl)
    (of_decide_eq_true (by kernel_rfl)) (by unfold Func.isWrapper; first | (rw [if_pos (by decide +kernel)]; kernel_rfl) | (rw [if_neg (by decide +kernel)]; exact ⟨rfl, rfl⟩))
    (fun os started H enc _ => lifted os started H enc)
theorem proved : Rows.PeerReportsSaid := over
#print axioms proved
end Go.Proofs.Ytoceckjagfhfmaa.peerReports
namespace Go.Proofs.Ytoceckjagfhfmaa
/-- The row, under a short name, for the claim. -/
theorem peerReports_holds : Rows.PeerReportsSaid := peerReports.proved
end Go.Proofs.Ytoceckjagfhfmaa
