/- Code: the small evaluator's runs are the model's. No conditions. -/
import Derived.Test.YtbcbaidnamebkaaAEsnd10
import Derived.LoopN
namespace Go.Proofs.Ytbcbaidnamebkaa.AE
set_option linter.unusedVariables false
set_option linter.unusedSimpArgs false
set_option linter.constructorNameAsVariable false
open Go Go.RowKit

def exOf : Ex → Exit
  | .normal => .normal
  | .exit id => .exit id
  | .ret => .ret

/-- What is asked of regions that draw their order. -/
def DrawOK (P : Program) (callP : CallF) : Prop :=
  ∀ (ops : Array Oper) (ios : List IOper) (id : Nat), optAll (cOper P ops.toList) ops.toList = some ios → drawOk ops ios (predsOf ops.toList []) = true → edgesOk ops = true → Region.noSelect ops = true → P.follows .mixedOrders = true →
    ∀ (w w0 : World) (bad D0 : Nat → Prop) (ρ ρ0 : Rho) (a : Act) (B : Nat) (s s' : St) (Q : Exit → Act → World → Prop), (∀ b, bad b → b < B) → Sim w0 D0 ρ0 bad B ρ s a w →
      runOpsD callP (ios.zipIdx.map fun p => (p.1, chkOf ios (predsOf ops.toList []) p.2 p.1)) 0 [] s = some s' → (∀ a' w' ρ', Sim w0 D0 ρ0 bad B ρ' s' a' w' → Q .normal a' w') → (Code.region id ops true).wp P Q a w

section
variable {P : Program} {w w0 : World} {bad D0 : Nat → Prop} {ρ ρ0 : Rho} {a : Act} {o : Oper} {B : Nat} {s : St} {Q : Exit → Act → World → Prop}

theorem want_spec {ops : Array Oper} {io : IOper} {b : Bool} (hc : cOper P ops.toList o = some io) (h : Sim w0 D0 ρ0 bad B ρ s a w) (hw : want s.env io.guard = some b) : Region.wanted o (yielded ops a.tmps) = b := by
  unfold cOper at hc
  split at hc <;> (try (cases hc; done))
  cases hc
  simp only at hw
  unfold Region.wanted
  cases hg : o.guard with
  | none => simp [hg, want] at hw; subst hw; rfl
  | some p =>
    obtain ⟨j, q⟩ := p
    simp only [hg] at hw
    simp only [yielded]
    have he : (ops.toList[j]?) = ops[j]? := by simp
    rw [he] at hw
    cases hd : (ops[j]?).bind (·.dst) with
    | none =>
      simp only [hd, want, Option.some.injEq] at hw
      subst hw
      simp
    | some t =>
      simp only [hd, want] at hw
      have hlt : t < s.env.length := by
        rcases Nat.lt_or_ge t s.env.length with hlt | hge
        · exact hlt
        · rw [List.getD_eq_getElem?_getD, List.getElem?_eq_none hge] at hw
          simp at hw
      have hr := h.env t hlt
      have htm : a.tmps[t]? = some (a.tmps.getD t undef) := by
        rw [Array.getD_eq_getD_getElem?, Array.getElem?_eq_getElem (by rw [h.size]; exact hlt)]; rfl
      simp only [Option.bind_some, htm]
      split at hw
      · rename_i c hcv
        rw [hcv] at hr
        rw [rep_bool hr]
        simp only [Option.some.injEq] at hw
        subst hw
        simp
      · rename_i hcv
        rw [hcv] at hr
        obtain ⟨vs, hv, hl, _⟩ := rep_tup hr
        have : vs = [] := by simpa using hl.symm
        subst this
        rw [hv]
        simp only [Option.some.injEq] at hw
        subst hw
        rfl
      · cases hw

theorem cOper_op {ops : List Oper} {io : IOper} (hc : cOper P ops o = some io) : cOp P o.type o.op = some io.op ∧ io.dst = o.dst := by
  unfold cOper at hc
  split at hc <;> (try (cases hc; done))
  rename_i op hop
  cases hc
  exact ⟨hop, rfl⟩

theorem skip_sim (d : Option Nat) (h : Sim w0 D0 ρ0 bad B ρ s a w) : Sim w0 D0 ρ0 bad B ρ ⟨AE.put s.env d (.tup []), s.H⟩ (a.put d undef) w :=
  put_sim d h (Step.refl _ _ _) h.heap (.frz (.tup [] [] rfl (by simp)))

theorem runOps_sound {call : CallF} (hcall : CallOK P call) (hbad : ∀ b, bad b → b < B) (ops : Array Oper) : ∀ (l : List Oper) (il : List IOper) (ρ : Rho) (s s' : St) (a : Act) (w : World), optAll (cOper P ops.toList) l = some il → Sim w0 D0 ρ0 bad B ρ s a w → runOps call il s = some s' →
    (∀ a' w' ρ', Sim w0 D0 ρ0 bad B ρ' s' a' w' → Q .normal a' w') → wpList P ops Q l a w
  | [], il, ρ, s, s', a, w, hc, h, hr, hq => by
    simp only [optAll, Option.some.injEq] at hc
    subst hc
    simp only [runOps, Option.some.injEq] at hr
    subst hr
    exact wpList_nil (hq _ _ _ h)
  | o :: l, il, ρ, s, s', a, w, hc, h, hr, hq => by
    simp only [optAll] at hc
    split at hc <;> (try (cases hc; done))
    rename_i io hio
    split at hc <;> (try (cases hc; done))
    rename_i il' hil
    cases hc
    obtain ⟨hop, hdst⟩ := cOper_op hio
    simp only [runOps] at hr
    refine wpList_step fun K hK => ?_
    split at hr
    · rename_i hw
      rw [want_spec hio h hw, if_pos rfl]
      split at hr <;> (try (cases hr; done))
      rename_i v H' hv
      refine op_step hop hcall hbad h hv fun a' w' ρ' h' => hK _ _ ?_
      rw [← hdst] at h'
      exact runOps_sound hcall hbad ops l il' ρ' _ s' a' w' hil h' hr hq
    · rename_i hw
      rw [want_spec hio h hw, if_neg (by simp)]
      have h' := skip_sim o.dst h
      rw [← hdst] at h' ⊢
      exact hK _ _ (runOps_sound hcall hbad ops l il' ρ _ s' _ w hil h' hr hq)
    · cases hr

theorem opd_bool {c : Operand} {c' : Opd} {t : Bool} (hc : cOpd c = some c') (h : Sim w0 D0 ρ0 bad B ρ s a w) (he : evO s.env c' = .bool t) : a.eval c = .bool t := by
  have := evO_rep h [c] c (by simp) c' hc
  rw [he] at this
  exact rep_bool this

theorem exec_sound {call callP : CallF} {fu : Nat} (hcall : CallOK P call) (hdraw : DrawOK P callP) (hbad : ∀ b, bad b → b < B) : ∀ (c : Code) (ic : IC), cCode P c = some ic → ∀ (ρ : Rho) (s : St) (e : Ex) (s' : St) (a : Act) (w : World) (Q : Exit → Act → World → Prop),
    exec call callP fu ic s = some (e, s') → Sim w0 D0 ρ0 bad B ρ s a w → (∀ a' w' ρ', Sim w0 D0 ρ0 bad B ρ' s' a' w' → Q (exOf e) a' w') → c.wp P Q a w := by
  intro c
  induction c with
  | skip =>
    intro ic hc ρ s e s' a w Q he h hq
    simp only [cCode, Option.some.injEq] at hc
    subst hc
    simp only [exec, Option.some.injEq, Prod.mk.injEq] at he
    obtain ⟨rfl, rfl⟩ := he
    exact wp_skip (hq _ _ _ h)
  | region id ops draw =>
    intro ic hc ρ s e s' a w Q he h hq
    simp only [cCode] at hc
    split at hc <;> (try (cases hc; done))
    rename_i il hil
    split at hc
    · rename_i hdr
      subst hdr
      split at hc <;> (try (cases hc; done))
      rename_i hok
      cases hc
      simp only [Bool.and_eq_true] at hok
      simp only [exec] at he
      split at he <;> (try (cases he; done))
      rename_i s2 hs2
      simp only [Option.some.injEq, Prod.mk.injEq] at he
      obtain ⟨rfl, rfl⟩ := he
      exact hdraw ops il id hil hok.1.1.1 hok.1.1.2 hok.1.2 hok.2 w w0 bad D0 ρ ρ0 a B s s2 Q hbad h hs2 hq
    · rename_i hdr
      have : draw = false := by simpa using hdr
      subst this
      cases hc
      simp only [exec] at he
      split at he <;> (try (cases he; done))
      rename_i s2 hs2
      simp only [Option.some.injEq, Prod.mk.injEq] at he
      obtain ⟨rfl, rfl⟩ := he
      exact wp_region_list (runOps_sound hcall hbad ops ops.toList il ρ s s2 a w hil h hs2 hq)
  | seq x y ihx ihy =>
    intro ic hc ρ s e s' a w Q he h hq
    simp only [cCode] at hc
    split at hc <;> (try (cases hc; done))
    rename_i ix iy hx hy
    cases hc
    simp only [exec] at he
    refine wp_seq ?_
    split at he
    · rename_i s1 h1
      exact ihx ix hx ρ s .normal s1 a w _ h1 h fun a' w' ρ' h' => ihy iy hy ρ' s1 e s' a' w' Q he h' hq
    · rename_i hn
      refine ihx ix hx ρ s e s' a w _ he h fun a' w' ρ' h' => ?_
      cases e with
      | normal => exact absurd he (hn _)
      | exit id => exact hq _ _ _ h'
      | ret => exact hq _ _ _ h'
  | cond cnd x y ihx ihy =>
    intro ic hc ρ s e s' a w Q he h hq
    simp only [cCode] at hc
    split at hc <;> (try (cases hc; done))
    rename_i c' ix iy hcc hx hy
    cases hc
    simp only [exec] at he
    split at he <;> (try (cases he; done))
    rename_i t ht
    refine wp_cond_split (opd_bool hcc h ht) (fun ht' => ?_) (fun ht' => ?_)
    · subst ht'
      exact ihx ix hx ρ s e s' a w Q he h hq
    · subst ht'
      exact ihy iy hy ρ s e s' a w Q he h hq
  | block id x ihx =>
    intro ic hc ρ s e s' a w Q he h hq
    simp only [cCode] at hc
    split at hc <;> (try (cases hc; done))
    rename_i ix hx
    cases hc
    simp only [exec] at he
    refine wp_block ?_
    split at he
    · rename_i i s1 h1
      refine ihx ix hx ρ s (.exit i) s1 a w _ h1 h fun a' w' ρ' h' => ?_
      simp only [exOf, Exit.inBlock]
      split at he
      · rename_i hi
        cases he
        rw [if_pos hi]
        exact hq _ _ _ h'
      · rename_i hi
        cases he
        rw [if_neg hi]
        exact hq _ _ _ h'
    · rename_i hn
      refine ihx ix hx ρ s e s' a w _ he h fun a' w' ρ' h' => ?_
      cases e with
      | normal => exact hq _ _ _ h'
      | exit id => exact absurd he (hn _ _)
      | ret => exact hq _ _ _ h'
  | loop x ihx =>
    intro ic hc ρ s e s' a w Q he h hq
    simp only [cCode] at hc
    split at hc <;> (try (cases hc; done))
    rename_i ix hx
    cases hc
    simp only [exec] at he
    have key : ∀ (n : Nat) (ρ : Rho) (s : St) (a : Act) (w : World), iter (exec call callP fu ix) n s = some (e, s') → Sim w0 D0 ρ0 bad B ρ s a w → Code.rounds P x Q n a w := by
      intro n
      induction n with
      | zero => intro ρ s a w he h; simp [iter] at he
      | succ n ih =>
        intro ρ s a w he h
        simp only [iter] at he
        rw [rounds_succ]
        split at he
        · rename_i s1 h1
          exact ihx ix hx ρ s .normal s1 a w _ h1 h fun a' w' ρ' h' => ih ρ' s1 a' w' he h'
        · rename_i hn
          refine ihx ix hx ρ s e s' a w _ he h fun a' w' ρ' h' => ?_
          cases e with
          | normal => exact absurd he (hn _)
          | exit id => exact hq _ _ _ h'
          | ret => exact hq _ _ _ h'
    exact wp_loop_rounds fu (key fu ρ s a w he h)
  | exit id =>
    intro ic hc ρ s e s' a w Q he h hq
    simp only [cCode, Option.some.injEq] at hc
    subst hc
    simp only [exec, Option.some.injEq, Prod.mk.injEq] at he
    obtain ⟨rfl, rfl⟩ := he
    exact wp_exit (hq _ _ _ h)
  | ret =>
    intro ic hc ρ s e s' a w Q he h hq
    simp only [cCode, Option.some.injEq] at hc
    subst hc
    simp only [exec, Option.some.injEq, Prod.mk.injEq] at he
    obtain ⟨rfl, rfl⟩ := he
    exact wp_ret (hq _ _ _ h)
  | _ => intros; rename_i hc _ _ _ _ _ _ _ _ _ _; simp [cCode] at hc
end
end Go.Proofs.Ytbcbaidnamebkaa.AE
