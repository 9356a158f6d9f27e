/- Operations in the text's order: the small evaluator's steps are the model's. No conditions. -/
import Derived.Test.YtbcbaidnamebkaaAEsnd7
namespace Go.Proofs.Ytbcbaidnamebkaa.AE
set_option linter.unusedVariables false
set_option linter.unusedSimpArgs false
set_option linter.constructorNameAsVariable false
open Go Go.RowKit

/-- A frame and a world that stand for the small evaluator's state; what came since the world w0. -/
structure Sim (w0 : World) (D0 : Nat → Prop) (ρ0 : Rho) (bad : Nat → Prop) (B : Nat) (ρ : Rho) (s : St) (a : Act) (w : World) : Prop where
  defers : a.defers = []
  size : a.tmps.size = s.env.length
  env : ∀ t, t < s.env.length → Rep w bad (dead s.H) ρ (s.env.getD t .undef) (a.tmps.getD t undef)
  heap : HRel w bad ρ B s.H
  low : B ≤ w.heap.size
  st : Step w0 w D0 (dead s.H) ρ0 ρ

/-- What a call of a function comes to: a value at once, or a call. -/
def CallRes (P : Program) (g : FuncId) (vs : Array Value) (w : World) (R : Value → World → Prop) : Prop :=
  (∃ cv, (callFunc g vs).run P w = .ok (.value cv) w ∧ R cv w) ∨ ((callFunc g vs).run P w = .ok (.enter g vs) w ∧ Calls P g vs w fun e w' => ∃ cv, e = .returned cv ∧ R cv w')

/-- Calls are told rightly. -/
def CallOK (P : Program) (call : CallF) : Prop :=
  ∀ g args H v H', call g args H = some (v, H') → ∀ (w : World) (bad : Nat → Prop) (ρ : Rho) (B : Nat) (vs : List Value), HRel w bad ρ B H → B ≤ w.heap.size → (∀ b, bad b → b < B) → args.length = vs.length →
    (∀ (i : Nat) (c : AV) (u : Value), args[i]? = some c → vs[i]? = some u → Rep w bad (dead H) ρ c u) →
    CallRes P g vs.toArray w fun cv w' => ∃ ρ', Step w w' (dead H) (dead H') ρ ρ' ∧ HRel w' bad ρ' B H' ∧ Rep w' bad (dead H') ρ' v cv

/-- A pure call is told rightly: it leaves all own memory as it is. -/
def Keeps (call : CallF) : Prop := ∀ g args H v H', call g args H = some (v, H') → H' = H

section
variable {P : Program} {w w0 : World} {bad D0 : Nat → Prop} {ρ ρ0 : Rho} {a : Act} {o : Oper} {B : Nat} {s : St} {Q : Exit → Act → World → Prop} {K : Act → World → Prop}

theorem evO_rep (h : Sim w0 D0 ρ0 bad B ρ s a w) (xs : List Operand) : OpsOk w bad (dead s.H) ρ a (evO s.env) xs := by
  intro x _ y hy
  cases x with
  | tmp t =>
    simp only [cOpd, Option.some.injEq] at hy
    subst hy
    simp only [evO, Act.eval]
    rcases Nat.lt_or_ge t s.env.length with hlt | hge
    · exact h.env t hlt
    · have : s.env.getD t .undef = .undef := by simp [List.getD_eq_getElem?_getD, List.getElem?_eq_none hge]
      rw [this]
      exact .frz (.undef _)
  | const v =>
    simp only [cOpd] at hy
    cases hv : cv v with
    | none => simp [hv] at hy
    | some z =>
      simp [hv] at hy
      subst hy
      exact .frz (cv_rep hv)
  | global g => simp [cOpd] at hy
  | func f =>
    simp only [cOpd, Option.some.injEq] at hy
    subst hy
    exact .frz (.fn f [] [] [] [] rfl rfl (by simp) (by simp))

theorem put_sim {v : AV} {cv : Value} {H' : Heap} {w' : World} {ρ' : Rho} (d : Option Nat) (h : Sim w0 D0 ρ0 bad B ρ s a w) (st : Step w w' (dead s.H) (dead H') ρ ρ') (hR : HRel w' bad ρ' B H') (hv : Rep w' bad (dead H') ρ' v cv) :
    Sim w0 D0 ρ0 bad B ρ' ⟨AE.put s.env d v, H'⟩ (a.put d cv) w' := by
  cases d with
  | none => exact ⟨h.defers, h.size, fun t ht => (h.env t ht).step st, hR, Nat.le_trans h.low st.grow.size, h.st.trans st⟩
  | some d =>
    refine ⟨h.defers, by simp [AE.put, Act.put, h.size], fun t ht => ?_, hR, Nat.le_trans h.low st.grow.size, h.st.trans st⟩
    simp only [AE.put, List.length_set] at ht
    simp only [AE.put, Act.put, List.getD_eq_getElem?_getD, Array.getD_eq_getD_getElem?]
    by_cases hd : d = t
    · subst hd
      rw [List.getElem?_set_self ht, Array.getElem?_setIfInBounds_self_of_lt (by rw [h.size]; exact ht)]
      exact hv
    · rw [List.getElem?_set_ne hd, Array.getElem?_setIfInBounds_ne hd]
      have := (h.env t ht).step st
      rwa [List.getD_eq_getElem?_getD, Array.getD_eq_getD_getElem?] at this

theorem fin_says {v : AV} (h : Sim w0 D0 ρ0 bad B ρ s a w) (hs : Says P w bad (dead s.H) ρ a o v) (hK : ∀ a' w' ρ', Sim w0 D0 ρ0 bad B ρ' ⟨AE.put s.env o.dst v, s.H⟩ a' w' → K a' w') : o.wp P a w K Q := by
  obtain ⟨cv, hr, hrep⟩ := hs
  unfold Oper.wp
  rw [hr]
  exact hK _ _ ρ (put_sim o.dst h (Step.refl _ _ _) h.heap hrep)

theorem fin_makes {v : AV} {k : Blk} (h : Sim w0 D0 ρ0 bad B ρ s a w) (hs : Makes P w bad (dead s.H) ρ a o v s.H.length k) (hK : ∀ a' w' ρ', Sim w0 D0 ρ0 bad B ρ' ⟨AE.put s.env o.dst v, s.H ++ [some k]⟩ a' w' → K a' w') : o.wp P a w K Q := by
  obtain ⟨cv, w', cur, fz, cap, hr, h1, h2, h3, ⟨h4, h5, h6⟩, h7, h8, h9, h10, h11, h12, h13⟩ := hs
  obtain ⟨ρ', hρ', st, hR⟩ := alloc_upd (H' := s.H ++ [some k]) h.heap h.low (no_at_end h.heap) (by simp) (fun i _ hn => List.getElem?_append_left (lt_of_no h.heap hn)) (fun i hi => dead_app hi) h1 h2 h3 h4 h5 h6 h7 h8 h9 h10 h11 h12
  unfold Oper.wp
  rw [hr]
  refine hK _ _ ρ' (put_sim o.dst h st hR ?_)
  rcases h13 with ⟨rfl, rfl⟩ | ⟨n, c, rfl, q1, q2, rfl⟩
  · have := Rep.ptr (w := w') (bad := bad) (D := dead (s.H ++ [some k])) (ρ := ρ') (id := s.H.length) (i := 0) (j := 0) (b := w.heap.size) (es := k.e.es) (cap := cap) (by subst hρ'; simp)
    simpa using this
  · have := Rep.slc (w := w') (bad := bad) (D := dead (s.H ++ [some k])) (ρ := ρ') (id := s.H.length) (o := 0) (n := n) (c := c) (b := w.heap.size) (es := k.e.es) (cap := cap) (by subst hρ'; simp) (by omega) q1
    simpa using this

theorem app_args {c : Call} {sArg xArg : Operand} {t u : TypeId} (ho : o.op = .call c) (hcc : c.callee = .builtin .append) (hca : c.args.toList = [sArg, xArg]) (hct : c.argTypes.toList = [t, u]) :
    (execOp a.eval o).run P w = ((Builtin.append_ #[t, u] o.type #[a.eval sArg, a.eval xArg]).run P w).andThen fun v w' => .ok (.value v) w' := by
  obtain ⟨cal, args, tys⟩ := c
  obtain ⟨args⟩ := args
  obtain ⟨tys⟩ := tys
  simp only at hcc hca hct
  subst hcc; subst hca; subst hct
  simp [execOp, ho, resolve, invoke, builtin]

/-- A call's arguments. -/
theorem call_run {D : Nat → Prop} {ev : Opd → AV} {c : Call} {f : Operand} {f' : Opd} {ys : List Opd} {g : FuncId} {p q : List AV} (hO : OpsOk w bad D ρ a ev o.op.operands.toList) (ho : o.op = .call c) (hcc : c.callee = .value f) (hf : cOpd f = some f') (hx : cOpds c.args.toList = some ys) (he : ev f' = .fn g p q) :
    ∃ vs : List Value, (execOp a.eval o).run P w = (callFunc g vs.toArray).run P w ∧ (p ++ ys.map ev ++ q).length = vs.length ∧
      ∀ (i : Nat) (c : AV) (u : Value), (p ++ ys.map ev ++ q)[i]? = some c → vs[i]? = some u → Rep w bad D ρ c u := by
  obtain ⟨h1, h2⟩ := opds_rep hx (fun x hx y hy => hO x (by simp only [ho, Op.operands, Call.operands, hcc]; simp; exact .inr (by simpa using hx)) y hy)
  have h3 := hO f (by simp [ho, Op.operands, Call.operands, hcc]) f' hf
  rw [he] at h3
  obtain ⟨va, vb, e3, l1, l2, r1, r2⟩ := rep_fn h3
  refine ⟨va ++ c.args.toList.map a.eval ++ vb, ?_, by simp at h1 ⊢; omega, ?_⟩
  · have hmap : c.args.map a.eval = (c.args.toList.map a.eval).toArray := by simp [← Array.toList_map]
    simp only [execOp, ho, resolve, hcc, hmap, e3, Deferred.ofValue, Sem.run_bind, Sem.run_pure, Result.andThen_ok, invoke]
    congr 2
    simp
  · intro i c' u hc hu
    by_cases hi : i < p.length
    · rw [List.append_assoc, List.getElem?_append_left hi] at hc
      rw [List.append_assoc, List.getElem?_append_left (by omega)] at hu
      exact r1 i c' u hc hu
    · rw [List.append_assoc, List.getElem?_append_right (by omega)] at hc
      rw [List.append_assoc, List.getElem?_append_right (by omega), ← l1] at hu
      by_cases hi2 : i - p.length < (ys.map ev).length
      · rw [List.getElem?_append_left hi2] at hc
        rw [List.getElem?_append_left (by omega)] at hu
        exact h2 _ c' u hc hu
      · rw [List.getElem?_append_right (by omega)] at hc
        rw [List.getElem?_append_right (by omega), ← h1] at hu
        exact r2 _ c' u hc hu

theorem fin_call {c : Call} {f : Operand} {f' : Opd} {ys : List Opd} {g : FuncId} {p q : List AV} {call : CallF} {v : AV} {H' : Heap} (h : Sim w0 D0 ρ0 bad B ρ s a w) (hbad : ∀ b, bad b → b < B) (hcall : CallOK P call) (ho : o.op = .call c) (hcc : c.callee = .value f) (hf : cOpd f = some f')
    (hx : cOpds c.args.toList = some ys) (he : evO s.env f' = .fn g p q) (hres : call g (p ++ ys.map (evO s.env) ++ q) s.H = some (v, H')) (hK : ∀ a' w' ρ', Sim w0 D0 ρ0 bad B ρ' ⟨AE.put s.env o.dst v, H'⟩ a' w' → K a' w') : o.wp P a w K Q := by
  obtain ⟨vs, hr, hl, hp⟩ := call_run (P := P) (evO_rep h o.op.operands.toList) ho hcc hf hx he
  have hc := hcall g _ _ _ _ hres w bad ρ B vs h.heap h.low hbad hl hp
  unfold Oper.wp
  rw [hr]
  rcases hc with ⟨cv, h1, ρ', st, hR, hrep⟩ | ⟨h1, h2⟩
  · rw [h1]
    exact hK _ _ ρ' (put_sim o.dst h st hR hrep)
  · rw [h1]
    refine h2.mono ?_
    rintro e w' ⟨cv, rfl, ρ', st, hR, hrep⟩
    exact hK _ _ ρ' (put_sim o.dst h st hR hrep)
end
end Go.Proofs.Ytbcbaidnamebkaa.AE
