/- The small evaluator, told forwards, is the small evaluator. No conditions. -/
import Derived.Test.YtbcbaidnamebkaaAEsym
namespace Go.Proofs.Ytbcbaidnamebkaa.AE
set_option linter.unusedVariables false
set_option linter.unusedSimpArgs false
set_option linter.constructorNameAsVariable false
open Go

theorem aop_call_irr {call call' : CallF} {ev : Opd → AV} {H : Heap} {io : IOp} (h : ∀ sh f args, io ≠ .call sh f args) : aop call ev H io = aop call' ev H io := by
  cases io <;> first | rfl | exact absurd rfl (h _ _ _) | skip
  all_goals (rename_i b _; cases b <;> rfl)

theorem xop0_ok {u : XU} {x : XCall} {call : CallF} (hx : XOK x call) {ev : Opd → AV} {H : Heap} {io : IOp} {K : AV → Heap → Ans} {r : AV} (h : xop0 C0 u x ev H io K = some r) : ∃ v H', aop call ev H io = some (v, H') ∧ K v H' = some r := by
  unfold xop0 at h
  split at h
  · obtain ⟨t, h1, h2⟩ := xpick_ok h
    exact ⟨_, H, by simp [aop, h1], h2⟩
  · obtain ⟨v, h1, h2⟩ := xbin_ok h
    exact ⟨v, H, by simp [aop, h1], h2⟩
  · split at h <;> (try (cases h; done))
    rename_i b hb
    exact ⟨_, H, by simp only [aop, hb], h⟩
  · split at h <;> (try (cases h; done))
    rename_i b hb
    exact ⟨_, H, by simp only [aop, hb], h⟩
  · split at h
    · rename_i l h1 h2
      rcases cnd_some h with ⟨_, h⟩ | ⟨h0, h⟩
      · cases h
      · cases l with
        | nil => simp at h0
        | cons a l => exact ⟨_, H, by simp only [aop, h1, h2, eqV, eqS], h⟩
    · split at h <;> (try (cases h; done))
      rename_i b hb
      exact ⟨_, H, by simp only [aop, hb], h⟩
  · split at h <;> (try (cases h; done))
    rename_i g a b hf
    split at h
    · obtain ⟨v, H', h1, h2⟩ := hx _ _ _ _ _ _ _ h
      exact ⟨v, H', by simp only [aop, hf, h1], h2⟩
    · obtain ⟨v, H', h1, h2⟩ := hx _ _ _ _ _ _ _ h
      exact ⟨v, H', by simp only [aop, hf, h1], h2⟩
  · split at h <;> (try (cases h; done))
    rename_i s hs
    obtain ⟨hh, h1, h2⟩ := xbound_ok h
    obtain ⟨l, h3, h4⟩ := xbound_ok h2
    exact ⟨_, H, by simp only [aop, aSubS, hs, h1, h3], h4⟩
  · split at h <;> (try (cases h; done))
    rename_i s q hs hq
    rcases cnd_some h with ⟨h0, h⟩ | ⟨_, h⟩
    · have h0 := of_decide_eq_true h0
      simp only [C0] at h
      obtain ⟨n, h1, h2⟩ := Option.bind_eq_some_iff.mp h
      cases hb : s[q.toNat]? with
      | none => simp [hb, isInt] at h1
      | some b =>
        simp [hb, isInt] at h1
        subst h1
        exact ⟨_, H, by simp [aop, hs, hq, h0, hb], h2⟩
    · cases h
  · split at h <;> (try (cases h; done))
    rename_i q hq
    split at h <;> (try (cases h; done))
    · rename_i l hl
      unfold xat at h
      rcases cnd_some h with ⟨h0, h⟩ | ⟨_, h⟩
      · have h0 := of_decide_eq_true h0
        obtain ⟨v, h1, h2⟩ := destr_sound _ _ _ _ h
        split at h2 <;> (try (cases h2; done))
        rename_i hc
        have hc := of_decide_eq_true hc
        exact ⟨_, H, by simp [aop, hq, hl, aIx, h0, h1, hc], h2⟩
      · cases h
    · rename_i id o n hl
      split at h <;> (try (cases h; done))
      rename_i b hb
      split at h <;> (try (cases h; done))
      rename_i he
      have he := of_decide_eq_true he
      rcases cnd_some h with ⟨h0, h⟩ | ⟨_, h⟩
      · have h0 := of_decide_eq_true h0
        exact ⟨_, H, by simp [aop, hq, hl, aIx, hb, h0, he], h⟩
      · cases h
  · rename_i hne
    split at h <;> (try (cases h; done))
    rename_i v H' hv
    exact ⟨v, H', by rw [← hv]; exact aop_call_irr (fun sh f args he => by subst he; simp_all), h⟩

theorem xop_ok {u : XU} {sh : Sh} {x : XCall} {call : CallF} (hx : XOK x call) {ev : Opd → AV} {H : Heap} {io : IOp} {K : AV → Heap → Ans} {r : AV} (h : xop C0 u sh x ev H io K = some r) : ∃ v H', aop call ev H io = some (v, H') ∧ K v H' = some r := by
  unfold xop at h
  split at h
  · split at h
    · rename_i hi
      rw [close_ok hi]
      simp only [C0] at h
      split at h
      · rename_i v H' hv
        split at h
        · exact ⟨v, H', hv, h⟩
        · obtain ⟨w, h1, h2⟩ := destr_sound _ _ _ _ h
          cases h1
          exact ⟨v, H', hv, h2⟩
      · cases h
    · exact xop0_ok hx h
  · exact xop0_ok hx h

theorem set_same {env : List AV} {t : Nat} {v : AV} (h : env.getD t .undef = v) (hv : v ≠ .undef) : env.set t v = env := by
  apply List.ext_getElem?
  intro i
  by_cases hi : t = i
  · subst hi
    rcases Nat.lt_or_ge t env.length with hlt | hge
    · rw [List.getElem?_set_self hlt, List.getElem?_eq_getElem hlt, ← h]
      simp [List.getD_eq_getElem?_getD, hlt]
    · exact absurd (by rw [← h]; simp [List.getD_eq_getElem?_getD, List.getElem?_eq_none hge]) hv
  · rw [List.getElem?_set_ne hi]

theorem xwant_ok {env : List AV} {g : Option (Option Nat × Bool)} {A B : List AV → Ans} {r : AV} (h : xwant env g A B = some r) : (want env g = some true ∧ A env = some r) ∨ (want env g = some false ∧ B env = some r) := by
  unfold xwant at h
  split at h
  · exact .inl ⟨rfl, h⟩
  · rename_i t b
    split at h <;> (try (cases h; done))
    · rename_i c hc
      split at h
      · rcases cnd_some h with ⟨h0, h⟩ | ⟨h0, h⟩
        · subst h0; rw [set_same hc (by simp)] at h; exact .inl ⟨by simp only [want, hc]; rfl, h⟩
        · subst h0; rw [set_same hc (by simp)] at h; exact .inr ⟨by simp only [want, hc]; rfl, h⟩
      · rcases cnd_some h with ⟨h0, h⟩ | ⟨h0, h⟩
        · subst h0; rw [set_same hc (by simp)] at h; exact .inr ⟨by simp only [want, hc]; rfl, h⟩
        · subst h0; rw [set_same hc (by simp)] at h; exact .inl ⟨by simp only [want, hc]; rfl, h⟩
    · rename_i hc
      exact .inr ⟨by simp only [want, hc], h⟩
  · exact .inr ⟨rfl, h⟩

theorem xrunOps_ok {u : XU} {x : XCall} {call : CallF} (hx : XOK x call) : ∀ (l : List IOper) (s : St) (K : St → Ans) (r : AV), xrunOps C0 u x l s K = some r → ∃ s', runOps call l s = some s' ∧ K s' = some r
  | [], s, K, r, h => ⟨s, rfl, h⟩
  | o :: l, s, K, r, h => by
    simp only [xrunOps] at h
    rcases xwant_ok h with ⟨hw, h⟩ | ⟨hw, h⟩
    · obtain ⟨v, H', h1, h2⟩ := xop_ok hx h
      obtain ⟨s', h3, h4⟩ := xrunOps_ok hx l _ K r h2
      exact ⟨s', by simp only [runOps, hw, h1, h3], h4⟩
    · obtain ⟨s', h3, h4⟩ := xrunOps_ok hx l _ K r h
      exact ⟨s', by simp only [runOps, hw, h3], h4⟩

theorem xrunOpsD_ok {u : XU} {x : XCall} {call : CallF} (hx : XOK x call) : ∀ (l : List (IOper × List Nat)) (i : Nat) (log : List (Nat × Nat)) (s : St) (K : St → Ans) (r : AV), xrunOpsD C0 u x l i log s K = some r → ∃ s', runOpsD call l i log s = some s' ∧ K s' = some r
  | [], i, log, s, K, r, h => ⟨s, rfl, h⟩
  | (o, chk) :: l, i, log, s, K, r, h => by
    simp only [xrunOpsD] at h
    rcases xwant_ok h with ⟨hw, h⟩ | ⟨hw, h⟩
    · split at h <;> (try (cases h; done))
      rename_i hl
      obtain ⟨v, H', h1, h2⟩ := xop_ok hx h
      obtain ⟨s', h3, h4⟩ := xrunOpsD_ok hx l _ _ _ K r h2
      refine ⟨s', ?_, h4⟩
      simp only [runOpsD, hw]
      split
      · simp only [h1, h3]
      · rename_i hn
        rw [Bool.or_eq_true] at hl
        rcases hl with hl | hl
        · exact absurd (by rw [List.isEmpty_iff] at hl; subst hl; simp) hn
        · exact absurd hl hn
    · obtain ⟨s', h3, h4⟩ := xrunOpsD_ok hx l _ _ _ K r h
      exact ⟨s', by simp only [runOpsD, hw, h3], h4⟩

theorem xexec_ok {x y : XCall} {call callP : CallF} (hx : XOK x call) (hy : XOK y callP) (u : XU) (fu : Nat) : ∀ (c : IC) (da : List Nat) (s : St) (K : Ex → St → Ans) (r : AV), xexec C0 u x y fu c da s K = some r → ∃ e s', exec call callP fu c s = some (e, s') ∧ K e s' = some r := by
  intro c
  induction c with
  | skip => intro da s K r h; exact ⟨_, _, rfl, h⟩
  | reg ops =>
    intro da s K r h
    obtain ⟨s', h1, h2⟩ := xrunOps_ok hx ops s _ r h
    exact ⟨.normal, s', by simp only [exec, h1], h2⟩
  | regD ops =>
    intro da s K r h
    obtain ⟨s', h1, h2⟩ := xrunOpsD_ok hy ops 0 [] s _ r h
    exact ⟨.normal, s', by simp only [exec, h1], h2⟩
  | seq a b iha ihb =>
    intro da s K r h
    obtain ⟨e, s1, h1, h2⟩ := iha _ s _ r h
    cases e with
    | normal =>
      obtain ⟨e, s', h3, h4⟩ := ihb _ s1 K r h2
      exact ⟨e, s', by simp only [exec, h1, h3], h4⟩
    | exit i => exact ⟨.exit i, s1, by simp only [exec, h1], h2⟩
    | ret => exact ⟨.ret, s1, by simp only [exec, h1], h2⟩
  | cond c a b iha ihb =>
    intro da s K r h
    cases c with
    | t n =>
      simp only [xexec] at h
      split at h <;> (try (cases h; done))
      rename_i t ht
      rcases cnd_some h with ⟨h0, h⟩ | ⟨h0, h⟩
      · subst h0; rw [set_same ht (by simp)] at h
        obtain ⟨e, s', h1, h2⟩ := iha _ s K r h
        exact ⟨e, s', by simp only [exec, evO, ht, cond_true, h1], h2⟩
      · subst h0; rw [set_same ht (by simp)] at h
        obtain ⟨e, s', h1, h2⟩ := ihb _ s K r h
        exact ⟨e, s', by simp only [exec, evO, ht, cond_false, h1], h2⟩
    | v c =>
      simp only [xexec] at h
      split at h <;> (try (cases h; done))
      rename_i t
      rcases cnd_some h with ⟨h0, h⟩ | ⟨h0, h⟩
      · subst h0
        obtain ⟨e, s', h1, h2⟩ := iha _ s K r h
        exact ⟨e, s', by simp only [exec, evO, cond_true, h1], h2⟩
      · subst h0
        obtain ⟨e, s', h1, h2⟩ := ihb _ s K r h
        exact ⟨e, s', by simp only [exec, evO, cond_false, h1], h2⟩
  | block id a iha =>
    intro da s K r h
    obtain ⟨e, s1, h1, h2⟩ := iha _ s _ r h
    cases e with
    | normal => exact ⟨.normal, s1, by simp only [exec, h1], h2⟩
    | ret => exact ⟨.ret, s1, by simp only [exec, h1], h2⟩
    | exit i =>
      simp only at h2
      split at h2
      · rename_i hi
        have hi := of_decide_eq_true hi
        exact ⟨.normal, s1, by simp only [exec, h1, hi, if_true], h2⟩
      · rename_i hi
        have hi := of_decide_eq_false hi
        exact ⟨.exit i, s1, by simp only [exec, h1, hi, if_false], h2⟩
  | loop a iha =>
    intro da s K r h
    have key2 : ∀ (n : Nat) (s0 : St) (K' : Ex → St → Ans), xiter (fun s1 Kn => xexec C0 u x y fu a da s1 Kn) n s0 K' = some r → ∃ e s', iter (exec call callP fu a) n s0 = some (e, s') ∧ K' e s' = some r := by
      intro n
      induction n with
      | zero => intro s0 K' h; simp [xiter] at h
      | succ n ih =>
        intro s0 K' h
        simp only [xiter] at h
        obtain ⟨e, s1, h1, h2⟩ := iha _ s0 _ r h
        cases e with
        | normal =>
          obtain ⟨e, s', h3, h4⟩ := ih s1 K' h2
          exact ⟨e, s', by simp only [iter, h1, h3], h4⟩
        | exit i => exact ⟨.exit i, s1, by simp only [iter, h1], h2⟩
        | ret => exact ⟨.ret, s1, by simp only [iter, h1], h2⟩
    have key : ∀ (n : Nat) (s0 : St) (K' : Ex → St → Ans), xiter (fun s1 Kn => destrE C0 u da [] a s s1 fun s2 => xexec C0 u x y fu a da s2 Kn) n s0 K' = some r → ∃ e s', iter (exec call callP fu a) n s0 = some (e, s') ∧ K' e s' = some r := by
      intro n
      induction n with
      | zero => intro s0 K' h; simp [xiter] at h
      | succ n ih =>
        intro s0 K' h
        simp only [xiter] at h
        obtain ⟨e, s1, h1, h2⟩ := iha _ s0 _ r (destrE_sound h)
        cases e with
        | normal =>
          obtain ⟨e, s', h3, h4⟩ := ih s1 K' h2
          exact ⟨e, s', by simp only [iter, h1, h3], h4⟩
        | exit i => exact ⟨.exit i, s1, by simp only [iter, h1], h2⟩
        | ret => exact ⟨.ret, s1, by simp only [iter, h1], h2⟩
    simp only [xexec] at h
    cases hun : u.un with
    | true => rw [hun] at h; exact key2 fu s K h
    | false =>
      rw [hun] at h
      obtain ⟨e, s', h1, h2⟩ := key fu s _ h
      cases e with
      | normal => cases h2
      | exit i => exact ⟨_, s', h1, destrE_sound (xgo_ok (f := fun i s1 => destrE C0 u da (daX a da i) a s s1 fun s2 => K (.exit i) s2) _ h2)⟩
      | ret => exact ⟨_, s', h1, destrE_sound h2⟩
  | exit id => intro da s K r h; exact ⟨_, _, rfl, h⟩
  | ret => intro da s K r h; exact ⟨_, _, rfl, h⟩

theorem xresAll_ok {s : St} : ∀ {l : List RV} {K : List AV → Ans} {r : AV}, xresAll C0 s l K = some r → ∃ vs, resAll s l = some vs ∧ K vs = some r
  | [], K, r, h => ⟨[], rfl, h⟩
  | .tmp t :: l, K, r, h => by
    obtain ⟨vs, h1, h2⟩ := xresAll_ok (l := l) h
    exact ⟨_, by simp only [resAll, resOf, h1], h2⟩
  | .cell ag n t :: l, K, r, h => by
    have h : (match (match aLoad s.H ag n (s.env.getD t .undef) with
        | some v => some (v, s.H)
        | none => none : Option (AV × Heap)) with
      | some (v, _) => xresAll C0 s l fun vs => K (v :: vs)
      | none => none) = some r := h
    cases ha : aLoad s.H ag n (s.env.getD t .undef) with
    | none => rw [ha] at h; cases h
    | some v =>
      rw [ha] at h
      obtain ⟨vs, h1, h2⟩ := xresAll_ok (l := l) h
      exact ⟨_, by simp only [resAll, resOf, ha, h1], h2⟩

theorem xrunFn_ok {un : XU} {x y : XCall} {call callP : CallF} (hx : XOK x call) (hy : XOK y callP) {fu : Nat} {fn : AFn} {args : List AV} {H : Heap} {K : AV → Heap → Ans} {r : AV} (h : xrunFn C0 un x y fu fn args H K = some r) :
    ∃ v H', runFn call callP fu fn args H = some (v, H') ∧ K v H' = some r := by
  unfold xrunFn at h
  obtain ⟨e, s', h1, h2⟩ := xexec_ok hx hy un fu _ _ _ _ r h
  unfold runFn
  rw [h1]
  cases e with
  | exit i => cases h2
  | normal =>
    simp only at h2 ⊢
    cases hm : un.hm <;> simp only [hm] at h2
    · cases hr : resAll s' fn.results with
      | none => simp [hr] at h2
      | some vs => simp only [hr] at h2; exact ⟨_, _, rfl, h2⟩
    · obtain ⟨vs, h3, h4⟩ := xresAll_ok h2
      simp only [h3]; exact ⟨_, _, rfl, h4⟩
  | ret =>
    simp only at h2 ⊢
    cases hm : un.hm <;> simp only [hm] at h2
    · cases hr : resAll s' fn.results with
      | none => simp [hr] at h2
      | some vs => simp only [hr] at h2; exact ⟨_, _, rfl, h2⟩
    · obtain ⟨vs, h3, h4⟩ := xresAll_ok h2
      simp only [h3]; exact ⟨_, _, rfl, h4⟩

theorem xcallI_ok (M : Mod) (U : FuncId → XU) (pc : PC) : ∀ n, XOK (xcallI C0 M U pc n) (callI M pc n)
  | 0 => xcallP_ok M pc
  | n + 1 => by
    intro sn sh g args H K r h
    simp only [xcallI] at h
    simp only [callI]
    cases he : M.ext g with
    | some e =>
      simp only [he, xext] at h
      obtain ⟨v, h1, h2⟩ := destr_sound _ _ _ _ h
      exact ⟨v, H, by simp [extCall, h1], h2⟩
    | none =>
      simp only [he] at h
      cases hi : M.inl g <;> simp only [hi] at h
      · obtain ⟨v, H', h1, h2⟩ := xpure_ok pc _ _ _ _ _ _ _ h
        exact ⟨v, H', by simp [h1], h2⟩
      · cases hc : M.code g with
        | none => simp [hc] at h
        | some fn =>
          simp only [hc] at h
          obtain ⟨v, H', h1, h2⟩ := xrunFn_ok (xcallI_ok M U pc n) (xcallP_ok M pc) h
          exact ⟨v, H', by simp [h1], h2⟩

/-- WHAT IS TOLD FORWARDS HOLDS. -/
theorem xcall_ok {M : Mod} {U : FuncId → XU} {d : Nat} {g : FuncId} {args : List AV} {r : AV} (h : xcall C0 M U d g args = some r) : pcall M (d + 1) g args = some r := by
  unfold xcall at h
  simp only [pcall]
  cases hc : M.code g with
  | none => simp [hc] at h
  | some fn =>
    simp only [hc] at h
    obtain ⟨v, H', h1, h2⟩ := xrunFn_ok (xcallI_ok M U (pcall M d) IDEPTH) (xcallP_ok M (pcall M d)) h
    simp only [h1]
    exact h2
end Go.Proofs.Ytbcbaidnamebkaa.AE
