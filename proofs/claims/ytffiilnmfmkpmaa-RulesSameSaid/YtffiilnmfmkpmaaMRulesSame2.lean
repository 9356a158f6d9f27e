/- The texts that the law RulesSame needs, part 2. No conditions. -/
import Derived.ChangeArms
import Derived.WideShapes
import Derived.OpenShut
import Derived.Deep.Slices
import Derived.Test.YtffiilnmfmkpmaaMRulesSame1
namespace Go.Proofs.Ytffiilnmfmkpmaa.AE
set_option linter.unusedVariables false
set_option linter.unusedSimpArgs false
set_option linter.constructorNameAsVariable false
open Go

theorem aop_call_irr {call call' : CallF} {ev : Opd → AV} {H : Heap} {io : IOp} (h : ∀ sh f args, io ≠ .call sh f args) : aop call ev H io = aop call' ev H io := by
  cases io <;> first | rfl | exact absurd rfl (h _ _ _) | skip
  all_goals (rename_i b _; cases b <;> rfl)

theorem xop0_ok {u : XU} {x : XCall} {call : CallF} (hx : XOK x call) {ev : Opd → AV} {H : Heap} {io : IOp} {K : AV → Heap → Ans} {r : AV} (h : xop0 C0 u x ev H io K = some r) : ∃ v H', aop call ev H io = some (v, H') ∧ K v H' = some r := by
  unfold xop0 at h
  split at h
  · obtain ⟨t, h1, h2⟩ := xpick_ok h
    exact ⟨_, H, by simp [aop, h1], h2⟩
  · obtain ⟨v, h1, h2⟩ := xbin_ok h
    exact ⟨v, H, by simp [aop, h1], h2⟩
  · split at h <;> (try (cases h; done))
    rename_i b hb
    exact ⟨_, H, by simp only [aop, hb], h⟩
  · split at h <;> (try (cases h; done))
    rename_i b hb
    exact ⟨_, H, by simp only [aop, hb], h⟩
  · split at h
    · rename_i l h1 h2
      rcases cnd_some h with ⟨_, h⟩ | ⟨h0, h⟩
      · cases h
      · cases l with
        | nil => simp at h0
        | cons a l => exact ⟨_, H, by simp only [aop, h1, h2, eqV, eqS], h⟩
    · split at h <;> (try (cases h; done))
      rename_i b hb
      exact ⟨_, H, by simp only [aop, hb], h⟩
  · split at h <;> (try (cases h; done))
    rename_i g a b hf
    split at h
    · obtain ⟨v, H', h1, h2⟩ := hx _ _ _ _ _ _ _ h
      exact ⟨v, H', by simp only [aop, hf, h1], h2⟩
    · obtain ⟨v, H', h1, h2⟩ := hx _ _ _ _ _ _ _ h
      exact ⟨v, H', by simp only [aop, hf, h1], h2⟩
  · split at h <;> (try (cases h; done))
    rename_i s hs
    obtain ⟨hh, h1, h2⟩ := xbound_ok h
    obtain ⟨l, h3, h4⟩ := xbound_ok h2
    exact ⟨_, H, by simp only [aop, aSubS, hs, h1, h3], h4⟩
  · split at h <;> (try (cases h; done))
    rename_i s q hs hq
    rcases cnd_some h with ⟨h0, h⟩ | ⟨_, h⟩
    · have h0 := of_decide_eq_true h0
      simp only [C0] at h
      obtain ⟨n, h1, h2⟩ := Option.bind_eq_some_iff.mp h
      cases hb : s[q.toNat]? with
      | none => simp [hb, isInt] at h1
      | some b =>
        simp [hb, isInt] at h1
        subst h1
        exact ⟨_, H, by simp [aop, hs, hq, h0, hb], h2⟩
    · cases h
  · split at h <;> (try (cases h; done))
    rename_i q hq
    split at h <;> (try (cases h; done))
    · rename_i l hl
      unfold xat at h
      rcases cnd_some h with ⟨h0, h⟩ | ⟨_, h⟩
      · have h0 := of_decide_eq_true h0
        obtain ⟨v, h1, h2⟩ := destr_sound _ _ _ _ h
        split at h2 <;> (try (cases h2; done))
        rename_i hc
        have hc := of_decide_eq_true hc
        exact ⟨_, H, by simp [aop, hq, hl, aIx, h0, h1, hc], h2⟩
      · cases h
    · rename_i id o n hl
      split at h <;> (try (cases h; done))
      rename_i b hb
      split at h <;> (try (cases h; done))
      rename_i he
      have he := of_decide_eq_true he
      rcases cnd_some h with ⟨h0, h⟩ | ⟨_, h⟩
      · have h0 := of_decide_eq_true h0
        exact ⟨_, H, by simp [aop, hq, hl, aIx, hb, h0, he], h⟩
      · cases h
  · rename_i hne
    split at h <;> (try (cases h; done))
    rename_i v H' hv
    exact ⟨v, H', by rw [← hv]; exact aop_call_irr (fun sh f args he => by subst he; simp_all), h⟩

theorem xop_ok {u : XU} {sh : Sh} {x : XCall} {call : CallF} (hx : XOK x call) {ev : Opd → AV} {H : Heap} {io : IOp} {K : AV → Heap → Ans} {r : AV} (h : xop C0 u sh x ev H io K = some r) : ∃ v H', aop call ev H io = some (v, H') ∧ K v H' = some r := by
  unfold xop at h
  split at h
  · split at h
    · rename_i hi
      rw [close_ok hi]
      simp only [C0] at h
      split at h
      · rename_i v H' hv
        split at h
        · exact ⟨v, H', hv, h⟩
        · obtain ⟨w, h1, h2⟩ := destr_sound _ _ _ _ h
          cases h1
          exact ⟨v, H', hv, h2⟩
      · cases h
    · exact xop0_ok hx h
  · exact xop0_ok hx h

theorem set_same {env : List AV} {t : Nat} {v : AV} (h : env.getD t .undef = v) (hv : v ≠ .undef) : env.set t v = env := by
  apply List.ext_getElem?
  intro i
  by_cases hi : t = i
  · subst hi
    rcases Nat.lt_or_ge t env.length with hlt | hge
    · rw [List.getElem?_set_self hlt, List.getElem?_eq_getElem hlt, ← h]
      simp [List.getD_eq_getElem?_getD, hlt]
    · exact absurd (by rw [← h]; simp [List.getD_eq_getElem?_getD, List.getElem?_eq_none hge]) hv
  · rw [List.getElem?_set_ne hi]

theorem xwant_ok {env : List AV} {g : Option (Option Nat × Bool)} {A B : List AV → Ans} {r : AV} (h : xwant env g A B = some r) : (want env g = some true ∧ A env = some r) ∨ (want env g = some false ∧ B env = some r) := by
  unfold xwant at h
  split at h
  · exact .inl ⟨rfl, h⟩
  · rename_i t b
    split at h <;> (try (cases h; done))
    · rename_i c hc
      split at h
      · rcases cnd_some h with ⟨h0, h⟩ | ⟨h0, h⟩
        · subst h0; rw [set_same hc (by simp)] at h; exact .inl ⟨by simp only [want, hc]; rfl, h⟩
        · subst h0; rw [set_same hc (by simp)] at h; exact .inr ⟨by simp only [want, hc]; rfl, h⟩
      · rcases cnd_some h with ⟨h0, h⟩ | ⟨h0, h⟩
        · subst h0; rw [set_same hc (by simp)] at h; exact .inr ⟨by simp only [want, hc]; rfl, h⟩
        · subst h0; rw [set_same hc (by simp)] at h; exact .inl ⟨by simp only [want, hc]; rfl, h⟩
    · rename_i hc
      exact .inr ⟨by simp only [want, hc], h⟩
  · exact .inr ⟨rfl, h⟩

theorem xrunOps_ok {u : XU} {x : XCall} {call : CallF} (hx : XOK x call) : ∀ (l : List IOper) (s : St) (K : St → Ans) (r : AV), xrunOps C0 u x l s K = some r → ∃ s', runOps call l s = some s' ∧ K s' = some r
  | [], s, K, r, h => ⟨s, rfl, h⟩
  | o :: l, s, K, r, h => by
    simp only [xrunOps] at h
    rcases xwant_ok h with ⟨hw, h⟩ | ⟨hw, h⟩
    · obtain ⟨v, H', h1, h2⟩ := xop_ok hx h
      obtain ⟨s', h3, h4⟩ := xrunOps_ok hx l _ K r h2
      exact ⟨s', by simp only [runOps, hw, h1, h3], h4⟩
    · obtain ⟨s', h3, h4⟩ := xrunOps_ok hx l _ K r h
      exact ⟨s', by simp only [runOps, hw, h3], h4⟩

theorem XOK.sel {x y : XCall} {call callP : CallF} (hx : XOK x call) (hy : XOK y callP) (b : Bool) : XOK (match b with | true => x | false => y) (bif b then call else callP) := by cases b <;> assumption
theorem xrunOpsD_ok {u : XU} {x y : XCall} {call callP : CallF} (hx : XOK x call) (hy : XOK y callP) : ∀ (l : List (IOper × List Nat)) (i : Nat) (log : List (Nat × Nat)) (s : St) (K : St → Ans) (r : AV), xrunOpsD C0 u x y l i log s K = some r → ∃ s', runOpsD call callP l i log s = some s' ∧ K s' = some r
  | [], i, log, s, K, r, h => ⟨s, rfl, h⟩
  | (o, chk) :: l, i, log, s, K, r, h => by
    simp only [xrunOpsD] at h
    rcases xwant_ok h with ⟨hw, h⟩ | ⟨hw, h⟩
    · split at h <;> (try (cases h; done))
      rename_i hl
      obtain ⟨v, H', h1, h2⟩ := xop_ok (hx.sel hy (isFull chk)) h
      obtain ⟨s', h3, h4⟩ := xrunOpsD_ok hx hy l _ _ _ K r h2
      refine ⟨s', ?_, h4⟩
      simp only [runOpsD, hw]
      split
      · simp only [h1, h3]
      · rename_i hn
        rw [Bool.or_eq_true] at hl
        rcases hl with hl | hl
        · exact absurd (by rw [List.isEmpty_iff] at hl; subst hl; simp) hn
        · exact absurd hl hn
    · obtain ⟨s', h3, h4⟩ := xrunOpsD_ok hx hy l _ _ _ K r h
      exact ⟨s', by simp only [runOpsD, hw, h3], h4⟩

theorem xdisj_ok {chk : List Nat} {t : TV} {K : Ans} {r : AV} : ∀ {l : List (Nat × TV)}, xdisj C0 chk t l K = some r → K = some r ∧ ∀ e ∈ l, chk.contains e.1 = true → disjB e.2 t = true
  | [], h => ⟨h, fun e he => by cases he⟩
  | (i, s) :: l, h => by
    simp only [xdisj] at h
    split at h
    · rename_i hc
      split at h
      · obtain ⟨h1, h2⟩ := xdisj_ok h
        refine ⟨h1, fun e he hk => ?_⟩
        rcases List.mem_cons.mp he with rfl | he
        · rfl
        · exact h2 e he hk
      · obtain ⟨h1, h2⟩ := xdisj_ok h
        refine ⟨h1, fun e he hk => ?_⟩
        rcases List.mem_cons.mp he with rfl | he
        · cases s <;> rfl
        · exact h2 e he hk
      · simp only [C0] at h
        split at h
        · rename_i hd
          obtain ⟨h1, h2⟩ := xdisj_ok h
          refine ⟨h1, fun e he hk => ?_⟩
          rcases List.mem_cons.mp he with rfl | he
          · exact hd
          · exact h2 e he hk
        · cases h
    · rename_i hc
      obtain ⟨h1, h2⟩ := xdisj_ok h
      refine ⟨h1, fun e he hk => ?_⟩
      rcases List.mem_cons.mp he with rfl | he
      · rw [hc] at hk; cases hk
      · exact h2 e he hk

/-- It may name that memory. -/
def tmem (id : Nat) : TV → Prop
  | .no => False
  | .addr v => id ∈ idsOf v
  | .all l => l.all (noId DEPTH) = false
theorem touch_tv {ev : Opd → AV} {H : Heap} {io : IOp} {id : Nat} (h : id ∈ touch ev H io) : tmem id (tvOf ev io) := by
  cases io <;> first | (cases h; done) | skip
  case load ag n a =>
    simp only [touch] at h
    simp only [tvOf, tmem]
    split at h
    · rename_i he; rw [he]; exact h
    · cases h
  case store n a v =>
    simp only [touch] at h
    simp only [tvOf, tmem]
    split at h
    · rename_i he; rw [he]; exact h
    · cases h
  case b2s x =>
    simp only [touch] at h
    simp only [tvOf, tmem]
    split at h
    · rename_i he; rw [he]; exact h
    · cases h
  case call sh f args =>
    simp only [touch] at h
    simp only [tvOf]
    split at h
    · rename_i he
      rw [he]
      simp only [tmem]
      split at h
      · cases h
      · rename_i hn; simpa using hn
    · cases h
theorem disj_no {id : Nat} {a b : TV} (h : disjB a b = true) (ha : tmem id a) (hb : tmem id b) : False := by
  cases a <;> cases b <;> simp only [tmem] at ha hb <;> try exact ha.elim
  all_goals (try exact hb.elim)
  · rename_i v w
    simp only [disjB, List.all_eq_true] at h
    have := h id ha
    simp [hb] at this
  · simp only [disjB] at h; rw [hb] at h; cases h
  · simp only [disjB] at h; rw [ha] at h; cases h
  · simp only [disjB] at h; rw [ha] at h; cases h
theorem xrunOpsH_ok {u : XU} {x y : XCall} {call callP : CallF} (hx : XOK x call) (hy : XOK y callP) : ∀ (l : List (IOper × List Nat)) (i : Nat) (lg : List (Nat × TV)) (log : List (Nat × Nat)) (s : St) (K : St → Ans) (r : AV), (∀ p ∈ log, ∃ e ∈ lg, e.1 = p.1 ∧ tmem p.2 e.2) →
    xrunOpsH C0 u x y l i lg s K = some r → ∃ s', runOpsD call callP l i log s = some s' ∧ K s' = some r
  | [], i, lg, log, s, K, r, _, h => ⟨s, rfl, h⟩
  | (o, chk) :: l, i, lg, log, s, K, r, hl, h => by
    simp only [xrunOpsH] at h
    rcases xwant_ok h with ⟨hw, h⟩ | ⟨hw, h⟩
    · obtain ⟨h, hd⟩ := xdisj_ok h
      obtain ⟨v, H', h1, h2⟩ := xop_ok (hx.sel hy (isFull chk)) h
      have hok : log.all (fun p => !(chk.contains p.1) || !((touch (evO s.env) s.H o.op).contains p.2)) = true := by
        rw [List.all_eq_true]
        intro p hp
        obtain ⟨e, he, h3, h4⟩ := hl p hp
        cases hc : chk.contains p.1 with
        | false => rfl
        | true =>
          cases ht : (touch (evO s.env) s.H o.op).contains p.2 with
          | false => rfl
          | true => exact (disj_no (hd e he (by rw [h3]; exact hc)) h4 (touch_tv (by simpa using ht))).elim
      obtain ⟨s', h3, h4⟩ := xrunOpsH_ok hx hy l _ _ (log ++ (touch (evO s.env) s.H o.op).map fun id => (i, id)) _ K r (by
        intro p hp
        rcases List.mem_append.mp hp with hp | hp
        · obtain ⟨e, he, h3, h4⟩ := hl p hp
          exact ⟨e, List.mem_cons_of_mem _ he, h3, h4⟩
        · obtain ⟨id, hid, rfl⟩ := List.mem_map.mp hp
          exact ⟨_, List.mem_cons_self .., rfl, touch_tv hid⟩) h2
      refine ⟨s', ?_, h4⟩
      simp only [runOpsD, hw]
      rw [if_pos hok]
      simp only [h1, h3]
    · obtain ⟨s', h3, h4⟩ := xrunOpsH_ok hx hy l _ _ log _ K r hl h
      exact ⟨s', by simp only [runOpsD, hw, h3], h4⟩

theorem xexec_ok {x y : XCall} {call callP : CallF} (hx : XOK x call) (hy : XOK y callP) (u : XU) (fu : Nat) : ∀ (c : IC) (da : List Nat) (s : St) (K : Ex → St → Ans) (r : AV), xexec C0 u x y fu c da s K = some r → ∃ e s', exec call callP fu c s = some (e, s') ∧ K e s' = some r := by
  intro c
  induction c with
  | skip => intro da s K r h; exact ⟨_, _, rfl, h⟩
  | reg ops =>
    intro da s K r h
    obtain ⟨s', h1, h2⟩ := xrunOps_ok hx ops s _ r h
    exact ⟨.normal, s', by simp only [exec, h1], h2⟩
  | regD ops =>
    intro da s K r h
    simp only [xexec] at h
    split at h
    · obtain ⟨s', h1, h2⟩ := xrunOpsH_ok hx hy ops 0 [] [] s _ r (fun p hp => by cases hp) h
      exact ⟨.normal, s', by simp only [exec, h1], h2⟩
    · obtain ⟨s', h1, h2⟩ := xrunOpsD_ok hx hy ops 0 [] s _ r h
      exact ⟨.normal, s', by simp only [exec, h1], h2⟩
  | seq a b iha ihb =>
    intro da s K r h
    simp only [xexec] at h
    split at h
    case h_2 =>
      simp only [C0, xiter] at h
      obtain ⟨e, s1, h1, h2⟩ := iha _ s _ r (destrE_sound h)
      cases e with
      | normal =>
        simp only [xgo, if_true] at h2
        obtain ⟨e, s', h3, h4⟩ := ihb _ s1 K r (destrE_sound h2)
        exact ⟨e, s', by simp only [exec, h1, h3], h4⟩
      | exit i =>
        simp only at h2
        split at h2
        · cases h2
        · rename_i hi
          have hi := of_decide_eq_false hi
          simp only [xgo, if_neg hi] at h2
          exact ⟨_, s1, by simp only [exec, h1], destrE_sound (xgo_ok (f := fun i s1 => destrE C0 u da (daX a da i) a s s1 fun s2 => K (.exit i) s2) _ h2)⟩
      | ret =>
        have h3 := destrE_sound h2
        split at h3
        · exact ⟨_, s1, by simp only [exec, h1], h3⟩
        · cases h3
    obtain ⟨e, s1, h1, h2⟩ := iha _ s _ r h
    cases e with
    | normal =>
      obtain ⟨e, s', h3, h4⟩ := ihb _ s1 K r h2
      exact ⟨e, s', by simp only [exec, h1, h3], h4⟩
    | exit i => exact ⟨.exit i, s1, by simp only [exec, h1], h2⟩
    | ret => exact ⟨.ret, s1, by simp only [exec, h1], h2⟩
  | cond c a b iha ihb =>
    intro da s K r h
    cases c with
    | t n =>
      simp only [xexec] at h
      split at h <;> (try (cases h; done))
      rename_i t ht
      rcases cnd_some h with ⟨h0, h⟩ | ⟨h0, h⟩
      · subst h0; rw [set_same ht (by simp)] at h
        obtain ⟨e, s', h1, h2⟩ := iha _ s K r h
        exact ⟨e, s', by simp only [exec, evO, ht, cond_true, h1], h2⟩
      · subst h0; rw [set_same ht (by simp)] at h
        obtain ⟨e, s', h1, h2⟩ := ihb _ s K r h
        exact ⟨e, s', by simp only [exec, evO, ht, cond_false, h1], h2⟩
    | v c =>
      simp only [xexec] at h
      split at h <;> (try (cases h; done))
      rename_i t
      rcases cnd_some h with ⟨h0, h⟩ | ⟨h0, h⟩
      · subst h0
        obtain ⟨e, s', h1, h2⟩ := iha _ s K r h
        exact ⟨e, s', by simp only [exec, evO, cond_true, h1], h2⟩
      · subst h0
        obtain ⟨e, s', h1, h2⟩ := ihb _ s K r h
        exact ⟨e, s', by simp only [exec, evO, cond_false, h1], h2⟩
  | block id a iha =>
    intro da s K r h
    obtain ⟨e, s1, h1, h2⟩ := iha _ s _ r h
    cases e with
    | normal => exact ⟨.normal, s1, by simp only [exec, h1], h2⟩
    | ret => exact ⟨.ret, s1, by simp only [exec, h1], h2⟩
    | exit i =>
      simp only at h2
      split at h2
      · rename_i hi
        have hi := of_decide_eq_true hi
        exact ⟨.normal, s1, by simp only [exec, h1, hi, if_true], h2⟩
      · rename_i hi
        have hi := of_decide_eq_false hi
        exact ⟨.exit i, s1, by simp only [exec, h1, hi, if_false], h2⟩
  | loop a iha =>
    intro da s K r h
    have key2 : ∀ (n : Nat) (s0 : St) (K' : Ex → St → Ans), xiter (fun s1 Kn => xexec C0 u x y fu a da s1 Kn) n s0 K' = some r → ∃ e s', iter (exec call callP fu a) n s0 = some (e, s') ∧ K' e s' = some r := by
      intro n
      induction n with
      | zero => intro s0 K' h; simp [xiter] at h
      | succ n ih =>
        intro s0 K' h
        simp only [xiter] at h
        obtain ⟨e, s1, h1, h2⟩ := iha _ s0 _ r h
        cases e with
        | normal =>
          obtain ⟨e, s', h3, h4⟩ := ih s1 K' h2
          exact ⟨e, s', by simp only [iter, h1, h3], h4⟩
        | exit i => exact ⟨.exit i, s1, by simp only [iter, h1], h2⟩
        | ret => exact ⟨.ret, s1, by simp only [iter, h1], h2⟩
    have key : ∀ (n : Nat) (s0 : St) (K' : Ex → St → Ans), xiter (fun s1 Kn => destrE C0 u da [] a s s1 fun s2 => xexec C0 u x y fu a da s2 Kn) n s0 K' = some r → ∃ e s', iter (exec call callP fu a) n s0 = some (e, s') ∧ K' e s' = some r := by
      intro n
      induction n with
      | zero => intro s0 K' h; simp [xiter] at h
      | succ n ih =>
        intro s0 K' h
        simp only [xiter] at h
        obtain ⟨e, s1, h1, h2⟩ := iha _ s0 _ r (destrE_sound h)
        cases e with
        | normal =>
          obtain ⟨e, s', h3, h4⟩ := ih s1 K' h2
          exact ⟨e, s', by simp only [iter, h1, h3], h4⟩
        | exit i => exact ⟨.exit i, s1, by simp only [iter, h1], h2⟩
        | ret => exact ⟨.ret, s1, by simp only [iter, h1], h2⟩
    simp only [xexec] at h
    cases hun : u.un with
    | true => rw [hun] at h; exact key2 fu s K h
    | false =>
      rw [hun] at h
      obtain ⟨e, s', h1, h2⟩ := key fu s _ h
      cases e with
      | normal => cases h2
      | exit i => exact ⟨_, s', h1, destrE_sound (xgo_ok (f := fun i s1 => destrE C0 u da (daX a da i) a s s1 fun s2 => K (.exit i) s2) _ h2)⟩
      | ret => exact ⟨_, s', h1, destrE_sound h2⟩
  | exit id => intro da s K r h; exact ⟨_, _, rfl, h⟩
  | ret => intro da s K r h; exact ⟨_, _, rfl, h⟩

theorem xresAll_ok {s : St} : ∀ {l : List RV} {K : List AV → Ans} {r : AV}, xresAll C0 s l K = some r → ∃ vs, resAll s l = some vs ∧ K vs = some r
  | [], K, r, h => ⟨[], rfl, h⟩
  | .tmp t :: l, K, r, h => by
    obtain ⟨vs, h1, h2⟩ := xresAll_ok (l := l) h
    exact ⟨_, by simp only [resAll, resOf, h1], h2⟩
  | .cell ag n t :: l, K, r, h => by
    have h : (match (match aLoad s.H ag n (s.env.getD t .undef) with
        | some v => some (v, s.H)
        | none => none : Option (AV × Heap)) with
      | some (v, _) => xresAll C0 s l fun vs => K (v :: vs)
      | none => none) = some r := h
    cases ha : aLoad s.H ag n (s.env.getD t .undef) with
    | none => rw [ha] at h; cases h
    | some v =>
      rw [ha] at h
      obtain ⟨vs, h1, h2⟩ := xresAll_ok (l := l) h
      exact ⟨_, by simp only [resAll, resOf, ha, h1], h2⟩

theorem xrunFn_ok {un : XU} {x y : XCall} {call callP : CallF} (hx : XOK x call) (hy : XOK y callP) {fu : Nat} {fn : AFn} {args : List AV} {H : Heap} {K : AV → Heap → Ans} {r : AV} (h : xrunFn C0 un x y fu fn args H K = some r) :
    ∃ v H', runFn call callP fu fn args H = some (v, H') ∧ K v H' = some r := by
  unfold xrunFn at h
  obtain ⟨e, s', h1, h2⟩ := xexec_ok hx hy un fu _ _ _ _ r h
  unfold runFn
  rw [h1]
  cases e with
  | exit i => cases h2
  | normal =>
    simp only at h2 ⊢
    cases hm : un.hm <;> simp only [hm] at h2
    · cases hr : resAll s' fn.results with
      | none => simp [hr] at h2
      | some vs => simp only [hr] at h2; exact ⟨_, _, rfl, h2⟩
    · obtain ⟨vs, h3, h4⟩ := xresAll_ok h2
      simp only [h3]; exact ⟨_, _, rfl, h4⟩
  | ret =>
    simp only at h2 ⊢
    cases hm : un.hm <;> simp only [hm] at h2
    · cases hr : resAll s' fn.results with
      | none => simp [hr] at h2
      | some vs => simp only [hr] at h2; exact ⟨_, _, rfl, h2⟩
    · obtain ⟨vs, h3, h4⟩ := xresAll_ok h2
      simp only [h3]; exact ⟨_, _, rfl, h4⟩

theorem xempty_ok {M : Mod} {pc : PC} {g : FuncId} {args : List AV} {H : Heap} {K : AV → Heap → Ans} {rest : Ans} {r : AV} (h : xempty C0 M pc g args H K rest = some r) :
    (∃ v, emptyR M pc g args = some v ∧ K v H = some r) ∨ (emptyR M pc g args = none ∧ rest = some r) := by
  unfold xempty at h
  unfold emptyR
  cases hc : M.cl g with
  | false => simp only [hc] at h; exact .inr ⟨rfl, h⟩
  | true =>
    simp only [hc] at h
    match args, h with
    | [], h => exact .inr ⟨rfl, h⟩
    | [x], h =>
      simp only [C0] at h
      obtain ⟨b, hb, h⟩ := Option.bind_eq_some_iff.mp h
      have hx : clr x = some (.bool b) := by
        unfold isBool at hb
        split at hb <;> (try (cases hb; done))
        cases hb; assumption
      simp only [hx]
      cases b with
      | false => exact .inr ⟨rfl, h⟩
      | true =>
        simp only [cnd] at h
        split at h
        · rename_i he
          exact .inl ⟨_, he, h⟩
        · cases h
    | _ :: _ :: _, h => exact .inr ⟨rfl, h⟩

theorem xcallZ_ok (M : Mod) (pc : PC) : XOK (xcallZ C0 M pc) (callZ M pc) := by
  intro sn sh g args H K r h
  unfold xcallZ at h
  unfold callZ
  cases he : M.ext g with
  | some e =>
    simp only [he, xext] at h
    obtain ⟨v, h1, h2⟩ := destr_sound _ _ _ _ h
    exact ⟨v, H, by simp [extCall, h1], h2⟩
  | none =>
    simp only [he] at h
    cases hi : M.inl g <;> simp only [hi] at h
    · obtain ⟨v, H', h1, h2⟩ := xpure_ok pc _ _ _ _ _ _ _ h
      exact ⟨v, H', by simp [h1], h2⟩
    · rcases xempty_ok h with ⟨v, h1, h2⟩ | ⟨h1, h⟩
      · exact ⟨v, H, by simp [h1], h2⟩
      · obtain ⟨v, H', h2, h3⟩ := xpure_ok pc _ _ _ _ _ _ _ h
        exact ⟨v, H', by simp [h1, h2], h3⟩

theorem xfresh_ok {un : XU} {x y : XCall} {call callP : CallF} (hx : XOK x call) (hy : XOK y callP) {fu : Nat} {fn : AFn} {args : List AV} {H : Heap} {K : AV → Heap → Ans} {r : AV} (h : xfresh C0 un x y fu fn args H K = some r) :
    ∃ v H', freshRun (runFn call callP fu fn) args H = some (v, H') ∧ K v H' = some r := by
  unfold xfresh at h
  obtain ⟨v, H1, h1, h2⟩ := xrunFn_ok hx hy h
  unfold freshRun
  rw [h1]
  simp only
  cases hp : padOk H.length H1 with
  | false => simp [hp] at h2
  | true => simp only [hp] at h2 ⊢; exact ⟨_, _, rfl, h2⟩

theorem xcallB_ok (M : Mod) (U : FuncId → XU) (pc : PC) : ∀ n b, XOK (xcallB C0 M U pc n b) (callB M pc n b)
  | 0, _ => xcallZ_ok M pc
  | n + 1, b => by
    intro sn sh g args H K r h
    simp only [xcallB] at h
    cases he : M.ext g with
    | some e =>
      simp only [he, xext] at h
      obtain ⟨v, h1, h2⟩ := destr_sound _ _ _ _ h
      exact ⟨v, H, by simp [callB, he, extCall, h1], h2⟩
    | none =>
      simp only [he] at h
      cases hi : M.inl g <;> simp only [hi] at h
      · obtain ⟨v, H', h1, h2⟩ := xpure_ok pc _ _ _ _ _ _ _ h
        exact ⟨v, H', by simp [callB, he, hi, h1], h2⟩
      · split at h
        · change (match callB M pc (n + 1) b g args H with
            | some (v, H') => destr C0 sh (some v) fun v' => K v' H'
            | none => none) = some r at h
          cases hc : callB M pc (n + 1) b g args H with
          | none => rw [hc] at h; cases h
          | some p =>
            rw [hc] at h
            obtain ⟨v', h1, h2⟩ := destr_sound _ _ _ _ h
            cases h1
            exact ⟨p.1, p.2, rfl, h2⟩
        · rcases xempty_ok h with ⟨v, hv, h2⟩ | ⟨hn, h⟩
          · exact ⟨v, H, by simp [callB, he, hi, hv], h2⟩
          · cases b with
            | true =>
              cases hc : M.code g args.length with
              | none => simp [hc] at h
              | some fn =>
                simp only [hc] at h
                obtain ⟨v, H', h1, h2⟩ := xrunFn_ok (xcallB_ok M U pc n true) (xcallB_ok M U pc n false) h
                exact ⟨v, H', by simp [callB, he, hi, hn, hc, h1], h2⟩
            | false =>
              simp only at h
              cases hf : (M.fr g && args.all (noId DEPTH)) with
              | false =>
                simp only [hf] at h
                obtain ⟨v, H', h1, h2⟩ := xpure_ok pc _ _ _ _ _ _ _ h
                exact ⟨v, H', by simp only [callB, he, hi, hn, hf, h1]; rfl, h2⟩
              | true =>
                simp only [hf] at h
                cases hc : M.code g args.length with
                | none => simp [hc] at h
                | some fn =>
                  simp only [hc] at h
                  obtain ⟨v, H', h1, h2⟩ := xfresh_ok (xcallB_ok M U pc n true) (xcallB_ok M U pc n false) h
                  exact ⟨v, H', by simp only [callB, he, hi, hn, hf, hc, h1]; rfl, h2⟩

/-- WHAT IS TOLD FORWARDS HOLDS. -/
theorem xcall_ok {M : Mod} {U : FuncId → XU} {d : Nat} {g : FuncId} {args : List AV} {r : AV} (h : xcall C0 M U d g args = some r) : pcall M (d + 1) g args = some r := by
  unfold xcall at h
  simp only [pcall]
  cases hc : M.code g args.length with
  | none => simp [hc] at h
  | some fn =>
    simp only [hc] at h
    obtain ⟨v, H', h1, h2⟩ := xrunFn_ok (xcallB_ok M U (pcall M d) IDEPTH true) (xcallB_ok M U (pcall M d) IDEPTH false) h
    simp only [h1]
    split at h2
    · exact h2
    · exact h2
/-- Of a call in the caller's own memory. -/
theorem xmeth_ok {M : Mod} {U : FuncId → XU} {d n : Nat} {g : FuncId} {args : List AV} {H H' : Heap} {v : AV} (he : M.ext g = none) (hi : M.inl g = true) (hn : M.cl g = false) (h : ∀ K, xmeth C0 M U d n g args H K = K v H') : callB M (pcall M d) (n + 1) true g args H = some (v, H') := by
  classical
  have hk := h fun v' H1 => if v' = v ∧ H1 = H' then some .undef else none
  rw [if_pos ⟨rfl, rfl⟩] at hk
  unfold xmeth at hk
  have hem : emptyR M (pcall M d) g args = none := by simp [emptyR, hn]
  simp only [callB, he, hi, hem, if_true]
  cases hc : M.code g args.length with
  | none => simp [hc] at hk
  | some fn =>
    simp only [hc] at hk ⊢
    obtain ⟨v', H1, h1, h2⟩ := xrunFn_ok (xcallB_ok M U (pcall M d) n true) (xcallB_ok M U (pcall M d) n false) hk
    split at h2
    · rename_i hh
      obtain ⟨rfl, rfl⟩ := hh
      exact h1
    · cases h2
end Go.Proofs.Ytffiilnmfmkpmaa.AE

namespace Go.Proofs.Ytffiilnmfmkpmaa.AE
set_option linter.unusedVariables false
set_option linter.unusedSimpArgs false
set_option linter.constructorNameAsVariable false
open Go Go.RowKit
set_option maxRecDepth 100000
def codes : FuncId → Nat → Option AFn
  | 4, _ => some c4
  | 8, _ => some c8
  | 9, _ => some c9
  | 11, _ => some c11
  | 12, _ => some c12
  | 13, _ => some c13
  | 14, _ => some c14
  | 15, _ => some c15
  | 16, _ => some c16
  | 18, _ => some c18
  | 19, _ => some c19
  | 20, _ => some c20
  | 21, _ => some c21
  | 23, _ => some c23
  | 24, _ => some c24
  | 25, _ => some c25
  | 26, _ => some c26
  | 27, _ => some c27
  | 28, _ => some c28
  | 29, _ => some c29
  | 30, _ => some c30
  | 32, _ => some c32
  | 33, _ => some c33
  | 34, _ => some c34
  | 35, _ => some c35
  | 36, _ => some c36
  | 37, _ => some c37
  | 38, _ => some c38
  | 40, _ => some c40
  | 41, _ => some c41
  | 42, _ => some c42
  | 43, _ => some c43
  | 44, _ => some c44
  | 49, _ => some c49
  | 50, _ => some c50
  | 51, _ => some c51
  | 52, _ => some c52
  | 54, _ => some c54
  | 55, _ => some c55
  | 56, _ => some c56
  | 59, _ => some c59
  | 60, _ => some c60
  | 61, _ => some c61
  | 65, _ => some c65
  | 66, _ => some c66
  | 67, _ => some c67
  | 68, _ => some c68
  | 71, _ => some c71
  | 72, _ => some c72
  | _, _ => none
def exts : FuncId → Option (List AV → Option AV)
  | _ => none
def clF (g : FuncId) : Bool := [23, 32].contains g
def frF (g : FuncId) : Bool := [18, 23].contains g
def M : Mod := { code := codes, inl := inlF, ext := exts, fu := 10000000000000000000, cl := clF, fr := frF }
def hm11 : List (Nat × Sh) := [(0, (.agg [.any, (.i .i64), (.i .i64), (.i .i64), (.i .i64), (.i .i64), (.i .i64), (.i .i64), (.i .i64)])), (1, (.i .i64)), (5, .b), (6, (.i .i64)), (7, .b), (8, .b), (9, (.i .i64)), (11, .any), (12, (.i .i64)), (13, .b), (14, .b), (15, (.agg [.any, (.i .i64), (.i .i64), (.i .i64), (.i .i64)])), (5, .b), (17, .any), (18, (.i .i64)), (20, (.agg [.any, (.i .i64), (.i .i64), (.i .i64), (.i .i64)])), (22, .any), (23, .any), (25, (.agg [.any, (.i .i64), (.i .i64), (.i .i64), (.i .i64)])), (5, .b)]
def hm32 : List (Nat × Sh) := [(0, .any), (2, .any), (3, .any), (4, .b), (2, .any), (5, .any), (6, .any), (7, .any), (2, .any)]
def hm4 : List (Nat × Sh) := [(0, (.agg [.any, (.i .i64), (.i .i64), (.i .i64), (.i .i64), (.i .i64), (.i .i64), (.i .i64), (.i .i64)])), (1, (.agg [.any, (.i .i64), (.i .i64), (.i .i64), (.i .i64), (.i .i64), (.i .i64), (.i .i64), (.i .i64)])), (4, .b), (9, .b), (10, .b), (11, .b), (12, (.agg [.any, (.i .i64), (.i .i64), (.i .i64), (.i .i64), (.i .i64), (.i .i64), (.i .i64), (.i .i64)])), (13, .b), (14, .b), (15, .b), (16, .b), (17, (.agg [.any, (.i .i64), (.i .i64), (.i .i64), (.i .i64), (.i .i64), (.i .i64), (.i .i64), (.i .i64)])), (18, .b), (19, .b), (20, .b), (21, .b), (4, .b), (22, (.agg [.any, (.i .i64), (.i .i64), (.i .i64), (.i .i64), (.i .i64), (.i .i64), (.i .i64), (.i .i64)])), (23, (.agg [.any, (.i .i64), (.i .i64), (.i .i64), (.i .i64), (.i .i64), (.i .i64), (.i .i64), (.i .i64)])), (24, (.agg [.any, (.i .i64), (.i .i64), (.i .i64), (.i .i64), (.i .i64), (.i .i64), (.i .i64), (.i .i64)])), (25, (.agg [.any, (.i .i64), (.i .i64), (.i .i64), (.i .i64), (.i .i64), (.i .i64), (.i .i64), (.i .i64)])), (26, (.agg [.any, (.i .i64), (.i .i64), (.i .i64), (.i .i64), (.i .i64), (.i .i64), (.i .i64), (.i .i64)])), (27, (.agg [.any, (.i .i64), (.i .i64), (.i .i64), (.i .i64), (.i .i64), (.i .i64), (.i .i64), (.i .i64)])), (28, .b), (29, .b), (30, .b), (31, (.agg [.any, (.i .i64), (.i .i64), (.i .i64), (.i .i64), (.i .i64), (.i .i64), (.i .i64), (.i .i64)])), (32, (.agg [.any, (.i .i64), (.i .i64), (.i .i64), (.i .i64), (.i .i64), (.i .i64), (.i .i64), (.i .i64)])), (33, .b), (34, .b), (35, .b), (36, .b), (37, (.agg [.any, (.i .i64), (.i .i64), (.i .i64), (.i .i64), (.i .i64), (.i .i64), (.i .i64), (.i .i64)])), (38, (.agg [.any, (.i .i64), (.i .i64), (.i .i64), (.i .i64), (.i .i64), (.i .i64), (.i .i64), (.i .i64)])), (39, .b), (40, (.agg [.any, (.i .i64), (.i .i64), (.i .i64), (.i .i64), (.i .i64), (.i .i64), (.i .i64), (.i .i64)])), (41, (.agg [.any, (.i .i64), (.i .i64), (.i .i64), (.i .i64), (.i .i64), (.i .i64), (.i .i64), (.i .i64)])), (42, .b), (43, .b), (44, .b), (45, .b), (46, (.agg [.any, (.i .i64), (.i .i64), (.i .i64), (.i .i64), (.i .i64), (.i .i64), (.i .i64), (.i .i64)])), (47, (.agg [.any, (.i .i64), (.i .i64), (.i .i64), (.i .i64), (.i .i64), (.i .i64), (.i .i64), (.i .i64)])), (48, .b), (49, (.agg [.any, (.i .i64), (.i .i64), (.i .i64), (.i .i64), (.i .i64), (.i .i64), (.i .i64), (.i .i64)])), (50, (.agg [.any, (.i .i64), (.i .i64), (.i .i64), (.i .i64), (.i .i64), (.i .i64), (.i .i64), (.i .i64)])), (51, .b), (52, .b), (53, .b), (4, .b), (55, .any), (56, (.i .i64)), (57, (.i .i64)), (59, (.i .i64)), (7, (.i .i64)), (61, .any), (62, (.i .i64)), (65, (.i .i64)), (66, (.i .i64)), (70, .any), (71, (.i .i64)), (74, .any), (75, (.i .i64)), (76, (.i .i64)), (78, (.i .i64)), (8, (.i .i64)), (80, .any), (81, (.i .i64)), (84, .any), (85, (.i .i64)), (88, (.i .i64)), (89, (.i .i64)), (92, (.i .i64)), (76, (.i .i64)), (93, (.i .i64)), (57, (.i .i64)), (94, (.agg [.any, (.i .i64), (.i .i64), (.i .i64), (.i .i64), (.i .i64), (.i .i64), (.i .i64), (.i .i64)])), (95, (.agg [.any, (.i .i64), (.i .i64), (.i .i64), (.i .i64), (.i .i64), (.i .i64), (.i .i64), (.i .i64)])), (96, .b), (4, .b)]
def hm18 : List (Nat × Sh) := [(0, (.agg [.any, (.i .i64), (.i .i64), (.i .i64), (.i .i64), (.i .i64), (.i .i64), (.i .i64), (.i .i64)])), (5, .any), (6, .any), (9, .any), (10, (.i .i64)), (11, (.i .i64)), (13, (.i .i64)), (3, (.i .i64)), (15, .any), (16, (.i .i64)), (18, .any), (19, (.i .i64)), (22, .any), (23, .any), (26, (.i .i64)), (11, (.i .i64)), (27, (.agg [.any, (.i .i64), (.i .i64), (.i .i64), (.i .i64), (.i .i64), (.i .i64), (.i .i64), (.i .i64)]))]
def hm23 : List (Nat × Sh) := [(0, .any), (2, .any), (3, .any), (4, .b), (2, .any), (5, .any), (6, .any), (7, .any), (2, .any)]
def hm21 : List (Nat × Sh) := [(0, (.i .i64)), (4, (.i .i64)), (5, (.agg [.any, (.i .i64), (.i .i64), (.i .i64), (.i .i64), (.i .i64), (.i .i64), (.i .i64), (.i .i64)])), (6, (.i .i64)), (7, (.i .i64)), (8, .b), (10, .any), (11, (.agg [(.i .i64), (.i .i64)])), (12, (.agg [(.i .i64), (.i .i64)])), (13, (.agg [(.i .i64), (.i .i64)])), (14, (.agg [(.i .i64), (.i .i64)])), (15, .any), (16, (.agg [.any, (.i .i64), (.i .i64), (.i .i64), (.i .i64)])), (17, .any), (18, .any), (20, (.i .i64)), (7, (.i .i64)), (21, (.agg [.any, (.i .i64), (.i .i64), (.i .i64), (.i .i64), (.i .i64), (.i .i64), (.i .i64), (.i .i64)]))]
def hm33 : List (Nat × Sh) := [(0, .any), (1, .any), (6, .b), (10, .any), (11, (.i .i64)), (12, .any), (13, (.i .i64)), (14, .b), (6, .b), (15, .any), (16, (.i .i64)), (17, (.i .i64)), (19, (.i .i64)), (21, (.agg [.any, (.i .i64), (.i .i64), (.i .i64), (.i .i64)])), (7, (.i .i64)), (22, .any), (23, (.i .i64)), (25, (.agg [.any, (.i .i64), (.i .i64), (.i .i64), (.i .i64)])), (27, (.agg [.any, (.i .i64), (.i .i64), (.i .i64), (.i .i64)])), (28, (.agg [.any, (.i .i64), (.i .i64), (.i .i64), (.i .i64)])), (29, .b), (30, .b), (6, .b), (31, (.i .i64)), (17, (.i .i64)), (6, .b)]
def unr : FuncId → XU
  | 4 => ⟨false, true, hm4, false, false⟩
  | 8 => ⟨false, false, h8, false, false⟩
  | 9 => ⟨false, false, h9, false, false⟩
  | 11 => ⟨false, true, hm11, false, false⟩
  | 12 => ⟨false, false, h12, false, false⟩
  | 13 => ⟨false, false, h13, false, false⟩
  | 14 => ⟨false, false, h14, false, false⟩
  | 15 => ⟨false, false, h15, false, false⟩
  | 16 => ⟨false, false, h16, false, false⟩
  | 18 => ⟨false, true, hm18, false, true⟩
  | 19 => ⟨false, false, h19, false, false⟩
  | 20 => ⟨false, false, h20, false, false⟩
  | 21 => ⟨false, true, hm21, false, false⟩
  | 23 => ⟨false, true, hm23, false, true⟩
  | 24 => ⟨false, false, h24, false, false⟩
  | 25 => ⟨false, false, h25, false, false⟩
  | 26 => ⟨false, false, h26, false, false⟩
  | 27 => ⟨false, false, h27, false, false⟩
  | 28 => ⟨false, false, h28, false, false⟩
  | 29 => ⟨false, false, h29, false, false⟩
  | 30 => ⟨false, false, h30, false, false⟩
  | 32 => ⟨false, true, hm32, false, false⟩
  | 33 => ⟨false, true, hm33, false, false⟩
  | 34 => ⟨false, false, h34, false, false⟩
  | 35 => ⟨false, false, h35, false, false⟩
  | 36 => ⟨false, false, h36, false, false⟩
  | 37 => ⟨false, false, h37, false, false⟩
  | 38 => ⟨false, false, h38, false, false⟩
  | 40 => ⟨false, false, h40, false, false⟩
  | 41 => ⟨false, false, h41, false, false⟩
  | 42 => ⟨false, false, h42, false, false⟩
  | 43 => ⟨false, false, h43, false, false⟩
  | 44 => ⟨false, false, h44, false, false⟩
  | 49 => ⟨false, false, h49, false, false⟩
  | 50 => ⟨false, false, h50, false, false⟩
  | 51 => ⟨false, false, h51, false, false⟩
  | 52 => ⟨false, false, h52, false, false⟩
  | 54 => ⟨false, false, h54, false, false⟩
  | 55 => ⟨false, false, h55, false, false⟩
  | 56 => ⟨false, false, h56, false, false⟩
  | 59 => ⟨false, false, h59, false, false⟩
  | 60 => ⟨false, false, h60, false, false⟩
  | 61 => ⟨false, false, h61, false, false⟩
  | 65 => ⟨false, false, h65, false, false⟩
  | 66 => ⟨false, false, h66, false, false⟩
  | 67 => ⟨false, false, h67, false, false⟩
  | 68 => ⟨false, false, h68, false, false⟩
  | 71 => ⟨false, false, h71, false, false⟩
  | 72 => ⟨false, false, h72, false, false⟩
  | _ => ⟨false, false, [], false, false⟩
theorem modOK : ModOK Try.prog M := by
  constructor
  · intro g n fn h
    change codes g n = some fn at h
    unfold codes at h
    split at h <;> (try (cases h; done))
    · cases h; exact fnOK_of c4_ok
    · cases h; exact fnOK_of c8_ok
    · cases h; exact fnOK_of c9_ok
    · cases h; exact fnOK_of c11_ok
    · cases h; exact fnOK_of c12_ok
    · cases h; exact fnOK_of c13_ok
    · cases h; exact fnOK_of c14_ok
    · cases h; exact fnOK_of c15_ok
    · cases h; exact fnOK_of c16_ok
    · cases h; exact fnOK_of c18_ok
    · cases h; exact fnOK_of c19_ok
    · cases h; exact fnOK_of c20_ok
    · cases h; exact fnOK_of c21_ok
    · cases h; exact fnOK_of c23_ok
    · cases h; exact fnOK_of c24_ok
    · cases h; exact fnOK_of c25_ok
    · cases h; exact fnOK_of c26_ok
    · cases h; exact fnOK_of c27_ok
    · cases h; exact fnOK_of c28_ok
    · cases h; exact fnOK_of c29_ok
    · cases h; exact fnOK_of c30_ok
    · cases h; exact fnOK_of c32_ok
    · cases h; exact fnOK_of c33_ok
    · cases h; exact fnOK_of c34_ok
    · cases h; exact fnOK_of c35_ok
    · cases h; exact fnOK_of c36_ok
    · cases h; exact fnOK_of c37_ok
    · cases h; exact fnOK_of c38_ok
    · cases h; exact fnOK_of c40_ok
    · cases h; exact fnOK_of c41_ok
    · cases h; exact fnOK_of c42_ok
    · cases h; exact fnOK_of c43_ok
    · cases h; exact fnOK_of c44_ok
    · cases h; exact fnOK_of c49_ok
    · cases h; exact fnOK_of c50_ok
    · cases h; exact fnOK_of c51_ok
    · cases h; exact fnOK_of c52_ok
    · cases h; exact fnOK_of c54_ok
    · cases h; exact fnOK_of c55_ok
    · cases h; exact fnOK_of c56_ok
    · cases h; exact fnOK_of c59_ok
    · cases h; exact fnOK_of c60_ok
    · cases h; exact fnOK_of c61_ok
    · cases h; exact fnOK_of c65_ok
    · cases h; exact fnOK_of c66_ok
    · cases h; exact fnOK_of c67_ok
    · cases h; exact fnOK_of c68_ok
    · cases h; exact fnOK_of c71_ok
    · cases h; exact fnOK_of c72_ok
  · intro g e h
    change exts g = some e at h
    unfold exts at h
    split at h <;> (try (cases h; done))
end Go.Proofs.Ytffiilnmfmkpmaa.AE

namespace Go.Proofs.Ytffiilnmfmkpmaa.AE
set_option linter.unusedVariables false
set_option linter.unusedSimpArgs false
set_option linter.constructorNameAsVariable false
open Go

theorem C0_int (k : IntKind) (n : Int) (K : Int → Ans) : C0.int k (some (.int k n)) K = K n := by simp [C0, isInt]
theorem C0_bool (b : Bool) (K : Bool → Ans) : C0.bool (some (.bool b)) K = K b := by simp [C0, isBool]
theorem C0_str (b : List UInt8) (K : List UInt8 → Ans) : C0.str (some (.str b)) K = K b := by simp [C0, isStr]
theorem C0_lst (l : List AV) (K : List AV → Ans) (Z : Bool → Ans) : C0.lst (some (.lst l)) K Z = K l := rfl
theorem C0_lstz (b : Bool) (K : List AV → Ans) (Z : Bool → Ans) : C0.lst (some (.zsl b)) K Z = Z b := rfl
theorem C0_agg (n : Nat) (l : List AV) (h : l.length = n) (K : List AV → Ans) : C0.agg n (some (.agg l)) K = K l := by simp [C0, isAgg, h]
theorem C0_tup (n : Nat) (l : List AV) (h : l.length = n) (K : List AV → Ans) : C0.tup n (some (.tup l)) K = K l := by simp [C0, isTup, h]
theorem C0_agg2 (a b : AV) (K : List AV → Ans) : C0.agg 2 (some (.agg [a, b])) K = K [a, b] := C0_agg 2 _ rfl K
theorem C0_tup2 (a b : AV) (K : List AV → Ans) : C0.tup 2 (some (.tup [a, b])) K = K [a, b] := C0_tup 2 _ rfl K
theorem C0_any (v : AV) (K : AV → Ans) : C0.any (some v) K = K v := by simp [C0]
theorem C0_same (v : AV) (K : Ans) : C0.same (some v) v K = K := by simp [C0]
theorem C0_sameH (H : Heap) (K : Ans) : C0.sameH H H K = K := by simp [C0]
theorem cnd_t (a b : Ans) : cnd true a b = a := rfl
theorem cnd_f (a b : Ans) : cnd false a b = b := rfl
theorem pl_len {t : Bool} {a b : Ans} (h : t = true) : cnd t a b = a := by subst h; rfl
theorem pl_f {t : Bool} {a b : Ans} (h : t = false) : cnd t a b = b := by subst h; rfl
theorem pl_same {o : Option AV} {v : AV} {K : Ans} (h : o = some v) : C0.same o v K = K := by subst h; simp [C0]
theorem pl_sameH {H : Heap} {K : Ans} : C0.sameH H H K = K := by simp [C0]
theorem pl_int {k : IntKind} {o : Option AV} {n : Int} {K : Int → Ans} (h : o = some (.int k n)) : C0.int k o K = K n := by subst h; simp [C0, isInt]
theorem pl_bool {o : Option AV} {n : Bool} {K : Bool → Ans} (h : o = some (.bool n)) : C0.bool o K = K n := by subst h; simp [C0, isBool]
theorem pl_str {o : Option AV} {n : List UInt8} {K : List UInt8 → Ans} (h : o = some (.str n)) : C0.str o K = K n := by subst h; simp [C0, isStr]
theorem pl_any {o : Option AV} {v : AV} {K : AV → Ans} (h : o = some v) : C0.any o K = K v := by subst h; simp [C0]
theorem pl_agg {n : Nat} {o : Option AV} {l : List AV} {K : List AV → Ans} (h : o = some (.agg l)) (h2 : l.length = n) : C0.agg n o K = K l := by subst h; simp [C0, isAgg, h2]
theorem pl_tup {n : Nat} {o : Option AV} {l : List AV} {K : List AV → Ans} (h : o = some (.tup l)) (h2 : l.length = n) : C0.tup n o K = K l := by subst h; simp [C0, isTup, h2]
theorem pl_lst {o : Option AV} {l : List AV} {K : List AV → Ans} {Z : Bool → Ans} (h : o = some (.lst l)) : C0.lst o K Z = K l := by subst h; rfl
/-- What comes behind a round; what comes behind a loop. -/
def kIter (R : St → (Ex → St → Ans) → Ans) (n : Nat) (K : Ex → St → Ans) : Ex → St → Ans := fun e s' => match e with
  | .normal => xiter R n s' K
  | .exit i => K (.exit i) s'
  | .ret => K .ret s'
def kOut (ids : List Nat) (ks : List (St → Ans)) (kr : St → Ans) : Ex → St → Ans := fun e s' => match e with
  | .ret => kr s'
  | .exit i => xgo i ids ks s'
  | .normal => none
theorem kIter_n (R : St → (Ex → St → Ans) → Ans) (n : Nat) (K : Ex → St → Ans) (s : St) : kIter R n K .normal s = xiter R n s K := rfl
theorem kIter_x (R : St → (Ex → St → Ans) → Ans) (n : Nat) (K : Ex → St → Ans) (i : Nat) (s : St) : kIter R n K (.exit i) s = K (.exit i) s := rfl
theorem kIter_r (R : St → (Ex → St → Ans) → Ans) (n : Nat) (K : Ex → St → Ans) (s : St) : kIter R n K .ret s = K .ret s := rfl
theorem kOut_x (ids : List Nat) (ks : List (St → Ans)) (kr : St → Ans) (i : Nat) (s : St) : kOut ids ks kr (.exit i) s = xgo i ids ks s := rfl
theorem kOut_r (ids : List Nat) (ks : List (St → Ans)) (kr : St → Ans) (s : St) : kOut ids ks kr .ret s = kr s := rfl
theorem it_ret (R : St → (Ex → St → Ans) → Ans) (n : Nat) (s : St) (ids : List Nat) (ks : List (St → Ans)) (kr : St → Ans) : C0.iter R n s ids ks kr = xiter R n s (kOut ids ks kr) := rfl
theorem xiter_s (R : St → (Ex → St → Ans) → Ans) (n : Nat) (s : St) (K : Ex → St → Ans) : xiter R (n + 1) s K = R s (kIter R n K) := rfl
theorem xgo_hit (i : Nat) (ids : List Nat) (k : St → Ans) (ks : List (St → Ans)) (s : St) : xgo i (i :: ids) (k :: ks) s = k s := by simp [xgo]
theorem xgo_miss {i j : Nat} (ids : List Nat) (k : St → Ans) (ks : List (St → Ans)) (s : St) (h : (i == j) = false) : xgo i (j :: ids) (k :: ks) s = xgo i ids ks s := by
  simp only [xgo]; rw [if_neg]; intro he; subst he; simp at h
theorem C0_hop (H : Heap) (io : IOp) (K : AV → Heap → Ans) : C0.hop H io K = match aop noCall (evO []) H io with
    | some (v, H') => K v H'
    | none => none := rfl
theorem hop_eq {H H' : Heap} {io : IOp} {v : AV} {K : AV → Heap → Ans} (h : aop noCall (evO []) H io = some (v, H')) : C0.hop H io K = K v H' := by rw [C0_hop, h]
theorem cal_eq {M : Mod} {pc : FuncId → List AV → Option AV} {n : Nat} {b : Bool} {g : FuncId} {args : List AV} {H H' : Heap} {v : AV} {K : AV → Heap → Ans} (h : callB M pc n b g args H = some (v, H')) : C0.cal M pc n b g args H K = K v H' := by
  change (match callB M pc n b g args H with
    | some (v, H') => K v H'
    | none => none) = _
  rw [h]
theorem C0_fin (H : Heap) (v : AV) : C0.fin H v = some (snap 12 H v) := rfl
theorem C0_disj {a b : TV} {K : Ans} (h : disjB a b = true) : C0.disj a b K = K := by simp only [C0, h]
theorem snp_free {H : Heap} {args : List AV} {K : List AV → Bool → Ans} (h : args.all (noId DEPTH) = true) : C0.snp H args K = K args true := by simp [C0, h]
theorem snp_id {H : Heap} {args : List AV} {K : List AV → Bool → Ans} (h : args.all (noId DEPTH) = false) : C0.snp H args K = K (args.map (snap DEPTH H)) false := by simp [C0, h]
theorem at0 (a : AV) (l : List AV) : (a :: l)[0]? = some a := rfl
theorem at1 (a b : AV) (l : List AV) : (a :: b :: l)[1]? = some b := rfl
theorem at2 (a b c : AV) (l : List AV) : (a :: b :: c :: l)[2]? = some c := rfl
theorem at3 (a b c d : AV) (l : List AV) : (a :: b :: c :: d :: l)[3]? = some d := rfl
theorem at4 (a b c d e : AV) (l : List AV) : (a :: b :: c :: d :: e :: l)[4]? = some e := rfl
theorem at5 (a b c d e f : AV) (l : List AV) : (a :: b :: c :: d :: e :: f :: l)[5]? = some f := rfl
theorem at6 (a b c d e f g : AV) (l : List AV) : (a :: b :: c :: d :: e :: f :: g :: l)[6]? = some g := rfl
theorem at7 (a b c d e f g h : AV) (l : List AV) : (a :: b :: c :: d :: e :: f :: g :: h :: l)[7]? = some h := rfl
/-- From what is told forwards. -/
theorem told {d g : Nat} {args : List AV} {r : AV} {t : Ans} (h : xcall C0 M unr d g args = t) (h2 : t = some r) : pcall M (d + 1) g args = some r := xcall_ok (h.trans h2)
theorem up {k d : Nat} {p : Nat → Prop} (h : ∀ d, p (d + k)) (hd : k ≤ d) : p d := by
  have := h (d - k)
  rwa [Nat.sub_add_cancel hd] at this
theorem yt {a b c : Ans} (h : a = b) (k : b = c) : a = c := h.trans k
theorem yS {o : Option AV} {v : AV} {K : Ans} (h : o = some v := by rfl) : C0.same o v K = K := pl_same h
theorem yA {o : Option AV} {v : AV} {K : AV → Ans} (h : o = some v := by rfl) : C0.any o K = K v := pl_any h
theorem yI {k : IntKind} {o : Option AV} {n : Int} {K : Int → Ans} (h : o = some (.int k n) := by rfl) : C0.int k o K = K n := pl_int h
theorem yB {o : Option AV} {n : Bool} {K : Bool → Ans} (h : o = some (.bool n) := by rfl) : C0.bool o K = K n := pl_bool h
theorem yG {n : Nat} {o : Option AV} {l : List AV} {K : List AV → Ans} (h : o = some (.agg l) := by rfl) (h2 : l.length = n := by rfl) : C0.agg n o K = K l := pl_agg h h2
theorem yT {n : Nat} {o : Option AV} {l : List AV} {K : List AV → Ans} (h : o = some (.tup l) := by rfl) (h2 : l.length = n := by rfl) : C0.tup n o K = K l := pl_tup h h2
end Go.Proofs.Ytffiilnmfmkpmaa.AE

namespace Go.Proofs.Ytffiilnmfmkpmaa.AE
set_option linter.unusedVariables false
set_option linter.unusedSimpArgs false
set_option linter.constructorNameAsVariable false
open Go
set_option maxRecDepth 100000
/-- slices.Clone[[]apogee/api.Point,apogee/api.Point] -/
theorem r23 (C : Cb) (d : Nat) (a0 : AV) (n0 : Nat) (H0 : Heap) (K0 : AV → Heap → Ans) : xmeth C M unr d (n0 + 8) 23 [a0] H0 K0 =
 C.hop H0 (.eqv false 2 [] (.v a0) (.v (.zsl true))) fun v0 h1 =>
 C.bool (some v0) fun b2 =>
 cnd b2
 (K0 (.zsl true) h1)
 (C.hop h1 (.mkrow E39 0 []) fun v3 h4 =>
 C.hop h4 (.app E39 (.v v3) (.v a0)) fun v5 h6 =>
 K0 v5 h6) := by kernel_rfl
def r29R0 (C : Cb) (d : Nat) (a0 a1 : List AV) : St → (Ex → St → Ans) → Ans := fun s0 k1 =>
 cnd ((List.length s0.env) == 26)
 (C.same s0.env[0]? (.lst a0) <|
 C.same s0.env[1]? (.lst a1) <|
 C.same s0.env[2]? tz <|
 C.same s0.env[3]? tz <|
 C.bool s0.env[4]? fun b3 =>
 C.int .i64 s0.env[5]? fun x4 =>
 C.same s0.env[6]? (.lst a0) <|
 C.same s0.env[7]? (iz (((List.length a0) : Nat) : Int)) <|
 C.same s0.env[8]? (.lst a1) <|
 C.same s0.env[9]? (iz (((List.length a1) : Nat) : Int)) <|
 C.same s0.env[10]? bf <|
 C.any s0.env[11]? fun v5 =>
 C.any s0.env[12]? fun v6 =>
 C.any s0.env[13]? fun v7 =>
 C.any s0.env[14]? fun v8 =>
 C.any s0.env[15]? fun v9 =>
 C.any s0.env[16]? fun v10 =>
 C.any s0.env[17]? fun v11 =>
 C.any s0.env[18]? fun v12 =>
 C.any s0.env[19]? fun v13 =>
 C.any s0.env[20]? fun v14 =>
 C.any s0.env[21]? fun v15 =>
 C.any s0.env[22]? fun v16 =>
 C.any s0.env[23]? fun v17 =>
 C.any s0.env[24]? fun v18 =>
 C.any s0.env[25]? fun v19 =>
 C.sameH (St.H s0) [] <|
 cnd (decide (x4 < (((List.length a0) : Nat) : Int)))
 (cnd (decide ((0 : Int) ≤ x4))
 (C.agg 2 a0[(Int.toNat x4)]? fun l20 =>
 C.int .i64 l20[0]? fun x21 =>
 C.int .i64 l20[1]? fun x22 =>
 cnd (decide ((0 : Int) ≤ x4))
 (C.agg 2 a1[(Int.toNat x4)]? fun l23 =>
 C.int .i64 l23[0]? fun x24 =>
 C.int .i64 l23[1]? fun x25 =>
 cnd (xor true ((x21 == x24) && ((x22 == x25) && true)))
 (k1 .ret ⟨[(.lst a0), (.lst a1), tz, tz, bf, (iz x4), (.lst a0), (iz (((List.length a0) : Nat) : Int)), (.lst a1), (iz (((List.length a1) : Nat) : Int)), bf, (iz x4), (.lst a0), (iz (((List.length a0) : Nat) : Int)), bt, v9, v10, (.lst a0), (iz x4), (.fptr (.agg [(iz x21), (iz x22)]) 0), (.agg [(iz x21), (iz x22)]), (.lst a1), (iz x4), (.fptr (.agg [(iz x24), (iz x25)]) 0), (.agg [(iz x24), (iz x25)]), bt], []⟩)
 (k1 .normal ⟨[(.lst a0), (.lst a1), tz, tz, (.bool b3), (iz (IntKind.wrap .i64 (x4 + 1))), (.lst a0), (iz (((List.length a0) : Nat) : Int)), (.lst a1), (iz (((List.length a1) : Nat) : Int)), bf, (iz x4), (.lst a0), (iz (((List.length a0) : Nat) : Int)), bt, (iz x4), (iz (IntKind.wrap .i64 (x4 + 1))), (.lst a0), (iz x4), (.fptr (.agg [(iz x21), (iz x22)]) 0), (.agg [(iz x21), (iz x22)]), (.lst a1), (iz x4), (.fptr (.agg [(iz x24), (iz x25)]) 0), (.agg [(iz x24), (iz x25)]), bf], []⟩))
 (none))
 (none))
 (k1 (.exit 0) ⟨[(.lst a0), (.lst a1), tz, tz, (.bool b3), (iz x4), (.lst a0), (iz (((List.length a0) : Nat) : Int)), (.lst a1), (iz (((List.length a1) : Nat) : Int)), bf, (iz x4), (.lst a0), (iz (((List.length a0) : Nat) : Int)), bf, v9, v10, v11, v12, v13, v14, v15, v16, v17, v18, v19], []⟩))
 (none)
def r29X0_0 (C : Cb) (d : Nat) (a0 a1 : List AV) : St → Ans := fun s26 =>
 cnd ((List.length s26.env) == 26)
 (C.same s26.env[0]? (.lst a0) <|
 C.same s26.env[1]? (.lst a1) <|
 C.same s26.env[2]? tz <|
 C.same s26.env[3]? tz <|
 C.bool s26.env[4]? fun b27 =>
 C.int .i64 s26.env[5]? fun x28 =>
 C.same s26.env[6]? (.lst a0) <|
 C.same s26.env[7]? (iz (((List.length a0) : Nat) : Int)) <|
 C.same s26.env[8]? (.lst a1) <|
 C.same s26.env[9]? (iz (((List.length a1) : Nat) : Int)) <|
 C.same s26.env[10]? bf <|
 C.int .i64 s26.env[11]? fun x29 =>
 C.any s26.env[12]? fun v30 =>
 C.int .i64 s26.env[13]? fun x31 =>
 C.bool s26.env[14]? fun b32 =>
 C.any s26.env[15]? fun v33 =>
 C.any s26.env[16]? fun v34 =>
 C.any s26.env[17]? fun v35 =>
 C.any s26.env[18]? fun v36 =>
 C.any s26.env[19]? fun v37 =>
 C.any s26.env[20]? fun v38 =>
 C.any s26.env[21]? fun v39 =>
 C.any s26.env[22]? fun v40 =>
 C.any s26.env[23]? fun v41 =>
 C.any s26.env[24]? fun v42 =>
 C.any s26.env[25]? fun v43 =>
 C.sameH (St.H s26) [] <|
 some bt)
 (none)
def r29E0 (C : Cb) (d : Nat) (a0 a1 : List AV) : St → Ans := fun s2 =>
 cnd ((List.length s2.env) == 26)
 (C.same s2.env[0]? (.lst a0) <|
 C.same s2.env[1]? (.lst a1) <|
 C.same s2.env[2]? tz <|
 C.same s2.env[3]? tz <|
 C.bool s2.env[4]? fun b44 =>
 C.int .i64 s2.env[5]? fun x45 =>
 C.same s2.env[6]? (.lst a0) <|
 C.same s2.env[7]? (iz (((List.length a0) : Nat) : Int)) <|
 C.same s2.env[8]? (.lst a1) <|
 C.same s2.env[9]? (iz (((List.length a1) : Nat) : Int)) <|
 C.same s2.env[10]? bf <|
 C.int .i64 s2.env[11]? fun x46 =>
 C.any s2.env[12]? fun v47 =>
 C.int .i64 s2.env[13]? fun x48 =>
 C.bool s2.env[14]? fun b49 =>
 C.any s2.env[15]? fun v50 =>
 C.any s2.env[16]? fun v51 =>
 C.any s2.env[17]? fun v52 =>
 C.int .i64 s2.env[18]? fun x53 =>
 C.any s2.env[19]? fun v54 =>
 C.agg 2 s2.env[20]? fun l55 =>
 C.int .i64 l55[0]? fun x56 =>
 C.int .i64 l55[1]? fun x57 =>
 C.any s2.env[21]? fun v58 =>
 C.int .i64 s2.env[22]? fun x59 =>
 C.any s2.env[23]? fun v60 =>
 C.agg 2 s2.env[24]? fun l61 =>
 C.int .i64 l61[0]? fun x62 =>
 C.int .i64 l61[1]? fun x63 =>
 C.bool s2.env[25]? fun b64 =>
 C.sameH (St.H s2) [] <|
 some (.bool b44))
 (none)
/-- apogee/apogeeref10.Same -/
theorem r29 (C : Cb) (d : Nat) (a0 a1 : List AV) : xcall C M unr d 29 [(.lst a0), (.lst a1)] =
 cnd ((((List.length a0) : Nat) : Int) != (((List.length a1) : Nat) : Int))
 (some bf)
 (C.iter (r29R0 C d a0 a1) 10000000000000000000 ⟨[(.lst a0), (.lst a1), tz, tz, bf, (iz 0), (.lst a0), (iz (((List.length a0) : Nat) : Int)), (.lst a1), (iz (((List.length a1) : Nat) : Int)), bf, tz, tz, tz, tz, tz, tz, tz, tz, tz, tz, tz, tz, tz, tz, tz], []⟩ [0] [r29X0_0 C d a0 a1] (r29E0 C d a0 a1)) := by kernel_rfl
/-- slices.ContainsFunc[[]apogee/api.Point,apogee/api.Point] -/
theorem r37f59 (C : Cb) (d : Nat) (a0 : List AV) (a1 : AV) : xcall C M unr d 37 [(.lst a0), (.fn 59 [] [])] =
 C.int .i64 (pcall M d 44 [(.lst a0), (.fn 59 [] [])]) fun x0 =>
 some (.bool (decide (x0 ≥ 0))) := by kernel_rfl
def r40R0 (C : Cb) (d : Nat) (a0 a1 : List AV) : St → (Ex → St → Ans) → Ans := fun s0 k1 =>
 cnd ((List.length s0.env) == 26)
 (C.same s0.env[0]? (.lst a0) <|
 C.same s0.env[1]? (.lst a1) <|
 C.same s0.env[2]? tz <|
 C.same s0.env[3]? tz <|
 C.bool s0.env[4]? fun b3 =>
 C.any s0.env[5]? fun v4 =>
 C.same s0.env[6]? (.lst a0) <|
 C.same s0.env[7]? (iz (((List.length a0) : Nat) : Int)) <|
 C.same s0.env[8]? (.lst a1) <|
 C.same s0.env[9]? (iz (((List.length a1) : Nat) : Int)) <|
 C.same s0.env[10]? bf <|
 C.same s0.env[11]? (.lst a0) <|
 C.same s0.env[12]? (iz (((List.length a0) : Nat) : Int)) <|
 C.int .i64 s0.env[13]? fun x5 =>
 C.any s0.env[14]? fun v6 =>
 C.any s0.env[15]? fun v7 =>
 C.any s0.env[16]? fun v8 =>
 C.any s0.env[17]? fun v9 =>
 C.any s0.env[18]? fun v10 =>
 C.any s0.env[19]? fun v11 =>
 C.any s0.env[20]? fun v12 =>
 C.any s0.env[21]? fun v13 =>
 C.any s0.env[22]? fun v14 =>
 C.any s0.env[23]? fun v15 =>
 C.any s0.env[24]? fun v16 =>
 C.any s0.env[25]? fun v17 =>
 C.sameH (St.H s0) [] <|
 cnd (decide (x5 < (((List.length a0) : Nat) : Int)))
 (cnd (decide ((0 : Int) ≤ x5))
 (C.agg 2 a0[(Int.toNat x5)]? fun l18 =>
 C.int .i64 l18[0]? fun x19 =>
 C.int .i64 l18[1]? fun x20 =>
 cnd (decide ((0 : Int) ≤ x5))
 (C.agg 2 a1[(Int.toNat x5)]? fun l21 =>
 C.int .i64 l21[0]? fun x22 =>
 C.int .i64 l21[1]? fun x23 =>
 cnd (xor true ((x19 == x22) && ((x20 == x23) && true)))
 (k1 .ret ⟨[(.lst a0), (.lst a1), tz, tz, bf, (iz x5), (.lst a0), (iz (((List.length a0) : Nat) : Int)), (.lst a1), (iz (((List.length a1) : Nat) : Int)), bf, (.lst a0), (iz (((List.length a0) : Nat) : Int)), (iz x5), bt, (iz x5), (.lst a0), (iz x5), (.fptr (.agg [(iz x19), (iz x20)]) 0), (.agg [(iz x19), (iz x20)]), (.lst a1), (iz x5), (.fptr (.agg [(iz x22), (iz x23)]) 0), (.agg [(iz x22), (iz x23)]), bt, v17], []⟩)
 (k1 .normal ⟨[(.lst a0), (.lst a1), tz, tz, (.bool b3), (iz x5), (.lst a0), (iz (((List.length a0) : Nat) : Int)), (.lst a1), (iz (((List.length a1) : Nat) : Int)), bf, (.lst a0), (iz (((List.length a0) : Nat) : Int)), (iz (IntKind.wrap .i64 (x5 + 1))), bt, (iz x5), (.lst a0), (iz x5), (.fptr (.agg [(iz x19), (iz x20)]) 0), (.agg [(iz x19), (iz x20)]), (.lst a1), (iz x5), (.fptr (.agg [(iz x22), (iz x23)]) 0), (.agg [(iz x22), (iz x23)]), bf, (iz (IntKind.wrap .i64 (x5 + 1)))], []⟩))
 (none))
 (none))
 (k1 (.exit 0) ⟨[(.lst a0), (.lst a1), tz, tz, (.bool b3), v4, (.lst a0), (iz (((List.length a0) : Nat) : Int)), (.lst a1), (iz (((List.length a1) : Nat) : Int)), bf, (.lst a0), (iz (((List.length a0) : Nat) : Int)), (iz x5), bf, v7, v8, v9, v10, v11, v12, v13, v14, v15, v16, v17], []⟩))
 (none)
def r40X0_0 (C : Cb) (d : Nat) (a0 a1 : List AV) : St → Ans := fun s24 =>
 cnd ((List.length s24.env) == 26)
 (C.same s24.env[0]? (.lst a0) <|
 C.same s24.env[1]? (.lst a1) <|
 C.same s24.env[2]? tz <|
 C.same s24.env[3]? tz <|
 C.bool s24.env[4]? fun b25 =>
 C.any s24.env[5]? fun v26 =>
 C.same s24.env[6]? (.lst a0) <|
 C.same s24.env[7]? (iz (((List.length a0) : Nat) : Int)) <|
 C.same s24.env[8]? (.lst a1) <|
 C.same s24.env[9]? (iz (((List.length a1) : Nat) : Int)) <|
 C.same s24.env[10]? bf <|
 C.same s24.env[11]? (.lst a0) <|
 C.same s24.env[12]? (iz (((List.length a0) : Nat) : Int)) <|
 C.int .i64 s24.env[13]? fun x27 =>
 C.any s24.env[14]? fun v28 =>
 C.any s24.env[15]? fun v29 =>
 C.any s24.env[16]? fun v30 =>
 C.any s24.env[17]? fun v31 =>
 C.any s24.env[18]? fun v32 =>
 C.any s24.env[19]? fun v33 =>
 C.any s24.env[20]? fun v34 =>
 C.any s24.env[21]? fun v35 =>
 C.any s24.env[22]? fun v36 =>
 C.any s24.env[23]? fun v37 =>
 C.any s24.env[24]? fun v38 =>
 C.any s24.env[25]? fun v39 =>
 C.sameH (St.H s24) [] <|
 some bt)
 (none)
def r40E0 (C : Cb) (d : Nat) (a0 a1 : List AV) : St → Ans := fun s2 =>
 cnd ((List.length s2.env) == 26)
 (C.same s2.env[0]? (.lst a0) <|
 C.same s2.env[1]? (.lst a1) <|
 C.same s2.env[2]? tz <|
 C.same s2.env[3]? tz <|
 C.bool s2.env[4]? fun b40 =>
 C.int .i64 s2.env[5]? fun x41 =>
 C.same s2.env[6]? (.lst a0) <|
 C.same s2.env[7]? (iz (((List.length a0) : Nat) : Int)) <|
 C.same s2.env[8]? (.lst a1) <|
 C.same s2.env[9]? (iz (((List.length a1) : Nat) : Int)) <|
 C.same s2.env[10]? bf <|
 C.same s2.env[11]? (.lst a0) <|
 C.same s2.env[12]? (iz (((List.length a0) : Nat) : Int)) <|
 C.int .i64 s2.env[13]? fun x42 =>
 C.any s2.env[14]? fun v43 =>
 C.int .i64 s2.env[15]? fun x44 =>
 C.any s2.env[16]? fun v45 =>
 C.int .i64 s2.env[17]? fun x46 =>
 C.any s2.env[18]? fun v47 =>
 C.agg 2 s2.env[19]? fun l48 =>
 C.int .i64 l48[0]? fun x49 =>
 C.int .i64 l48[1]? fun x50 =>
 C.any s2.env[20]? fun v51 =>
 C.int .i64 s2.env[21]? fun x52 =>
 C.any s2.env[22]? fun v53 =>
 C.agg 2 s2.env[23]? fun l54 =>
 C.int .i64 l54[0]? fun x55 =>
 C.int .i64 l54[1]? fun x56 =>
 C.bool s2.env[24]? fun b57 =>
 C.any s2.env[25]? fun v58 =>
 C.sameH (St.H s2) [] <|
 some (.bool b40))
 (none)
/-- slices.Equal[[]apogee/api.Point,apogee/api.Point] -/
theorem r40 (C : Cb) (d : Nat) (a0 a1 : List AV) : xcall C M unr d 40 [(.lst a0), (.lst a1)] =
 cnd ((((List.length a0) : Nat) : Int) != (((List.length a1) : Nat) : Int))
 (some bf)
 (C.iter (r40R0 C d a0 a1) 10000000000000000000 ⟨[(.lst a0), (.lst a1), tz, tz, bf, tz, (.lst a0), (iz (((List.length a0) : Nat) : Int)), (.lst a1), (iz (((List.length a1) : Nat) : Int)), bf, (.lst a0), (iz (((List.length a0) : Nat) : Int)), (iz 0), tz, tz, tz, tz, tz, tz, tz, tz, tz, tz, tz, tz], []⟩ [0] [r40X0_0 C d a0 a1] (r40E0 C d a0 a1)) := by kernel_rfl
/-- apogee/point.Right -/
theorem r42 (C : Cb) (d : Nat) (a0 a1 : Int) : xcall C M unr d 42 [(.agg [(iz a0), (iz a1)])] =
 C.bool (pcall M d 49 [(iz a0)]) fun b0 =>
 cnd b0
 (C.bool (pcall M d 49 [(iz a1)]) fun b1 =>
 some (.bool b1))
 (some bf) := by kernel_rfl
def r44f59R0 (C : Cb) (d : Nat) (a0 : List AV) : St → (Ex → St → Ans) → Ans := fun s0 k1 =>
 cnd ((List.length s0.env) == 19)
 (C.same s0.env[0]? (.lst a0) <|
 C.same s0.env[1]? (.fn 59 [] []) <|
 C.same s0.env[2]? tz <|
 C.same s0.env[3]? tz <|
 C.int .i64 s0.env[4]? fun x3 =>
 C.any s0.env[5]? fun v4 =>
 C.same s0.env[6]? (.lst a0) <|
 C.same s0.env[7]? (iz (((List.length a0) : Nat) : Int)) <|
 C.int .i64 s0.env[8]? fun x5 =>
 C.any s0.env[9]? fun v6 =>
 C.any s0.env[10]? fun v7 =>
 C.any s0.env[11]? fun v8 =>
 C.any s0.env[12]? fun v9 =>
 C.any s0.env[13]? fun v10 =>
 C.any s0.env[14]? fun v11 =>
 C.any s0.env[15]? fun v12 =>
 C.any s0.env[16]? fun v13 =>
 C.any s0.env[17]? fun v14 =>
 C.any s0.env[18]? fun v15 =>
 C.sameH (St.H s0) [] <|
 cnd (decide (x5 < (((List.length a0) : Nat) : Int)))
 (cnd (decide ((0 : Int) ≤ x5))
 (C.agg 2 a0[(Int.toNat x5)]? fun l16 =>
 C.int .i64 l16[0]? fun x17 =>
 C.int .i64 l16[1]? fun x18 =>
 C.bool (pcall M d 59 [(.agg [(iz x17), (iz x18)])]) fun b19 =>
 cnd b19
 (k1 .ret ⟨[(.lst a0), (.fn 59 [] []), tz, tz, (iz x5), (iz x5), (.lst a0), (iz (((List.length a0) : Nat) : Int)), (iz x5), bt, (iz x5), (.fn 59 [] []), (.lst a0), (iz x5), (.fptr (.agg [(iz x17), (iz x18)]) 0), (.agg [(iz x17), (iz x18)]), bt, (iz x5), v15], []⟩)
 (k1 .normal ⟨[(.lst a0), (.fn 59 [] []), tz, tz, (iz x3), (iz x5), (.lst a0), (iz (((List.length a0) : Nat) : Int)), (iz (IntKind.wrap .i64 (x5 + 1))), bt, (iz x5), (.fn 59 [] []), (.lst a0), (iz x5), (.fptr (.agg [(iz x17), (iz x18)]) 0), (.agg [(iz x17), (iz x18)]), bf, v14, (iz (IntKind.wrap .i64 (x5 + 1)))], []⟩))
 (none))
 (k1 (.exit 0) ⟨[(.lst a0), (.fn 59 [] []), tz, tz, (iz x3), v4, (.lst a0), (iz (((List.length a0) : Nat) : Int)), (iz x5), bf, v7, v8, v9, v10, v11, v12, v13, v14, v15], []⟩))
 (none)
def r44f59X0_0 (C : Cb) (d : Nat) (a0 : List AV) : St → Ans := fun s20 =>
 cnd ((List.length s20.env) == 19)
 (C.same s20.env[0]? (.lst a0) <|
 C.same s20.env[1]? (.fn 59 [] []) <|
 C.same s20.env[2]? tz <|
 C.same s20.env[3]? tz <|
 C.int .i64 s20.env[4]? fun x21 =>
 C.any s20.env[5]? fun v22 =>
 C.same s20.env[6]? (.lst a0) <|
 C.same s20.env[7]? (iz (((List.length a0) : Nat) : Int)) <|
 C.int .i64 s20.env[8]? fun x23 =>
 C.any s20.env[9]? fun v24 =>
 C.any s20.env[10]? fun v25 =>
 C.any s20.env[11]? fun v26 =>
 C.any s20.env[12]? fun v27 =>
 C.any s20.env[13]? fun v28 =>
 C.any s20.env[14]? fun v29 =>
 C.any s20.env[15]? fun v30 =>
 C.any s20.env[16]? fun v31 =>
 C.any s20.env[17]? fun v32 =>
 C.any s20.env[18]? fun v33 =>
 C.sameH (St.H s20) [] <|
 some (iz (-1)))
 (none)
def r44f59E0 (C : Cb) (d : Nat) (a0 : List AV) : St → Ans := fun s2 =>
 cnd ((List.length s2.env) == 19)
 (C.same s2.env[0]? (.lst a0) <|
 C.same s2.env[1]? (.fn 59 [] []) <|
 C.same s2.env[2]? tz <|
 C.same s2.env[3]? tz <|
 C.int .i64 s2.env[4]? fun x34 =>
 C.int .i64 s2.env[5]? fun x35 =>
 C.same s2.env[6]? (.lst a0) <|
 C.same s2.env[7]? (iz (((List.length a0) : Nat) : Int)) <|
 C.int .i64 s2.env[8]? fun x36 =>
 C.any s2.env[9]? fun v37 =>
 C.int .i64 s2.env[10]? fun x38 =>
 C.any s2.env[11]? fun v39 =>
 C.any s2.env[12]? fun v40 =>
 C.int .i64 s2.env[13]? fun x41 =>
 C.any s2.env[14]? fun v42 =>
 C.agg 2 s2.env[15]? fun l43 =>
 C.int .i64 l43[0]? fun x44 =>
 C.int .i64 l43[1]? fun x45 =>
 C.bool s2.env[16]? fun b46 =>
 C.int .i64 s2.env[17]? fun x47 =>
 C.any s2.env[18]? fun v48 =>
 C.sameH (St.H s2) [] <|
 some (iz x34))
 (none)
/-- slices.IndexFunc[[]apogee/api.Point,apogee/api.Point] -/
theorem r44f59 (C : Cb) (d : Nat) (a0 : List AV) (a1 : AV) : xcall C M unr d 44 [(.lst a0), (.fn 59 [] [])] =
 C.iter (r44f59R0 C d a0) 10000000000000000000 ⟨[(.lst a0), (.fn 59 [] []), tz, tz, (iz 0), tz, (.lst a0), (iz (((List.length a0) : Nat) : Int)), (iz 0), tz, tz, tz, tz, tz, tz, tz, tz, tz, tz], []⟩ [0] [r44f59X0_0 C d a0] (r44f59E0 C d a0) := by kernel_rfl
/-- apogee/point.within -/
theorem r49 (C : Cb) (d : Nat) (a0 : Int) : xcall C M unr d 49 [(iz a0)] =
 cnd (decide (a0 ≥ (-1099511627776)))
 (some (.bool (decide (a0 ≤ 1099511627776))))
 (some bf) := by kernel_rfl
/-- apogee/point.On -/
theorem r51 (C : Cb) (d : Nat) (a0 a1 a2 a3 a4 a5 : Int) : xcall C M unr d 51 [(.agg [(iz a0), (iz a1)]), (.agg [(iz a2), (iz a3)]), (.agg [(iz a4), (iz a5)])] =
 C.bool (pcall M d 54 [(.lst [(.agg [(iz a0), (iz a1)]), (.agg [(iz a2), (iz a3)]), (.agg [(iz a4), (iz a5)])])]) fun b0 =>
 cnd b0
 (C.int .i64 (pcall M d 55 [(.agg [(iz a2), (iz a3)]), (.agg [(iz a4), (iz a5)]), (.agg [(iz a0), (iz a1)])]) fun x1 =>
 cnd (x1 == 0)
 (C.bool (pcall M d 56 [(iz a0), (iz a2), (iz a4)]) fun b2 =>
 cnd b2
 (C.bool (pcall M d 56 [(iz a1), (iz a3), (iz a5)]) fun b3 =>
 some (.bool b3))
 (some bf))
 (some bf))
 (some bf) := by kernel_rfl
/-- apogee/point.Meet -/
theorem r52 (C : Cb) (d : Nat) (a0 a1 a2 a3 a4 a5 a6 a7 : Int) : xcall C M unr d 52 [(.agg [(iz a0), (iz a1)]), (.agg [(iz a2), (iz a3)]), (.agg [(iz a4), (iz a5)]), (.agg [(iz a6), (iz a7)])] =
 C.bool (pcall M d 54 [(.lst [(.agg [(iz a0), (iz a1)]), (.agg [(iz a2), (iz a3)]), (.agg [(iz a4), (iz a5)]), (.agg [(iz a6), (iz a7)])])]) fun b0 =>
 cnd (!b0)
 (some bf)
 (C.bool (pcall M d 51 [(.agg [(iz a0), (iz a1)]), (.agg [(iz a4), (iz a5)]), (.agg [(iz a6), (iz a7)])]) fun b1 =>
 cnd b1
 (some bt)
 (C.bool (pcall M d 51 [(.agg [(iz a2), (iz a3)]), (.agg [(iz a4), (iz a5)]), (.agg [(iz a6), (iz a7)])]) fun b2 =>
 cnd b2
 (some bt)
 (C.bool (pcall M d 51 [(.agg [(iz a4), (iz a5)]), (.agg [(iz a0), (iz a1)]), (.agg [(iz a2), (iz a3)])]) fun b3 =>
 cnd b3
 (some bt)
 (C.bool (pcall M d 51 [(.agg [(iz a6), (iz a7)]), (.agg [(iz a0), (iz a1)]), (.agg [(iz a2), (iz a3)])]) fun b4 =>
 cnd b4
 (some bt)
 (C.int .i64 (pcall M d 55 [(.agg [(iz a0), (iz a1)]), (.agg [(iz a2), (iz a3)]), (.agg [(iz a4), (iz a5)])]) fun x5 =>
 C.int .i64 (pcall M d 55 [(.agg [(iz a0), (iz a1)]), (.agg [(iz a2), (iz a3)]), (.agg [(iz a6), (iz a7)])]) fun x6 =>
 cnd (decide ((IntKind.wrap .i64 (x5 * x6)) < 0))
 (C.int .i64 (pcall M d 55 [(.agg [(iz a4), (iz a5)]), (.agg [(iz a6), (iz a7)]), (.agg [(iz a0), (iz a1)])]) fun x7 =>
 C.int .i64 (pcall M d 55 [(.agg [(iz a4), (iz a5)]), (.agg [(iz a6), (iz a7)]), (.agg [(iz a2), (iz a3)])]) fun x8 =>
 some (.bool (decide ((IntKind.wrap .i64 (x7 * x8)) < 0))))
 (some bf)))))) := by kernel_rfl
/-- apogee/point.right -/
theorem r54 (C : Cb) (d : Nat) (a0 : List AV) : xcall C M unr d 54 [(.lst a0)] =
 C.bool (pcall M d 37 [(.lst a0), (.fn 59 [] [])]) fun b0 =>
 some (.bool (!b0)) := by kernel_rfl
/-- apogee/point.Turn -/
theorem r55 (C : Cb) (d : Nat) (a0 a1 a2 a3 a4 a5 : Int) : xcall C M unr d 55 [(.agg [(iz a0), (iz a1)]), (.agg [(iz a2), (iz a3)]), (.agg [(iz a4), (iz a5)])] =
 C.bool (pcall M d 54 [(.lst [(.agg [(iz a0), (iz a1)]), (.agg [(iz a2), (iz a3)]), (.agg [(iz a4), (iz a5)])])]) fun b0 =>
 cnd (!b0)
 (some (iz 0))
 (C.agg 2 (pcall M d 60 [(iz (IntKind.wrap .i64 (a2 - a0))), (iz (IntKind.wrap .i64 (a5 - a1)))]) fun l1 =>
 C.int .i64 l1[0]? fun x2 =>
 C.int .u64 l1[1]? fun x3 =>
 C.agg 2 (pcall M d 60 [(iz (IntKind.wrap .i64 (a3 - a1))), (iz (IntKind.wrap .i64 (a4 - a0)))]) fun l4 =>
 C.int .i64 l4[0]? fun x5 =>
 C.int .u64 l4[1]? fun x6 =>
 C.int .i64 (pcall M d 61 [(.agg [(iz x2), (.int .u64 x3)]), (.agg [(iz x5), (.int .u64 x6)])]) fun x7 =>
 some (iz x7)) := by kernel_rfl
/-- apogee/point.between -/
theorem r56 (C : Cb) (d : Nat) (a0 a1 a2 : Int) : xcall C M unr d 56 [(iz a0), (iz a1), (iz a2)] =
 cnd (decide ((if (a2 < a1) then a2 else a1) ≤ a0))
 (some (.bool (decide (a0 ≤ (if (a2 > a1) then a2 else a1)))))
 (some bf) := by kernel_rfl
/-- apogee/point.right$1 -/
theorem r59 (C : Cb) (d : Nat) (a0 a1 : Int) : xcall C M unr d 59 [(.agg [(iz a0), (iz a1)])] =
 C.bool (pcall M d 42 [(.agg [(iz a0), (iz a1)])]) fun b0 =>
 some (.bool (!b0)) := by kernel_rfl
/-- apogee/wide.Mul -/
theorem r60 (C : Cb) (d : Nat) (a0 a1 : Int) : xcall C M unr d 60 [(iz a0), (iz a1)] =
 C.tup 2 (pcall M d 65 [(.int .u64 (IntKind.wrap .u64 a0)), (.int .u64 (IntKind.wrap .u64 a1))]) fun l0 =>
 C.int .u64 l0[0]? fun x1 =>
 C.int .u64 l0[1]? fun x2 =>
 cnd (decide (a0 < 0))
 (cnd (decide (a1 < 0))
 (some (.agg [(iz (IntKind.wrap .i64 (IntKind.wrap .u64 ((IntKind.wrap .u64 (x1 - (IntKind.wrap .u64 a1))) - (IntKind.wrap .u64 a0))))), (.int .u64 x2)]))
 (some (.agg [(iz (IntKind.wrap .i64 (IntKind.wrap .u64 (x1 - (IntKind.wrap .u64 a1))))), (.int .u64 x2)])))
 (cnd (decide (a1 < 0))
 (some (.agg [(iz (IntKind.wrap .i64 (IntKind.wrap .u64 (x1 - (IntKind.wrap .u64 a0))))), (.int .u64 x2)]))
 (some (.agg [(iz (IntKind.wrap .i64 x1)), (.int .u64 x2)]))) := by kernel_rfl
/-- (apogee/wide.Wide).Cmp -/
theorem r61 (C : Cb) (d : Nat) (a0 a1 a2 a3 : Int) : xcall C M unr d 61 [(.agg [(iz a0), (.int .u64 a1)]), (.agg [(iz a2), (.int .u64 a3)])] =
 C.int .i64 (pcall M d 67 [(iz a0), (iz a2)]) fun x0 =>
 C.int .i64 (pcall M d 68 [(.int .u64 a1), (.int .u64 a3)]) fun x1 =>
 C.int .i64 (pcall M d 66 [(.lst [(iz x0), (iz x1)])]) fun x2 =>
 some (iz x2) := by kernel_rfl
/-- math/bits.Mul64 -/
theorem r65 (C : Cb) (d : Nat) (a0 a1 : Int) : xcall C M unr d 65 [(.int .u64 a0), (.int .u64 a1)] =
 some (.tup [(.int .u64 (IntKind.wrap .u64 ((IntKind.wrap .u64 ((IntKind.wrap .u64 ((Int.fdiv a0 (2 ^ (min (Int.toNat 32) 64))) * (Int.fdiv a1 (2 ^ (min (Int.toNat 32) 64))))) + (Int.fdiv (IntKind.wrap .u64 ((IntKind.wrap .u64 ((Int.fdiv a0 (2 ^ (min (Int.toNat 32) 64))) * (bits .and .u64 a1 4294967295))) + (Int.fdiv (IntKind.wrap .u64 ((bits .and .u64 a0 4294967295) * (bits .and .u64 a1 4294967295))) (2 ^ (min (Int.toNat 32) 64))))) (2 ^ (min (Int.toNat 32) 64))))) + (Int.fdiv (IntKind.wrap .u64 ((bits .and .u64 (IntKind.wrap .u64 ((IntKind.wrap .u64 ((Int.fdiv a0 (2 ^ (min (Int.toNat 32) 64))) * (bits .and .u64 a1 4294967295))) + (Int.fdiv (IntKind.wrap .u64 ((bits .and .u64 a0 4294967295) * (bits .and .u64 a1 4294967295))) (2 ^ (min (Int.toNat 32) 64))))) 4294967295) + (IntKind.wrap .u64 ((bits .and .u64 a0 4294967295) * (Int.fdiv a1 (2 ^ (min (Int.toNat 32) 64))))))) (2 ^ (min (Int.toNat 32) 64)))))), (.int .u64 (IntKind.wrap .u64 (a0 * a1)))]) := by kernel_rfl
def r66R0 (C : Cb) (d : Nat) (a0 : List AV) : St → (Ex → St → Ans) → Ans := fun s0 k1 =>
 cnd ((List.length s0.env) == 18)
 (C.same s0.env[0]? (.lst a0) <|
 C.same s0.env[1]? tz <|
 C.int .i64 s0.env[2]? fun x3 =>
 C.same s0.env[3]? (iz 0) <|
 C.same s0.env[4]? tz <|
 C.any s0.env[5]? fun v4 =>
 C.same s0.env[6]? (.lst a0) <|
 C.same s0.env[7]? (iz (((List.length a0) : Nat) : Int)) <|
 C.int .i64 s0.env[8]? fun x5 =>
 C.any s0.env[9]? fun v6 =>
 C.any s0.env[10]? fun v7 =>
 C.any s0.env[11]? fun v8 =>
 C.any s0.env[12]? fun v9 =>
 C.any s0.env[13]? fun v10 =>
 C.any s0.env[14]? fun v11 =>
 C.any s0.env[15]? fun v12 =>
 C.any s0.env[16]? fun v13 =>
 C.same s0.env[17]? tz <|
 C.sameH (St.H s0) [] <|
 cnd (decide (x5 < (((List.length a0) : Nat) : Int)))
 (cnd (decide ((0 : Int) ≤ x5))
 (C.int .i64 a0[(Int.toNat x5)]? fun x14 =>
 cnd (x14 != 0)
 (k1 .ret ⟨[(.lst a0), tz, (iz x14), (iz 0), tz, (iz x14), (.lst a0), (iz (((List.length a0) : Nat) : Int)), (iz x5), bt, (.fptr (iz x14) 0), (iz x14), (iz x14), (iz 0), bt, (iz x14), v13, tz], []⟩)
 (k1 .normal ⟨[(.lst a0), tz, (iz x3), (iz 0), tz, (iz x14), (.lst a0), (iz (((List.length a0) : Nat) : Int)), (iz (IntKind.wrap .i64 (x5 + 1))), bt, (.fptr (iz x14) 0), (iz x14), (iz x14), (iz 0), bf, v12, (iz (IntKind.wrap .i64 (x5 + 1))), tz], []⟩))
 (none))
 (k1 (.exit 0) ⟨[(.lst a0), tz, (iz x3), (iz 0), tz, v4, (.lst a0), (iz (((List.length a0) : Nat) : Int)), (iz x5), bf, v7, v8, v9, v10, v11, v12, v13, tz], []⟩))
 (none)
def r66X0_0 (C : Cb) (d : Nat) (a0 : List AV) : St → Ans := fun s15 =>
 cnd ((List.length s15.env) == 18)
 (C.same s15.env[0]? (.lst a0) <|
 C.same s15.env[1]? tz <|
 C.int .i64 s15.env[2]? fun x16 =>
 C.same s15.env[3]? (iz 0) <|
 C.same s15.env[4]? tz <|
 C.any s15.env[5]? fun v17 =>
 C.same s15.env[6]? (.lst a0) <|
 C.same s15.env[7]? (iz (((List.length a0) : Nat) : Int)) <|
 C.int .i64 s15.env[8]? fun x18 =>
 C.any s15.env[9]? fun v19 =>
 C.any s15.env[10]? fun v20 =>
 C.any s15.env[11]? fun v21 =>
 C.any s15.env[12]? fun v22 =>
 C.any s15.env[13]? fun v23 =>
 C.any s15.env[14]? fun v24 =>
 C.any s15.env[15]? fun v25 =>
 C.any s15.env[16]? fun v26 =>
 C.same s15.env[17]? tz <|
 C.sameH (St.H s15) [] <|
 some (iz 0))
 (none)
def r66E0 (C : Cb) (d : Nat) (a0 : List AV) : St → Ans := fun s2 =>
 cnd ((List.length s2.env) == 18)
 (C.same s2.env[0]? (.lst a0) <|
 C.same s2.env[1]? tz <|
 C.int .i64 s2.env[2]? fun x27 =>
 C.same s2.env[3]? (iz 0) <|
 C.same s2.env[4]? tz <|
 C.int .i64 s2.env[5]? fun x28 =>
 C.same s2.env[6]? (.lst a0) <|
 C.same s2.env[7]? (iz (((List.length a0) : Nat) : Int)) <|
 C.int .i64 s2.env[8]? fun x29 =>
 C.any s2.env[9]? fun v30 =>
 C.any s2.env[10]? fun v31 =>
 C.int .i64 s2.env[11]? fun x32 =>
 C.int .i64 s2.env[12]? fun x33 =>
 C.int .i64 s2.env[13]? fun x34 =>
 C.bool s2.env[14]? fun b35 =>
 C.int .i64 s2.env[15]? fun x36 =>
 C.any s2.env[16]? fun v37 =>
 C.same s2.env[17]? tz <|
 C.sameH (St.H s2) [] <|
 some (iz x27))
 (none)
/-- cmp.Or[int] -/
theorem r66 (C : Cb) (d : Nat) (a0 : List AV) : xcall C M unr d 66 [(.lst a0)] =
 C.iter (r66R0 C d a0) 10000000000000000000 ⟨[(.lst a0), tz, (iz 0), (iz 0), tz, tz, (.lst a0), (iz (((List.length a0) : Nat) : Int)), (iz 0), tz, tz, tz, tz, tz, tz, tz, tz, tz], []⟩ [0] [r66X0_0 C d a0] (r66E0 C d a0) := by kernel_rfl
/-- cmp.Compare[int64] -/
theorem r67 (C : Cb) (d : Nat) (a0 a1 : Int) : xcall C M unr d 67 [(iz a0), (iz a1)] =
 C.bool (pcall M d 71 [(iz a0)]) fun b0 =>
 C.bool (pcall M d 71 [(iz a1)]) fun b1 =>
 cnd b0
 (cnd b1
 (some (iz 0))
 (some (iz (-1))))
 (cnd b1
 (some (iz 1))
 (cnd (decide (a0 < a1))
 (some (iz (-1)))
 (cnd (decide (a0 > a1))
 (some (iz 1))
 (some (iz 0))))) := by kernel_rfl
/-- cmp.Compare[uint64] -/
theorem r68 (C : Cb) (d : Nat) (a0 a1 : Int) : xcall C M unr d 68 [(.int .u64 a0), (.int .u64 a1)] =
 C.bool (pcall M d 72 [(.int .u64 a0)]) fun b0 =>
 C.bool (pcall M d 72 [(.int .u64 a1)]) fun b1 =>
 cnd b0
 (cnd b1
 (some (iz 0))
 (some (iz (-1))))
 (cnd b1
 (some (iz 1))
 (cnd (decide (a0 < a1))
 (some (iz (-1)))
 (cnd (decide (a0 > a1))
 (some (iz 1))
 (some (iz 0))))) := by kernel_rfl
/-- cmp.isNaN[int64] -/
theorem r71 (C : Cb) (d : Nat) (a0 : Int) : xcall C M unr d 71 [(iz a0)] =
 some (.bool (a0 != a0)) := by kernel_rfl
/-- cmp.isNaN[uint64] -/
theorem r72 (C : Cb) (d : Nat) (a0 : Int) : xcall C M unr d 72 [(.int .u64 a0)] =
 some (.bool (a0 != a0)) := by kernel_rfl
end Go.Proofs.Ytffiilnmfmkpmaa.AE

namespace Go.Proofs.Ytffiilnmfmkpmaa.AE
set_option linter.unusedVariables false
set_option linter.unusedSimpArgs false
set_option linter.constructorNameAsVariable false
open Go
set_option maxRecDepth 100000
set_option maxHeartbeats 0
noncomputable def X29_0_0 (d : Nat) (a0 a1 : List AV)  : Ans :=
  some bt
theorem X29_0_0_ok (d : Nat) (a0 a1 : List AV) (b27 : Bool) (x28 x29 : Int) (v30 : AV) (x31 : Int) (b32 : Bool) (v33 v34 v35 v36 v37 v38 v39 v40 v41 v42 v43 : AV) : r29X0_0 C0 d a0 a1 ⟨[(.lst a0), (.lst a1), tz, tz, (.bool b27), (iz x28), (.lst a0), (iz (((List.length a0) : Nat) : Int)), (.lst a1), (iz (((List.length a1) : Nat) : Int)), bf, (iz x29), v30, (iz x31), (.bool b32), v33, v34, v35, v36, v37, v38, v39, v40, v41, v42, v43], []⟩ = X29_0_0 d a0 a1  := by
  unfold r29X0_0; refine Eq.trans (pl_len (by rfl)) ?_; (iterate 4 (refine yt yS ?_)); refine yt yB ?_; refine yt yI ?_; (iterate 5 (refine yt yS ?_)); refine yt yI ?_; refine yt yA ?_; refine yt yI ?_; refine yt yB ?_; (iterate 11 (refine yt yA ?_)); refine Eq.trans (pl_sameH) ?_
  rfl
noncomputable def E29_0 (d : Nat) (a0 a1 : List AV) (b44 : Bool) : Ans :=
  some (.bool b44)
theorem E29_0_ok (d : Nat) (a0 a1 : List AV) (b44 : Bool) (x45 x46 : Int) (v47 : AV) (x48 : Int) (b49 : Bool) (v50 v51 v52 : AV) (x53 : Int) (v54 : AV) (x56 x57 : Int) (v58 : AV) (x59 : Int) (v60 : AV) (x62 x63 : Int) (b64 : Bool) : r29E0 C0 d a0 a1 ⟨[(.lst a0), (.lst a1), tz, tz, (.bool b44), (iz x45), (.lst a0), (iz (((List.length a0) : Nat) : Int)), (.lst a1), (iz (((List.length a1) : Nat) : Int)), bf, (iz x46), v47, (iz x48), (.bool b49), v50, v51, v52, (iz x53), v54, (.agg [(iz x56), (iz x57)]), v58, (iz x59), v60, (.agg [(iz x62), (iz x63)]), (.bool b64)], []⟩ = E29_0 d a0 a1 b44 := by
  unfold r29E0; refine Eq.trans (pl_len (by rfl)) ?_; (iterate 4 (refine yt yS ?_)); refine yt yB ?_; refine yt yI ?_; (iterate 5 (refine yt yS ?_)); refine yt yI ?_; refine yt yA ?_; refine yt yI ?_; refine yt yB ?_; (iterate 3 (refine yt yA ?_)); refine yt yI ?_; refine yt yA ?_; refine yt yG ?_; (iterate 2 (refine yt yI ?_)); refine yt yA ?_; refine yt yI ?_; refine yt yA ?_; refine yt yG ?_; (iterate 2 (refine yt yI ?_)); refine yt yB ?_; refine Eq.trans (pl_sameH) ?_
  rfl
noncomputable def L29_0 (d : Nat) (a0 a1 : List AV) : Nat → Int → Ans
  | 0, _ => none
  | n + 1, x4 =>
  cnd (decide (x4 < (((List.length a0) : Nat) : Int)))
   (cnd (decide ((0 : Int) ≤ x4))
   (C0.agg 2 a0[(Int.toNat x4)]? fun l20 =>
   C0.int .i64 l20[0]? fun x21 =>
   C0.int .i64 l20[1]? fun x22 =>
   cnd (decide ((0 : Int) ≤ x4))
   (C0.agg 2 a1[(Int.toNat x4)]? fun l23 =>
   C0.int .i64 l23[0]? fun x24 =>
   C0.int .i64 l23[1]? fun x25 =>
   cnd (xor true ((x21 == x24) && ((x22 == x25) && true)))
   (E29_0 d a0 a1 false)
   (L29_0 d a0 a1 n (IntKind.wrap .i64 (x4 + 1))))
   (none))
   (none))
   (X29_0_0 d a0 a1)
theorem L29_0_s (d : Nat) (a0 a1 : List AV) (n : Nat) (x4 : Int) : L29_0 d a0 a1 (n + 1) x4 = (cnd (decide (x4 < (((List.length a0) : Nat) : Int)))
   (cnd (decide ((0 : Int) ≤ x4))
   (C0.agg 2 a0[(Int.toNat x4)]? fun l20 =>
   C0.int .i64 l20[0]? fun x21 =>
   C0.int .i64 l20[1]? fun x22 =>
   cnd (decide ((0 : Int) ≤ x4))
   (C0.agg 2 a1[(Int.toNat x4)]? fun l23 =>
   C0.int .i64 l23[0]? fun x24 =>
   C0.int .i64 l23[1]? fun x25 =>
   cnd (xor true ((x21 == x24) && ((x22 == x25) && true)))
   (E29_0 d a0 a1 false)
   (L29_0 d a0 a1 n (IntKind.wrap .i64 (x4 + 1))))
   (none))
   (none))
   (X29_0_0 d a0 a1)) := by kernel_rfl
theorem it29_0 (d : Nat) (a0 a1 : List AV)   : ∀ (n : Nat) (b3 : Bool) (x4 : Int) (v5 v6 v7 v8 v9 v10 v11 v12 v13 v14 v15 v16 v17 v18 v19 : AV), C0.iter (r29R0 C0 d a0 a1) n ⟨[(.lst a0), (.lst a1), tz, tz, (.bool b3), (iz x4), (.lst a0), (iz (((List.length a0) : Nat) : Int)), (.lst a1), (iz (((List.length a1) : Nat) : Int)), bf, v5, v6, v7, v8, v9, v10, v11, v12, v13, v14, v15, v16, v17, v18, v19], []⟩ [0] [r29X0_0 C0 d a0 a1] (r29E0 C0 d a0 a1) = L29_0 d a0 a1 n x4 := by
  generalize hR : r29R0 C0 d a0 a1 = R
  intro n
  induction n with
  | zero => intros; rfl
  | succ n ih =>
    intro b3 x4 v5 v6 v7 v8 v9 v10 v11 v12 v13 v14 v15 v16 v17 v18 v19
    simp only [it_ret] at ih
    rw [it_ret, xiter_s]
    refine Eq.trans (congrFun (congrFun hR.symm _) _) ?_
    unfold r29R0
    refine Eq.trans (pl_len (by rfl)) ?_; (iterate 4 (refine yt yS ?_)); refine yt yB ?_; refine yt yI ?_; (iterate 5 (refine yt yS ?_)); (iterate 15 (refine yt yA ?_)); refine Eq.trans (pl_sameH) ?_
    simp only [kIter_n, kIter_x, kIter_r, kOut_x, kOut_r, xgo_hit, xgo_miss, ih, X29_0_0_ok d a0 a1  , E29_0_ok d a0 a1  ]
    exact (L29_0_s d a0 a1 n x4).symm
/-- apogee/apogeeref10.Same -/
theorem q29 (d : Nat) (a0 a1 : List AV) : xcall C0 M unr d 29 [(.lst a0), (.lst a1)] =
  cnd ((((List.length a0) : Nat) : Int) != (((List.length a1) : Nat) : Int))
   (some bf)
   (L29_0 d a0 a1 10000000000000000000 0) := (r29 C0 d a0 a1).trans (by simp only [it29_0])
noncomputable def X40_0_0 (d : Nat) (a0 a1 : List AV)  : Ans :=
  some bt
theorem X40_0_0_ok (d : Nat) (a0 a1 : List AV) (b25 : Bool) (v26 : AV) (x27 : Int) (v28 v29 v30 v31 v32 v33 v34 v35 v36 v37 v38 v39 : AV) : r40X0_0 C0 d a0 a1 ⟨[(.lst a0), (.lst a1), tz, tz, (.bool b25), v26, (.lst a0), (iz (((List.length a0) : Nat) : Int)), (.lst a1), (iz (((List.length a1) : Nat) : Int)), bf, (.lst a0), (iz (((List.length a0) : Nat) : Int)), (iz x27), v28, v29, v30, v31, v32, v33, v34, v35, v36, v37, v38, v39], []⟩ = X40_0_0 d a0 a1  := by
  unfold r40X0_0; refine Eq.trans (pl_len (by rfl)) ?_; (iterate 4 (refine yt yS ?_)); refine yt yB ?_; refine yt yA ?_; (iterate 7 (refine yt yS ?_)); refine yt yI ?_; (iterate 12 (refine yt yA ?_)); refine Eq.trans (pl_sameH) ?_
  rfl
noncomputable def E40_0 (d : Nat) (a0 a1 : List AV) (b40 : Bool) : Ans :=
  some (.bool b40)
theorem E40_0_ok (d : Nat) (a0 a1 : List AV) (b40 : Bool) (x41 x42 : Int) (v43 : AV) (x44 : Int) (v45 : AV) (x46 : Int) (v47 : AV) (x49 x50 : Int) (v51 : AV) (x52 : Int) (v53 : AV) (x55 x56 : Int) (b57 : Bool) (v58 : AV) : r40E0 C0 d a0 a1 ⟨[(.lst a0), (.lst a1), tz, tz, (.bool b40), (iz x41), (.lst a0), (iz (((List.length a0) : Nat) : Int)), (.lst a1), (iz (((List.length a1) : Nat) : Int)), bf, (.lst a0), (iz (((List.length a0) : Nat) : Int)), (iz x42), v43, (iz x44), v45, (iz x46), v47, (.agg [(iz x49), (iz x50)]), v51, (iz x52), v53, (.agg [(iz x55), (iz x56)]), (.bool b57), v58], []⟩ = E40_0 d a0 a1 b40 := by
  unfold r40E0; refine Eq.trans (pl_len (by rfl)) ?_; (iterate 4 (refine yt yS ?_)); refine yt yB ?_; refine yt yI ?_; (iterate 7 (refine yt yS ?_)); refine yt yI ?_; refine yt yA ?_; refine yt yI ?_; refine yt yA ?_; refine yt yI ?_; refine yt yA ?_; refine yt yG ?_; (iterate 2 (refine yt yI ?_)); refine yt yA ?_; refine yt yI ?_; refine yt yA ?_; refine yt yG ?_; (iterate 2 (refine yt yI ?_)); refine yt yB ?_; refine yt yA ?_; refine Eq.trans (pl_sameH) ?_
  rfl
noncomputable def L40_0 (d : Nat) (a0 a1 : List AV) : Nat → Int → Ans
  | 0, _ => none
  | n + 1, x5 =>
  cnd (decide (x5 < (((List.length a0) : Nat) : Int)))
   (cnd (decide ((0 : Int) ≤ x5))
   (C0.agg 2 a0[(Int.toNat x5)]? fun l18 =>
   C0.int .i64 l18[0]? fun x19 =>
   C0.int .i64 l18[1]? fun x20 =>
   cnd (decide ((0 : Int) ≤ x5))
   (C0.agg 2 a1[(Int.toNat x5)]? fun l21 =>
   C0.int .i64 l21[0]? fun x22 =>
   C0.int .i64 l21[1]? fun x23 =>
   cnd (xor true ((x19 == x22) && ((x20 == x23) && true)))
   (E40_0 d a0 a1 false)
   (L40_0 d a0 a1 n (IntKind.wrap .i64 (x5 + 1))))
   (none))
   (none))
   (X40_0_0 d a0 a1)
theorem L40_0_s (d : Nat) (a0 a1 : List AV) (n : Nat) (x5 : Int) : L40_0 d a0 a1 (n + 1) x5 = (cnd (decide (x5 < (((List.length a0) : Nat) : Int)))
   (cnd (decide ((0 : Int) ≤ x5))
   (C0.agg 2 a0[(Int.toNat x5)]? fun l18 =>
   C0.int .i64 l18[0]? fun x19 =>
   C0.int .i64 l18[1]? fun x20 =>
   cnd (decide ((0 : Int) ≤ x5))
   (C0.agg 2 a1[(Int.toNat x5)]? fun l21 =>
   C0.int .i64 l21[0]? fun x22 =>
   C0.int .i64 l21[1]? fun x23 =>
   cnd (xor true ((x19 == x22) && ((x20 == x23) && true)))
   (E40_0 d a0 a1 false)
   (L40_0 d a0 a1 n (IntKind.wrap .i64 (x5 + 1))))
   (none))
   (none))
   (X40_0_0 d a0 a1)) := by kernel_rfl
theorem it40_0 (d : Nat) (a0 a1 : List AV)   : ∀ (n : Nat) (b3 : Bool) (v4 : AV) (x5 : Int) (v6 v7 v8 v9 v10 v11 v12 v13 v14 v15 v16 v17 : AV), C0.iter (r40R0 C0 d a0 a1) n ⟨[(.lst a0), (.lst a1), tz, tz, (.bool b3), v4, (.lst a0), (iz (((List.length a0) : Nat) : Int)), (.lst a1), (iz (((List.length a1) : Nat) : Int)), bf, (.lst a0), (iz (((List.length a0) : Nat) : Int)), (iz x5), v6, v7, v8, v9, v10, v11, v12, v13, v14, v15, v16, v17], []⟩ [0] [r40X0_0 C0 d a0 a1] (r40E0 C0 d a0 a1) = L40_0 d a0 a1 n x5 := by
  generalize hR : r40R0 C0 d a0 a1 = R
  intro n
  induction n with
  | zero => intros; rfl
  | succ n ih =>
    intro b3 v4 x5 v6 v7 v8 v9 v10 v11 v12 v13 v14 v15 v16 v17
    simp only [it_ret] at ih
    rw [it_ret, xiter_s]
    refine Eq.trans (congrFun (congrFun hR.symm _) _) ?_
    unfold r40R0
    refine Eq.trans (pl_len (by rfl)) ?_; (iterate 4 (refine yt yS ?_)); refine yt yB ?_; refine yt yA ?_; (iterate 7 (refine yt yS ?_)); refine yt yI ?_; (iterate 12 (refine yt yA ?_)); refine Eq.trans (pl_sameH) ?_
    simp only [kIter_n, kIter_x, kIter_r, kOut_x, kOut_r, xgo_hit, xgo_miss, ih, X40_0_0_ok d a0 a1  , E40_0_ok d a0 a1  ]
    exact (L40_0_s d a0 a1 n x5).symm
/-- slices.Equal[[]apogee/api.Point,apogee/api.Point] -/
theorem q40 (d : Nat) (a0 a1 : List AV) : xcall C0 M unr d 40 [(.lst a0), (.lst a1)] =
  cnd ((((List.length a0) : Nat) : Int) != (((List.length a1) : Nat) : Int))
   (some bf)
   (L40_0 d a0 a1 10000000000000000000 0) := (r40 C0 d a0 a1).trans (by simp only [it40_0])
noncomputable def X44f59_0_0 (d : Nat) (a0 : List AV)  : Ans :=
  some (iz (-1))
theorem X44f59_0_0_ok (d : Nat) (a0 : List AV) (x21 : Int) (v22 : AV) (x23 : Int) (v24 v25 v26 v27 v28 v29 v30 v31 v32 v33 : AV) : r44f59X0_0 C0 d a0 ⟨[(.lst a0), (.fn 59 [] []), tz, tz, (iz x21), v22, (.lst a0), (iz (((List.length a0) : Nat) : Int)), (iz x23), v24, v25, v26, v27, v28, v29, v30, v31, v32, v33], []⟩ = X44f59_0_0 d a0  := by
  unfold r44f59X0_0; refine Eq.trans (pl_len (by rfl)) ?_; (iterate 4 (refine yt yS ?_)); refine yt yI ?_; refine yt yA ?_; (iterate 2 (refine yt yS ?_)); refine yt yI ?_; (iterate 10 (refine yt yA ?_)); refine Eq.trans (pl_sameH) ?_
  rfl
noncomputable def E44f59_0 (d : Nat) (a0 : List AV) (x34 : Int) : Ans :=
  some (iz x34)
theorem E44f59_0_ok (d : Nat) (a0 : List AV) (x34 x35 x36 : Int) (v37 : AV) (x38 : Int) (v39 v40 : AV) (x41 : Int) (v42 : AV) (x44 x45 : Int) (b46 : Bool) (x47 : Int) (v48 : AV) : r44f59E0 C0 d a0 ⟨[(.lst a0), (.fn 59 [] []), tz, tz, (iz x34), (iz x35), (.lst a0), (iz (((List.length a0) : Nat) : Int)), (iz x36), v37, (iz x38), v39, v40, (iz x41), v42, (.agg [(iz x44), (iz x45)]), (.bool b46), (iz x47), v48], []⟩ = E44f59_0 d a0 x34 := by
  unfold r44f59E0; refine Eq.trans (pl_len (by rfl)) ?_; (iterate 4 (refine yt yS ?_)); (iterate 2 (refine yt yI ?_)); (iterate 2 (refine yt yS ?_)); refine yt yI ?_; refine yt yA ?_; refine yt yI ?_; (iterate 2 (refine yt yA ?_)); refine yt yI ?_; refine yt yA ?_; refine yt yG ?_; (iterate 2 (refine yt yI ?_)); refine yt yB ?_; refine yt yI ?_; refine yt yA ?_; refine Eq.trans (pl_sameH) ?_
  rfl
noncomputable def L44f59_0 (d : Nat) (a0 : List AV) : Nat → Int → Ans
  | 0, _ => none
  | n + 1, x5 =>
  cnd (decide (x5 < (((List.length a0) : Nat) : Int)))
   (cnd (decide ((0 : Int) ≤ x5))
   (C0.agg 2 a0[(Int.toNat x5)]? fun l16 =>
   C0.int .i64 l16[0]? fun x17 =>
   C0.int .i64 l16[1]? fun x18 =>
   C0.bool (pcall M d 59 [(.agg [(iz x17), (iz x18)])]) fun b19 =>
   cnd b19
   (E44f59_0 d a0 x5)
   (L44f59_0 d a0 n (IntKind.wrap .i64 (x5 + 1))))
   (none))
   (X44f59_0_0 d a0)
theorem L44f59_0_s (d : Nat) (a0 : List AV) (n : Nat) (x5 : Int) : L44f59_0 d a0 (n + 1) x5 = (cnd (decide (x5 < (((List.length a0) : Nat) : Int)))
   (cnd (decide ((0 : Int) ≤ x5))
   (C0.agg 2 a0[(Int.toNat x5)]? fun l16 =>
   C0.int .i64 l16[0]? fun x17 =>
   C0.int .i64 l16[1]? fun x18 =>
   C0.bool (pcall M d 59 [(.agg [(iz x17), (iz x18)])]) fun b19 =>
   cnd b19
   (E44f59_0 d a0 x5)
   (L44f59_0 d a0 n (IntKind.wrap .i64 (x5 + 1))))
   (none))
   (X44f59_0_0 d a0)) := by kernel_rfl
theorem it44f59_0 (d : Nat) (a0 : List AV)   : ∀ (n : Nat) (x3 : Int) (v4 : AV) (x5 : Int) (v6 v7 v8 v9 v10 v11 v12 v13 v14 v15 : AV), C0.iter (r44f59R0 C0 d a0) n ⟨[(.lst a0), (.fn 59 [] []), tz, tz, (iz x3), v4, (.lst a0), (iz (((List.length a0) : Nat) : Int)), (iz x5), v6, v7, v8, v9, v10, v11, v12, v13, v14, v15], []⟩ [0] [r44f59X0_0 C0 d a0] (r44f59E0 C0 d a0) = L44f59_0 d a0 n x5 := by
  generalize hR : r44f59R0 C0 d a0 = R
  intro n
  induction n with
  | zero => intros; rfl
  | succ n ih =>
    intro x3 v4 x5 v6 v7 v8 v9 v10 v11 v12 v13 v14 v15
    simp only [it_ret] at ih
    rw [it_ret, xiter_s]
    refine Eq.trans (congrFun (congrFun hR.symm _) _) ?_
    unfold r44f59R0
    refine Eq.trans (pl_len (by rfl)) ?_; (iterate 4 (refine yt yS ?_)); refine yt yI ?_; refine yt yA ?_; (iterate 2 (refine yt yS ?_)); refine yt yI ?_; (iterate 10 (refine yt yA ?_)); refine Eq.trans (pl_sameH) ?_
    simp only [kIter_n, kIter_x, kIter_r, kOut_x, kOut_r, xgo_hit, xgo_miss, ih, X44f59_0_0_ok d a0  , E44f59_0_ok d a0  ]
    exact (L44f59_0_s d a0 n x5).symm
/-- slices.IndexFunc[[]apogee/api.Point,apogee/api.Point] -/
theorem q44f59 (d : Nat) (a0 : List AV) (a1 : AV) : xcall C0 M unr d 44 [(.lst a0), (.fn 59 [] [])] =
  L44f59_0 d a0 10000000000000000000 0 := (r44f59 C0 d a0 a1).trans (by simp only [it44f59_0])
noncomputable def X66_0_0 (d : Nat) (a0 : List AV)  : Ans :=
  some (iz 0)
theorem X66_0_0_ok (d : Nat) (a0 : List AV) (x16 : Int) (v17 : AV) (x18 : Int) (v19 v20 v21 v22 v23 v24 v25 v26 : AV) : r66X0_0 C0 d a0 ⟨[(.lst a0), tz, (iz x16), (iz 0), tz, v17, (.lst a0), (iz (((List.length a0) : Nat) : Int)), (iz x18), v19, v20, v21, v22, v23, v24, v25, v26, tz], []⟩ = X66_0_0 d a0  := by
  unfold r66X0_0; refine Eq.trans (pl_len (by rfl)) ?_; (iterate 2 (refine yt yS ?_)); refine yt yI ?_; (iterate 2 (refine yt yS ?_)); refine yt yA ?_; (iterate 2 (refine yt yS ?_)); refine yt yI ?_; (iterate 8 (refine yt yA ?_)); refine yt yS ?_; refine Eq.trans (pl_sameH) ?_
  rfl
noncomputable def E66_0 (d : Nat) (a0 : List AV) (x27 : Int) : Ans :=
  some (iz x27)
theorem E66_0_ok (d : Nat) (a0 : List AV) (x27 x28 x29 : Int) (v30 v31 : AV) (x32 x33 x34 : Int) (b35 : Bool) (x36 : Int) (v37 : AV) : r66E0 C0 d a0 ⟨[(.lst a0), tz, (iz x27), (iz 0), tz, (iz x28), (.lst a0), (iz (((List.length a0) : Nat) : Int)), (iz x29), v30, v31, (iz x32), (iz x33), (iz x34), (.bool b35), (iz x36), v37, tz], []⟩ = E66_0 d a0 x27 := by
  unfold r66E0; refine Eq.trans (pl_len (by rfl)) ?_; (iterate 2 (refine yt yS ?_)); refine yt yI ?_; (iterate 2 (refine yt yS ?_)); refine yt yI ?_; (iterate 2 (refine yt yS ?_)); refine yt yI ?_; (iterate 2 (refine yt yA ?_)); (iterate 3 (refine yt yI ?_)); refine yt yB ?_; refine yt yI ?_; refine yt yA ?_; refine yt yS ?_; refine Eq.trans (pl_sameH) ?_
  rfl
noncomputable def L66_0 (d : Nat) (a0 : List AV) : Nat → Int → Ans
  | 0, _ => none
  | n + 1, x5 =>
  cnd (decide (x5 < (((List.length a0) : Nat) : Int)))
   (cnd (decide ((0 : Int) ≤ x5))
   (C0.int .i64 a0[(Int.toNat x5)]? fun x14 =>
   cnd (x14 != 0)
   (E66_0 d a0 x14)
   (L66_0 d a0 n (IntKind.wrap .i64 (x5 + 1))))
   (none))
   (X66_0_0 d a0)
theorem L66_0_s (d : Nat) (a0 : List AV) (n : Nat) (x5 : Int) : L66_0 d a0 (n + 1) x5 = (cnd (decide (x5 < (((List.length a0) : Nat) : Int)))
   (cnd (decide ((0 : Int) ≤ x5))
   (C0.int .i64 a0[(Int.toNat x5)]? fun x14 =>
   cnd (x14 != 0)
   (E66_0 d a0 x14)
   (L66_0 d a0 n (IntKind.wrap .i64 (x5 + 1))))
   (none))
   (X66_0_0 d a0)) := by kernel_rfl
theorem it66_0 (d : Nat) (a0 : List AV)   : ∀ (n : Nat) (x3 : Int) (v4 : AV) (x5 : Int) (v6 v7 v8 v9 v10 v11 v12 v13 : AV), C0.iter (r66R0 C0 d a0) n ⟨[(.lst a0), tz, (iz x3), (iz 0), tz, v4, (.lst a0), (iz (((List.length a0) : Nat) : Int)), (iz x5), v6, v7, v8, v9, v10, v11, v12, v13, tz], []⟩ [0] [r66X0_0 C0 d a0] (r66E0 C0 d a0) = L66_0 d a0 n x5 := by
  generalize hR : r66R0 C0 d a0 = R
  intro n
  induction n with
  | zero => intros; rfl
  | succ n ih =>
    intro x3 v4 x5 v6 v7 v8 v9 v10 v11 v12 v13
    simp only [it_ret] at ih
    rw [it_ret, xiter_s]
    refine Eq.trans (congrFun (congrFun hR.symm _) _) ?_
    unfold r66R0
    refine Eq.trans (pl_len (by rfl)) ?_; (iterate 2 (refine yt yS ?_)); refine yt yI ?_; (iterate 2 (refine yt yS ?_)); refine yt yA ?_; (iterate 2 (refine yt yS ?_)); refine yt yI ?_; (iterate 8 (refine yt yA ?_)); refine yt yS ?_; refine Eq.trans (pl_sameH) ?_
    simp only [kIter_n, kIter_x, kIter_r, kOut_x, kOut_r, xgo_hit, xgo_miss, ih, X66_0_0_ok d a0  , E66_0_ok d a0  ]
    exact (L66_0_s d a0 n x5).symm
/-- cmp.Or[int] -/
theorem q66 (d : Nat) (a0 : List AV) : xcall C0 M unr d 66 [(.lst a0)] =
  L66_0 d a0 10000000000000000000 0 := (r66 C0 d a0).trans (by simp only [it66_0])
end Go.Proofs.Ytffiilnmfmkpmaa.AE

namespace Go.Proofs.Ytffiilnmfmkpmaa.AE
set_option linter.unusedVariables false
set_option linter.unusedSimpArgs false
set_option linter.constructorNameAsVariable false
open Go
theorem hg_lt {H : Heap} {id : Nat} {b : Blk} (h : hget H id = some b) : id < H.length := by
  unfold hget at h
  rcases Nat.lt_or_ge id H.length with h1 | h1
  · exact h1
  · rw [List.getElem?_eq_none h1] at h; cases h
theorem hget_app {H l : Heap} {id : Nat} {b : Blk} (h : hget H id = some b) : hget (H ++ l) id = some b := by
  have := hg_lt h
  unfold hget at *
  rw [List.getElem?_append_left this]; exact h
theorem hget_new {H : Heap} {b : Blk} : hget (H ++ [some b]) H.length = some b := by unfold hget; simp
theorem hget_set {H : Heap} {id : Nat} {b : Blk} (h : id < H.length) : hget (H.set id (some b)) id = some b := by unfold hget; simp [h]
theorem hget_set_ne {H : Heap} {id id' : Nat} {x : Option Blk} (h : id ≠ id') : hget (H.set id x) id' = hget H id' := by unfold hget; rw [List.getElem?_set_ne h]
/-- An element's place, a look at it, and a store. -/
theorem ix_slc {H : Heap} {id o n es : Nat} {b : Blk} {q : Int} {K : AV → Heap → Ans} (h : hget H id = some b) (h0 : 0 ≤ q) (h1 : q < n) (he : b.e.es = es) :
    C0.hop H (.ixAS .any es (.v (.slc id o n)) (.v (.int .i64 q))) K = K (.ptr id (o + q.toNat) 0) H := hop_eq (by simp [aop, evO, aInt, aIx, h, h0, h1, he])
theorem ix_lst {H : Heap} {l : List AV} {es : Nat} {q : Int} {x : AV} {K : AV → Heap → Ans} (h0 : 0 ≤ q) (hx : l[q.toNat]? = some x) (he : x.cells.length = es) :
    C0.hop H (.ixAS .any es (.v (.lst l)) (.v (.int .i64 q))) K = K (.fptr x 0) H := hop_eq (by simp [aop, evO, aInt, aIx, h0, hx, he])
theorem ld_ptr {H : Heap} {id i j n : Nat} {ag : Bool} {b : Blk} {el v : AV} {K : AV → Heap → Ans} (h : hget H id = some b) (hi : b.els[i]? = some el) (hs : sub ag n j el = some v) :
    C0.hop H (.load ag n (.v (.ptr id i j))) K = K v H := hop_eq (by simp [aop, evO, aLoad, h, hi, hs])
theorem ld_fptr {H : Heap} {x v : AV} {j n : Nat} {ag : Bool} {K : AV → Heap → Ans} (hs : sub ag n j x = some v) :
    C0.hop H (.load ag n (.v (.fptr x j))) K = K v H := hop_eq (by simp [aop, evO, aLoad, hs])
theorem st_ptr {H : Heap} {id i j n : Nat} {b : Blk} {el el' x : AV} {K : AV → Heap → Ans} (h : hget H id = some b) (hi : b.els[i]? = some el) (hs : putSub n j x el = some el') :
    C0.hop H (.store n (.v (.ptr id i j)) (.v x)) K = K .undef (H.set id (some { b with els := b.els.set i el' })) := hop_eq (by simp [aop, evO, aStore, h, hi, hs])
theorem sh_ptr {H : Heap} {id i j d : Nat} {K : AV → Heap → Ans} : C0.hop H (.fldA d (.v (.ptr id i j))) K = K (.ptr id i (j + d)) H := hop_eq rfl
theorem sh_fptr {H : Heap} {x : AV} {j d : Nat} {K : AV → Heap → Ans} : C0.hop H (.fldA d (.v (.fptr x j))) K = K (.fptr x (j + d)) H := hop_eq rfl
theorem len_lst {H : Heap} {l : List AV} {K : AV → Heap → Ans} : C0.hop H (.bk .lenV [.v (.lst l)]) K = K (.int .i64 l.length) H := hop_eq rfl
theorem len_zsl {H : Heap} {b : Bool} {K : AV → Heap → Ans} : C0.hop H (.bk .lenV [.v (.zsl b)]) K = K (.int .i64 0) H := hop_eq rfl
theorem nil_ptr {H : Heap} {id i j : Nat} {K : AV → Heap → Ans} : C0.hop H (.nilck (.v (.ptr id i j))) K = K (.ptr id i j) H := hop_eq rfl
end Go.Proofs.Ytffiilnmfmkpmaa.AE

namespace Go.Proofs.Ytffiilnmfmkpmaa.AE
set_option linter.unusedVariables false
set_option linter.unusedSimpArgs false
set_option linter.constructorNameAsVariable false
open Go
theorem i64w (n : Int) : IntKind.i64.wrap n = (n + 9223372036854775808) % 18446744073709551616 - 9223372036854775808 := IntKind.wrap_i64 n
theorem u64w (n : Int) : IntKind.u64.wrap n = n % 18446744073709551616 := by simp [IntKind.wrap, IntKind.bits, IntKind.signed]
theorem u64_small {n : Int} (h : 0 ≤ n) (h' : n < 18446744073709551616) : IntKind.u64.wrap n = n := by rw [u64w]; omega
theorem i64_small {n : Int} (h : -9223372036854775808 ≤ n) (h' : n < 9223372036854775808) : IntKind.i64.wrap n = n := by rw [i64w]; omega
theorem u64_mask (k : Nat) (hk : k ≤ 64) {x : Int} (h : 0 ≤ x) (h' : x < 18446744073709551616) : Go.bits .and .u64 x (2 ^ k - 1) = x % 2 ^ k := by
  obtain ⟨n, rfl⟩ := Int.eq_ofNat_of_zero_le h
  have hn : n < 18446744073709551616 := by omega
  have hp : 1 ≤ 2 ^ k := Nat.one_le_two_pow
  have hm : ((2 : Int) ^ k - 1) = ((2 ^ k - 1 : Nat) : Int) := by
    rw [Int.natCast_sub hp]; simp
  have hk2 : 2 ^ k ≤ 18446744073709551616 := Nat.le_trans (Nat.pow_le_pow_right (by decide) hk) (by decide)
  show IntKind.u64.wrap ((BitVec.ofInt 64 (n : Int) &&& BitVec.ofInt 64 ((2 : Int) ^ k - 1)).toNat : Int) = _
  rw [hm, BitVec.toNat_and]
  rw [BitVec.ofInt_natCast, BitVec.ofInt_natCast, BitVec.toNat_ofNat, BitVec.toNat_ofNat, Nat.mod_eq_of_lt (by simpa using hn), Nat.mod_eq_of_lt (by simpa using (by omega : 2 ^ k - 1 < 18446744073709551616)), Nat.and_two_pow_sub_one_eq_mod]
  have : n % 2 ^ k ≤ n := Nat.mod_le _ _
  rw [u64_small (by omega) (by omega)]
  simp
theorem u64_and32 {x : Int} (h : 0 ≤ x) (h' : x < 18446744073709551616) : Go.bits .and .u64 x 4294967295 = x % 4294967296 := u64_mask 32 (by decide) h h'
def hiw (v : Int) : Int := IntKind.i64.wrap (v / 18446744073709551616)
def low (v : Int) : Int := v % 18446744073709551616
theorem mul_bd63 (a b : Int) (ha : -9223372036854775808 ≤ a) (ha' : a < 9223372036854775808) (hb : -9223372036854775808 ≤ b) (hb' : b < 9223372036854775808) :
    -85070591730234615865843651857942052864 ≤ a * b ∧ a * b ≤ 85070591730234615865843651857942052864 := by
  have h1 := Int.mul_nonneg (show 0 ≤ 9223372036854775808 - a by omega) (show 0 ≤ 9223372036854775808 + b by omega)
  have h2 := Int.mul_nonneg (show 0 ≤ 9223372036854775808 + a by omega) (show 0 ≤ 9223372036854775808 - b by omega)
  have h3 := Int.mul_nonneg (show 0 ≤ 9223372036854775808 - a by omega) (show 0 ≤ 9223372036854775808 - b by omega)
  have h4 := Int.mul_nonneg (show 0 ≤ 9223372036854775808 + a by omega) (show 0 ≤ 9223372036854775808 + b by omega)
  have e1 : (9223372036854775808 - a) * (9223372036854775808 + b) = 85070591730234615865843651857942052864 + 9223372036854775808 * b - 9223372036854775808 * a - a * b := by grind
  have e2 : (9223372036854775808 + a) * (9223372036854775808 - b) = 85070591730234615865843651857942052864 - 9223372036854775808 * b + 9223372036854775808 * a - a * b := by grind
  have e3 : (9223372036854775808 - a) * (9223372036854775808 - b) = 85070591730234615865843651857942052864 - 9223372036854775808 * b - 9223372036854775808 * a + a * b := by grind
  have e4 : (9223372036854775808 + a) * (9223372036854775808 + b) = 85070591730234615865843651857942052864 + 9223372036854775808 * b + 9223372036854775808 * a + a * b := by grind
  omega
theorem prod_bd {x y m : Int} (hx : -m ≤ x) (hx' : x ≤ m) (hy : -m ≤ y) (hy' : y ≤ m) : -(m * m) ≤ x * y ∧ x * y ≤ m * m := by
  have h1 := Int.mul_nonneg (show 0 ≤ m - x by omega) (show 0 ≤ m + y by omega)
  have h2 := Int.mul_nonneg (show 0 ≤ m + x by omega) (show 0 ≤ m - y by omega)
  have h3 := Int.mul_nonneg (show 0 ≤ m - x by omega) (show 0 ≤ m - y by omega)
  have h4 := Int.mul_nonneg (show 0 ≤ m + x by omega) (show 0 ≤ m + y by omega)
  have e1 : (m - x) * (m + y) = m * m + m * y - x * m - x * y := by grind
  have e2 : (m + x) * (m - y) = m * m - m * y + x * m - x * y := by grind
  have e3 : (m - x) * (m - y) = m * m - m * y - x * m + x * y := by grind
  have e4 : (m + x) * (m + y) = m * m + m * y + x * m + x * y := by grind
  generalize m * m = mm at *; generalize m * y = my at *; generalize x * m = xm at *; generalize x * y = xy at *
  omega
theorem prod_bd41 {x y : Int} (hx : -2199023255552 ≤ x) (hx' : x ≤ 2199023255552) (hy : -2199023255552 ≤ y) (hy' : y ≤ 2199023255552) : -4835703278458516698824704 ≤ x * y ∧ x * y ≤ 4835703278458516698824704 := prod_bd hx hx' hy hy'
def cmp (x y : Int) : Int := if x < y then -1 else if y < x then 1 else 0
end Go.Proofs.Ytffiilnmfmkpmaa.AE

namespace Go.Proofs.Ytffiilnmfmkpmaa.Geo
set_option linter.unusedVariables false
set_option linter.unusedSimpArgs false
set_option linter.constructorNameAsVariable false
abbrev Pt := Int × Int
def Okc (x : Int) : Prop := -1099511627776 ≤ x ∧ x ≤ 1099511627776
instance (x : Int) : Decidable (Okc x) := by unfold Okc; infer_instance
def OkP (p : Pt) : Prop := Okc p.1 ∧ Okc p.2
instance (p : Pt) : Decidable (OkP p) := by unfold OkP; infer_instance
/-- Twice the area from a over b to c. -/
def TN (a b c : Pt) : Int := (b.1 - a.1) * (c.2 - a.2) - (b.2 - a.2) * (c.1 - a.1)
def sg (v : Int) : Int := if v < 0 then -1 else if v = 0 then 0 else 1
theorem sg_zero {v : Int} : sg v = 0 ↔ v = 0 := by unfold sg; split <;> (try split) <;> omega
theorem sg_cases (v : Int) : (v < 0 ∧ sg v = -1) ∨ (v = 0 ∧ sg v = 0) ∨ (v > 0 ∧ sg v = 1) := by unfold sg; split <;> (try split) <;> omega
/-- Both numbers are between those of two places. -/
def Btw (p a b : Pt) : Prop := ((a.1 ≤ p.1 ∧ p.1 ≤ b.1) ∨ (b.1 ≤ p.1 ∧ p.1 ≤ a.1)) ∧ ((a.2 ≤ p.2 ∧ p.2 ≤ b.2) ∨ (b.2 ≤ p.2 ∧ p.2 ≤ a.2))
instance (p a b : Pt) : Decidable (Btw p a b) := by unfold Btw; infer_instance
/-- On the way from a to b. -/
def On (p a b : Pt) : Prop := TN a b p = 0 ∧ Btw p a b
instance (p a b : Pt) : Decidable (On p a b) := by unfold On; infer_instance
/-- The one way crosses the other one. -/
def Cross (a b c d : Pt) : Prop := sg (TN a b c) * sg (TN a b d) < 0 ∧ sg (TN c d a) * sg (TN c d b) < 0
instance (a b c d : Pt) : Decidable (Cross a b c d) := by unfold Cross; infer_instance
def Meet (a b c d : Pt) : Prop := On a c d ∨ On b c d ∨ On c a b ∨ On d a b ∨ Cross a b c d
instance (a b c d : Pt) : Decidable (Meet a b c d) := by unfold Meet; infer_instance
end Go.Proofs.Ytffiilnmfmkpmaa.Geo

namespace Go.Proofs.Ytffiilnmfmkpmaa.AE
set_option linter.unusedVariables false
set_option linter.unusedSimpArgs false
set_option linter.constructorNameAsVariable false
open Go Go.Proofs.Ytffiilnmfmkpmaa.Geo
abbrev i64 (n : Int) : AV := .int .i64 n
abbrev u64 (n : Int) : AV := .int .u64 n
abbrev pt (p : Int × Int) : AV := .agg [.int .i64 p.1, .int .i64 p.2]
theorem s71 (d : Nat) (x : Int) : pcall M (d + 1) 71 [.int .i64 x] = some (.bool false) := told (r71 C0 d x) (by simp)
theorem s72 (d : Nat) (x : Int) : pcall M (d + 1) 72 [.int .u64 x] = some (.bool false) := told (r72 C0 d x) (by simp)
theorem s67 (d : Nat) (x y : Int) : pcall M (d + 2) 67 [.int .i64 x, .int .i64 y] = some (.int .i64 (cmp x y)) := told (r67 C0 (d + 1) x y) (by
  rw [s71, s71, C0_bool, C0_bool, cnd_f, cnd_f]
  unfold cmp
  by_cases h : x < y
  · simp [h, cnd_t]
  · by_cases h2 : y < x <;> simp [h, h2, cnd_t, cnd_f])
theorem s68 (d : Nat) (x y : Int) : pcall M (d + 2) 68 [.int .u64 x, .int .u64 y] = some (.int .i64 (cmp x y)) := told (r68 C0 (d + 1) x y) (by
  rw [s72, s72, C0_bool, C0_bool, cnd_f, cnd_f]
  unfold cmp
  by_cases h : x < y
  · simp [h, cnd_t]
  · by_cases h2 : y < x <;> simp [h, h2, cnd_t, cnd_f])
theorem s49 (d : Nat) (x : Int) : pcall M (d + 1) 49 [.int .i64 x] = some (.bool (decide (Okc x))) := told (r49 C0 d x) (by
  unfold Okc
  by_cases h : x ≥ -1099511627776 <;> by_cases h2 : x ≤ 1099511627776 <;> simp [h, h2, cnd_t, cnd_f])
theorem s42 (d : Nat) (p : Int × Int) : pcall M (d + 2) 42 [pt p] = some (.bool (decide (OkP p))) := told (r42 C0 (d + 1) p.1 p.2) (by
  rw [s49, s49, C0_bool, C0_bool]
  unfold OkP
  by_cases h : Okc p.1 <;> by_cases h2 : Okc p.2 <;> simp [h, h2, cnd_t, cnd_f])
theorem s59 (d : Nat) (p : Int × Int) : pcall M (d + 3) 59 [pt p] = some (.bool (!decide (OkP p))) := told (r59 C0 (d + 2) p.1 p.2) (by
  rw [s42, C0_bool])
def fi : List Pt → Int → Int
  | [], _ => -1
  | p :: l, i => if OkP p then fi l (i + 1) else i
theorem pts_at {ps : List Pt} {i : Nat} (h : i < ps.length) : (ps.map pt)[((i : Nat) : Int).toNat]? = some (pt ps[i]) := by simp [h]
theorem s44_0 (d : Nat) (ps : List Pt) (hl : ps.length < 9223372036854775807) : ∀ (l2 : List Pt) (i f : Nat), ps.drop i = l2 → l2.length < f →
    L44f59_0 (d + 3) (ps.map pt) f (i : Nat) = some (.int .i64 (fi l2 (i : Nat))) := by
  intro l2
  induction l2 with
  | nil =>
    intro i f hd hf
    obtain ⟨f, rfl⟩ : ∃ m, f = m + 1 := ⟨f - 1, by omega⟩
    have : ps.length ≤ i := List.drop_eq_nil_iff.mp hd
    rw [L44f59_0, decide_eq_false (by simp; omega), cnd_f]; rfl
  | cons p l2 ih =>
    intro i f hd hf
    obtain ⟨f, rfl⟩ : ∃ m, f = m + 1 := ⟨f - 1, by simp at hf; omega⟩
    have hi : i < ps.length := by
      rcases Nat.lt_or_ge i ps.length with h | h
      · exact h
      · rw [List.drop_eq_nil_of_le h] at hd; cases hd
    have hp : ps[i] = p := by have := List.drop_eq_getElem_cons hi; rw [hd] at this; exact (List.cons.inj this).1.symm
    have hd2 : ps.drop (i + 1) = l2 := by have := List.drop_eq_getElem_cons hi; rw [hd] at this; exact (List.cons.inj this).2.symm
    rw [L44f59_0, decide_eq_true (by simp; omega), cnd_t, decide_eq_true (by omega), cnd_t, pts_at hi]
    refine Eq.trans (pl_agg (by rfl) (by rfl)) ?_; refine Eq.trans (pl_int (by rfl)) ?_; refine Eq.trans (pl_int (by rfl)) ?_
    rw [show pcall M (d + 3) 59 [.agg [.int .i64 ps[i].1, .int .i64 ps[i].2]] = some (.bool (!decide (OkP ps[i]))) from s59 d ps[i], C0_bool, hp]
    simp only [fi]
    by_cases h : OkP p
    · rw [decide_eq_true h, if_pos h, show IntKind.wrap .i64 ((i : Int) + 1) = ((i + 1 : Nat) : Int) by rw [IntKind.wrap_i64]; omega]
      refine (ih (i + 1) f hd2 (by simp at hf; omega)).trans ?_
      simp
    · rw [decide_eq_false h, if_neg h]; rfl
theorem s44 (d : Nat) (ps : List Pt) (hl : ps.length < 140737488355329) : pcall M (d + 4) 44 [.lst (ps.map pt), .fn 59 [] []] = some (.int .i64 (fi ps 0)) :=
  told (q44f59 (d + 3) (ps.map pt) .nilp) (s44_0 d ps (by omega) ps 0 _ rfl (by omega))
end Go.Proofs.Ytffiilnmfmkpmaa.AE

namespace Go.Proofs.Ytffiilnmfmkpmaa.AE
set_option linter.unusedVariables false
set_option linter.unusedSimpArgs false
set_option linter.constructorNameAsVariable false
open Go Go.Proofs.Ytffiilnmfmkpmaa.Geo
theorem s66 (d : Nat) (x y : Int) : pcall M (d + 1) 66 [.lst [.int .i64 x, .int .i64 y]] = some (.int .i64 (if x ≠ 0 then x else y)) := told (q66 d _) (by
  rw [show (10000000000000000000 : Nat) = 9999999999999999997 + 1 + 1 + 1 from rfl, L66_0]
  refine Eq.trans (pl_len (by rfl)) ?_; refine Eq.trans (pl_len (by rfl)) ?_; refine Eq.trans (pl_int (by rfl)) ?_
  by_cases hx : x = 0
  · subst hx
    refine Eq.trans (pl_f (by rfl)) ?_
    rw [L66_0]
    refine Eq.trans (pl_len (by rfl)) ?_; refine Eq.trans (pl_len (by rfl)) ?_; refine Eq.trans (pl_int (by rfl)) ?_
    by_cases hy : y = 0
    · subst hy
      refine Eq.trans (pl_f (by rfl)) ?_
      rw [L66_0]; rfl
    · rw [show (y != 0) = true by simp [hy], cnd_t]; rfl
  · rw [show (x != 0) = true by simp [hx], cnd_t, if_pos hx]; rfl)
theorem s61 (d : Nat) (a b : Int) (ha : -170141183460469231731687303715884105728 ≤ a) (ha' : a < 170141183460469231731687303715884105728) (hb : -170141183460469231731687303715884105728 ≤ b) (hb' : b < 170141183460469231731687303715884105728) :
    pcall M (d + 3) 61 [.agg [.int .i64 (hiw a), .int .u64 (low a)], .agg [.int .i64 (hiw b), .int .u64 (low b)]] = some (.int .i64 (cmp a b)) := told (r61 C0 (d + 2) _ _ _ _) (by
  rw [s67, s68, C0_int, C0_int, s66, C0_int]
  have e1 : hiw a = a / 18446744073709551616 := by unfold hiw; rw [i64_small (by omega) (by omega)]
  have e2 : hiw b = b / 18446744073709551616 := by unfold hiw; rw [i64_small (by omega) (by omega)]
  rw [e1, e2]
  unfold low cmp
  congr 2
  repeat' split
  all_goals omega)
theorem s65 (d : Nat) (a b : Int) (ha : 0 ≤ a) (ha' : a < 18446744073709551616) (hb : 0 ≤ b) (hb' : b < 18446744073709551616) :
    ∃ hi lo, pcall M (d + 1) 65 [.int .u64 a, .int .u64 b] = some (.tup [.int .u64 hi, .int .u64 lo]) ∧ hi * 18446744073709551616 + lo = a * b ∧ 0 ≤ lo ∧ lo < 18446744073709551616 ∧ 0 ≤ hi ∧ hi < 18446744073709551616 := by
  refine ⟨_, _, told (r65 C0 d a b) rfl, ?_⟩
  have h32 : ∀ x : Int, Int.fdiv x (2 ^ (min (Int.toNat 32) 64)) = x / 4294967296 := by
    intro x
    rw [show ((2 : Int) ^ (min (Int.toNat 32) 64)) = 4294967296 from by decide]
    exact Int.fdiv_eq_ediv_of_nonneg x (by decide)
  rw [u64_and32 ha ha', u64_and32 hb hb']
  simp only [h32]
  obtain ⟨a1, a0, e1, e2, e3, e4⟩ : ∃ a1 a0 : Int, a / 4294967296 = a1 ∧ a % 4294967296 = a0 ∧ a = a1 * 4294967296 + a0 ∧ (0 ≤ a0 ∧ a0 < 4294967296 ∧ 0 ≤ a1 ∧ a1 < 4294967296) := ⟨_, _, rfl, rfl, by omega, by omega⟩
  obtain ⟨b1, b0, f1, f2, f3, f4⟩ : ∃ a1 a0 : Int, b / 4294967296 = a1 ∧ b % 4294967296 = a0 ∧ b = a1 * 4294967296 + a0 ∧ (0 ≤ a0 ∧ a0 < 4294967296 ∧ 0 ≤ a1 ∧ a1 < 4294967296) := ⟨_, _, rfl, rfl, by omega, by omega⟩
  rw [e1, e2, f1, f2]
  have hp : a * b = (a1 * b1) * 18446744073709551616 + (a1 * b0 + a0 * b1) * 4294967296 + a0 * b0 := by rw [e3, f3]; grind
  rw [hp]
  have bd : ∀ x y : Int, 0 ≤ x → x < 4294967296 → 0 ≤ y → y < 4294967296 → 0 ≤ x * y ∧ x * y ≤ 18446744065119617025 := by
    intro x y h1 h2 h3 h4
    exact ⟨Int.mul_nonneg h1 h3, Int.le_trans (Int.mul_le_mul (show x ≤ 4294967295 by omega) (show y ≤ 4294967295 by omega) h3 (by omega)) (by decide)⟩
  have B11 := bd a1 b1 (by omega) (by omega) (by omega) (by omega)
  have B10 := bd a1 b0 (by omega) (by omega) (by omega) (by omega)
  have B01 := bd a0 b1 (by omega) (by omega) (by omega) (by omega)
  have B00 := bd a0 b0 (by omega) (by omega) (by omega) (by omega)
  generalize a1 * b1 = p11 at *
  generalize a1 * b0 = p10 at *
  generalize a0 * b1 = p01 at *
  generalize a0 * b0 = p00 at *
  simp only [u64w]
  rw [show ∀ x : Int, Go.bits .and .u64 (x % 18446744073709551616) 4294967295 = (x % 18446744073709551616) % 4294967296 from fun x => u64_and32 (by omega) (by omega)]
  omega
theorem s60 (d : Nat) (a b : Int) (ha : -9223372036854775808 ≤ a) (ha' : a < 9223372036854775808) (hb : -9223372036854775808 ≤ b) (hb' : b < 9223372036854775808) :
    pcall M (d + 2) 60 [.int .i64 a, .int .i64 b] = some (.agg [.int .i64 (hiw (a * b)), .int .u64 (low (a * b))]) := told (r60 C0 (d + 1) a b) (by
  obtain ⟨hi, lo, e, h0, l0, l1, i0, i1⟩ := s65 d (IntKind.u64.wrap a) (IntKind.u64.wrap b) (by rw [u64w]; omega) (by rw [u64w]; omega) (by rw [u64w]; omega) (by rw [u64w]; omega)
  have bd := mul_bd63 a b ha ha' hb hb'
  rw [e, C0_tup2]
  simp only [at0, at1, C0_int, u64w]
  rw [u64w, u64w] at h0
  unfold hiw low
  have fin : ∀ h : Int, (h * 18446744073709551616 + lo - a * b) % 340282366920938463463374607431768211456 = 0 → (some (.agg [.int .i64 (IntKind.i64.wrap h), .int .u64 lo]) : Ans) = some (.agg [.int .i64 (IntKind.i64.wrap (a * b / 18446744073709551616)), .int .u64 (a * b % 18446744073709551616)]) := by
    intro h hh
    generalize a * b = p at *
    have e2 : lo = p % 18446744073709551616 := by omega
    have e1 : IntKind.i64.wrap h = IntKind.i64.wrap (p / 18446744073709551616) := by rw [i64w, i64w]; omega
    rw [e1, e2]
  by_cases ca : a < 0
  · rw [decide_eq_true ca, cnd_t]
    have ua : a % 18446744073709551616 = a + 18446744073709551616 := by omega
    by_cases cb : b < 0
    · rw [decide_eq_true cb, cnd_t]
      have ub : b % 18446744073709551616 = b + 18446744073709551616 := by omega
      have hp : (a + 18446744073709551616) * (b + 18446744073709551616) = a * b + 18446744073709551616 * (a + b) + 340282366920938463463374607431768211456 := by grind
      rw [ua, ub, hp] at h0
      rw [ua, ub]
      refine fin _ ?_
      generalize a * b = p at *
      omega
    · rw [decide_eq_false cb, cnd_f]
      have ub : b % 18446744073709551616 = b := by omega
      have hp : (a + 18446744073709551616) * b = a * b + 18446744073709551616 * b := by grind
      rw [ua, ub, hp] at h0
      rw [ub]
      refine fin _ ?_
      generalize a * b = p at *
      omega
  · rw [decide_eq_false ca, cnd_f]
    have ua : a % 18446744073709551616 = a := by omega
    by_cases cb : b < 0
    · rw [decide_eq_true cb, cnd_t]
      have ub : b % 18446744073709551616 = b + 18446744073709551616 := by omega
      have hp : a * (b + 18446744073709551616) = a * b + 18446744073709551616 * a := by grind
      rw [ua, ub, hp] at h0
      rw [ua]
      refine fin _ ?_
      generalize a * b = p at *
      omega
    · rw [decide_eq_false cb, cnd_f]
      have ub : b % 18446744073709551616 = b := by omega
      rw [ua, ub] at h0
      refine fin _ ?_
      generalize a * b = p at *
      omega)
theorem fi_ge (ps : List Pt) : ∀ i : Int, 0 ≤ i → (fi ps i ≥ 0 ↔ ¬ ∀ p ∈ ps, OkP p) := by
  induction ps with
  | nil => intro i hi; simp [fi]
  | cons p l ih =>
    intro i hi
    simp only [fi]
    by_cases h : OkP p
    · simp only [h, if_true]; rw [ih (i + 1) (by omega)]; simp [h]
    · simp only [h, if_false]
      exact ⟨fun _ hh => h (hh p (by simp)), fun _ => hi⟩
theorem s54 (d : Nat) (ps : List Pt) (hl : ps.length < 140737488355329) : pcall M (d + 6) 54 [.lst (ps.map pt)] = some (.bool (decide (∀ p ∈ ps, OkP p))) := told (r54 C0 (d + 5) _) (by
  have h30 : pcall M (d + 5) 37 [.lst (ps.map pt), .fn 59 [] []] = some (.bool (decide (fi ps 0 ≥ 0))) := told (r37f59 C0 (d + 4) _ .nilp) (by rw [s44 d ps hl, C0_int])
  rw [h30, C0_bool]
  congr 2
  have := fi_ge ps 0 (by decide)
  by_cases h : ∀ p ∈ ps, OkP p
  · have : ¬ fi ps 0 ≥ 0 := fun hh => (this.mp hh) h
    rw [decide_eq_true h, decide_eq_false this]; rfl
  · rw [decide_eq_false h, decide_eq_true (this.mpr h)]; rfl)
def ok3 (a b c : Pt) : Prop := OkP a ∧ OkP b ∧ OkP c
instance (a b c : Pt) : Decidable (ok3 a b c) := by unfold ok3; infer_instance
def tn3 (a b c : Pt) : Int := if ok3 a b c then sg (TN a b c) else 0
def onB (p a b : Pt) : Bool := decide (ok3 p a b ∧ On p a b)
def ok4 (a b c d : Pt) : Prop := OkP a ∧ OkP b ∧ OkP c ∧ OkP d
instance (a b c d : Pt) : Decidable (ok4 a b c d) := by unfold ok4; infer_instance
def meetB (a b c d : Pt) : Bool := decide (ok4 a b c d ∧ Meet a b c d)
theorem cmp_sg (p q : Int) : cmp p q = sg (p - q) := by unfold cmp sg; split <;> split <;> (try split) <;> (try split) <;> omega
theorem s55 (d : Nat) (a b c : Pt) : pcall M (d + 7) 55 [pt a, pt b, pt c] = some (.int .i64 (tn3 a b c)) := told (r55 C0 (d + 6) _ _ _ _ _ _) (by
  have h22 := s54 d [a, b, c] (by simp)
  simp only [List.map_cons, List.map_nil, pt] at h22
  rw [h22, C0_bool]
  unfold tn3
  by_cases h : ok3 a b c
  · rw [if_pos h, decide_eq_true (by simpa [ok3] using h)]
    obtain ⟨⟨⟨ha, ha'⟩, hb, hb'⟩, ⟨⟨hc, hc'⟩, hd, hd'⟩, ⟨he, he'⟩, hf, hf'⟩ := h
    rw [i64_small (n := b.1 - a.1) (by omega) (by omega), i64_small (n := c.2 - a.2) (by omega) (by omega), i64_small (n := b.2 - a.2) (by omega) (by omega), i64_small (n := c.1 - a.1) (by omega) (by omega)]
    rw [s60 (d + 4) _ _ (by omega) (by omega) (by omega) (by omega), s60 (d + 4) _ _ (by omega) (by omega) (by omega) (by omega)]
    have p1 := prod_bd41 (x := b.1 - a.1) (y := c.2 - a.2) (by omega) (by omega) (by omega) (by omega)
    have p2 := prod_bd41 (x := b.2 - a.2) (y := c.1 - a.1) (by omega) (by omega) (by omega) (by omega)
    simp only [Bool.not_true, cnd_f, C0_agg2, at0, at1, C0_int]
    rw [s61 (d + 3) _ _ (by omega) (by omega) (by omega) (by omega), C0_int, cmp_sg]
    rfl
  · rw [if_neg h, decide_eq_false (by simpa [ok3] using h)]
    rfl)
end Go.Proofs.Ytffiilnmfmkpmaa.AE

namespace Go.Proofs.Ytffiilnmfmkpmaa.AE
set_option linter.unusedVariables false
set_option linter.unusedSimpArgs false
set_option linter.constructorNameAsVariable false
open Go Go.Proofs.Ytffiilnmfmkpmaa.Geo
def btw (x y z : Int) : Bool := decide ((y ≤ x ∧ x ≤ z) ∨ (z ≤ x ∧ x ≤ y))
theorem btw_t {x y z : Int} : btw x y z = true ↔ (y ≤ x ∧ x ≤ z) ∨ (z ≤ x ∧ x ≤ y) := decide_eq_true_iff
def okB (l : List Pt) : Bool := decide (∀ p ∈ l, OkP p)
theorem okB_t {l : List Pt} : okB l = true ↔ ∀ p ∈ l, OkP p := decide_eq_true_iff
def zeroB (x : Int) : Bool := x == 0
theorem zeroB_t {x : Int} : zeroB x = true ↔ x = 0 := beq_iff_eq
def negB (x : Int) : Bool := decide (x < 0)
theorem negB_t {x : Int} : negB x = true ↔ x < 0 := decide_eq_true_iff
theorem onB_t {p a b : Pt} : onB p a b = true ↔ ok3 p a b ∧ On p a b := decide_eq_true_iff
theorem meetB_t {a b c d : Pt} : meetB a b c d = true ↔ ok4 a b c d ∧ Meet a b c d := decide_eq_true_iff
theorem s56 (d : Nat) (x y z : Int) : pcall M (d + 1) 56 [.int .i64 x, .int .i64 y, .int .i64 z] = some (.bool (btw x y z)) := told (r56 C0 d x y z) (by
  have e1 : (if z < y then z else y) = min z y := by omega
  have e2 : (if z > y then z else y) = max z y := by omega
  rw [e1, e2]
  unfold btw
  by_cases h : min z y ≤ x
  · rw [decide_eq_true h, cnd_t]; congr 2; rw [decide_eq_decide]; omega
  · rw [decide_eq_false h, cnd_f]; exact congrArg (fun b => some (AV.bool b)) (decide_eq_false (by omega)).symm)
theorem s51 (d : Nat) (p a b : Pt) : pcall M (d + 8) 51 [pt p, pt a, pt b] = some (.bool (onB p a b)) := told (r51 C0 (d + 7) _ _ _ _ _ _) (by
  have h22 := s54 (d + 1) [p, a, b] (by simp)
  simp only [List.map_cons, List.map_nil, pt] at h22
  have h12 := s55 d a b p
  simp only [pt] at h12
  rw [h22, C0_bool, h12, C0_int, s56 (d + 6), s56 (d + 6), C0_bool, C0_bool]
  change cnd (okB [p, a, b]) (cnd (zeroB (tn3 a b p)) (cnd (btw p.1 a.1 b.1) (some (.bool (btw p.2 a.2 b.2))) (some (.bool false))) (some (.bool false))) (some (.bool false)) = _
  have hok : okB [p, a, b] = true ↔ ok3 p a b := by rw [okB_t]; simp [ok3]
  have key : onB p a b = (okB [p, a, b] && (zeroB (tn3 a b p) && (btw p.1 a.1 b.1 && btw p.2 a.2 b.2))) := by
    rw [Bool.eq_iff_iff]
    simp only [Bool.and_eq_true, onB_t, hok, zeroB_t, btw_t]
    constructor
    · rintro ⟨h, hT, hB⟩
      exact ⟨h, by rw [tn3, if_pos ⟨h.2.1, h.2.2, h.1⟩, sg_zero]; exact hT, hB⟩
    · rintro ⟨h, hT, hB⟩
      rw [tn3, if_pos ⟨h.2.1, h.2.2, h.1⟩, sg_zero] at hT
      exact ⟨h, hT, hB⟩
  rw [key]
  cases okB [p, a, b] <;> cases zeroB (tn3 a b p) <;> cases btw p.1 a.1 b.1 <;> rfl)
theorem tn3_sg {a b c : Pt} (h : ok3 a b c) : tn3 a b c = sg (TN a b c) := if_pos h
theorem sg_small (u v : Int) : IntKind.i64.wrap (sg u * sg v) = sg u * sg v := by
  rcases sg_cases u with ⟨_, h⟩ | ⟨_, h⟩ | ⟨_, h⟩ <;> rcases sg_cases v with ⟨_, h'⟩ | ⟨_, h'⟩ | ⟨_, h'⟩ <;> rw [h, h', i64w] <;> decide
theorem s52 (d : Nat) (a b c e : Pt) : pcall M (d + 9) 52 [pt a, pt b, pt c, pt e] = some (.bool (meetB a b c e)) := told (r52 C0 (d + 8) _ _ _ _ _ _ _ _) (by
  have h22 := s54 (d + 2) [a, b, c, e] (by simp)
  simp only [List.map_cons, List.map_nil, pt] at h22
  have o := fun p q r => s51 d p q r
  have t := fun p q r => s55 (d + 1) p q r
  simp only [pt] at o t
  rw [h22, C0_bool, o a c e, o b c e, o c a b, o e a b, t a b c, t a b e, t c e a, t c e b]
  simp only [C0_bool, C0_int]
  change cnd (!okB [a, b, c, e]) (some (.bool false)) (cnd (onB a c e) (some (.bool true)) (cnd (onB b c e) (some (.bool true)) (cnd (onB c a b) (some (.bool true)) (cnd (onB e a b) (some (.bool true))
    (cnd (negB (IntKind.wrap .i64 (tn3 a b c * tn3 a b e))) (some (.bool (negB (IntKind.wrap .i64 (tn3 c e a * tn3 c e b))))) (some (.bool false))))))) = _
  have hok : okB [a, b, c, e] = true ↔ ok4 a b c e := by rw [okB_t]; simp [ok4]
  have key : meetB a b c e = (okB [a, b, c, e] && (onB a c e || (onB b c e || (onB c a b || (onB e a b || (negB (IntKind.wrap .i64 (tn3 a b c * tn3 a b e)) && negB (IntKind.wrap .i64 (tn3 c e a * tn3 c e b)))))))) := by
    rw [Bool.eq_iff_iff]
    simp only [Bool.and_eq_true, Bool.or_eq_true, onB_t, hok, negB_t, meetB_t]
    refine and_congr_right fun h => ?_
    obtain ⟨ha, hb, hc, he⟩ := h
    rw [tn3_sg ⟨ha, hb, hc⟩, tn3_sg ⟨ha, hb, he⟩, tn3_sg ⟨hc, he, ha⟩, tn3_sg ⟨hc, he, hb⟩, sg_small, sg_small]
    simp only [ok3, ha, hb, hc, he, true_and, and_true]
    exact Iff.rfl
  rw [key]
  cases okB [a, b, c, e] <;> cases onB a c e <;> cases onB b c e <;> cases onB c a b <;> cases onB e a b <;> cases negB (IntKind.wrap .i64 (tn3 a b c * tn3 a b e)) <;> rfl)
end Go.Proofs.Ytffiilnmfmkpmaa.AE

namespace Go.Proofs.Ytffiilnmfmkpmaa.AE
set_option linter.unusedVariables false
set_option linter.unusedSimpArgs false
open Go
def bin : List Int → Int
  | [] => 0
  | x :: l => x + 2 * bin l
end Go.Proofs.Ytffiilnmfmkpmaa.AE

namespace Go.Proofs.Ytffiilnmfmkpmaa.AE
set_option linter.unusedVariables false
set_option linter.unusedSimpArgs false
set_option linter.constructorNameAsVariable false
open Go Go.Proofs.Ytffiilnmfmkpmaa.Geo
def okb (p : Pt) : Bool := decide (OkP p)
theorem okb_t {p : Pt} : okb p = true ↔ OkP p := decide_eq_true_iff
end Go.Proofs.Ytffiilnmfmkpmaa.AE

namespace Go.Proofs.Ytffiilnmfmkpmaa.AE
set_option linter.unusedVariables false
set_option linter.unusedSimpArgs false
set_option linter.constructorNameAsVariable false
open Go
set_option maxRecDepth 100000
/-- apogee/poly.Right -/
theorem r30 (C : Cb) (d : Nat) (a0 : List AV) : xcall C M unr d 30 [(.lst a0)] =
 C.bool (pcall M d 36 [(.lst a0)]) fun b0 =>
 cnd b0
 (C.bool (pcall M d 37 [(.lst a0), (.fn 38 [] [])]) fun b1 =>
 some (.bool (!b1)))
 (some bf) := by kernel_rfl
def r36R1 (C : Cb) (d : Nat) (a0 : List AV) (b0 : Bool) (k2 : Ex → St → Ans) (x7 : Int) (v31 : AV) : St → (Ex → St → Ans) → Ans := fun s32 k33 =>
 cnd ((List.length s32.env) == 44)
 (C.same s32.env[0]? (.lst a0) <|
 C.same s32.env[1]? tz <|
 C.bool s32.env[2]? fun b35 =>
 C.same s32.env[3]? (iz (((List.length a0) : Nat) : Int)) <|
 C.same s32.env[4]? (iz x7) <|
 C.any s32.env[5]? fun v36 =>
 C.same s32.env[6]? (.lst a0) <|
 C.same s32.env[7]? (iz (((List.length a0) : Nat) : Int)) <|
 C.same s32.env[8]? (iz (((List.length a0) : Nat) : Int)) <|
 C.same s32.env[9]? (.bool (decide ((((List.length a0) : Nat) : Int) < 3))) <|
 C.same s32.env[10]? bf <|
 C.same s32.env[11]? (iz (((List.length a0) : Nat) : Int)) <|
 C.same s32.env[12]? (.bool (decide ((((List.length a0) : Nat) : Int) > 8))) <|
 C.same s32.env[13]? (.bool (decide ((((List.length a0) : Nat) : Int) > 8))) <|
 C.same s32.env[14]? bf <|
 C.same s32.env[15]? (.lst a0) <|
 C.same s32.env[16]? (.bool b0) <|
 C.same s32.env[17]? bf <|
 C.same s32.env[18]? (iz (((List.length a0) : Nat) : Int)) <|
 C.same s32.env[19]? (iz x7) <|
 C.same s32.env[20]? bt <|
 C.same s32.env[21]? (iz x7) <|
 C.same s32.env[22]? (iz x7) <|
 C.int .i64 s32.env[23]? fun x37 =>
 C.any s32.env[24]? fun v38 =>
 C.any s32.env[25]? fun v39 =>
 C.any s32.env[26]? fun v40 =>
 C.any s32.env[27]? fun v41 =>
 C.any s32.env[28]? fun v42 =>
 C.any s32.env[29]? fun v43 =>
 C.any s32.env[30]? fun v44 =>
 C.any s32.env[31]? fun v45 =>
 C.any s32.env[32]? fun v46 =>
 C.any s32.env[33]? fun v47 =>
 C.any s32.env[34]? fun v48 =>
 C.any s32.env[35]? fun v49 =>
 C.any s32.env[36]? fun v50 =>
 C.any s32.env[37]? fun v51 =>
 C.any s32.env[38]? fun v52 =>
 C.any s32.env[39]? fun v53 =>
 C.any s32.env[40]? fun v54 =>
 C.any s32.env[41]? fun v55 =>
 C.any s32.env[42]? fun v56 =>
 C.same s32.env[43]? v31 <|
 C.sameH (St.H s32) [] <|
 cnd (decide (x37 < x7))
 (cnd (decide ((0 : Int) ≤ x7))
 (C.agg 2 a0[(Int.toNat x7)]? fun l57 =>
 C.int .i64 l57[0]? fun x58 =>
 C.int .i64 l57[1]? fun x59 =>
 cnd (decide ((0 : Int) ≤ x37))
 (C.agg 2 a0[(Int.toNat x37)]? fun l60 =>
 C.int .i64 l60[0]? fun x61 =>
 C.int .i64 l60[1]? fun x62 =>
 cnd (xor false ((x58 == x61) && ((x59 == x62) && true)))
 (k33 .ret ⟨[(.lst a0), tz, bf, (iz (((List.length a0) : Nat) : Int)), (iz x7), (iz x37), (.lst a0), (iz (((List.length a0) : Nat) : Int)), (iz (((List.length a0) : Nat) : Int)), (.bool (decide ((((List.length a0) : Nat) : Int) < 3))), bf, (iz (((List.length a0) : Nat) : Int)), (.bool (decide ((((List.length a0) : Nat) : Int) > 8))), (.bool (decide ((((List.length a0) : Nat) : Int) > 8))), bf, (.lst a0), (.bool b0), bf, (iz (((List.length a0) : Nat) : Int)), (iz x7), bt, (iz x7), (iz x7), (iz x37), bt, (iz x37), (.lst a0), (iz x7), (.fptr (.agg [(iz x58), (iz x59)]) 0), (.agg [(iz x58), (iz x59)]), (.lst a0), (iz x37), (.fptr (.agg [(iz x61), (iz x62)]) 0), (.agg [(iz x61), (iz x62)]), (.bool (xor false ((x58 == x61) && ((x59 == x62) && true)))), bt, tz, tz, tz, tz, tz, bt, v56, v31], []⟩)
 (C.bool (pcall M d 43 [(.lst a0), (iz x37), (iz x7)]) fun b63 =>
 cnd (!b63)
 (k33 .ret ⟨[(.lst a0), tz, bf, (iz (((List.length a0) : Nat) : Int)), (iz x7), (iz x37), (.lst a0), (iz (((List.length a0) : Nat) : Int)), (iz (((List.length a0) : Nat) : Int)), (.bool (decide ((((List.length a0) : Nat) : Int) < 3))), bf, (iz (((List.length a0) : Nat) : Int)), (.bool (decide ((((List.length a0) : Nat) : Int) > 8))), (.bool (decide ((((List.length a0) : Nat) : Int) > 8))), bf, (.lst a0), (.bool b0), bf, (iz (((List.length a0) : Nat) : Int)), (iz x7), bt, (iz x7), (iz x7), (iz x37), bt, (iz x37), (.lst a0), (iz x7), (.fptr (.agg [(iz x58), (iz x59)]) 0), (.agg [(iz x58), (iz x59)]), (.lst a0), (iz x37), (.fptr (.agg [(iz x61), (iz x62)]) 0), (.agg [(iz x61), (iz x62)]), (.bool (xor false ((x58 == x61) && ((x59 == x62) && true)))), bf, (.lst a0), (iz x37), (iz x7), (.bool b63), (.bool (!b63)), bt, v56, v31], []⟩)
 (k33 .normal ⟨[(.lst a0), tz, (.bool b35), (iz (((List.length a0) : Nat) : Int)), (iz x7), (iz x37), (.lst a0), (iz (((List.length a0) : Nat) : Int)), (iz (((List.length a0) : Nat) : Int)), (.bool (decide ((((List.length a0) : Nat) : Int) < 3))), bf, (iz (((List.length a0) : Nat) : Int)), (.bool (decide ((((List.length a0) : Nat) : Int) > 8))), (.bool (decide ((((List.length a0) : Nat) : Int) > 8))), bf, (.lst a0), (.bool b0), bf, (iz (((List.length a0) : Nat) : Int)), (iz x7), bt, (iz x7), (iz x7), (iz (IntKind.wrap .i64 (x37 + 1))), bt, (iz x37), (.lst a0), (iz x7), (.fptr (.agg [(iz x58), (iz x59)]) 0), (.agg [(iz x58), (iz x59)]), (.lst a0), (iz x37), (.fptr (.agg [(iz x61), (iz x62)]) 0), (.agg [(iz x61), (iz x62)]), (.bool (xor false ((x58 == x61) && ((x59 == x62) && true)))), bf, (.lst a0), (iz x37), (iz x7), (.bool b63), (.bool (!b63)), bf, (iz (IntKind.wrap .i64 (x37 + 1))), v31], []⟩)))
 (none))
 (none))
 (k33 (.exit 2) ⟨[(.lst a0), tz, (.bool b35), (iz (((List.length a0) : Nat) : Int)), (iz x7), v36, (.lst a0), (iz (((List.length a0) : Nat) : Int)), (iz (((List.length a0) : Nat) : Int)), (.bool (decide ((((List.length a0) : Nat) : Int) < 3))), bf, (iz (((List.length a0) : Nat) : Int)), (.bool (decide ((((List.length a0) : Nat) : Int) > 8))), (.bool (decide ((((List.length a0) : Nat) : Int) > 8))), bf, (.lst a0), (.bool b0), bf, (iz (((List.length a0) : Nat) : Int)), (iz x7), bt, (iz x7), (iz x7), (iz x37), bf, v39, v40, v41, v42, v43, v44, v45, v46, v47, v48, v49, v50, v51, v52, v53, v54, v55, v56, v31], []⟩))
 (none)
def r36X1_0 (C : Cb) (d : Nat) (a0 : List AV) (b0 : Bool) (k2 : Ex → St → Ans) (x7 : Int) (v31 : AV) : St → Ans := fun s64 =>
 cnd ((List.length s64.env) == 44)
 (C.same s64.env[0]? (.lst a0) <|
 C.same s64.env[1]? tz <|
 C.bool s64.env[2]? fun b65 =>
 C.same s64.env[3]? (iz (((List.length a0) : Nat) : Int)) <|
 C.same s64.env[4]? (iz x7) <|
 C.any s64.env[5]? fun v66 =>
 C.same s64.env[6]? (.lst a0) <|
 C.same s64.env[7]? (iz (((List.length a0) : Nat) : Int)) <|
 C.same s64.env[8]? (iz (((List.length a0) : Nat) : Int)) <|
 C.same s64.env[9]? (.bool (decide ((((List.length a0) : Nat) : Int) < 3))) <|
 C.same s64.env[10]? bf <|
 C.same s64.env[11]? (iz (((List.length a0) : Nat) : Int)) <|
 C.same s64.env[12]? (.bool (decide ((((List.length a0) : Nat) : Int) > 8))) <|
 C.same s64.env[13]? (.bool (decide ((((List.length a0) : Nat) : Int) > 8))) <|
 C.same s64.env[14]? bf <|
 C.same s64.env[15]? (.lst a0) <|
 C.same s64.env[16]? (.bool b0) <|
 C.same s64.env[17]? bf <|
 C.same s64.env[18]? (iz (((List.length a0) : Nat) : Int)) <|
 C.same s64.env[19]? (iz x7) <|
 C.same s64.env[20]? bt <|
 C.same s64.env[21]? (iz x7) <|
 C.same s64.env[22]? (iz x7) <|
 C.int .i64 s64.env[23]? fun x67 =>
 C.bool s64.env[24]? fun b68 =>
 C.any s64.env[25]? fun v69 =>
 C.any s64.env[26]? fun v70 =>
 C.any s64.env[27]? fun v71 =>
 C.any s64.env[28]? fun v72 =>
 C.any s64.env[29]? fun v73 =>
 C.any s64.env[30]? fun v74 =>
 C.any s64.env[31]? fun v75 =>
 C.any s64.env[32]? fun v76 =>
 C.any s64.env[33]? fun v77 =>
 C.any s64.env[34]? fun v78 =>
 C.any s64.env[35]? fun v79 =>
 C.any s64.env[36]? fun v80 =>
 C.any s64.env[37]? fun v81 =>
 C.any s64.env[38]? fun v82 =>
 C.any s64.env[39]? fun v83 =>
 C.any s64.env[40]? fun v84 =>
 C.any s64.env[41]? fun v85 =>
 C.any s64.env[42]? fun v86 =>
 C.same s64.env[43]? v31 <|
 C.sameH (St.H s64) [] <|
 k2 .normal ⟨[(.lst a0), tz, (.bool b65), (iz (((List.length a0) : Nat) : Int)), (iz x7), v66, (.lst a0), (iz (((List.length a0) : Nat) : Int)), (iz (((List.length a0) : Nat) : Int)), (.bool (decide ((((List.length a0) : Nat) : Int) < 3))), bf, (iz (((List.length a0) : Nat) : Int)), (.bool (decide ((((List.length a0) : Nat) : Int) > 8))), (.bool (decide ((((List.length a0) : Nat) : Int) > 8))), bf, (.lst a0), (.bool b0), bf, (iz (((List.length a0) : Nat) : Int)), (iz (IntKind.wrap .i64 (x7 + 1))), bt, (iz x7), (iz x7), (iz x67), (.bool b68), v69, v70, v71, v72, v73, v74, v75, v76, v77, v78, v79, v80, v81, v82, v83, v84, v85, v86, (iz (IntKind.wrap .i64 (x7 + 1)))], []⟩)
 (none)
def r36E1 (C : Cb) (d : Nat) (a0 : List AV) (b0 : Bool) (k2 : Ex → St → Ans) (x7 : Int) (v31 : AV) : St → Ans := fun s34 =>
 cnd ((List.length s34.env) == 44)
 (C.same s34.env[0]? (.lst a0) <|
 C.same s34.env[1]? tz <|
 C.bool s34.env[2]? fun b87 =>
 C.same s34.env[3]? (iz (((List.length a0) : Nat) : Int)) <|
 C.same s34.env[4]? (iz x7) <|
 C.int .i64 s34.env[5]? fun x88 =>
 C.same s34.env[6]? (.lst a0) <|
 C.same s34.env[7]? (iz (((List.length a0) : Nat) : Int)) <|
 C.same s34.env[8]? (iz (((List.length a0) : Nat) : Int)) <|
 C.same s34.env[9]? (.bool (decide ((((List.length a0) : Nat) : Int) < 3))) <|
 C.same s34.env[10]? bf <|
 C.same s34.env[11]? (iz (((List.length a0) : Nat) : Int)) <|
 C.same s34.env[12]? (.bool (decide ((((List.length a0) : Nat) : Int) > 8))) <|
 C.same s34.env[13]? (.bool (decide ((((List.length a0) : Nat) : Int) > 8))) <|
 C.same s34.env[14]? bf <|
 C.same s34.env[15]? (.lst a0) <|
 C.same s34.env[16]? (.bool b0) <|
 C.same s34.env[17]? bf <|
 C.same s34.env[18]? (iz (((List.length a0) : Nat) : Int)) <|
 C.same s34.env[19]? (iz x7) <|
 C.same s34.env[20]? bt <|
 C.same s34.env[21]? (iz x7) <|
 C.same s34.env[22]? (iz x7) <|
 C.int .i64 s34.env[23]? fun x89 =>
 C.bool s34.env[24]? fun b90 =>
 C.int .i64 s34.env[25]? fun x91 =>
 C.any s34.env[26]? fun v92 =>
 C.int .i64 s34.env[27]? fun x93 =>
 C.any s34.env[28]? fun v94 =>
 C.agg 2 s34.env[29]? fun l95 =>
 C.int .i64 l95[0]? fun x96 =>
 C.int .i64 l95[1]? fun x97 =>
 C.any s34.env[30]? fun v98 =>
 C.int .i64 s34.env[31]? fun x99 =>
 C.any s34.env[32]? fun v100 =>
 C.agg 2 s34.env[33]? fun l101 =>
 C.int .i64 l101[0]? fun x102 =>
 C.int .i64 l101[1]? fun x103 =>
 C.bool s34.env[34]? fun b104 =>
 C.bool s34.env[35]? fun b105 =>
 C.any s34.env[36]? fun v106 =>
 C.any s34.env[37]? fun v107 =>
 C.any s34.env[38]? fun v108 =>
 C.any s34.env[39]? fun v109 =>
 C.any s34.env[40]? fun v110 =>
 C.bool s34.env[41]? fun b111 =>
 C.any s34.env[42]? fun v112 =>
 C.same s34.env[43]? v31 <|
 C.sameH (St.H s34) [] <|
 k2 .ret ⟨[(.lst a0), tz, (.bool b87), (iz (((List.length a0) : Nat) : Int)), (iz x7), (iz x88), (.lst a0), (iz (((List.length a0) : Nat) : Int)), (iz (((List.length a0) : Nat) : Int)), (.bool (decide ((((List.length a0) : Nat) : Int) < 3))), bf, (iz (((List.length a0) : Nat) : Int)), (.bool (decide ((((List.length a0) : Nat) : Int) > 8))), (.bool (decide ((((List.length a0) : Nat) : Int) > 8))), bf, (.lst a0), (.bool b0), bf, (iz (((List.length a0) : Nat) : Int)), (iz x7), bt, (iz x7), (iz x7), (iz x89), (.bool b90), (iz x91), v92, (iz x93), v94, (.agg [(iz x96), (iz x97)]), v98, (iz x99), v100, (.agg [(iz x102), (iz x103)]), (.bool b104), (.bool b105), v106, v107, v108, v109, v110, (.bool b111), v112, v31], []⟩)
 (none)
def r36R0 (C : Cb) (d : Nat) (a0 : List AV) (b0 : Bool) : St → (Ex → St → Ans) → Ans := fun s1 k2 =>
 cnd ((List.length s1.env) == 44)
 (C.same s1.env[0]? (.lst a0) <|
 C.same s1.env[1]? tz <|
 C.bool s1.env[2]? fun b4 =>
 C.same s1.env[3]? (iz (((List.length a0) : Nat) : Int)) <|
 C.any s1.env[4]? fun v5 =>
 C.any s1.env[5]? fun v6 =>
 C.same s1.env[6]? (.lst a0) <|
 C.same s1.env[7]? (iz (((List.length a0) : Nat) : Int)) <|
 C.same s1.env[8]? (iz (((List.length a0) : Nat) : Int)) <|
 C.same s1.env[9]? (.bool (decide ((((List.length a0) : Nat) : Int) < 3))) <|
 C.same s1.env[10]? bf <|
 C.same s1.env[11]? (iz (((List.length a0) : Nat) : Int)) <|
 C.same s1.env[12]? (.bool (decide ((((List.length a0) : Nat) : Int) > 8))) <|
 C.same s1.env[13]? (.bool (decide ((((List.length a0) : Nat) : Int) > 8))) <|
 C.same s1.env[14]? bf <|
 C.same s1.env[15]? (.lst a0) <|
 C.same s1.env[16]? (.bool b0) <|
 C.same s1.env[17]? bf <|
 C.same s1.env[18]? (iz (((List.length a0) : Nat) : Int)) <|
 C.int .i64 s1.env[19]? fun x7 =>
 C.any s1.env[20]? fun v8 =>
 C.any s1.env[21]? fun v9 =>
 C.any s1.env[22]? fun v10 =>
 C.any s1.env[23]? fun v11 =>
 C.any s1.env[24]? fun v12 =>
 C.any s1.env[25]? fun v13 =>
 C.any s1.env[26]? fun v14 =>
 C.any s1.env[27]? fun v15 =>
 C.any s1.env[28]? fun v16 =>
 C.any s1.env[29]? fun v17 =>
 C.any s1.env[30]? fun v18 =>
 C.any s1.env[31]? fun v19 =>
 C.any s1.env[32]? fun v20 =>
 C.any s1.env[33]? fun v21 =>
 C.any s1.env[34]? fun v22 =>
 C.any s1.env[35]? fun v23 =>
 C.any s1.env[36]? fun v24 =>
 C.any s1.env[37]? fun v25 =>
 C.any s1.env[38]? fun v26 =>
 C.any s1.env[39]? fun v27 =>
 C.any s1.env[40]? fun v28 =>
 C.any s1.env[41]? fun v29 =>
 C.any s1.env[42]? fun v30 =>
 C.any s1.env[43]? fun v31 =>
 C.sameH (St.H s1) [] <|
 cnd (decide (x7 < (((List.length a0) : Nat) : Int)))
 (C.iter (r36R1 C d a0 b0 k2 x7 v31) 10000000000000000000 ⟨[(.lst a0), tz, (.bool b4), (iz (((List.length a0) : Nat) : Int)), (iz x7), v6, (.lst a0), (iz (((List.length a0) : Nat) : Int)), (iz (((List.length a0) : Nat) : Int)), (.bool (decide ((((List.length a0) : Nat) : Int) < 3))), bf, (iz (((List.length a0) : Nat) : Int)), (.bool (decide ((((List.length a0) : Nat) : Int) > 8))), (.bool (decide ((((List.length a0) : Nat) : Int) > 8))), bf, (.lst a0), (.bool b0), bf, (iz (((List.length a0) : Nat) : Int)), (iz x7), bt, (iz x7), (iz x7), (iz 0), v12, v13, v14, v15, v16, v17, v18, v19, v20, v21, v22, v23, v24, v25, v26, v27, v28, v29, v30, v31], []⟩ [2] [r36X1_0 C d a0 b0 k2 x7 v31] (r36E1 C d a0 b0 k2 x7 v31))
 (k2 (.exit 0) ⟨[(.lst a0), tz, (.bool b4), (iz (((List.length a0) : Nat) : Int)), v5, v6, (.lst a0), (iz (((List.length a0) : Nat) : Int)), (iz (((List.length a0) : Nat) : Int)), (.bool (decide ((((List.length a0) : Nat) : Int) < 3))), bf, (iz (((List.length a0) : Nat) : Int)), (.bool (decide ((((List.length a0) : Nat) : Int) > 8))), (.bool (decide ((((List.length a0) : Nat) : Int) > 8))), bf, (.lst a0), (.bool b0), bf, (iz (((List.length a0) : Nat) : Int)), (iz x7), bf, v9, v10, v11, v12, v13, v14, v15, v16, v17, v18, v19, v20, v21, v22, v23, v24, v25, v26, v27, v28, v29, v30, v31], []⟩))
 (none)
def r36X0_0 (C : Cb) (d : Nat) (a0 : List AV) (b0 : Bool) : St → Ans := fun s113 =>
 cnd ((List.length s113.env) == 44)
 (C.same s113.env[0]? (.lst a0) <|
 C.same s113.env[1]? tz <|
 C.bool s113.env[2]? fun b114 =>
 C.same s113.env[3]? (iz (((List.length a0) : Nat) : Int)) <|
 C.any s113.env[4]? fun v115 =>
 C.any s113.env[5]? fun v116 =>
 C.same s113.env[6]? (.lst a0) <|
 C.same s113.env[7]? (iz (((List.length a0) : Nat) : Int)) <|
 C.same s113.env[8]? (iz (((List.length a0) : Nat) : Int)) <|
 C.same s113.env[9]? (.bool (decide ((((List.length a0) : Nat) : Int) < 3))) <|
 C.same s113.env[10]? bf <|
 C.same s113.env[11]? (iz (((List.length a0) : Nat) : Int)) <|
 C.same s113.env[12]? (.bool (decide ((((List.length a0) : Nat) : Int) > 8))) <|
 C.same s113.env[13]? (.bool (decide ((((List.length a0) : Nat) : Int) > 8))) <|
 C.same s113.env[14]? bf <|
 C.same s113.env[15]? (.lst a0) <|
 C.same s113.env[16]? (.bool b0) <|
 C.same s113.env[17]? bf <|
 C.same s113.env[18]? (iz (((List.length a0) : Nat) : Int)) <|
 C.int .i64 s113.env[19]? fun x117 =>
 C.bool s113.env[20]? fun b118 =>
 C.any s113.env[21]? fun v119 =>
 C.any s113.env[22]? fun v120 =>
 C.any s113.env[23]? fun v121 =>
 C.any s113.env[24]? fun v122 =>
 C.any s113.env[25]? fun v123 =>
 C.any s113.env[26]? fun v124 =>
 C.any s113.env[27]? fun v125 =>
 C.any s113.env[28]? fun v126 =>
 C.any s113.env[29]? fun v127 =>
 C.any s113.env[30]? fun v128 =>
 C.any s113.env[31]? fun v129 =>
 C.any s113.env[32]? fun v130 =>
 C.any s113.env[33]? fun v131 =>
 C.any s113.env[34]? fun v132 =>
 C.any s113.env[35]? fun v133 =>
 C.any s113.env[36]? fun v134 =>
 C.any s113.env[37]? fun v135 =>
 C.any s113.env[38]? fun v136 =>
 C.any s113.env[39]? fun v137 =>
 C.any s113.env[40]? fun v138 =>
 C.any s113.env[41]? fun v139 =>
 C.any s113.env[42]? fun v140 =>
 C.any s113.env[43]? fun v141 =>
 C.sameH (St.H s113) [] <|
 some bt)
 (none)
def r36E0 (C : Cb) (d : Nat) (a0 : List AV) (b0 : Bool) : St → Ans := fun s3 =>
 cnd ((List.length s3.env) == 44)
 (C.same s3.env[0]? (.lst a0) <|
 C.same s3.env[1]? tz <|
 C.bool s3.env[2]? fun b142 =>
 C.same s3.env[3]? (iz (((List.length a0) : Nat) : Int)) <|
 C.int .i64 s3.env[4]? fun x143 =>
 C.int .i64 s3.env[5]? fun x144 =>
 C.same s3.env[6]? (.lst a0) <|
 C.same s3.env[7]? (iz (((List.length a0) : Nat) : Int)) <|
 C.same s3.env[8]? (iz (((List.length a0) : Nat) : Int)) <|
 C.same s3.env[9]? (.bool (decide ((((List.length a0) : Nat) : Int) < 3))) <|
 C.same s3.env[10]? bf <|
 C.same s3.env[11]? (iz (((List.length a0) : Nat) : Int)) <|
 C.same s3.env[12]? (.bool (decide ((((List.length a0) : Nat) : Int) > 8))) <|
 C.same s3.env[13]? (.bool (decide ((((List.length a0) : Nat) : Int) > 8))) <|
 C.same s3.env[14]? bf <|
 C.same s3.env[15]? (.lst a0) <|
 C.same s3.env[16]? (.bool b0) <|
 C.same s3.env[17]? bf <|
 C.same s3.env[18]? (iz (((List.length a0) : Nat) : Int)) <|
 C.int .i64 s3.env[19]? fun x145 =>
 C.bool s3.env[20]? fun b146 =>
 C.int .i64 s3.env[21]? fun x147 =>
 C.int .i64 s3.env[22]? fun x148 =>
 C.int .i64 s3.env[23]? fun x149 =>
 C.bool s3.env[24]? fun b150 =>
 C.int .i64 s3.env[25]? fun x151 =>
 C.any s3.env[26]? fun v152 =>
 C.int .i64 s3.env[27]? fun x153 =>
 C.any s3.env[28]? fun v154 =>
 C.agg 2 s3.env[29]? fun l155 =>
 C.int .i64 l155[0]? fun x156 =>
 C.int .i64 l155[1]? fun x157 =>
 C.any s3.env[30]? fun v158 =>
 C.int .i64 s3.env[31]? fun x159 =>
 C.any s3.env[32]? fun v160 =>
 C.agg 2 s3.env[33]? fun l161 =>
 C.int .i64 l161[0]? fun x162 =>
 C.int .i64 l161[1]? fun x163 =>
 C.bool s3.env[34]? fun b164 =>
 C.bool s3.env[35]? fun b165 =>
 C.any s3.env[36]? fun v166 =>
 C.any s3.env[37]? fun v167 =>
 C.any s3.env[38]? fun v168 =>
 C.any s3.env[39]? fun v169 =>
 C.any s3.env[40]? fun v170 =>
 C.bool s3.env[41]? fun b171 =>
 C.any s3.env[42]? fun v172 =>
 C.any s3.env[43]? fun v173 =>
 C.sameH (St.H s3) [] <|
 some (.bool b142))
 (none)
/-- apogee/poly.Simple -/
theorem r36 (C : Cb) (d : Nat) (a0 : List AV) : xcall C M unr d 36 [(.lst a0)] =
 cnd (decide ((((List.length a0) : Nat) : Int) < 3))
 (some bf)
 (cnd (decide ((((List.length a0) : Nat) : Int) > 8))
 (some bf)
 (C.bool (pcall M d 37 [(.lst a0), (.fn 41 [] [])]) fun b0 =>
 cnd b0
 (some bf)
 (C.iter (r36R0 C d a0 b0) 10000000000000000000 ⟨[(.lst a0), tz, bf, (iz (((List.length a0) : Nat) : Int)), tz, tz, (.lst a0), (iz (((List.length a0) : Nat) : Int)), (iz (((List.length a0) : Nat) : Int)), (.bool (decide ((((List.length a0) : Nat) : Int) < 3))), bf, (iz (((List.length a0) : Nat) : Int)), (.bool (decide ((((List.length a0) : Nat) : Int) > 8))), (.bool (decide ((((List.length a0) : Nat) : Int) > 8))), bf, (.lst a0), (.bool b0), bf, (iz (((List.length a0) : Nat) : Int)), (iz 0), tz, tz, tz, tz, tz, tz, tz, tz, tz, tz, tz, tz, tz, tz, tz, tz, tz, tz, tz, tz, tz, tz, tz, tz], []⟩ [0] [r36X0_0 C d a0 b0] (r36E0 C d a0 b0)))) := by kernel_rfl
/-- slices.ContainsFunc[[]apogee/api.Point,apogee/api.Point] -/
theorem r37f41 (C : Cb) (d : Nat) (a0 : List AV) (a1 : AV) : xcall C M unr d 37 [(.lst a0), (.fn 41 [] [])] =
 C.int .i64 (pcall M d 44 [(.lst a0), (.fn 41 [] [])]) fun x0 =>
 some (.bool (decide (x0 ≥ 0))) := by kernel_rfl
/-- slices.ContainsFunc[[]apogee/api.Point,apogee/api.Point] -/
theorem r37f38 (C : Cb) (d : Nat) (a0 : List AV) (a1 : AV) : xcall C M unr d 37 [(.lst a0), (.fn 38 [] [])] =
 C.int .i64 (pcall M d 44 [(.lst a0), (.fn 38 [] [])]) fun x0 =>
 some (.bool (decide (x0 ≥ 0))) := by kernel_rfl
/-- apogee/poly.far -/
theorem r38 (C : Cb) (d : Nat) (a0 a1 : Int) : xcall C M unr d 38 [(.agg [(iz a0), (iz a1)])] =
 some (.bool (decide ((if ((IntKind.wrap .i64 (0 - a1)) > (if (a1 > (if ((IntKind.wrap .i64 (0 - a0)) > a0) then (IntKind.wrap .i64 (0 - a0)) else a0)) then a1 else (if ((IntKind.wrap .i64 (0 - a0)) > a0) then (IntKind.wrap .i64 (0 - a0)) else a0))) then (IntKind.wrap .i64 (0 - a1)) else (if (a1 > (if ((IntKind.wrap .i64 (0 - a0)) > a0) then (IntKind.wrap .i64 (0 - a0)) else a0)) then a1 else (if ((IntKind.wrap .i64 (0 - a0)) > a0) then (IntKind.wrap .i64 (0 - a0)) else a0))) > 1073741824))) := by kernel_rfl
/-- apogee/poly.Simple$1 -/
theorem r41 (C : Cb) (d : Nat) (a0 a1 : Int) : xcall C M unr d 41 [(.agg [(iz a0), (iz a1)])] =
 C.bool (pcall M d 42 [(.agg [(iz a0), (iz a1)])]) fun b0 =>
 some (.bool (!b0)) := by kernel_rfl
/-- apogee/poly.apart -/
theorem r43 (C : Cb) (d : Nat) (a0 : List AV) (a1 a2 : Int) : xcall C M unr d 43 [(.lst a0), (iz a1), (iz a2)] =
 C.tup 2 (pcall M d 50 [(.lst a0), (iz a1)]) fun l0 =>
 C.agg 2 l0[0]? fun l1 =>
 C.int .i64 l1[0]? fun x2 =>
 C.int .i64 l1[1]? fun x3 =>
 C.agg 2 l0[1]? fun l4 =>
 C.int .i64 l4[0]? fun x5 =>
 C.int .i64 l4[1]? fun x6 =>
 C.tup 2 (pcall M d 50 [(.lst a0), (iz a2)]) fun l7 =>
 C.agg 2 l7[0]? fun l8 =>
 C.int .i64 l8[0]? fun x9 =>
 C.int .i64 l8[1]? fun x10 =>
 C.agg 2 l7[1]? fun l11 =>
 C.int .i64 l11[0]? fun x12 =>
 C.int .i64 l11[1]? fun x13 =>
 cnd (decide ((((List.length a0) : Nat) : Int) = 0))
 (none)
 (cnd ((Int.tmod (IntKind.wrap .i64 (a1 + 1)) (((List.length a0) : Nat) : Int)) == a2)
 (C.bool (pcall M d 51 [(.agg [(iz x12), (iz x13)]), (.agg [(iz x2), (iz x3)]), (.agg [(iz x5), (iz x6)])]) fun b14 =>
 cnd (!b14)
 (C.bool (pcall M d 51 [(.agg [(iz x2), (iz x3)]), (.agg [(iz x9), (iz x10)]), (.agg [(iz x12), (iz x13)])]) fun b15 =>
 some (.bool (!b15)))
 (some bf))
 (cnd (decide ((((List.length a0) : Nat) : Int) = 0))
 (none)
 (cnd ((Int.tmod (IntKind.wrap .i64 (a2 + 1)) (((List.length a0) : Nat) : Int)) == a1)
 (C.bool (pcall M d 51 [(.agg [(iz x9), (iz x10)]), (.agg [(iz x2), (iz x3)]), (.agg [(iz x5), (iz x6)])]) fun b16 =>
 cnd (!b16)
 (C.bool (pcall M d 51 [(.agg [(iz x5), (iz x6)]), (.agg [(iz x9), (iz x10)]), (.agg [(iz x12), (iz x13)])]) fun b17 =>
 some (.bool (!b17)))
 (some bf))
 (C.bool (pcall M d 52 [(.agg [(iz x2), (iz x3)]), (.agg [(iz x5), (iz x6)]), (.agg [(iz x9), (iz x10)]), (.agg [(iz x12), (iz x13)])]) fun b18 =>
 some (.bool (!b18)))))) := by kernel_rfl
def r44f41R0 (C : Cb) (d : Nat) (a0 : List AV) : St → (Ex → St → Ans) → Ans := fun s0 k1 =>
 cnd ((List.length s0.env) == 19)
 (C.same s0.env[0]? (.lst a0) <|
 C.same s0.env[1]? (.fn 41 [] []) <|
 C.same s0.env[2]? tz <|
 C.same s0.env[3]? tz <|
 C.int .i64 s0.env[4]? fun x3 =>
 C.any s0.env[5]? fun v4 =>
 C.same s0.env[6]? (.lst a0) <|
 C.same s0.env[7]? (iz (((List.length a0) : Nat) : Int)) <|
 C.int .i64 s0.env[8]? fun x5 =>
 C.any s0.env[9]? fun v6 =>
 C.any s0.env[10]? fun v7 =>
 C.any s0.env[11]? fun v8 =>
 C.any s0.env[12]? fun v9 =>
 C.any s0.env[13]? fun v10 =>
 C.any s0.env[14]? fun v11 =>
 C.any s0.env[15]? fun v12 =>
 C.any s0.env[16]? fun v13 =>
 C.any s0.env[17]? fun v14 =>
 C.any s0.env[18]? fun v15 =>
 C.sameH (St.H s0) [] <|
 cnd (decide (x5 < (((List.length a0) : Nat) : Int)))
 (cnd (decide ((0 : Int) ≤ x5))
 (C.agg 2 a0[(Int.toNat x5)]? fun l16 =>
 C.int .i64 l16[0]? fun x17 =>
 C.int .i64 l16[1]? fun x18 =>
 C.bool (pcall M d 41 [(.agg [(iz x17), (iz x18)])]) fun b19 =>
 cnd b19
 (k1 .ret ⟨[(.lst a0), (.fn 41 [] []), tz, tz, (iz x5), (iz x5), (.lst a0), (iz (((List.length a0) : Nat) : Int)), (iz x5), bt, (iz x5), (.fn 41 [] []), (.lst a0), (iz x5), (.fptr (.agg [(iz x17), (iz x18)]) 0), (.agg [(iz x17), (iz x18)]), bt, (iz x5), v15], []⟩)
 (k1 .normal ⟨[(.lst a0), (.fn 41 [] []), tz, tz, (iz x3), (iz x5), (.lst a0), (iz (((List.length a0) : Nat) : Int)), (iz (IntKind.wrap .i64 (x5 + 1))), bt, (iz x5), (.fn 41 [] []), (.lst a0), (iz x5), (.fptr (.agg [(iz x17), (iz x18)]) 0), (.agg [(iz x17), (iz x18)]), bf, v14, (iz (IntKind.wrap .i64 (x5 + 1)))], []⟩))
 (none))
 (k1 (.exit 0) ⟨[(.lst a0), (.fn 41 [] []), tz, tz, (iz x3), v4, (.lst a0), (iz (((List.length a0) : Nat) : Int)), (iz x5), bf, v7, v8, v9, v10, v11, v12, v13, v14, v15], []⟩))
 (none)
def r44f41X0_0 (C : Cb) (d : Nat) (a0 : List AV) : St → Ans := fun s20 =>
 cnd ((List.length s20.env) == 19)
 (C.same s20.env[0]? (.lst a0) <|
 C.same s20.env[1]? (.fn 41 [] []) <|
 C.same s20.env[2]? tz <|
 C.same s20.env[3]? tz <|
 C.int .i64 s20.env[4]? fun x21 =>
 C.any s20.env[5]? fun v22 =>
 C.same s20.env[6]? (.lst a0) <|
 C.same s20.env[7]? (iz (((List.length a0) : Nat) : Int)) <|
 C.int .i64 s20.env[8]? fun x23 =>
 C.any s20.env[9]? fun v24 =>
 C.any s20.env[10]? fun v25 =>
 C.any s20.env[11]? fun v26 =>
 C.any s20.env[12]? fun v27 =>
 C.any s20.env[13]? fun v28 =>
 C.any s20.env[14]? fun v29 =>
 C.any s20.env[15]? fun v30 =>
 C.any s20.env[16]? fun v31 =>
 C.any s20.env[17]? fun v32 =>
 C.any s20.env[18]? fun v33 =>
 C.sameH (St.H s20) [] <|
 some (iz (-1)))
 (none)
def r44f41E0 (C : Cb) (d : Nat) (a0 : List AV) : St → Ans := fun s2 =>
 cnd ((List.length s2.env) == 19)
 (C.same s2.env[0]? (.lst a0) <|
 C.same s2.env[1]? (.fn 41 [] []) <|
 C.same s2.env[2]? tz <|
 C.same s2.env[3]? tz <|
 C.int .i64 s2.env[4]? fun x34 =>
 C.int .i64 s2.env[5]? fun x35 =>
 C.same s2.env[6]? (.lst a0) <|
 C.same s2.env[7]? (iz (((List.length a0) : Nat) : Int)) <|
 C.int .i64 s2.env[8]? fun x36 =>
 C.any s2.env[9]? fun v37 =>
 C.int .i64 s2.env[10]? fun x38 =>
 C.any s2.env[11]? fun v39 =>
 C.any s2.env[12]? fun v40 =>
 C.int .i64 s2.env[13]? fun x41 =>
 C.any s2.env[14]? fun v42 =>
 C.agg 2 s2.env[15]? fun l43 =>
 C.int .i64 l43[0]? fun x44 =>
 C.int .i64 l43[1]? fun x45 =>
 C.bool s2.env[16]? fun b46 =>
 C.int .i64 s2.env[17]? fun x47 =>
 C.any s2.env[18]? fun v48 =>
 C.sameH (St.H s2) [] <|
 some (iz x34))
 (none)
/-- slices.IndexFunc[[]apogee/api.Point,apogee/api.Point] -/
theorem r44f41 (C : Cb) (d : Nat) (a0 : List AV) (a1 : AV) : xcall C M unr d 44 [(.lst a0), (.fn 41 [] [])] =
 C.iter (r44f41R0 C d a0) 10000000000000000000 ⟨[(.lst a0), (.fn 41 [] []), tz, tz, (iz 0), tz, (.lst a0), (iz (((List.length a0) : Nat) : Int)), (iz 0), tz, tz, tz, tz, tz, tz, tz, tz, tz, tz], []⟩ [0] [r44f41X0_0 C d a0] (r44f41E0 C d a0) := by kernel_rfl
def r44f38R0 (C : Cb) (d : Nat) (a0 : List AV) : St → (Ex → St → Ans) → Ans := fun s0 k1 =>
 cnd ((List.length s0.env) == 19)
 (C.same s0.env[0]? (.lst a0) <|
 C.same s0.env[1]? (.fn 38 [] []) <|
 C.same s0.env[2]? tz <|
 C.same s0.env[3]? tz <|
 C.int .i64 s0.env[4]? fun x3 =>
 C.any s0.env[5]? fun v4 =>
 C.same s0.env[6]? (.lst a0) <|
 C.same s0.env[7]? (iz (((List.length a0) : Nat) : Int)) <|
 C.int .i64 s0.env[8]? fun x5 =>
 C.any s0.env[9]? fun v6 =>
 C.any s0.env[10]? fun v7 =>
 C.any s0.env[11]? fun v8 =>
 C.any s0.env[12]? fun v9 =>
 C.any s0.env[13]? fun v10 =>
 C.any s0.env[14]? fun v11 =>
 C.any s0.env[15]? fun v12 =>
 C.any s0.env[16]? fun v13 =>
 C.any s0.env[17]? fun v14 =>
 C.any s0.env[18]? fun v15 =>
 C.sameH (St.H s0) [] <|
 cnd (decide (x5 < (((List.length a0) : Nat) : Int)))
 (cnd (decide ((0 : Int) ≤ x5))
 (C.agg 2 a0[(Int.toNat x5)]? fun l16 =>
 C.int .i64 l16[0]? fun x17 =>
 C.int .i64 l16[1]? fun x18 =>
 C.bool (pcall M d 38 [(.agg [(iz x17), (iz x18)])]) fun b19 =>
 cnd b19
 (k1 .ret ⟨[(.lst a0), (.fn 38 [] []), tz, tz, (iz x5), (iz x5), (.lst a0), (iz (((List.length a0) : Nat) : Int)), (iz x5), bt, (iz x5), (.fn 38 [] []), (.lst a0), (iz x5), (.fptr (.agg [(iz x17), (iz x18)]) 0), (.agg [(iz x17), (iz x18)]), bt, (iz x5), v15], []⟩)
 (k1 .normal ⟨[(.lst a0), (.fn 38 [] []), tz, tz, (iz x3), (iz x5), (.lst a0), (iz (((List.length a0) : Nat) : Int)), (iz (IntKind.wrap .i64 (x5 + 1))), bt, (iz x5), (.fn 38 [] []), (.lst a0), (iz x5), (.fptr (.agg [(iz x17), (iz x18)]) 0), (.agg [(iz x17), (iz x18)]), bf, v14, (iz (IntKind.wrap .i64 (x5 + 1)))], []⟩))
 (none))
 (k1 (.exit 0) ⟨[(.lst a0), (.fn 38 [] []), tz, tz, (iz x3), v4, (.lst a0), (iz (((List.length a0) : Nat) : Int)), (iz x5), bf, v7, v8, v9, v10, v11, v12, v13, v14, v15], []⟩))
 (none)
def r44f38X0_0 (C : Cb) (d : Nat) (a0 : List AV) : St → Ans := fun s20 =>
 cnd ((List.length s20.env) == 19)
 (C.same s20.env[0]? (.lst a0) <|
 C.same s20.env[1]? (.fn 38 [] []) <|
 C.same s20.env[2]? tz <|
 C.same s20.env[3]? tz <|
 C.int .i64 s20.env[4]? fun x21 =>
 C.any s20.env[5]? fun v22 =>
 C.same s20.env[6]? (.lst a0) <|
 C.same s20.env[7]? (iz (((List.length a0) : Nat) : Int)) <|
 C.int .i64 s20.env[8]? fun x23 =>
 C.any s20.env[9]? fun v24 =>
 C.any s20.env[10]? fun v25 =>
 C.any s20.env[11]? fun v26 =>
 C.any s20.env[12]? fun v27 =>
 C.any s20.env[13]? fun v28 =>
 C.any s20.env[14]? fun v29 =>
 C.any s20.env[15]? fun v30 =>
 C.any s20.env[16]? fun v31 =>
 C.any s20.env[17]? fun v32 =>
 C.any s20.env[18]? fun v33 =>
 C.sameH (St.H s20) [] <|
 some (iz (-1)))
 (none)
def r44f38E0 (C : Cb) (d : Nat) (a0 : List AV) : St → Ans := fun s2 =>
 cnd ((List.length s2.env) == 19)
 (C.same s2.env[0]? (.lst a0) <|
 C.same s2.env[1]? (.fn 38 [] []) <|
 C.same s2.env[2]? tz <|
 C.same s2.env[3]? tz <|
 C.int .i64 s2.env[4]? fun x34 =>
 C.int .i64 s2.env[5]? fun x35 =>
 C.same s2.env[6]? (.lst a0) <|
 C.same s2.env[7]? (iz (((List.length a0) : Nat) : Int)) <|
 C.int .i64 s2.env[8]? fun x36 =>
 C.any s2.env[9]? fun v37 =>
 C.int .i64 s2.env[10]? fun x38 =>
 C.any s2.env[11]? fun v39 =>
 C.any s2.env[12]? fun v40 =>
 C.int .i64 s2.env[13]? fun x41 =>
 C.any s2.env[14]? fun v42 =>
 C.agg 2 s2.env[15]? fun l43 =>
 C.int .i64 l43[0]? fun x44 =>
 C.int .i64 l43[1]? fun x45 =>
 C.bool s2.env[16]? fun b46 =>
 C.int .i64 s2.env[17]? fun x47 =>
 C.any s2.env[18]? fun v48 =>
 C.sameH (St.H s2) [] <|
 some (iz x34))
 (none)
/-- slices.IndexFunc[[]apogee/api.Point,apogee/api.Point] -/
theorem r44f38 (C : Cb) (d : Nat) (a0 : List AV) (a1 : AV) : xcall C M unr d 44 [(.lst a0), (.fn 38 [] [])] =
 C.iter (r44f38R0 C d a0) 10000000000000000000 ⟨[(.lst a0), (.fn 38 [] []), tz, tz, (iz 0), tz, (.lst a0), (iz (((List.length a0) : Nat) : Int)), (iz 0), tz, tz, tz, tz, tz, tz, tz, tz, tz, tz], []⟩ [0] [r44f38X0_0 C d a0] (r44f38E0 C d a0) := by kernel_rfl
/-- apogee/poly.edge -/
theorem r50 (C : Cb) (d : Nat) (a0 : List AV) (a1 : Int) : xcall C M unr d 50 [(.lst a0), (iz a1)] =
 cnd (decide ((0 : Int) ≤ a1))
 (C.agg 2 a0[(Int.toNat a1)]? fun l0 =>
 C.int .i64 l0[0]? fun x1 =>
 C.int .i64 l0[1]? fun x2 =>
 cnd (decide ((((List.length a0) : Nat) : Int) = 0))
 (none)
 (cnd (decide ((0 : Int) ≤ (Int.tmod (IntKind.wrap .i64 (a1 + 1)) (((List.length a0) : Nat) : Int))))
 (C.agg 2 a0[(Int.toNat (Int.tmod (IntKind.wrap .i64 (a1 + 1)) (((List.length a0) : Nat) : Int)))]? fun l3 =>
 C.int .i64 l3[0]? fun x4 =>
 C.int .i64 l3[1]? fun x5 =>
 some (.tup [(.agg [(iz x1), (iz x2)]), (.agg [(iz x4), (iz x5)])]))
 (none)))
 (none) := by kernel_rfl
end Go.Proofs.Ytffiilnmfmkpmaa.AE

namespace Go.Proofs.Ytffiilnmfmkpmaa.AE
set_option linter.unusedVariables false
set_option linter.unusedSimpArgs false
set_option linter.constructorNameAsVariable false
open Go
set_option maxRecDepth 100000
set_option maxHeartbeats 0
noncomputable def X36_1_0 (d : Nat) (a0 : List AV) (x7 : Int) (k2N : Int → Ans) (k2R : Bool → Ans)  : Ans :=
  k2N (IntKind.wrap .i64 (x7 + 1))
theorem X36_1_0_ok (d : Nat) (a0 : List AV) (b0 : Bool) (k2 : Ex → St → Ans) (x7 : Int) (v31 : AV) (k2N : Int → Ans) (k2R : Bool → Ans) (hk2N : ∀ (b4 : Bool) (v5 v6 : AV) (x7 : Int) (v8 v9 v10 v11 v12 v13 v14 v15 v16 v17 v18 v19 v20 v21 v22 v23 v24 v25 v26 v27 v28 v29 v30 v31 : AV), k2 .normal ⟨[(.lst a0), tz, (.bool b4), (iz (((List.length a0) : Nat) : Int)), v5, v6, (.lst a0), (iz (((List.length a0) : Nat) : Int)), (iz (((List.length a0) : Nat) : Int)), (.bool (decide ((((List.length a0) : Nat) : Int) < 3))), bf, (iz (((List.length a0) : Nat) : Int)), (.bool (decide ((((List.length a0) : Nat) : Int) > 8))), (.bool (decide ((((List.length a0) : Nat) : Int) > 8))), bf, (.lst a0), (.bool b0), bf, (iz (((List.length a0) : Nat) : Int)), (iz x7), v8, v9, v10, v11, v12, v13, v14, v15, v16, v17, v18, v19, v20, v21, v22, v23, v24, v25, v26, v27, v28, v29, v30, v31], []⟩ = k2N x7) (hk2R : ∀ (b142 : Bool) (x143 x144 x145 : Int) (b146 : Bool) (x147 x148 x149 : Int) (b150 : Bool) (x151 : Int) (v152 : AV) (x153 : Int) (v154 : AV) (x156 x157 : Int) (v158 : AV) (x159 : Int) (v160 : AV) (x162 x163 : Int) (b164 b165 : Bool) (v166 v167 v168 v169 v170 : AV) (b171 : Bool) (v172 v173 : AV), k2 .ret ⟨[(.lst a0), tz, (.bool b142), (iz (((List.length a0) : Nat) : Int)), (iz x143), (iz x144), (.lst a0), (iz (((List.length a0) : Nat) : Int)), (iz (((List.length a0) : Nat) : Int)), (.bool (decide ((((List.length a0) : Nat) : Int) < 3))), bf, (iz (((List.length a0) : Nat) : Int)), (.bool (decide ((((List.length a0) : Nat) : Int) > 8))), (.bool (decide ((((List.length a0) : Nat) : Int) > 8))), bf, (.lst a0), (.bool b0), bf, (iz (((List.length a0) : Nat) : Int)), (iz x145), (.bool b146), (iz x147), (iz x148), (iz x149), (.bool b150), (iz x151), v152, (iz x153), v154, (.agg [(iz x156), (iz x157)]), v158, (iz x159), v160, (.agg [(iz x162), (iz x163)]), (.bool b164), (.bool b165), v166, v167, v168, v169, v170, (.bool b171), v172, v173], []⟩ = k2R b142) (b65 : Bool) (v66 : AV) (x67 : Int) (b68 : Bool) (v69 v70 v71 v72 v73 v74 v75 v76 v77 v78 v79 v80 v81 v82 v83 v84 v85 v86 : AV) : r36X1_0 C0 d a0 b0 k2 x7 v31 ⟨[(.lst a0), tz, (.bool b65), (iz (((List.length a0) : Nat) : Int)), (iz x7), v66, (.lst a0), (iz (((List.length a0) : Nat) : Int)), (iz (((List.length a0) : Nat) : Int)), (.bool (decide ((((List.length a0) : Nat) : Int) < 3))), bf, (iz (((List.length a0) : Nat) : Int)), (.bool (decide ((((List.length a0) : Nat) : Int) > 8))), (.bool (decide ((((List.length a0) : Nat) : Int) > 8))), bf, (.lst a0), (.bool b0), bf, (iz (((List.length a0) : Nat) : Int)), (iz x7), bt, (iz x7), (iz x7), (iz x67), (.bool b68), v69, v70, v71, v72, v73, v74, v75, v76, v77, v78, v79, v80, v81, v82, v83, v84, v85, v86, v31], []⟩ = X36_1_0 d a0 x7 k2N k2R  := by
  try dsimp only at hk2N
  try dsimp only at hk2R
  unfold r36X1_0; refine Eq.trans (pl_len (by rfl)) ?_; (iterate 2 (refine yt yS ?_)); refine yt yB ?_; (iterate 2 (refine yt yS ?_)); refine yt yA ?_; (iterate 17 (refine yt yS ?_)); refine yt yI ?_; refine yt yB ?_; (iterate 18 (refine yt yA ?_)); refine yt yS ?_; refine Eq.trans (pl_sameH) ?_
  first | (simp only [hk2N, hk2R] <;> rfl) | rfl
noncomputable def E36_1 (d : Nat) (a0 : List AV) (x7 : Int) (k2N : Int → Ans) (k2R : Bool → Ans) (b87 : Bool) : Ans :=
  k2R b87
theorem E36_1_ok (d : Nat) (a0 : List AV) (b0 : Bool) (k2 : Ex → St → Ans) (x7 : Int) (v31 : AV) (k2N : Int → Ans) (k2R : Bool → Ans) (hk2N : ∀ (b4 : Bool) (v5 v6 : AV) (x7 : Int) (v8 v9 v10 v11 v12 v13 v14 v15 v16 v17 v18 v19 v20 v21 v22 v23 v24 v25 v26 v27 v28 v29 v30 v31 : AV), k2 .normal ⟨[(.lst a0), tz, (.bool b4), (iz (((List.length a0) : Nat) : Int)), v5, v6, (.lst a0), (iz (((List.length a0) : Nat) : Int)), (iz (((List.length a0) : Nat) : Int)), (.bool (decide ((((List.length a0) : Nat) : Int) < 3))), bf, (iz (((List.length a0) : Nat) : Int)), (.bool (decide ((((List.length a0) : Nat) : Int) > 8))), (.bool (decide ((((List.length a0) : Nat) : Int) > 8))), bf, (.lst a0), (.bool b0), bf, (iz (((List.length a0) : Nat) : Int)), (iz x7), v8, v9, v10, v11, v12, v13, v14, v15, v16, v17, v18, v19, v20, v21, v22, v23, v24, v25, v26, v27, v28, v29, v30, v31], []⟩ = k2N x7) (hk2R : ∀ (b142 : Bool) (x143 x144 x145 : Int) (b146 : Bool) (x147 x148 x149 : Int) (b150 : Bool) (x151 : Int) (v152 : AV) (x153 : Int) (v154 : AV) (x156 x157 : Int) (v158 : AV) (x159 : Int) (v160 : AV) (x162 x163 : Int) (b164 b165 : Bool) (v166 v167 v168 v169 v170 : AV) (b171 : Bool) (v172 v173 : AV), k2 .ret ⟨[(.lst a0), tz, (.bool b142), (iz (((List.length a0) : Nat) : Int)), (iz x143), (iz x144), (.lst a0), (iz (((List.length a0) : Nat) : Int)), (iz (((List.length a0) : Nat) : Int)), (.bool (decide ((((List.length a0) : Nat) : Int) < 3))), bf, (iz (((List.length a0) : Nat) : Int)), (.bool (decide ((((List.length a0) : Nat) : Int) > 8))), (.bool (decide ((((List.length a0) : Nat) : Int) > 8))), bf, (.lst a0), (.bool b0), bf, (iz (((List.length a0) : Nat) : Int)), (iz x145), (.bool b146), (iz x147), (iz x148), (iz x149), (.bool b150), (iz x151), v152, (iz x153), v154, (.agg [(iz x156), (iz x157)]), v158, (iz x159), v160, (.agg [(iz x162), (iz x163)]), (.bool b164), (.bool b165), v166, v167, v168, v169, v170, (.bool b171), v172, v173], []⟩ = k2R b142) (b87 : Bool) (x88 x89 : Int) (b90 : Bool) (x91 : Int) (v92 : AV) (x93 : Int) (v94 : AV) (x96 x97 : Int) (v98 : AV) (x99 : Int) (v100 : AV) (x102 x103 : Int) (b104 b105 : Bool) (v106 v107 v108 v109 v110 : AV) (b111 : Bool) (v112 : AV) : r36E1 C0 d a0 b0 k2 x7 v31 ⟨[(.lst a0), tz, (.bool b87), (iz (((List.length a0) : Nat) : Int)), (iz x7), (iz x88), (.lst a0), (iz (((List.length a0) : Nat) : Int)), (iz (((List.length a0) : Nat) : Int)), (.bool (decide ((((List.length a0) : Nat) : Int) < 3))), bf, (iz (((List.length a0) : Nat) : Int)), (.bool (decide ((((List.length a0) : Nat) : Int) > 8))), (.bool (decide ((((List.length a0) : Nat) : Int) > 8))), bf, (.lst a0), (.bool b0), bf, (iz (((List.length a0) : Nat) : Int)), (iz x7), bt, (iz x7), (iz x7), (iz x89), (.bool b90), (iz x91), v92, (iz x93), v94, (.agg [(iz x96), (iz x97)]), v98, (iz x99), v100, (.agg [(iz x102), (iz x103)]), (.bool b104), (.bool b105), v106, v107, v108, v109, v110, (.bool b111), v112, v31], []⟩ = E36_1 d a0 x7 k2N k2R b87 := by
  try dsimp only at hk2N
  try dsimp only at hk2R
  unfold r36E1; refine Eq.trans (pl_len (by rfl)) ?_; (iterate 2 (refine yt yS ?_)); refine yt yB ?_; (iterate 2 (refine yt yS ?_)); refine yt yI ?_; (iterate 17 (refine yt yS ?_)); refine yt yI ?_; refine yt yB ?_; refine yt yI ?_; refine yt yA ?_; refine yt yI ?_; refine yt yA ?_; refine yt yG ?_; (iterate 2 (refine yt yI ?_)); refine yt yA ?_; refine yt yI ?_; refine yt yA ?_; refine yt yG ?_; (iterate 2 (refine yt yI ?_)); (iterate 2 (refine yt yB ?_)); (iterate 5 (refine yt yA ?_)); refine yt yB ?_; refine yt yA ?_; refine yt yS ?_; refine Eq.trans (pl_sameH) ?_
  first | (simp only [hk2N, hk2R] <;> rfl) | rfl
noncomputable def L36_1 (d : Nat) (a0 : List AV) (x7 : Int) (k2N : Int → Ans) (k2R : Bool → Ans) : Nat → Int → Ans
  | 0, _ => none
  | n + 1, x37 =>
  cnd (decide (x37 < x7))
   (cnd (decide ((0 : Int) ≤ x7))
   (C0.agg 2 a0[(Int.toNat x7)]? fun l57 =>
   C0.int .i64 l57[0]? fun x58 =>
   C0.int .i64 l57[1]? fun x59 =>
   cnd (decide ((0 : Int) ≤ x37))
   (C0.agg 2 a0[(Int.toNat x37)]? fun l60 =>
   C0.int .i64 l60[0]? fun x61 =>
   C0.int .i64 l60[1]? fun x62 =>
   cnd (xor false ((x58 == x61) && ((x59 == x62) && true)))
   (E36_1 d a0 x7 k2N k2R false)
   (C0.bool (pcall M d 43 [(.lst a0), (iz x37), (iz x7)]) fun b63 =>
   cnd (!b63)
   (E36_1 d a0 x7 k2N k2R false)
   (L36_1 d a0 x7 k2N k2R n (IntKind.wrap .i64 (x37 + 1)))))
   (none))
   (none))
   (X36_1_0 d a0 x7 k2N k2R)
theorem L36_1_s (d : Nat) (a0 : List AV) (x7 : Int) (k2N : Int → Ans) (k2R : Bool → Ans) (n : Nat) (x37 : Int) : L36_1 d a0 x7 k2N k2R (n + 1) x37 = (cnd (decide (x37 < x7))
   (cnd (decide ((0 : Int) ≤ x7))
   (C0.agg 2 a0[(Int.toNat x7)]? fun l57 =>
   C0.int .i64 l57[0]? fun x58 =>
   C0.int .i64 l57[1]? fun x59 =>
   cnd (decide ((0 : Int) ≤ x37))
   (C0.agg 2 a0[(Int.toNat x37)]? fun l60 =>
   C0.int .i64 l60[0]? fun x61 =>
   C0.int .i64 l60[1]? fun x62 =>
   cnd (xor false ((x58 == x61) && ((x59 == x62) && true)))
   (E36_1 d a0 x7 k2N k2R false)
   (C0.bool (pcall M d 43 [(.lst a0), (iz x37), (iz x7)]) fun b63 =>
   cnd (!b63)
   (E36_1 d a0 x7 k2N k2R false)
   (L36_1 d a0 x7 k2N k2R n (IntKind.wrap .i64 (x37 + 1)))))
   (none))
   (none))
   (X36_1_0 d a0 x7 k2N k2R)) := by kernel_rfl
theorem it36_1 (d : Nat) (a0 : List AV) (b0 : Bool) (k2 : Ex → St → Ans) (x7 : Int) (v31 : AV) (k2N : Int → Ans) (k2R : Bool → Ans) (hk2N : ∀ (b4 : Bool) (v5 v6 : AV) (x7 : Int) (v8 v9 v10 v11 v12 v13 v14 v15 v16 v17 v18 v19 v20 v21 v22 v23 v24 v25 v26 v27 v28 v29 v30 v31 : AV), k2 .normal ⟨[(.lst a0), tz, (.bool b4), (iz (((List.length a0) : Nat) : Int)), v5, v6, (.lst a0), (iz (((List.length a0) : Nat) : Int)), (iz (((List.length a0) : Nat) : Int)), (.bool (decide ((((List.length a0) : Nat) : Int) < 3))), bf, (iz (((List.length a0) : Nat) : Int)), (.bool (decide ((((List.length a0) : Nat) : Int) > 8))), (.bool (decide ((((List.length a0) : Nat) : Int) > 8))), bf, (.lst a0), (.bool b0), bf, (iz (((List.length a0) : Nat) : Int)), (iz x7), v8, v9, v10, v11, v12, v13, v14, v15, v16, v17, v18, v19, v20, v21, v22, v23, v24, v25, v26, v27, v28, v29, v30, v31], []⟩ = k2N x7) (hk2R : ∀ (b142 : Bool) (x143 x144 x145 : Int) (b146 : Bool) (x147 x148 x149 : Int) (b150 : Bool) (x151 : Int) (v152 : AV) (x153 : Int) (v154 : AV) (x156 x157 : Int) (v158 : AV) (x159 : Int) (v160 : AV) (x162 x163 : Int) (b164 b165 : Bool) (v166 v167 v168 v169 v170 : AV) (b171 : Bool) (v172 v173 : AV), k2 .ret ⟨[(.lst a0), tz, (.bool b142), (iz (((List.length a0) : Nat) : Int)), (iz x143), (iz x144), (.lst a0), (iz (((List.length a0) : Nat) : Int)), (iz (((List.length a0) : Nat) : Int)), (.bool (decide ((((List.length a0) : Nat) : Int) < 3))), bf, (iz (((List.length a0) : Nat) : Int)), (.bool (decide ((((List.length a0) : Nat) : Int) > 8))), (.bool (decide ((((List.length a0) : Nat) : Int) > 8))), bf, (.lst a0), (.bool b0), bf, (iz (((List.length a0) : Nat) : Int)), (iz x145), (.bool b146), (iz x147), (iz x148), (iz x149), (.bool b150), (iz x151), v152, (iz x153), v154, (.agg [(iz x156), (iz x157)]), v158, (iz x159), v160, (.agg [(iz x162), (iz x163)]), (.bool b164), (.bool b165), v166, v167, v168, v169, v170, (.bool b171), v172, v173], []⟩ = k2R b142) : ∀ (n : Nat) (b35 : Bool) (v36 : AV) (x37 : Int) (v38 v39 v40 v41 v42 v43 v44 v45 v46 v47 v48 v49 v50 v51 v52 v53 v54 v55 v56 : AV), C0.iter (r36R1 C0 d a0 b0 k2 x7 v31) n ⟨[(.lst a0), tz, (.bool b35), (iz (((List.length a0) : Nat) : Int)), (iz x7), v36, (.lst a0), (iz (((List.length a0) : Nat) : Int)), (iz (((List.length a0) : Nat) : Int)), (.bool (decide ((((List.length a0) : Nat) : Int) < 3))), bf, (iz (((List.length a0) : Nat) : Int)), (.bool (decide ((((List.length a0) : Nat) : Int) > 8))), (.bool (decide ((((List.length a0) : Nat) : Int) > 8))), bf, (.lst a0), (.bool b0), bf, (iz (((List.length a0) : Nat) : Int)), (iz x7), bt, (iz x7), (iz x7), (iz x37), v38, v39, v40, v41, v42, v43, v44, v45, v46, v47, v48, v49, v50, v51, v52, v53, v54, v55, v56, v31], []⟩ [2] [r36X1_0 C0 d a0 b0 k2 x7 v31] (r36E1 C0 d a0 b0 k2 x7 v31) = L36_1 d a0 x7 k2N k2R n x37 := by
  generalize hR : r36R1 C0 d a0 b0 k2 x7 v31 = R
  intro n
  induction n with
  | zero => intros; rfl
  | succ n ih =>
    intro b35 v36 x37 v38 v39 v40 v41 v42 v43 v44 v45 v46 v47 v48 v49 v50 v51 v52 v53 v54 v55 v56
    simp only [it_ret] at ih
    rw [it_ret, xiter_s]
    refine Eq.trans (congrFun (congrFun hR.symm _) _) ?_
    unfold r36R1
    refine Eq.trans (pl_len (by rfl)) ?_; (iterate 2 (refine yt yS ?_)); refine yt yB ?_; (iterate 2 (refine yt yS ?_)); refine yt yA ?_; (iterate 17 (refine yt yS ?_)); refine yt yI ?_; (iterate 19 (refine yt yA ?_)); refine yt yS ?_; refine Eq.trans (pl_sameH) ?_
    simp only [kIter_n, kIter_x, kIter_r, kOut_x, kOut_r, xgo_hit, xgo_miss, ih, X36_1_0_ok d a0 b0 k2 x7 v31 k2N k2R hk2N hk2R, E36_1_ok d a0 b0 k2 x7 v31 k2N k2R hk2N hk2R]
    exact (L36_1_s d a0 x7 k2N k2R n x37).symm
noncomputable def X36_0_0 (d : Nat) (a0 : List AV)  : Ans :=
  some bt
theorem X36_0_0_ok (d : Nat) (a0 : List AV) (b0 b114 : Bool) (v115 v116 : AV) (x117 : Int) (b118 : Bool) (v119 v120 v121 v122 v123 v124 v125 v126 v127 v128 v129 v130 v131 v132 v133 v134 v135 v136 v137 v138 v139 v140 v141 : AV) : r36X0_0 C0 d a0 b0 ⟨[(.lst a0), tz, (.bool b114), (iz (((List.length a0) : Nat) : Int)), v115, v116, (.lst a0), (iz (((List.length a0) : Nat) : Int)), (iz (((List.length a0) : Nat) : Int)), (.bool (decide ((((List.length a0) : Nat) : Int) < 3))), bf, (iz (((List.length a0) : Nat) : Int)), (.bool (decide ((((List.length a0) : Nat) : Int) > 8))), (.bool (decide ((((List.length a0) : Nat) : Int) > 8))), bf, (.lst a0), (.bool b0), bf, (iz (((List.length a0) : Nat) : Int)), (iz x117), (.bool b118), v119, v120, v121, v122, v123, v124, v125, v126, v127, v128, v129, v130, v131, v132, v133, v134, v135, v136, v137, v138, v139, v140, v141], []⟩ = X36_0_0 d a0  := by
  unfold r36X0_0; refine Eq.trans (pl_len (by rfl)) ?_; (iterate 2 (refine yt yS ?_)); refine yt yB ?_; refine yt yS ?_; (iterate 2 (refine yt yA ?_)); (iterate 13 (refine yt yS ?_)); refine yt yI ?_; refine yt yB ?_; (iterate 23 (refine yt yA ?_)); refine Eq.trans (pl_sameH) ?_
  rfl
noncomputable def E36_0 (d : Nat) (a0 : List AV) (b142 : Bool) : Ans :=
  some (.bool b142)
theorem E36_0_ok (d : Nat) (a0 : List AV) (b0 b142 : Bool) (x143 x144 x145 : Int) (b146 : Bool) (x147 x148 x149 : Int) (b150 : Bool) (x151 : Int) (v152 : AV) (x153 : Int) (v154 : AV) (x156 x157 : Int) (v158 : AV) (x159 : Int) (v160 : AV) (x162 x163 : Int) (b164 b165 : Bool) (v166 v167 v168 v169 v170 : AV) (b171 : Bool) (v172 v173 : AV) : r36E0 C0 d a0 b0 ⟨[(.lst a0), tz, (.bool b142), (iz (((List.length a0) : Nat) : Int)), (iz x143), (iz x144), (.lst a0), (iz (((List.length a0) : Nat) : Int)), (iz (((List.length a0) : Nat) : Int)), (.bool (decide ((((List.length a0) : Nat) : Int) < 3))), bf, (iz (((List.length a0) : Nat) : Int)), (.bool (decide ((((List.length a0) : Nat) : Int) > 8))), (.bool (decide ((((List.length a0) : Nat) : Int) > 8))), bf, (.lst a0), (.bool b0), bf, (iz (((List.length a0) : Nat) : Int)), (iz x145), (.bool b146), (iz x147), (iz x148), (iz x149), (.bool b150), (iz x151), v152, (iz x153), v154, (.agg [(iz x156), (iz x157)]), v158, (iz x159), v160, (.agg [(iz x162), (iz x163)]), (.bool b164), (.bool b165), v166, v167, v168, v169, v170, (.bool b171), v172, v173], []⟩ = E36_0 d a0 b142 := by
  unfold r36E0; refine Eq.trans (pl_len (by rfl)) ?_; (iterate 2 (refine yt yS ?_)); refine yt yB ?_; refine yt yS ?_; (iterate 2 (refine yt yI ?_)); (iterate 13 (refine yt yS ?_)); refine yt yI ?_; refine yt yB ?_; (iterate 3 (refine yt yI ?_)); refine yt yB ?_; refine yt yI ?_; refine yt yA ?_; refine yt yI ?_; refine yt yA ?_; refine yt yG ?_; (iterate 2 (refine yt yI ?_)); refine yt yA ?_; refine yt yI ?_; refine yt yA ?_; refine yt yG ?_; (iterate 2 (refine yt yI ?_)); (iterate 2 (refine yt yB ?_)); (iterate 5 (refine yt yA ?_)); refine yt yB ?_; (iterate 2 (refine yt yA ?_)); refine Eq.trans (pl_sameH) ?_
  rfl
noncomputable def L36_0 (d : Nat) (a0 : List AV) : Nat → Int → Ans
  | 0, _ => none
  | n + 1, x7 =>
  cnd (decide (x7 < (((List.length a0) : Nat) : Int)))
   (L36_1 d a0 x7 (fun x7 => L36_0 d a0 n x7) (fun b142 => E36_0 d a0 b142) 10000000000000000000 0)
   (X36_0_0 d a0)
theorem L36_0_s (d : Nat) (a0 : List AV) (n : Nat) (x7 : Int) : L36_0 d a0 (n + 1) x7 = (cnd (decide (x7 < (((List.length a0) : Nat) : Int)))
   (L36_1 d a0 x7 (fun x7 => L36_0 d a0 n x7) (fun b142 => E36_0 d a0 b142) 10000000000000000000 0)
   (X36_0_0 d a0)) := by kernel_rfl
theorem it36_0 (d : Nat) (a0 : List AV) (b0 : Bool)   : ∀ (n : Nat) (b4 : Bool) (v5 v6 : AV) (x7 : Int) (v8 v9 v10 v11 v12 v13 v14 v15 v16 v17 v18 v19 v20 v21 v22 v23 v24 v25 v26 v27 v28 v29 v30 v31 : AV), C0.iter (r36R0 C0 d a0 b0) n ⟨[(.lst a0), tz, (.bool b4), (iz (((List.length a0) : Nat) : Int)), v5, v6, (.lst a0), (iz (((List.length a0) : Nat) : Int)), (iz (((List.length a0) : Nat) : Int)), (.bool (decide ((((List.length a0) : Nat) : Int) < 3))), bf, (iz (((List.length a0) : Nat) : Int)), (.bool (decide ((((List.length a0) : Nat) : Int) > 8))), (.bool (decide ((((List.length a0) : Nat) : Int) > 8))), bf, (.lst a0), (.bool b0), bf, (iz (((List.length a0) : Nat) : Int)), (iz x7), v8, v9, v10, v11, v12, v13, v14, v15, v16, v17, v18, v19, v20, v21, v22, v23, v24, v25, v26, v27, v28, v29, v30, v31], []⟩ [0] [r36X0_0 C0 d a0 b0] (r36E0 C0 d a0 b0) = L36_0 d a0 n x7 := by
  generalize hR : r36R0 C0 d a0 b0 = R
  intro n
  induction n with
  | zero => intros; rfl
  | succ n ih =>
    intro b4 v5 v6 x7 v8 v9 v10 v11 v12 v13 v14 v15 v16 v17 v18 v19 v20 v21 v22 v23 v24 v25 v26 v27 v28 v29 v30 v31
    simp only [it_ret] at ih
    rw [it_ret, xiter_s]
    refine Eq.trans (congrFun (congrFun hR.symm _) _) ?_
    unfold r36R0
    refine Eq.trans (pl_len (by rfl)) ?_; (iterate 2 (refine yt yS ?_)); refine yt yB ?_; refine yt yS ?_; (iterate 2 (refine yt yA ?_)); (iterate 13 (refine yt yS ?_)); refine yt yI ?_; (iterate 24 (refine yt yA ?_)); refine Eq.trans (pl_sameH) ?_
    have I0 := it36_1 d a0 b0 (kIter R n (kOut [0] [r36X0_0 C0 d a0 b0] (r36E0 C0 d a0 b0))) x7 v31 (fun x7 => L36_0 d a0 n x7) (fun b142 => E36_0 d a0 b142) (fun b4 v5 v6 x7 v8 v9 v10 v11 v12 v13 v14 v15 v16 v17 v18 v19 v20 v21 v22 v23 v24 v25 v26 v27 v28 v29 v30 v31 => ih b4 v5 v6 x7 v8 v9 v10 v11 v12 v13 v14 v15 v16 v17 v18 v19 v20 v21 v22 v23 v24 v25 v26 v27 v28 v29 v30 v31) (fun b142 x143 x144 x145 b146 x147 x148 x149 b150 x151 v152 x153 v154 x156 x157 v158 x159 v160 x162 x163 b164 b165 v166 v167 v168 v169 v170 b171 v172 v173 => E36_0_ok d a0 b0   b142 x143 x144 x145 b146 x147 x148 x149 b150 x151 v152 x153 v154 x156 x157 v158 x159 v160 x162 x163 b164 b165 v166 v167 v168 v169 v170 b171 v172 v173)
    try dsimp only at I0
    simp only [kIter_n, kIter_x, kIter_r, kOut_x, kOut_r, xgo_hit, xgo_miss, ih, I0, X36_0_0_ok d a0 b0  , E36_0_ok d a0 b0  ]
    exact (L36_0_s d a0 n x7).symm
/-- apogee/poly.Simple -/
theorem q36 (d : Nat) (a0 : List AV) : xcall C0 M unr d 36 [(.lst a0)] =
  cnd (decide ((((List.length a0) : Nat) : Int) < 3))
   (some bf)
   (cnd (decide ((((List.length a0) : Nat) : Int) > 8))
   (some bf)
   (C0.bool (pcall M d 37 [(.lst a0), (.fn 41 [] [])]) fun b0 =>
   cnd b0
   (some bf)
   (L36_0 d a0 10000000000000000000 0))) := (r36 C0 d a0).trans (by simp only [it36_0])
noncomputable def X44f41_0_0 (d : Nat) (a0 : List AV)  : Ans :=
  some (iz (-1))
theorem X44f41_0_0_ok (d : Nat) (a0 : List AV) (x21 : Int) (v22 : AV) (x23 : Int) (v24 v25 v26 v27 v28 v29 v30 v31 v32 v33 : AV) : r44f41X0_0 C0 d a0 ⟨[(.lst a0), (.fn 41 [] []), tz, tz, (iz x21), v22, (.lst a0), (iz (((List.length a0) : Nat) : Int)), (iz x23), v24, v25, v26, v27, v28, v29, v30, v31, v32, v33], []⟩ = X44f41_0_0 d a0  := by
  unfold r44f41X0_0; refine Eq.trans (pl_len (by rfl)) ?_; (iterate 4 (refine yt yS ?_)); refine yt yI ?_; refine yt yA ?_; (iterate 2 (refine yt yS ?_)); refine yt yI ?_; (iterate 10 (refine yt yA ?_)); refine Eq.trans (pl_sameH) ?_
  rfl
noncomputable def E44f41_0 (d : Nat) (a0 : List AV) (x34 : Int) : Ans :=
  some (iz x34)
theorem E44f41_0_ok (d : Nat) (a0 : List AV) (x34 x35 x36 : Int) (v37 : AV) (x38 : Int) (v39 v40 : AV) (x41 : Int) (v42 : AV) (x44 x45 : Int) (b46 : Bool) (x47 : Int) (v48 : AV) : r44f41E0 C0 d a0 ⟨[(.lst a0), (.fn 41 [] []), tz, tz, (iz x34), (iz x35), (.lst a0), (iz (((List.length a0) : Nat) : Int)), (iz x36), v37, (iz x38), v39, v40, (iz x41), v42, (.agg [(iz x44), (iz x45)]), (.bool b46), (iz x47), v48], []⟩ = E44f41_0 d a0 x34 := by
  unfold r44f41E0; refine Eq.trans (pl_len (by rfl)) ?_; (iterate 4 (refine yt yS ?_)); (iterate 2 (refine yt yI ?_)); (iterate 2 (refine yt yS ?_)); refine yt yI ?_; refine yt yA ?_; refine yt yI ?_; (iterate 2 (refine yt yA ?_)); refine yt yI ?_; refine yt yA ?_; refine yt yG ?_; (iterate 2 (refine yt yI ?_)); refine yt yB ?_; refine yt yI ?_; refine yt yA ?_; refine Eq.trans (pl_sameH) ?_
  rfl
noncomputable def L44f41_0 (d : Nat) (a0 : List AV) : Nat → Int → Ans
  | 0, _ => none
  | n + 1, x5 =>
  cnd (decide (x5 < (((List.length a0) : Nat) : Int)))
   (cnd (decide ((0 : Int) ≤ x5))
   (C0.agg 2 a0[(Int.toNat x5)]? fun l16 =>
   C0.int .i64 l16[0]? fun x17 =>
   C0.int .i64 l16[1]? fun x18 =>
   C0.bool (pcall M d 41 [(.agg [(iz x17), (iz x18)])]) fun b19 =>
   cnd b19
   (E44f41_0 d a0 x5)
   (L44f41_0 d a0 n (IntKind.wrap .i64 (x5 + 1))))
   (none))
   (X44f41_0_0 d a0)
theorem L44f41_0_s (d : Nat) (a0 : List AV) (n : Nat) (x5 : Int) : L44f41_0 d a0 (n + 1) x5 = (cnd (decide (x5 < (((List.length a0) : Nat) : Int)))
   (cnd (decide ((0 : Int) ≤ x5))
   (C0.agg 2 a0[(Int.toNat x5)]? fun l16 =>
   C0.int .i64 l16[0]? fun x17 =>
   C0.int .i64 l16[1]? fun x18 =>
   C0.bool (pcall M d 41 [(.agg [(iz x17), (iz x18)])]) fun b19 =>
   cnd b19
   (E44f41_0 d a0 x5)
   (L44f41_0 d a0 n (IntKind.wrap .i64 (x5 + 1))))
   (none))
   (X44f41_0_0 d a0)) := by kernel_rfl
theorem it44f41_0 (d : Nat) (a0 : List AV)   : ∀ (n : Nat) (x3 : Int) (v4 : AV) (x5 : Int) (v6 v7 v8 v9 v10 v11 v12 v13 v14 v15 : AV), C0.iter (r44f41R0 C0 d a0) n ⟨[(.lst a0), (.fn 41 [] []), tz, tz, (iz x3), v4, (.lst a0), (iz (((List.length a0) : Nat) : Int)), (iz x5), v6, v7, v8, v9, v10, v11, v12, v13, v14, v15], []⟩ [0] [r44f41X0_0 C0 d a0] (r44f41E0 C0 d a0) = L44f41_0 d a0 n x5 := by
  generalize hR : r44f41R0 C0 d a0 = R
  intro n
  induction n with
  | zero => intros; rfl
  | succ n ih =>
    intro x3 v4 x5 v6 v7 v8 v9 v10 v11 v12 v13 v14 v15
    simp only [it_ret] at ih
    rw [it_ret, xiter_s]
    refine Eq.trans (congrFun (congrFun hR.symm _) _) ?_
    unfold r44f41R0
    refine Eq.trans (pl_len (by rfl)) ?_; (iterate 4 (refine yt yS ?_)); refine yt yI ?_; refine yt yA ?_; (iterate 2 (refine yt yS ?_)); refine yt yI ?_; (iterate 10 (refine yt yA ?_)); refine Eq.trans (pl_sameH) ?_
    simp only [kIter_n, kIter_x, kIter_r, kOut_x, kOut_r, xgo_hit, xgo_miss, ih, X44f41_0_0_ok d a0  , E44f41_0_ok d a0  ]
    exact (L44f41_0_s d a0 n x5).symm
/-- slices.IndexFunc[[]apogee/api.Point,apogee/api.Point] -/
theorem q44f41 (d : Nat) (a0 : List AV) (a1 : AV) : xcall C0 M unr d 44 [(.lst a0), (.fn 41 [] [])] =
  L44f41_0 d a0 10000000000000000000 0 := (r44f41 C0 d a0 a1).trans (by simp only [it44f41_0])
noncomputable def X44f38_0_0 (d : Nat) (a0 : List AV)  : Ans :=
  some (iz (-1))
theorem X44f38_0_0_ok (d : Nat) (a0 : List AV) (x21 : Int) (v22 : AV) (x23 : Int) (v24 v25 v26 v27 v28 v29 v30 v31 v32 v33 : AV) : r44f38X0_0 C0 d a0 ⟨[(.lst a0), (.fn 38 [] []), tz, tz, (iz x21), v22, (.lst a0), (iz (((List.length a0) : Nat) : Int)), (iz x23), v24, v25, v26, v27, v28, v29, v30, v31, v32, v33], []⟩ = X44f38_0_0 d a0  := by
  unfold r44f38X0_0; refine Eq.trans (pl_len (by rfl)) ?_; (iterate 4 (refine yt yS ?_)); refine yt yI ?_; refine yt yA ?_; (iterate 2 (refine yt yS ?_)); refine yt yI ?_; (iterate 10 (refine yt yA ?_)); refine Eq.trans (pl_sameH) ?_
  rfl
noncomputable def E44f38_0 (d : Nat) (a0 : List AV) (x34 : Int) : Ans :=
  some (iz x34)
theorem E44f38_0_ok (d : Nat) (a0 : List AV) (x34 x35 x36 : Int) (v37 : AV) (x38 : Int) (v39 v40 : AV) (x41 : Int) (v42 : AV) (x44 x45 : Int) (b46 : Bool) (x47 : Int) (v48 : AV) : r44f38E0 C0 d a0 ⟨[(.lst a0), (.fn 38 [] []), tz, tz, (iz x34), (iz x35), (.lst a0), (iz (((List.length a0) : Nat) : Int)), (iz x36), v37, (iz x38), v39, v40, (iz x41), v42, (.agg [(iz x44), (iz x45)]), (.bool b46), (iz x47), v48], []⟩ = E44f38_0 d a0 x34 := by
  unfold r44f38E0; refine Eq.trans (pl_len (by rfl)) ?_; (iterate 4 (refine yt yS ?_)); (iterate 2 (refine yt yI ?_)); (iterate 2 (refine yt yS ?_)); refine yt yI ?_; refine yt yA ?_; refine yt yI ?_; (iterate 2 (refine yt yA ?_)); refine yt yI ?_; refine yt yA ?_; refine yt yG ?_; (iterate 2 (refine yt yI ?_)); refine yt yB ?_; refine yt yI ?_; refine yt yA ?_; refine Eq.trans (pl_sameH) ?_
  rfl
noncomputable def L44f38_0 (d : Nat) (a0 : List AV) : Nat → Int → Ans
  | 0, _ => none
  | n + 1, x5 =>
  cnd (decide (x5 < (((List.length a0) : Nat) : Int)))
   (cnd (decide ((0 : Int) ≤ x5))
   (C0.agg 2 a0[(Int.toNat x5)]? fun l16 =>
   C0.int .i64 l16[0]? fun x17 =>
   C0.int .i64 l16[1]? fun x18 =>
   C0.bool (pcall M d 38 [(.agg [(iz x17), (iz x18)])]) fun b19 =>
   cnd b19
   (E44f38_0 d a0 x5)
   (L44f38_0 d a0 n (IntKind.wrap .i64 (x5 + 1))))
   (none))
   (X44f38_0_0 d a0)
theorem L44f38_0_s (d : Nat) (a0 : List AV) (n : Nat) (x5 : Int) : L44f38_0 d a0 (n + 1) x5 = (cnd (decide (x5 < (((List.length a0) : Nat) : Int)))
   (cnd (decide ((0 : Int) ≤ x5))
   (C0.agg 2 a0[(Int.toNat x5)]? fun l16 =>
   C0.int .i64 l16[0]? fun x17 =>
   C0.int .i64 l16[1]? fun x18 =>
   C0.bool (pcall M d 38 [(.agg [(iz x17), (iz x18)])]) fun b19 =>
   cnd b19
   (E44f38_0 d a0 x5)
   (L44f38_0 d a0 n (IntKind.wrap .i64 (x5 + 1))))
   (none))
   (X44f38_0_0 d a0)) := by kernel_rfl
theorem it44f38_0 (d : Nat) (a0 : List AV)   : ∀ (n : Nat) (x3 : Int) (v4 : AV) (x5 : Int) (v6 v7 v8 v9 v10 v11 v12 v13 v14 v15 : AV), C0.iter (r44f38R0 C0 d a0) n ⟨[(.lst a0), (.fn 38 [] []), tz, tz, (iz x3), v4, (.lst a0), (iz (((List.length a0) : Nat) : Int)), (iz x5), v6, v7, v8, v9, v10, v11, v12, v13, v14, v15], []⟩ [0] [r44f38X0_0 C0 d a0] (r44f38E0 C0 d a0) = L44f38_0 d a0 n x5 := by
  generalize hR : r44f38R0 C0 d a0 = R
  intro n
  induction n with
  | zero => intros; rfl
  | succ n ih =>
    intro x3 v4 x5 v6 v7 v8 v9 v10 v11 v12 v13 v14 v15
    simp only [it_ret] at ih
    rw [it_ret, xiter_s]
    refine Eq.trans (congrFun (congrFun hR.symm _) _) ?_
    unfold r44f38R0
    refine Eq.trans (pl_len (by rfl)) ?_; (iterate 4 (refine yt yS ?_)); refine yt yI ?_; refine yt yA ?_; (iterate 2 (refine yt yS ?_)); refine yt yI ?_; (iterate 10 (refine yt yA ?_)); refine Eq.trans (pl_sameH) ?_
    simp only [kIter_n, kIter_x, kIter_r, kOut_x, kOut_r, xgo_hit, xgo_miss, ih, X44f38_0_0_ok d a0  , E44f38_0_ok d a0  ]
    exact (L44f38_0_s d a0 n x5).symm
/-- slices.IndexFunc[[]apogee/api.Point,apogee/api.Point] -/
theorem q44f38 (d : Nat) (a0 : List AV) (a1 : AV) : xcall C0 M unr d 44 [(.lst a0), (.fn 38 [] [])] =
  L44f38_0 d a0 10000000000000000000 0 := (r44f38 C0 d a0 a1).trans (by simp only [it44f38_0])
end Go.Proofs.Ytffiilnmfmkpmaa.AE

namespace Go.Proofs.Ytffiilnmfmkpmaa.AE
set_option linter.unusedVariables false
set_option linter.unusedSimpArgs false
set_option linter.constructorNameAsVariable false
open Go
theorem hget_s {H S : Heap} {k : Nat} {b : Blk} (h : S[k]? = some (some b)) : hget (H ++ S) (H.length + k) = some b := by
  unfold hget; rw [List.getElem?_append_right (by omega), show H.length + k - H.length = k by omega, h]
theorem set_s {H S : Heap} {k : Nat} {x : Option Blk} : (H ++ S).set (H.length + k) x = H ++ S.set k x := by
  rw [List.set_append_right _ _ (by omega), show H.length + k - H.length = k by omega]
theorem al_n {H : Heap} {e : ETy} {K : AV → Heap → Ans} : C0.hop H (.alloc e) K = K (.ptr (H.length + 0) 0 0) (H ++ [some ⟨e, [e.zero]⟩]) := rfl
theorem al_s {H S : Heap} {e : ETy} {K : AV → Heap → Ans} : C0.hop (H ++ S) (.alloc e) K = K (.ptr (H.length + S.length) 0 0) (H ++ (S ++ [some ⟨e, [e.zero]⟩])) := by
  refine (hop_eq rfl).trans ?_
  simp only [evO, List.length_append, List.append_assoc]
theorem bx_n {H : Heap} {e : ETy} {x : AV} {K : AV → Heap → Ans} (h : elOk e x = true) : C0.hop H (.box e (.v x)) K = K (.ptr (H.length + 0) 0 0) (H ++ [some ⟨e, [x]⟩]) := hop_eq (by simp [aop, evO, h])
theorem ld_s {H S : Heap} {k i j n : Nat} {ag : Bool} {b : Blk} {el v : AV} {K : AV → Heap → Ans} (h : S[k]? = some (some b)) (hi : b.els[i]? = some el) (hs : sub ag n j el = some v) :
    C0.hop (H ++ S) (.load ag n (.v (.ptr (H.length + k) i j))) K = K v (H ++ S) := ld_ptr (hget_s h) hi hs
theorem st_s {H S : Heap} {k i j n : Nat} {b : Blk} {el el' x : AV} {K : AV → Heap → Ans} (h : S[k]? = some (some b)) (hi : b.els[i]? = some el) (hs : putSub n j x el = some el') :
    C0.hop (H ++ S) (.store n (.v (.ptr (H.length + k) i j)) (.v x)) K = K .undef (H ++ S.set k (some { b with els := b.els.set i el' })) := by
  rw [st_ptr (hget_s h) hi hs, set_s]
end Go.Proofs.Ytffiilnmfmkpmaa.AE

namespace Go.Proofs.Ytffiilnmfmkpmaa.AE
set_option linter.unusedVariables false
set_option linter.unusedSimpArgs false
set_option linter.constructorNameAsVariable false
open Go Go.Proofs.Ytffiilnmfmkpmaa.Geo
/-- The i-th corner. -/
def vv (ps : List Pt) (i : Nat) : Pt := ps.getD i (0, 0)
theorem vv_at {ps : List Pt} {i : Nat} (h : i < ps.length) : (ps.map pt)[((i : Nat) : Int).toNat]? = some (pt (vv ps i)) := by
  simp [vv, List.getD_eq_getElem?_getD, h]
theorem pmap_len (ps : List Pt) : ((ps.map pt).length : Nat) = ps.length := by simp
def nx (ps : List Pt) (i : Nat) : Nat := (i + 1) % ps.length
theorem nx_lt {ps : List Pt} {i : Nat} (h : i < ps.length) : nx ps i < ps.length := Nat.mod_lt _ (by omega)
theorem nx_int {ps : List Pt} {i : Nat} (h : i < ps.length) (hl : ps.length ≤ 140737488355328) : Int.tmod (IntKind.wrap .i64 ((i : Int) + 1)) (((ps.map pt).length : Nat) : Int) = ((nx ps i : Nat) : Int) := by
  rw [pmap_len, i64_small (by omega) (by omega), Int.tmod_eq_emod_of_nonneg (by omega)]
  simp [nx]
theorem s50 (d : Nat) (ps : List Pt) (i : Nat) (h : i < ps.length) (hl : ps.length ≤ 140737488355328) : pcall M (d + 1) 50 [.lst (ps.map pt), .int .i64 i] = some (.tup [pt (vv ps i), pt (vv ps (nx ps i))]) := told (r50 C0 d _ _) (by
  rw [decide_eq_true (by omega), cnd_t, vv_at h]
  refine Eq.trans (pl_agg (by rfl) (by rfl)) ?_; refine Eq.trans (pl_int (by rfl)) ?_; refine Eq.trans (pl_int (by rfl)) ?_
  rw [decide_eq_false (by rw [pmap_len]; omega), cnd_f, nx_int h hl, decide_eq_true (by omega), cnd_t, vv_at (nx_lt h)]
  refine Eq.trans (pl_agg (by rfl) (by rfl)) ?_; refine Eq.trans (pl_int (by rfl)) ?_; refine Eq.trans (pl_int (by rfl)) ?_
  rfl)
/-- May two edges be, of those that begin at k and i? -/
def apartB (ps : List Pt) (k i : Nat) : Bool :=
  if nx ps k = i then !onB (vv ps (nx ps i)) (vv ps k) (vv ps (nx ps k)) && !onB (vv ps k) (vv ps i) (vv ps (nx ps i))
  else if nx ps i = k then !onB (vv ps i) (vv ps k) (vv ps (nx ps k)) && !onB (vv ps (nx ps k)) (vv ps i) (vv ps (nx ps i))
  else !meetB (vv ps k) (vv ps (nx ps k)) (vv ps i) (vv ps (nx ps i))
theorem cast_beq (a b : Nat) : (((a : Nat) : Int) == ((b : Nat) : Int)) = decide (a = b) := by
  by_cases h : a = b
  · subst h; simp
  · rw [decide_eq_false h]; simp; omega
theorem s43 (d : Nat) (ps : List Pt) (k i : Nat) (hk : k < ps.length) (hi : i < ps.length) (hl : ps.length ≤ 140737488355328) :
    pcall M (d + 10) 43 [.lst (ps.map pt), .int .i64 k, .int .i64 i] = some (.bool (apartB ps k i)) := told (r43 C0 (d + 9) _ _ _) (by
  refine Eq.trans (pl_tup (s50 (d + 8) ps k hk hl) (by rfl)) ?_
  refine Eq.trans (pl_agg (by rfl) (by rfl)) ?_; refine Eq.trans (pl_int (by rfl)) ?_; refine Eq.trans (pl_int (by rfl)) ?_; refine Eq.trans (pl_agg (by rfl) (by rfl)) ?_; refine Eq.trans (pl_int (by rfl)) ?_; refine Eq.trans (pl_int (by rfl)) ?_
  refine Eq.trans (pl_tup (s50 (d + 8) ps i hi hl) (by rfl)) ?_
  refine Eq.trans (pl_agg (by rfl) (by rfl)) ?_; refine Eq.trans (pl_int (by rfl)) ?_; refine Eq.trans (pl_int (by rfl)) ?_; refine Eq.trans (pl_agg (by rfl) (by rfl)) ?_; refine Eq.trans (pl_int (by rfl)) ?_; refine Eq.trans (pl_int (by rfl)) ?_
  rw [decide_eq_false (by rw [pmap_len]; omega), cnd_f, cnd_f, nx_int hk hl, nx_int hi hl, cast_beq, cast_beq]
  have o := fun p q r => s51 (d + 1) p q r
  have m := s52 d (vv ps k) (vv ps (nx ps k)) (vv ps i) (vv ps (nx ps i))
  simp only [pt] at o m
  unfold apartB
  by_cases h1 : nx ps k = i
  · rw [decide_eq_true h1, cnd_t, if_pos h1, o, o, C0_bool, C0_bool]
    cases onB (vv ps (nx ps i)) (vv ps k) (vv ps (nx ps k)) <;> rfl
  · rw [decide_eq_false h1, cnd_f, if_neg h1]
    by_cases h2 : nx ps i = k
    · rw [decide_eq_true h2, cnd_t, if_pos h2, o, o, C0_bool, C0_bool]
      cases onB (vv ps i) (vv ps k) (vv ps (nx ps k)) <;> rfl
    · rw [decide_eq_false h2, cnd_f, if_neg h2, m, C0_bool])
def pairB (ps : List Pt) (k i : Nat) : Bool := !decide (vv ps i = vv ps k) && apartB ps k i
/-- Does it hold of i, and of the next ones? -/
def upAll (f : Nat → Bool) : Nat → Nat → Bool
  | 0, _ => true
  | m + 1, i => f i && upAll f m (i + 1)
theorem pt_beq (p q : Pt) : (xor false ((p.1 == q.1) && ((p.2 == q.2) && true))) = decide (p = q) := by
  rw [Bool.false_xor, Bool.and_true, Bool.eq_iff_iff, Bool.and_eq_true, beq_iff_eq, beq_iff_eq, decide_eq_true_iff]
  exact ⟨fun h => Prod.ext h.1 h.2, fun h => by rw [h]; exact ⟨rfl, rfl⟩⟩
theorem simple1 (d : Nat) (ps : List Pt) (i : Nat) (hi : i < ps.length) (hl : ps.length ≤ 140737488355328) (kN : Int → Ans) (kR : Bool → Ans) : ∀ (m k f : Nat), k + m = i → m < f →
    L36_1 (d + 10) (ps.map pt) (i : Nat) kN kR f (k : Nat) = bif upAll (fun k => pairB ps k i) m k then kN ((i + 1 : Nat) : Int) else kR false := by
  intro m
  induction m with
  | zero =>
    intro k f hk hf
    obtain ⟨f, rfl⟩ : ∃ g, f = g + 1 := ⟨f - 1, by omega⟩
    rw [L36_1, decide_eq_false (by omega), cnd_f, X36_1_0, i64_small (by omega) (by omega)]; rfl
  | succ m ih =>
    intro k f hk hf
    obtain ⟨f, rfl⟩ : ∃ g, f = g + 1 := ⟨f - 1, by omega⟩
    rw [L36_1, decide_eq_true (by omega), cnd_t, decide_eq_true (by omega), cnd_t, vv_at hi]
    refine Eq.trans (pl_agg (by rfl) (by rfl)) ?_; refine Eq.trans (pl_int (by rfl)) ?_; refine Eq.trans (pl_int (by rfl)) ?_
    rw [decide_eq_true (by omega), cnd_t, vv_at (show k < ps.length by omega)]
    refine Eq.trans (pl_agg (by rfl) (by rfl)) ?_; refine Eq.trans (pl_int (by rfl)) ?_; refine Eq.trans (pl_int (by rfl)) ?_
    rw [pt_beq, s43 d ps k i (by omega) hi hl]
    simp only [upAll, pairB]
    by_cases he : vv ps i = vv ps k
    · rw [decide_eq_true he, cnd_t]; rfl
    · rw [decide_eq_false he, cnd_f, C0_bool]
      cases apartB ps k i
      · rfl
      · refine Eq.trans (pl_f (by rfl)) ?_
        rw [show IntKind.wrap .i64 ((k : Int) + 1) = ((k + 1 : Nat) : Int) by rw [i64_small (by omega) (by omega)]; rfl, ih (k + 1) f (by omega) (by omega)]
        simp only [Bool.not_false, Bool.true_and]
        rfl
theorem simple0 (d : Nat) (ps : List Pt) (hl : ps.length ≤ 140737488355328) : ∀ (m i f : Nat), i + m = ps.length → m < f →
    L36_0 (d + 10) (ps.map pt) f (i : Nat) = some (.bool (upAll (fun i => upAll (fun k => pairB ps k i) i 0) m i)) := by
  intro m
  induction m with
  | zero =>
    intro i f hk hf
    obtain ⟨f, rfl⟩ : ∃ g, f = g + 1 := ⟨f - 1, by omega⟩
    rw [L36_0, decide_eq_false (by rw [pmap_len]; omega), cnd_f]; rfl
  | succ m ih =>
    intro i f hk hf
    obtain ⟨f, rfl⟩ : ∃ g, f = g + 1 := ⟨f - 1, by omega⟩
    rw [L36_0, decide_eq_true (by rw [pmap_len]; omega), cnd_t]
    refine (simple1 d ps i (by omega) hl _ _ i 0 _ (by omega) (by omega)).trans ?_
    rw [ih (i + 1) f (by omega) (by omega)]
    simp only [upAll]
    cases upAll (fun k => pairB ps k i) i 0 <;> rfl
end Go.Proofs.Ytffiilnmfmkpmaa.AE

namespace Go.Proofs.Ytffiilnmfmkpmaa.AE
set_option linter.unusedVariables false
set_option linter.unusedSimpArgs false
set_option linter.constructorNameAsVariable false
open Go Go.Proofs.Ytffiilnmfmkpmaa.Geo
def fiG (g : Pt → Bool) : List Pt → Int → Int
  | [], _ => -1
  | p :: l, i => bif g p then i else fiG g l (i + 1)
theorem fiG_any (g : Pt → Bool) (ps : List Pt) : ∀ i : Int, 0 ≤ i → decide (fiG g ps i ≥ 0) = ps.any g := by
  induction ps with
  | nil => intro i hi; simp [fiG]
  | cons p l ih =>
    intro i hi
    have h := ih (i + 1) (by omega)
    have e : ∀ b : Bool, decide ((bif b then i else fiG g l (i + 1)) ≥ 0) = (b || l.any g) := fun b => by
      match b with
      | false => exact h
      | true => exact decide_eq_true hi
    exact e (g p)
theorem s44f41 (d : Nat) (g : Pt → Bool) (ps : List Pt) (hl : ps.length ≤ 140737488355328) (hg : ∀ p ∈ ps, pcall M d 41 [pt p] = some (.bool (g p))) : ∀ (l2 : List Pt) (i f : Nat), ps.drop i = l2 → l2.length < f →
    L44f41_0 d (ps.map pt) f (i : Nat) = some (.int .i64 (fiG g l2 (i : Nat))) := by
  intro l2
  induction l2 with
  | nil =>
    intro i f hd hf
    obtain ⟨f, rfl⟩ : ∃ m, f = m + 1 := ⟨f - 1, by omega⟩
    have : ps.length ≤ i := List.drop_eq_nil_iff.mp hd
    rw [L44f41_0, decide_eq_false (by rw [pmap_len]; omega), cnd_f]; rfl
  | cons p l2 ih =>
    intro i f hd hf
    obtain ⟨f, rfl⟩ : ∃ m, f = m + 1 := ⟨f - 1, by simp at hf; omega⟩
    have hi : i < ps.length := by
      rcases Nat.lt_or_ge i ps.length with h | h
      · exact h
      · rw [List.drop_eq_nil_of_le h] at hd; cases hd
    have hp : ps[i] = p := by have := List.drop_eq_getElem_cons hi; rw [hd] at this; exact (List.cons.inj this).1.symm
    have hd2 : ps.drop (i + 1) = l2 := by have := List.drop_eq_getElem_cons hi; rw [hd] at this; exact (List.cons.inj this).2.symm
    have hg' := hg ps[i] (List.getElem_mem _)
    simp only [pt] at hg'
    rw [L44f41_0, decide_eq_true (by rw [pmap_len]; omega), cnd_t, decide_eq_true (by omega), cnd_t, pts_at hi]
    refine Eq.trans (pl_agg (by rfl) (by rfl)) ?_; refine Eq.trans (pl_int (by rfl)) ?_; refine Eq.trans (pl_int (by rfl)) ?_
    rw [hg', C0_bool, hp]
    simp only [fiG]
    cases g p
    · refine Eq.trans (pl_f (by rfl)) ?_
      rw [show IntKind.wrap .i64 ((i : Int) + 1) = ((i + 1 : Nat) : Int) by rw [IntKind.wrap_i64]; omega]
      exact (ih (i + 1) f hd2 (by simp at hf; omega)).trans (by simp)
    · rfl
theorem s37f41 (d : Nat) (g : Pt → Bool) (ps : List Pt) (hl : ps.length ≤ 140737488355328) (hg : ∀ p ∈ ps, pcall M d 41 [pt p] = some (.bool (g p))) :
    pcall M (d + 2) 37 [.lst (ps.map pt), .fn 41 [] []] = some (.bool (ps.any g)) := told (r37f41 C0 (d + 1) _ .nilp) (by
  have h : pcall M (d + 1) 44 [.lst (ps.map pt), .fn 41 [] []] = some (.int .i64 (fiG g ps 0)) :=
    told (q44f41 d (ps.map pt) .nilp) (s44f41 d g ps hl hg ps 0 _ rfl (by omega))
  rw [h, C0_int, fiG_any g ps 0 (by decide)])
theorem s44f38 (d : Nat) (g : Pt → Bool) (ps : List Pt) (hl : ps.length ≤ 140737488355328) (hg : ∀ p ∈ ps, pcall M d 38 [pt p] = some (.bool (g p))) : ∀ (l2 : List Pt) (i f : Nat), ps.drop i = l2 → l2.length < f →
    L44f38_0 d (ps.map pt) f (i : Nat) = some (.int .i64 (fiG g l2 (i : Nat))) := by
  intro l2
  induction l2 with
  | nil =>
    intro i f hd hf
    obtain ⟨f, rfl⟩ : ∃ m, f = m + 1 := ⟨f - 1, by omega⟩
    have : ps.length ≤ i := List.drop_eq_nil_iff.mp hd
    rw [L44f38_0, decide_eq_false (by rw [pmap_len]; omega), cnd_f]; rfl
  | cons p l2 ih =>
    intro i f hd hf
    obtain ⟨f, rfl⟩ : ∃ m, f = m + 1 := ⟨f - 1, by simp at hf; omega⟩
    have hi : i < ps.length := by
      rcases Nat.lt_or_ge i ps.length with h | h
      · exact h
      · rw [List.drop_eq_nil_of_le h] at hd; cases hd
    have hp : ps[i] = p := by have := List.drop_eq_getElem_cons hi; rw [hd] at this; exact (List.cons.inj this).1.symm
    have hd2 : ps.drop (i + 1) = l2 := by have := List.drop_eq_getElem_cons hi; rw [hd] at this; exact (List.cons.inj this).2.symm
    have hg' := hg ps[i] (List.getElem_mem _)
    simp only [pt] at hg'
    rw [L44f38_0, decide_eq_true (by rw [pmap_len]; omega), cnd_t, decide_eq_true (by omega), cnd_t, pts_at hi]
    refine Eq.trans (pl_agg (by rfl) (by rfl)) ?_; refine Eq.trans (pl_int (by rfl)) ?_; refine Eq.trans (pl_int (by rfl)) ?_
    rw [hg', C0_bool, hp]
    simp only [fiG]
    cases g p
    · refine Eq.trans (pl_f (by rfl)) ?_
      rw [show IntKind.wrap .i64 ((i : Int) + 1) = ((i + 1 : Nat) : Int) by rw [IntKind.wrap_i64]; omega]
      exact (ih (i + 1) f hd2 (by simp at hf; omega)).trans (by simp)
    · rfl
theorem s37f38 (d : Nat) (g : Pt → Bool) (ps : List Pt) (hl : ps.length ≤ 140737488355328) (hg : ∀ p ∈ ps, pcall M d 38 [pt p] = some (.bool (g p))) :
    pcall M (d + 2) 37 [.lst (ps.map pt), .fn 38 [] []] = some (.bool (ps.any g)) := told (r37f38 C0 (d + 1) _ .nilp) (by
  have h : pcall M (d + 1) 44 [.lst (ps.map pt), .fn 38 [] []] = some (.int .i64 (fiG g ps 0)) :=
    told (q44f38 d (ps.map pt) .nilp) (s44f38 d g ps hl hg ps 0 _ rfl (by omega))
  rw [h, C0_int, fiG_any g ps 0 (by decide)])
theorem s41 (d : Nat) (p : Pt) : pcall M (d + 3) 41 [pt p] = some (.bool (!okb p)) := told (r41 C0 (d + 2) _ _) (by
  have := s42 d p
  simp only [pt] at this
  rw [this, C0_bool]; rfl)
/-- Is a corner too far? -/
def farB (p : Pt) : Bool := !decide (-1073741824 ≤ p.1 ∧ p.1 ≤ 1073741824 ∧ -1073741824 ≤ p.2 ∧ p.2 ≤ 1073741824)
theorem s38 (d : Nat) (p : Pt) (h : OkP p) : pcall M (d + 1) 38 [pt p] = some (.bool (farB p)) := told (r38 C0 d _ _) (by
  obtain ⟨⟨h1, h2⟩, h3, h4⟩ := h
  rw [i64_small (n := 0 - p.1) (by omega) (by omega), i64_small (n := 0 - p.2) (by omega) (by omega)]
  congr 2
  rw [Bool.eq_iff_iff]
  unfold farB
  simp only [decide_eq_true_iff, Bool.not_eq_true', decide_eq_false_iff_not]
  split <;> split <;> split <;> omega)
def allPairs (ps : List Pt) : Bool := upAll (fun i => upAll (fun k => pairB ps k i) i 0) ps.length 0
def simpleB (ps : List Pt) : Bool := decide (3 ≤ ps.length) && (decide (ps.length ≤ 8) && (ps.all okb && allPairs ps))
def rightB (ps : List Pt) : Bool := simpleB ps && !ps.any farB
theorem any_not (ps : List Pt) : (ps.any fun p => !okb p) = !ps.all okb := by
  induction ps with
  | nil => rfl
  | cons p l ih => simp only [List.any_cons, List.all_cons, ih, Bool.not_and]
theorem s36 (d : Nat) (ps : List Pt) (hl : ps.length ≤ 140737488355328) : pcall M (d + 11) 36 [.lst (ps.map pt)] = some (.bool (simpleB ps)) := told (q36 (d + 10) _) (by
  have hc := s37f41 (d + 8) (fun p => !okb p) ps hl (fun p _ => s41 (d + 5) p)
  have h0 := simple0 d ps hl ps.length 0 10000000000000000000 (by omega) (by omega)
  rw [hc, C0_bool, any_not, pmap_len, show (0 : Int) = ((0 : Nat) : Int) from rfl, h0]
  unfold simpleB
  by_cases h1 : 3 ≤ ps.length
  · rw [decide_eq_false (by omega), cnd_f, decide_eq_true h1]
    by_cases h2 : ps.length ≤ 8
    · rw [decide_eq_false (by omega), cnd_f, decide_eq_true h2]
      cases ps.all okb <;> rfl
    · rw [decide_eq_true (by omega), cnd_t, decide_eq_false h2]; rfl
  · rw [decide_eq_true (by omega), cnd_t, decide_eq_false h1]; rfl)
theorem simple_ok {ps : List Pt} (h : simpleB ps = true) : 3 ≤ ps.length ∧ ps.length ≤ 8 ∧ ∀ p ∈ ps, OkP p := by
  unfold simpleB at h
  simp only [Bool.and_eq_true, decide_eq_true_iff, List.all_eq_true, okb_t] at h
  exact ⟨h.1, h.2.1, h.2.2.1⟩
theorem s30 (d : Nat) (ps : List Pt) (hl : ps.length ≤ 140737488355328) : pcall M (d + 12) 30 [.lst (ps.map pt)] = some (.bool (rightB ps)) := told (r30 C0 (d + 11) _) (by
  rw [s36 d ps hl, C0_bool]
  unfold rightB
  cases hs : simpleB ps
  · rfl
  · have hc := s37f38 (d + 9) farB ps hl (fun p hp => s38 (d + 8) p ((simple_ok hs).2.2 p hp))
    rw [hc, cnd_t, C0_bool]; rfl)
end Go.Proofs.Ytffiilnmfmkpmaa.AE

namespace Go.Proofs.Ytffiilnmfmkpmaa.AE
set_option linter.unusedVariables false
set_option linter.unusedSimpArgs false
set_option linter.constructorNameAsVariable false
open Go Go.WideShapes

/-- The form of a cell. -/
inductive CT where
  | i (k : IntKind)
  | b
  | s
  | sl (ag : Bool) (es : List CT)
mutual
def CTok : CT → AV → Prop
  | .i k, v => ∃ n, v = .int k n ∧ (Lit.int k n).wf = true
  | .b, v => ∃ x, v = .bool x
  | .s, v => ∃ x, v = .str x ∧ x.length ≤ maxLen
  | .sl ag es, v => ∃ l, v = .lst l ∧ l.length ≤ maxLen ∧ ∀ x ∈ l, ∃ cs, (match ag with
    | true => x = .agg cs
    | false => cs = [x]) ∧ CTall es cs
def CTall : List CT → List AV → Prop
  | [], l => l = []
  | c :: cs, l => ∃ x t, l = x :: t ∧ CTok c x ∧ CTall cs t
end
/-- An argument of a form: is it a struct or an array; its cells. -/
def TyOK (ag : Bool) (cs : List CT) (v : AV) : Prop := ∃ l, (match ag with
  | true => v = .agg l
  | false => l = [v]) ∧ CTall cs l
theorem CTall_len : ∀ {cs : List CT} {l : List AV}, CTall cs l → l.length = cs.length
  | [], l, h => by simp only [CTall] at h; subst h; rfl
  | c :: cs, l, h => by
    simp only [CTall] at h
    obtain ⟨x, t, rfl, _, h⟩ := h
    simp [CTall_len h]
theorem CTall_app : ∀ {a b : List CT} {l m : List AV}, CTall a l → CTall b m → CTall (a ++ b) (l ++ m)
  | [], b, l, m, h, h' => by simp only [CTall] at h; subst h; exact h'
  | c :: cs, b, l, m, h, h' => by
    simp only [CTall] at h
    obtain ⟨x, t, rfl, h1, h⟩ := h
    simp only [List.cons_append, CTall]
    exact ⟨x, t ++ m, rfl, h1, CTall_app h h'⟩

section
variable (P : Program)
def ctFs (g : TypeId → Option (List CT)) : List Field → Nat → Option (List CT)
  | [], _ => some []
  | f :: fs, off => if f.offset = off then match g f.type with
      | some l => if P.cellsOf f.type = l.length then match ctFs g fs (off + l.length) with
          | some m => some (l ++ m)
          | none => none
        else none
      | none => none
    else none
def ctOf : Nat → TypeId → Option (List CT)
  | 0, _ => none
  | d + 1, t => match P.underlying t with
    | some (.int k) => some [.i k]
    | some .bool => some [.b]
    | some .string => some [.s]
    | some (.slice e) => match ctOf d e, agB P e with
      | some l, some ag => if P.cellsOf e = l.length ∧ 0 < l.length ∧ (ag || l.length == 1) = true then some [.sl ag l] else none
      | _, _ => none
    | some (.struct fs) => match ctFs P (ctOf d) fs.toList 0 with
      | some l => if P.cellsOf t = l.length then some l else none
      | none => none
    | some (.array n e) => match ctOf d e with
      | some l => if P.cellsOf e = l.length ∧ P.cellsOf t = n * l.length then some (List.replicate n l).flatten else none
      | none => none
    | _ => none
end

section
variable {H : Type} {enc : TypeId × Value → H} {P : Program} {w : World} {base : Nat} {spare : Nat → Bool} {held : Bool}
abbrev noBad : Nat → Prop := fun _ => False

/-- Each cell is told. -/
def Cells (w : World) (avs : List AV) (cs : List Value) : Prop := ∀ (i : Nat) (c : AV) (u : Value), avs[i]? = some c → cs[i]? = some u → FRep w noBad c u

theorem cells_one {c : AV} {u : Value} (h : FRep w noBad c u) : Cells w [c] [u] := by
  intro i a b ha hb
  match i with
  | 0 => cases ha; cases hb; exact h
  | i + 1 => cases ha

theorem ctFs_open {g : TypeId → Option (List CT)} {cs : List Value} (hg : ∀ t l (ds : List Value) fuel x, g t = some l → DataW.trod enc P w base spare held fuel t ds = some x → ∃ avs, avs.length = ds.length ∧ CTall l avs ∧ Cells w avs ds) :
    ∀ (fs : List Field) (off : Nat) (l : List CT), ctFs P g fs off = some l → (∀ f ∈ fs, ∃ fuel y, DataW.trod enc P w base spare held fuel f.type ((cs.drop f.offset).take (P.cellsOf f.type)) = some y) →
      ∃ avs, CTall l avs ∧ Cells w avs (cs.drop off)
  | [], off, l, h, _ => by
    simp only [ctFs] at h; cases h
    exact ⟨[], rfl, fun i c u hc _ => by cases hc⟩
  | f :: fs, off, l, h, ht => by
    simp only [ctFs] at h
    split at h
    · rename_i ho
      split at h <;> (try (cases h; done))
      rename_i l1 h1
      split at h
      · rename_i hn
        split at h <;> (try (cases h; done))
        rename_i m hm
        cases h
        obtain ⟨fuel, y, hy⟩ := ht f (List.mem_cons_self ..)
        obtain ⟨a1, e1, e2, e3⟩ := hg _ _ _ _ _ h1 hy
        obtain ⟨a2, q1, q2⟩ := ctFs_open hg fs (off + l1.length) m hm (fun f hf => ht f (List.mem_cons_of_mem _ hf))
        refine ⟨a1 ++ a2, CTall_app e2 q1, ?_⟩
        have hl : a1.length = l1.length := CTall_len e2
        intro i c u hc hu
        by_cases hi : i < a1.length
        · rw [List.getElem?_append_left hi] at hc
          refine e3 i c u hc ?_
          rw [ho, hn, List.getElem?_take, if_pos (by omega)]; exact hu
        · rw [List.getElem?_append_right (by omega)] at hc
          refine q2 (i - a1.length) c u hc ?_
          rw [List.getElem?_drop] at hu ⊢
          rw [← hu]; congr 1; omega
      · cases h
    · cases h

theorem cells?_at {a : Addr} {n : Nat} {cs : List Value} (h : w.cells? base a n = some cs) : cs.length = n ∧ ∀ j u, cs[j]? = some u → w.cell? (a.add j) = some u := by
  unfold World.cells? at h
  split at h
  · have hl : cs.length = n := by simpa using mapM_some_length h
    refine ⟨hl, fun j u hu => ?_⟩
    have hj : j < n := by
      rcases Nat.lt_or_ge j n with h1 | h1
      · exact h1
      · rw [List.getElem?_eq_none (by omega)] at hu; cases hu
    have := mapM_some_get h j j (by simp [hj])
    rw [hu] at this
    exact this
  · cases h

theorem rng_at {n i j : Nat} (h : (List.range n)[i]? = some j) : i < n ∧ i = j := by
  rcases Nat.lt_or_ge i n with h1 | h1
  · rw [List.getElem?_range h1] at h; exact ⟨h1, Option.some.inj h⟩
  · rw [List.getElem?_eq_none (by simpa using h1)] at h; cases h
theorem add_pl (b o n : Nat) : (⟨b, o, none⟩ : Addr).add n = ⟨b, o + n, none⟩ := by
  unfold Addr.add; split <;> simp_all

theorem open_cells : ∀ (d : Nat) (t : TypeId) (l : List CT) (cs : List Value) (fuel : Nat) (x : DataW H × List MemPlace), ctOf P d t = some l → DataW.trod enc P w base spare held fuel t cs = some x →
    ∃ avs, avs.length = cs.length ∧ CTall l avs ∧ Cells w avs cs
  | 0, t, l, cs, fuel, x, h, _ => by cases h
  | d + 1, t, l, cs, fuel, x, h, ht => by
    simp only [ctOf] at h
    split at h <;> (try (cases h; done))
    · rename_i k hu
      cases h
      obtain ⟨n, rfl, _, hw⟩ := DataW.trod_int hu ht
      exact ⟨[.int k n], rfl, ⟨_, _, rfl, ⟨n, rfl, hw⟩, rfl⟩, cells_one (.int k n)⟩
    · rename_i hu
      cases h
      obtain ⟨b, rfl, _⟩ := DataW.trod_bool hu ht
      exact ⟨[.bool b], rfl, ⟨_, _, rfl, ⟨b, rfl⟩, rfl⟩, cells_one (.bool b)⟩
    · rename_i hu
      cases h
      obtain ⟨s, rfl, _, hs⟩ := DataW.trod_string hu ht
      refine ⟨[.str s.data.toList], rfl, ⟨_, _, rfl, ⟨_, rfl, by simpa using hs⟩, rfl⟩, cells_one ?_⟩
      have := FRep.str (w := w) (bad := noBad) s.data.toList
      simpa using this
    · rename_i e hu
      split at h <;> (try (cases h; done))
      rename_i le ag hle hag
      split at h
      · rename_i hc
        obtain ⟨hc1, hc2, hc3⟩ := hc
        cases h
        rcases DataW.trod_slice hu ht with ⟨rfl, _⟩ | ⟨a, len, cap, elems, rest, n, _, rfl, _, hb, hl, hm, hel, hat, _, _⟩
        · exact ⟨[.lst []], rfl, ⟨_, _, rfl, ⟨[], rfl, by simp, fun x hx => by cases hx⟩, rfl⟩, cells_one (.lst0 none 0 fun _ => rfl)⟩
        · have each : ∀ i, i < len → ∃ ex : List AV × List Value, w.cells? base (a.add (i * P.cellsOf e)) (P.cellsOf e) = some ex.2 ∧ CTall le ex.1 ∧ Cells w ex.1 ex.2 := by
            intro i hi
            have h1 := hat i hi
            rw [List.getElem?_eq_getElem (by omega)] at h1
            obtain ⟨ds, h2, h3⟩ := Option.bind_eq_some_iff.mp h1
            obtain ⟨avs, _, q2, q3⟩ := open_cells d e le ds n _ hle h3
            exact ⟨(avs, ds), h2, q2, q3⟩
          obtain ⟨f, hf⟩ := Go.Deep.choose_lt each
          let el : List AV → AV := fun cs => match ag with
            | true => .agg cs
            | false => cs.headD .undef
          have elc : ∀ cs, CTall le cs → (el cs).cells = cs ∨ (ag = false ∧ ∃ v, cs = [v] ∧ el cs = v) := by
            intro cs hcs
            cases ag with
            | true => exact .inl rfl
            | false =>
              have hl1 : le.length = 1 := by simpa using hc3
              have := CTall_len hcs
              match cs, this.trans hl1 with
              | [v], _ => exact .inr ⟨rfl, v, rfl, rfl⟩
          have scal : ∀ cs, CTall le cs → (el cs).cells = cs := by
            intro cs hcs
            rcases elc cs hcs with h1 | ⟨hag', v, rfl, h2⟩
            · exact h1
            · rw [h2]
              match v, hcs with
              | .agg l', hcs =>
                exfalso
                cases le with
                | nil => simp only [CTall] at hcs; cases hcs
                | cons c cs' =>
                  simp only [CTall] at hcs
                  obtain ⟨x', t', hx', hok, _⟩ := hcs
                  injection hx' with hx1 _
                  subst hx1
                  cases c <;> simp [CTok] at hok
              | .int .., _ | .bool _, _ | .str _, _ | .nilp, _ | .zsl _, _ | .ptr .., _ | .slc .., _ | .lst _, _ | .fptr .., _ | .tup _, _ | .fn .., _ | .nilf, _ | .undef, _ | .emp, _ => rfl
          have hlen : ∀ i, i < len → ((f i).1).length = P.cellsOf e := fun i hi => by rw [CTall_len (hf i hi).2.1, hc1]
          refine ⟨[.lst ((List.range len).map fun i => el (f i).1)], rfl, ⟨_, _, rfl, ⟨_, rfl, by simp; omega, ?_⟩, rfl⟩, cells_one ?_⟩
          · intro y hy
            obtain ⟨i, hi, rfl⟩ := List.mem_map.mp hy
            have hi := List.mem_range.mp hi
            refine ⟨(f i).1, ?_, (hf i hi).2.1⟩
            cases ag with
            | true => rfl
            | false =>
              rcases elc _ (hf i hi).2.1 with h1 | ⟨_, v, h1, h2⟩
              · have h3 := scal _ (hf i hi).2.1
                have hl1 : le.length = 1 := by simpa using hc3
                have h4 := (CTall_len (hf i hi).2.1).trans hl1
                show (f i).1 = [(f i).1.headD .undef]
                match (f i).1, h4 with
                | [v], _ => rfl
              · show (f i).1 = [(f i).1.headD .undef]
                rw [h1]; rfl
          · by_cases h0 : len = 0
            · subst h0; exact .lst0 (some a) cap (fun h => by cases h)
            · have hsp : a.spot = none ∧ a.block < w.heap.size := by
                obtain ⟨g1, g2, g3⟩ := hf 0 (by omega)
                obtain ⟨g4, g5⟩ := cells?_at g1
                have h6 : ∃ u, (f 0).2[0]? = some u := ⟨_, List.getElem?_eq_getElem (by omega)⟩
                obtain ⟨u, hu0⟩ := h6
                have := g5 0 u hu0
                rw [Nat.zero_mul, show (a.add 0).add 0 = a by simp [Addr.add]] at this
                unfold World.cell? at this
                split at this
                · rename_i c _ _ hh
                  split at this
                  · cases this
                  · rename_i hs
                    refine ⟨by simpa using hs, ?_⟩
                    rcases Nat.lt_or_ge a.block w.heap.size with h7 | h7
                    · exact h7
                    · rw [Array.getElem?_eq_none h7] at hh; cases hh
                · cases this
              obtain ⟨b, o, sp⟩ := a
              obtain ⟨hsp1, hsp2⟩ := hsp
              simp only at hsp1 hsp2
              subst hsp1
              have hlm : ((List.range len).map fun i => el (f i).1).length = len := by simp
              have key := FRep.lst (w := w) (bad := noBad) ((List.range len).map fun i => el (f i).1) b o (P.cellsOf e) cap (fun i j => (f i).2.getD j (.bool false)) (by rw [hlm]; exact hl) (by omega) (fun h => h) hsp2 ?_ ?_ ?_
              · rw [hlm] at key; exact key
              · intro i y hy
                rw [List.getElem?_map] at hy
                obtain ⟨i', h1, rfl⟩ := Option.map_eq_some_iff.mp hy
                obtain ⟨h2, rfl⟩ := rng_at h1
                rw [scal _ (hf _ h2).2.1, hlen _ h2]
              · intro i y j c hy hc
                rw [List.getElem?_map] at hy
                obtain ⟨i', h1, rfl⟩ := Option.map_eq_some_iff.mp hy
                obtain ⟨h2, rfl⟩ := rng_at h1
                rw [scal _ (hf _ h2).2.1] at hc
                obtain ⟨g4, g5⟩ := cells?_at (hf _ h2).1
                have hj : j < (f i).2.length := by
                  rw [g4, ← hlen _ h2]
                  rcases Nat.lt_or_ge j (f i).1.length with h7 | h7
                  · exact h7
                  · rw [List.getElem?_eq_none h7] at hc; cases hc
                have := g5 j _ (List.getElem?_eq_getElem hj)
                rw [add_pl, add_pl] at this
                rw [List.getD_eq_getElem?_getD, List.getElem?_eq_getElem hj]
                simp only [Option.getD_some]
                rw [← Nat.add_assoc]; exact this
              · intro i y j c hy hc
                rw [List.getElem?_map] at hy
                obtain ⟨i', h1, rfl⟩ := Option.map_eq_some_iff.mp hy
                obtain ⟨h2, rfl⟩ := rng_at h1
                rw [scal _ (hf _ h2).2.1] at hc
                obtain ⟨g4, g5⟩ := cells?_at (hf _ h2).1
                have hj : j < (f i).2.length := by
                  rw [g4, ← hlen _ h2]
                  rcases Nat.lt_or_ge j (f i).1.length with h7 | h7
                  · exact h7
                  · rw [List.getElem?_eq_none h7] at hc; cases hc
                refine (hf _ h2).2.2 j c _ hc ?_
                rw [List.getD_eq_getElem?_getD, List.getElem?_eq_getElem hj]; rfl
      · cases h
    · rename_i fs hu
      split at h <;> (try (cases h; done))
      rename_i l' hl'
      split at h
      · rename_i hc
        cases h
        obtain ⟨xs, n, _, _, hlen, hxs, hf⟩ := DataW.trod_struct hu ht
        obtain ⟨avs, q1, q2⟩ := ctFs_open (cs := cs) (enc := enc) (base := base) (spare := spare) (held := held) (fun t l ds fuel x => open_cells d t l ds fuel x) fs.toList 0 l hl' (fun f hfm => by
          obtain ⟨i, hi⟩ := List.getElem?_of_mem hfm
          have h1 := hf i f (by simpa using hi)
          have hi' : i < xs.length := by
            rw [hxs]
            rcases Nat.lt_or_ge i fs.size with h7 | h7
            · exact h7
            · rw [List.getElem?_eq_none (by simpa using h7)] at hi; cases hi
          exact ⟨n, _, h1.trans (List.getElem?_eq_getElem hi')⟩)
        exact ⟨avs, by rw [CTall_len q1, hlen, hc], q1, by simpa using q2⟩
      · cases h
    · rename_i n e hu
      split at h <;> (try (cases h; done))
      rename_i le hle
      split at h
      · rename_i hc
        obtain ⟨hc1, hc2⟩ := hc
        cases h
        obtain ⟨xs, m, _, _, hlen, hxs, hf⟩ := DataW.trod_array hu ht
        have key : ∀ k, k ≤ n → ∃ avs, CTall (List.replicate k le).flatten avs ∧ Cells w avs (cs.drop ((n - k) * le.length)) := by
          intro k
          induction k with
          | zero => intro _; exact ⟨[], rfl, fun i c u hc _ => by cases hc⟩
          | succ k ih =>
            intro hk
            obtain ⟨a2, q1, q2⟩ := ih (by omega)
            have h1 := hf (n - (k + 1)) (by omega)
            rw [List.getElem?_eq_getElem (by omega)] at h1
            obtain ⟨a1, e1, e2, e3⟩ := open_cells d e le _ m _ hle h1
            refine ⟨a1 ++ a2, by rw [List.replicate_succ, List.flatten_cons]; exact CTall_app e2 q1, ?_⟩
            have hl : a1.length = le.length := CTall_len e2
            intro i c u hc hu
            by_cases hi : i < a1.length
            · rw [List.getElem?_append_left hi] at hc
              refine e3 i c u hc ?_
              rw [hc1, List.getElem?_take, if_pos (by omega)]; exact hu
            · rw [List.getElem?_append_right (by omega)] at hc
              refine q2 (i - a1.length) c u hc ?_
              rw [List.getElem?_drop] at hu ⊢
              rw [← hu]; congr 1
              have : n - k = n - (k + 1) + 1 := by omega
              rw [this, Nat.add_mul]; omega
        obtain ⟨avs, q1, q2⟩ := key n (Nat.le_refl _)
        refine ⟨avs, ?_, q1, by simpa using q2⟩
        rw [CTall_len q1, hlen, hc2]; simp
      · cases h

theorem okWide_array {r : Reach} {n : Nat} {t e : TypeId} {v : Value} (ht : P.underlying t = some (.array n e)) (h : Value.okWide P w r base t v) : ∃ cs, v = .agg cs ∧ cs.size = P.cellsOf t := by
  simp only [Value.okWide, ht] at h
  obtain ⟨cs, h1, h2, _⟩ := h
  exact ⟨cs, h1, h2⟩
/-- A scalar argument. -/
theorem open_sc {t : TypeId} {v : Value} {d : DataW H} {ps : List MemPlace} {l : List CT} (hv : v.cells.toList = [v]) (hl : ctOf P 9 t = some l) (h : DataW.Trod enc P w base spare held t v d ps) :
    ∃ a, TyOK false l a ∧ FRep w noBad a v := by
  obtain ⟨fuel, h⟩ := h
  obtain ⟨avs, h1, h2, h3⟩ := open_cells 9 t l _ fuel _ hl h
  rw [hv] at h1 h3
  match avs, h1 with
  | [a], _ => exact ⟨a, ⟨_, rfl, h2⟩, h3 0 a v rfl rfl⟩
/-- A struct, or an array. -/
theorem open_ag {t : TypeId} {cs : Array Value} {d : DataW H} {ps : List MemPlace} {l : List CT} (hl : ctOf P 9 t = some l) (h : DataW.Trod enc P w base spare held t (.agg cs) d ps) :
    ∃ a, TyOK true l a ∧ FRep w noBad a (.agg cs) := by
  obtain ⟨fuel, h⟩ := h
  obtain ⟨avs, h1, h2, h3⟩ := open_cells 9 t l _ fuel _ hl h
  refine ⟨.agg avs, ⟨_, rfl, h2⟩, ?_⟩
  have := FRep.agg (w := w) (bad := noBad) avs cs.toList h1 h3
  simpa using this
end
end Go.Proofs.Ytffiilnmfmkpmaa.AE

namespace Go.Proofs.Ytffiilnmfmkpmaa.AE
set_option linter.unusedVariables false
set_option linter.unusedSimpArgs false
set_option linter.constructorNameAsVariable false
open Go Go.Proofs.Ytffiilnmfmkpmaa.Geo
theorem maxLen_eq : Go.maxLen = 9223372036854775807 := by decide
theorem rows_pts : ∀ l : List AV, (∀ x ∈ l, ∃ cs, x = .agg cs ∧ CTall [(.i .i64), (.i .i64)] cs) → ∃ ps : List Pt, l = ps.map pt
  | [], _ => ⟨[], rfl⟩
  | x :: l, h => by
    obtain ⟨ps, rfl⟩ := rows_pts l fun y hy => h y (List.mem_cons_of_mem _ hy)
    obtain ⟨_, rfl, _, _, rfl, ⟨a, rfl, _⟩, _, _, rfl, ⟨b, rfl, _⟩, rfl⟩ := h x (List.mem_cons_self ..)
    exact ⟨(a, b) :: ps, rfl⟩
end Go.Proofs.Ytffiilnmfmkpmaa.AE

namespace Go.Proofs.Ytffiilnmfmkpmaa.AE
set_option linter.unusedVariables false
set_option linter.unusedSimpArgs false
set_option linter.constructorNameAsVariable false
open Go
theorem hg_z {Z X : Heap} {k : Nat} {b : Blk} (h : Z[k]? = some (some b)) : hget (Z ++ X) k = some b := by
  unfold hget
  have hk : k < Z.length := by
    rcases Nat.lt_or_ge k Z.length with h1 | h1
    · exact h1
    · rw [List.getElem?_eq_none h1] at h; cases h
  rw [List.getElem?_append_left hk, h]
theorem set_z {Z X : Heap} {k : Nat} {b : Blk} {x : Option Blk} (h : Z[k]? = some (some b)) : (Z ++ X).set k x = Z.set k x ++ X := by
  have hk : k < Z.length := by
    rcases Nat.lt_or_ge k Z.length with h1 | h1
    · exact h1
    · rw [List.getElem?_eq_none h1] at h; cases h
  rw [List.set_append_left _ _ hk]
theorem hg_o {Z G S : Heap} {z k : Nat} {b : Blk} (hz : Z.length = z) (h : S[k]? = some (some b)) : hget (Z ++ (G ++ S)) (z + (G.length + k)) = some b := by
  subst hz
  unfold hget
  rw [List.getElem?_append_right (by omega), show Z.length + (G.length + k) - Z.length = G.length + k by omega, List.getElem?_append_right (by omega), show G.length + k - G.length = k by omega, h]
theorem set_o {Z G S : Heap} {z k : Nat} {x : Option Blk} (hz : Z.length = z) : (Z ++ (G ++ S)).set (z + (G.length + k)) x = Z ++ (G ++ S.set k x) := by
  subst hz
  rw [List.set_append_right _ _ (by omega), show Z.length + (G.length + k) - Z.length = G.length + k by omega, List.set_append_right _ _ (by omega), show G.length + k - G.length = k by omega]
theorem al_o {Z G S : Heap} {z s : Nat} {e : ETy} {K : AV → Heap → Ans} (hz : Z.length = z) (hs : S.length = s) : C0.hop (Z ++ (G ++ S)) (.alloc e) K = K (.ptr (z + (G.length + s)) 0 0) (Z ++ (G ++ (S ++ [some ⟨e, [e.zero]⟩]))) := by
  subst hz hs
  refine (hop_eq rfl).trans ?_
  simp only [evO, List.length_append, List.append_assoc]
theorem bx_o {Z G S : Heap} {z s : Nat} {e : ETy} {x : AV} {K : AV → Heap → Ans} (hz : Z.length = z) (hs : S.length = s) (h : elOk e x = true) : C0.hop (Z ++ (G ++ S)) (.box e (.v x)) K = K (.ptr (z + (G.length + s)) 0 0) (Z ++ (G ++ (S ++ [some ⟨e, [x]⟩]))) := by
  subst hz hs
  refine (hop_eq (v := .ptr (Z ++ (G ++ S)).length 0 0) (H' := (Z ++ (G ++ S)) ++ [some ⟨e, [x]⟩]) (by simp [aop, evO, h])).trans ?_
  simp only [List.length_append, List.append_assoc]
theorem ld_z {Z X : Heap} {k i j n : Nat} {ag : Bool} {b : Blk} {el v : AV} {K : AV → Heap → Ans} (h : Z[k]? = some (some b)) (hi : b.els[i]? = some el) (hs : sub ag n j el = some v) :
    C0.hop (Z ++ X) (.load ag n (.v (.ptr k i j))) K = K v (Z ++ X) := ld_ptr (hg_z h) hi hs
theorem ld_o {Z G S : Heap} {z k i j n : Nat} {ag : Bool} {b : Blk} {el v : AV} {K : AV → Heap → Ans} (hz : Z.length = z) (h : S[k]? = some (some b)) (hi : b.els[i]? = some el) (hs : sub ag n j el = some v) :
    C0.hop (Z ++ (G ++ S)) (.load ag n (.v (.ptr (z + (G.length + k)) i j))) K = K v (Z ++ (G ++ S)) := ld_ptr (hg_o hz h) hi hs
theorem st_z {Z X : Heap} {k i j n : Nat} {b : Blk} {el el' x : AV} {K : AV → Heap → Ans} (h : Z[k]? = some (some b)) (hi : b.els[i]? = some el) (hs : putSub n j x el = some el') :
    C0.hop (Z ++ X) (.store n (.v (.ptr k i j)) (.v x)) K = K .undef (Z.set k (some { b with els := b.els.set i el' }) ++ X) := by
  rw [st_ptr (hg_z h) hi hs, set_z h]
theorem st_o {Z G S : Heap} {z k i j n : Nat} {b : Blk} {el el' x : AV} {K : AV → Heap → Ans} (hz : Z.length = z) (h : S[k]? = some (some b)) (hi : b.els[i]? = some el) (hs : putSub n j x el = some el') :
    C0.hop (Z ++ (G ++ S)) (.store n (.v (.ptr (z + (G.length + k)) i j)) (.v x)) K = K .undef (Z ++ (G ++ S.set k (some { b with els := b.els.set i el' }))) := by
  rw [st_ptr (hg_o hz h) hi hs, set_o hz]
theorem sub_w {cs : List AV} {n : Nat} (h : cs.length = n) : sub true n 0 (.agg cs) = some (.agg cs) := by
  subst h; simp [sub]
theorem ld_zw {Z X : Heap} {k i n : Nat} {b : Blk} {cs : List AV} {K : AV → Heap → Ans} (h : Z[k]? = some (some b)) (hi : b.els[i]? = some (.agg cs)) (hn : cs.length = n) :
    C0.hop (Z ++ X) (.load true n (.v (.ptr k i 0))) K = K (.agg cs) (Z ++ X) := ld_z h hi (sub_w hn)
theorem ld_ow {Z G S : Heap} {z k i n : Nat} {b : Blk} {cs : List AV} {K : AV → Heap → Ans} (hz : Z.length = z) (h : S[k]? = some (some b)) (hi : b.els[i]? = some (.agg cs)) (hn : cs.length = n) :
    C0.hop (Z ++ (G ++ S)) (.load true n (.v (.ptr (z + (G.length + k)) i 0))) K = K (.agg cs) (Z ++ (G ++ S)) := ld_o hz h hi (sub_w hn)
theorem gen_at {l : List AV} {i : Nat} {a : AV} (h : l[i]? = some a) : l[i]? = some a := h
theorem pl_zsl {o : Option AV} {b : Bool} {K : List AV → Ans} {Z : Bool → Ans} (h : o = some (.zsl b)) : C0.lst o K Z = Z b := by subst h; rfl
theorem c_ort {b : Bool} {x y : Ans} : cnd (b || true) x y = x := by cases b <;> rfl
theorem c_nt {x y : Ans} : cnd (!true) x y = y := rfl
theorem c_nf {x y : Ans} : cnd (!false) x y = x := rfl
theorem at8 (a b c d e f g h i : AV) (l : List AV) : (a :: b :: c :: d :: e :: f :: g :: h :: i :: l)[8]? = some i := rfl
theorem at9 (a b c d e f g h i j : AV) (l : List AV) : (a :: b :: c :: d :: e :: f :: g :: h :: i :: j :: l)[9]? = some j := rfl
theorem at10 (a b c d e f g h i j k : AV) (l : List AV) : (a :: b :: c :: d :: e :: f :: g :: h :: i :: j :: k :: l)[10]? = some k := rfl
theorem tt {a b c : Ans} (h : a = b) (k : b = c) : a = c := h.trans k
theorem w2 {k : IntKind} {o : Option AV} {n : Int} {K : Int → Ans} (h : o = some (.int k n) := by first | with_reducible rfl | exact at0 _ _ | exact at1 _ _ _ | exact at2 _ _ _ _ | exact at3 _ _ _ _ _ | exact at4 _ _ _ _ _ _ | exact at5 _ _ _ _ _ _ _ | exact at6 _ _ _ _ _ _ _ _ | exact at7 _ _ _ _ _ _ _ _ _ | exact at8 _ _ _ _ _ _ _ _ _ _ | exact at9 _ _ _ _ _ _ _ _ _ _ _ | exact at10 _ _ _ _ _ _ _ _ _ _ _ _ | exact gen_at (by with_unfolding_all rfl)) : C0.int k o K = K n := pl_int h
theorem w3 {o : Option AV} {n : Bool} {K : Bool → Ans} (h : o = some (.bool n) := by first | with_reducible rfl | exact at0 _ _ | exact at1 _ _ _ | exact at2 _ _ _ _ | exact at3 _ _ _ _ _ | exact at4 _ _ _ _ _ _ | exact at5 _ _ _ _ _ _ _ | exact at6 _ _ _ _ _ _ _ _ | exact at7 _ _ _ _ _ _ _ _ _ | exact at8 _ _ _ _ _ _ _ _ _ _ | exact at9 _ _ _ _ _ _ _ _ _ _ _ | exact at10 _ _ _ _ _ _ _ _ _ _ _ _ | exact gen_at (by with_unfolding_all rfl)) : C0.bool o K = K n := pl_bool h
theorem w4 {o : Option AV} {v : AV} {K : AV → Ans} (h : o = some v := by first | with_reducible rfl | exact at0 _ _ | exact at1 _ _ _ | exact at2 _ _ _ _ | exact at3 _ _ _ _ _ | exact at4 _ _ _ _ _ _ | exact at5 _ _ _ _ _ _ _ | exact at6 _ _ _ _ _ _ _ _ | exact at7 _ _ _ _ _ _ _ _ _ | exact at8 _ _ _ _ _ _ _ _ _ _ | exact at9 _ _ _ _ _ _ _ _ _ _ _ | exact at10 _ _ _ _ _ _ _ _ _ _ _ _ | exact gen_at (by with_unfolding_all rfl)) : C0.any o K = K v := pl_any h
theorem w5 {o : Option AV} {n : List UInt8} {K : List UInt8 → Ans} (h : o = some (.str n) := by first | with_reducible rfl | exact at0 _ _ | exact at1 _ _ _ | exact at2 _ _ _ _ | exact at3 _ _ _ _ _ | exact at4 _ _ _ _ _ _ | exact at5 _ _ _ _ _ _ _ | exact at6 _ _ _ _ _ _ _ _ | exact at7 _ _ _ _ _ _ _ _ _ | exact at8 _ _ _ _ _ _ _ _ _ _ | exact at9 _ _ _ _ _ _ _ _ _ _ _ | exact at10 _ _ _ _ _ _ _ _ _ _ _ _ | exact gen_at (by with_unfolding_all rfl)) : C0.str o K = K n := pl_str h
theorem w6 {o : Option AV} {l : List AV} {K : List AV → Ans} {Z : Bool → Ans} (h : o = some (.lst l) := by first | with_reducible rfl | exact at0 _ _ | exact at1 _ _ _ | exact at2 _ _ _ _ | exact at3 _ _ _ _ _ | exact at4 _ _ _ _ _ _ | exact at5 _ _ _ _ _ _ _ | exact at6 _ _ _ _ _ _ _ _ | exact at7 _ _ _ _ _ _ _ _ _ | exact at8 _ _ _ _ _ _ _ _ _ _ | exact at9 _ _ _ _ _ _ _ _ _ _ _ | exact at10 _ _ _ _ _ _ _ _ _ _ _ _ | exact gen_at (by with_unfolding_all rfl)) : C0.lst o K Z = K l := pl_lst h
theorem w7 {o : Option AV} {b : Bool} {K : List AV → Ans} {Z : Bool → Ans} (h : o = some (.zsl b) := by first | with_reducible rfl | exact at0 _ _ | exact at1 _ _ _ | exact at2 _ _ _ _ | exact at3 _ _ _ _ _ | exact at4 _ _ _ _ _ _ | exact at5 _ _ _ _ _ _ _ | exact at6 _ _ _ _ _ _ _ _ | exact at7 _ _ _ _ _ _ _ _ _ | exact at8 _ _ _ _ _ _ _ _ _ _ | exact at9 _ _ _ _ _ _ _ _ _ _ _ | exact at10 _ _ _ _ _ _ _ _ _ _ _ _ | exact gen_at (by with_unfolding_all rfl)) : C0.lst o K Z = Z b := pl_zsl h
theorem w8 {n : Nat} {o : Option AV} {l : List AV} {K : List AV → Ans} (h : o = some (.agg l) := by first | with_reducible rfl | exact at0 _ _ | exact at1 _ _ _ | exact at2 _ _ _ _ | exact at3 _ _ _ _ _ | exact at4 _ _ _ _ _ _ | exact at5 _ _ _ _ _ _ _ | exact at6 _ _ _ _ _ _ _ _ | exact at7 _ _ _ _ _ _ _ _ _ | exact at8 _ _ _ _ _ _ _ _ _ _ | exact at9 _ _ _ _ _ _ _ _ _ _ _ | exact at10 _ _ _ _ _ _ _ _ _ _ _ _ | exact gen_at (by with_unfolding_all rfl)) (h2 : l.length = n := by with_unfolding_all rfl) : C0.agg n o K = K l := pl_agg h h2
theorem w9 {n : Nat} {o : Option AV} {l : List AV} {K : List AV → Ans} (h : o = some (.tup l) := by first | with_reducible rfl | exact at0 _ _ | exact at1 _ _ _ | exact at2 _ _ _ _ | exact at3 _ _ _ _ _ | exact at4 _ _ _ _ _ _ | exact at5 _ _ _ _ _ _ _ | exact at6 _ _ _ _ _ _ _ _ | exact at7 _ _ _ _ _ _ _ _ _ | exact at8 _ _ _ _ _ _ _ _ _ _ | exact at9 _ _ _ _ _ _ _ _ _ _ _ | exact at10 _ _ _ _ _ _ _ _ _ _ _ _ | exact gen_at (by with_unfolding_all rfl)) (h2 : l.length = n := by with_unfolding_all rfl) : C0.tup n o K = K l := pl_tup h h2
theorem wf {Z X : Heap} {k i n : Nat} {b : Blk} {cs : List AV} {K : AV → Heap → Ans} (h : Z[k]? = some (some b) := by with_unfolding_all rfl) (hi : b.els[i]? = some (.agg cs) := by with_unfolding_all rfl) (hn : cs.length = n := by with_unfolding_all rfl) :
    C0.hop (Z ++ X) (.load true n (.v (.ptr k i 0))) K = K (.agg cs) (Z ++ X) := ld_zw h hi hn
theorem wg {Z G S : Heap} {z k i n : Nat} {b : Blk} {cs : List AV} {K : AV → Heap → Ans} (hz : Z.length = z := by with_unfolding_all rfl) (h : S[k]? = some (some b) := by with_unfolding_all rfl) (hi : b.els[i]? = some (.agg cs) := by with_unfolding_all rfl) (hn : cs.length = n := by with_unfolding_all rfl) :
    C0.hop (Z ++ (G ++ S)) (.load true n (.v (.ptr (z + (G.length + k)) i 0))) K = K (.agg cs) (Z ++ (G ++ S)) := ld_ow hz h hi hn
theorem wh {Z X : Heap} {k i j n : Nat} {ag : Bool} {b : Blk} {el v : AV} {K : AV → Heap → Ans} (h : Z[k]? = some (some b) := by with_unfolding_all rfl) (hi : b.els[i]? = some el := by with_unfolding_all rfl) (hs : sub ag n j el = some v := by with_unfolding_all rfl) :
    C0.hop (Z ++ X) (.load ag n (.v (.ptr k i j))) K = K v (Z ++ X) := ld_z h hi hs
theorem wi {Z G S : Heap} {z k i j n : Nat} {ag : Bool} {b : Blk} {el v : AV} {K : AV → Heap → Ans} (hz : Z.length = z := by with_unfolding_all rfl) (h : S[k]? = some (some b) := by with_unfolding_all rfl) (hi : b.els[i]? = some el := by with_unfolding_all rfl) (hs : sub ag n j el = some v := by with_unfolding_all rfl) :
    C0.hop (Z ++ (G ++ S)) (.load ag n (.v (.ptr (z + (G.length + k)) i j))) K = K v (Z ++ (G ++ S)) := ld_o hz h hi hs
theorem wj {Z X : Heap} {k i j n : Nat} {b : Blk} {el el' x : AV} {K : AV → Heap → Ans} (h : Z[k]? = some (some b) := by with_unfolding_all rfl) (hi : b.els[i]? = some el := by with_unfolding_all rfl) (hs : putSub n j x el = some el' := by with_unfolding_all rfl) :
    C0.hop (Z ++ X) (.store n (.v (.ptr k i j)) (.v x)) K = K .undef (Z.set k (some { b with els := b.els.set i el' }) ++ X) := st_z h hi hs
theorem wk {Z G S : Heap} {z k i j n : Nat} {b : Blk} {el el' x : AV} {K : AV → Heap → Ans} (hz : Z.length = z := by with_unfolding_all rfl) (h : S[k]? = some (some b) := by with_unfolding_all rfl) (hi : b.els[i]? = some el := by with_unfolding_all rfl) (hs : putSub n j x el = some el' := by with_unfolding_all rfl) :
    C0.hop (Z ++ (G ++ S)) (.store n (.v (.ptr (z + (G.length + k)) i j)) (.v x)) K = K .undef (Z ++ (G ++ S.set k (some { b with els := b.els.set i el' }))) := st_o hz h hi hs
theorem wl {Z G S : Heap} {z s : Nat} {e : ETy} {K : AV → Heap → Ans} (hz : Z.length = z := by with_unfolding_all rfl) (hs : S.length = s := by with_unfolding_all rfl) : C0.hop (Z ++ (G ++ S)) (.alloc e) K = K (.ptr (z + (G.length + s)) 0 0) (Z ++ (G ++ (S ++ [some ⟨e, [e.zero]⟩]))) := al_o hz hs
theorem wm {Z G S : Heap} {z s : Nat} {e : ETy} {x : AV} {K : AV → Heap → Ans} (hz : Z.length = z := by with_unfolding_all rfl) (hs : S.length = s := by with_unfolding_all rfl) (h : elOk e x = true := by with_unfolding_all rfl) : C0.hop (Z ++ (G ++ S)) (.box e (.v x)) K = K (.ptr (z + (G.length + s)) 0 0) (Z ++ (G ++ (S ++ [some ⟨e, [x]⟩]))) := bx_o hz hs h
theorem wn {H : Heap} {x v : AV} {j n : Nat} {ag : Bool} {K : AV → Heap → Ans} (hs : sub ag n j x = some v := by with_unfolding_all rfl) : C0.hop H (.load ag n (.v (.fptr x j))) K = K v H := ld_fptr hs
theorem wo {H : Heap} {args : List AV} {K : List AV → Bool → Ans} (h : args.all (noId DEPTH) = true := by with_unfolding_all rfl) : C0.snp H args K = K args true := snp_free h
theorem wx {H : Heap} {len es id i j : Nat} {q : Int} {K : AV → Heap → Ans} (h : (decide (0 ≤ q) && decide (q < (len : Int))) = true := by with_unfolding_all rfl) : C0.hop H (.ixAA len es (.v (.ptr id i j)) (.v (.int .i64 q))) K = K (.ptr id i (j + q.toNat * es)) H := by
  have h' : 0 ≤ q ∧ q < (len : Int) := by simpa using h
  exact hop_eq (by simp only [aop, evO, aInt, aShift]; rw [if_pos h'])
end Go.Proofs.Ytffiilnmfmkpmaa.AE
