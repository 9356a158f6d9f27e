/- The texts that the seat's laws need, part 2. No conditions. -/
import Derived.ChangeArms
import Derived.WideShapes
import Derived.OpenShut
import Derived.Deep.Slices
import Derived.Test.YtnldgacamgjpnaaMc1
namespace Go.Proofs.Ytnldgacamgjpnaa.AE
set_option linter.unusedVariables false
set_option linter.unusedSimpArgs false
set_option linter.constructorNameAsVariable false
open Go

theorem aop_call_irr {call call' : CallF} {ev : Opd → AV} {H : Heap} {io : IOp} (h : ∀ sh f args, io ≠ .call sh f args) : aop call ev H io = aop call' ev H io := by
  cases io <;> first | rfl | exact absurd rfl (h _ _ _) | skip
  all_goals (rename_i b _; cases b <;> rfl)

theorem xop0_ok {u : XU} {x : XCall} {call : CallF} (hx : XOK x call) {ev : Opd → AV} {H : Heap} {io : IOp} {K : AV → Heap → Ans} {r : AV} (h : xop0 C0 u x ev H io K = some r) : ∃ v H', aop call ev H io = some (v, H') ∧ K v H' = some r := by
  unfold xop0 at h
  split at h
  · obtain ⟨t, h1, h2⟩ := xpick_ok h
    exact ⟨_, H, by simp [aop, h1], h2⟩
  · obtain ⟨v, h1, h2⟩ := xbin_ok h
    exact ⟨v, H, by simp [aop, h1], h2⟩
  · split at h <;> (try (cases h; done))
    rename_i b hb
    exact ⟨_, H, by simp only [aop, hb], h⟩
  · split at h <;> (try (cases h; done))
    rename_i b hb
    exact ⟨_, H, by simp only [aop, hb], h⟩
  · split at h
    · rename_i l h1 h2
      rcases cnd_some h with ⟨_, h⟩ | ⟨h0, h⟩
      · cases h
      · cases l with
        | nil => simp at h0
        | cons a l => exact ⟨_, H, by simp only [aop, h1, h2, eqV, eqS], h⟩
    · split at h <;> (try (cases h; done))
      rename_i b hb
      exact ⟨_, H, by simp only [aop, hb], h⟩
  · split at h <;> (try (cases h; done))
    rename_i g a b hf
    split at h
    · obtain ⟨v, H', h1, h2⟩ := hx _ _ _ _ _ _ _ h
      exact ⟨v, H', by simp only [aop, hf, h1], h2⟩
    · obtain ⟨v, H', h1, h2⟩ := hx _ _ _ _ _ _ _ h
      exact ⟨v, H', by simp only [aop, hf, h1], h2⟩
  · split at h <;> (try (cases h; done))
    rename_i s hs
    obtain ⟨hh, h1, h2⟩ := xbound_ok h
    obtain ⟨l, h3, h4⟩ := xbound_ok h2
    exact ⟨_, H, by simp only [aop, aSubS, hs, h1, h3], h4⟩
  · split at h <;> (try (cases h; done))
    rename_i s q hs hq
    rcases cnd_some h with ⟨h0, h⟩ | ⟨_, h⟩
    · have h0 := of_decide_eq_true h0
      simp only [C0] at h
      obtain ⟨n, h1, h2⟩ := Option.bind_eq_some_iff.mp h
      cases hb : s[q.toNat]? with
      | none => simp [hb, isInt] at h1
      | some b =>
        simp [hb, isInt] at h1
        subst h1
        exact ⟨_, H, by simp [aop, hs, hq, h0, hb], h2⟩
    · cases h
  · split at h <;> (try (cases h; done))
    rename_i q hq
    split at h <;> (try (cases h; done))
    · rename_i l hl
      unfold xat at h
      rcases cnd_some h with ⟨h0, h⟩ | ⟨_, h⟩
      · have h0 := of_decide_eq_true h0
        obtain ⟨v, h1, h2⟩ := destr_sound _ _ _ _ h
        split at h2 <;> (try (cases h2; done))
        rename_i hc
        have hc := of_decide_eq_true hc
        exact ⟨_, H, by simp [aop, hq, hl, aIx, h0, h1, hc], h2⟩
      · cases h
    · rename_i id o n hl
      split at h <;> (try (cases h; done))
      rename_i b hb
      split at h <;> (try (cases h; done))
      rename_i he
      have he := of_decide_eq_true he
      rcases cnd_some h with ⟨h0, h⟩ | ⟨_, h⟩
      · have h0 := of_decide_eq_true h0
        exact ⟨_, H, by simp [aop, hq, hl, aIx, hb, h0, he], h⟩
      · cases h
  · rename_i hne
    split at h <;> (try (cases h; done))
    rename_i v H' hv
    exact ⟨v, H', by rw [← hv]; exact aop_call_irr (fun sh f args he => by subst he; simp_all), h⟩

theorem xop_ok {u : XU} {sh : Sh} {x : XCall} {call : CallF} (hx : XOK x call) {ev : Opd → AV} {H : Heap} {io : IOp} {K : AV → Heap → Ans} {r : AV} (h : xop C0 u sh x ev H io K = some r) : ∃ v H', aop call ev H io = some (v, H') ∧ K v H' = some r := by
  unfold xop at h
  split at h
  · split at h
    · rename_i hi
      rw [close_ok hi]
      simp only [C0] at h
      split at h
      · rename_i v H' hv
        split at h
        · exact ⟨v, H', hv, h⟩
        · obtain ⟨w, h1, h2⟩ := destr_sound _ _ _ _ h
          cases h1
          exact ⟨v, H', hv, h2⟩
      · cases h
    · exact xop0_ok hx h
  · exact xop0_ok hx h

theorem set_same {env : List AV} {t : Nat} {v : AV} (h : env.getD t .undef = v) (hv : v ≠ .undef) : env.set t v = env := by
  apply List.ext_getElem?
  intro i
  by_cases hi : t = i
  · subst hi
    rcases Nat.lt_or_ge t env.length with hlt | hge
    · rw [List.getElem?_set_self hlt, List.getElem?_eq_getElem hlt, ← h]
      simp [List.getD_eq_getElem?_getD, hlt]
    · exact absurd (by rw [← h]; simp [List.getD_eq_getElem?_getD, List.getElem?_eq_none hge]) hv
  · rw [List.getElem?_set_ne hi]

theorem xwant_ok {env : List AV} {g : Option (Option Nat × Bool)} {A B : List AV → Ans} {r : AV} (h : xwant env g A B = some r) : (want env g = some true ∧ A env = some r) ∨ (want env g = some false ∧ B env = some r) := by
  unfold xwant at h
  split at h
  · exact .inl ⟨rfl, h⟩
  · rename_i t b
    split at h <;> (try (cases h; done))
    · rename_i c hc
      split at h
      · rcases cnd_some h with ⟨h0, h⟩ | ⟨h0, h⟩
        · subst h0; rw [set_same hc (by simp)] at h; exact .inl ⟨by simp only [want, hc]; rfl, h⟩
        · subst h0; rw [set_same hc (by simp)] at h; exact .inr ⟨by simp only [want, hc]; rfl, h⟩
      · rcases cnd_some h with ⟨h0, h⟩ | ⟨h0, h⟩
        · subst h0; rw [set_same hc (by simp)] at h; exact .inr ⟨by simp only [want, hc]; rfl, h⟩
        · subst h0; rw [set_same hc (by simp)] at h; exact .inl ⟨by simp only [want, hc]; rfl, h⟩
    · rename_i hc
      exact .inr ⟨by simp only [want, hc], h⟩
  · exact .inr ⟨rfl, h⟩

theorem xrunOps_ok {u : XU} {x : XCall} {call : CallF} (hx : XOK x call) : ∀ (l : List IOper) (s : St) (K : St → Ans) (r : AV), xrunOps C0 u x l s K = some r → ∃ s', runOps call l s = some s' ∧ K s' = some r
  | [], s, K, r, h => ⟨s, rfl, h⟩
  | o :: l, s, K, r, h => by
    simp only [xrunOps] at h
    rcases xwant_ok h with ⟨hw, h⟩ | ⟨hw, h⟩
    · obtain ⟨v, H', h1, h2⟩ := xop_ok hx h
      obtain ⟨s', h3, h4⟩ := xrunOps_ok hx l _ K r h2
      exact ⟨s', by simp only [runOps, hw, h1, h3], h4⟩
    · obtain ⟨s', h3, h4⟩ := xrunOps_ok hx l _ K r h
      exact ⟨s', by simp only [runOps, hw, h3], h4⟩

theorem xrunOpsD_ok {u : XU} {x : XCall} {call : CallF} (hx : XOK x call) : ∀ (l : List (IOper × List Nat)) (i : Nat) (log : List (Nat × Nat)) (s : St) (K : St → Ans) (r : AV), xrunOpsD C0 u x l i log s K = some r → ∃ s', runOpsD call l i log s = some s' ∧ K s' = some r
  | [], i, log, s, K, r, h => ⟨s, rfl, h⟩
  | (o, chk) :: l, i, log, s, K, r, h => by
    simp only [xrunOpsD] at h
    rcases xwant_ok h with ⟨hw, h⟩ | ⟨hw, h⟩
    · split at h <;> (try (cases h; done))
      rename_i hl
      obtain ⟨v, H', h1, h2⟩ := xop_ok hx h
      obtain ⟨s', h3, h4⟩ := xrunOpsD_ok hx l _ _ _ K r h2
      refine ⟨s', ?_, h4⟩
      simp only [runOpsD, hw]
      split
      · simp only [h1, h3]
      · rename_i hn
        rw [Bool.or_eq_true] at hl
        rcases hl with hl | hl
        · exact absurd (by rw [List.isEmpty_iff] at hl; subst hl; simp) hn
        · exact absurd hl hn
    · obtain ⟨s', h3, h4⟩ := xrunOpsD_ok hx l _ _ _ K r h
      exact ⟨s', by simp only [runOpsD, hw, h3], h4⟩

theorem xdisj_ok {chk : List Nat} {t : TV} {K : Ans} {r : AV} : ∀ {l : List (Nat × TV)}, xdisj C0 chk t l K = some r → K = some r ∧ ∀ e ∈ l, chk.contains e.1 = true → disjB e.2 t = true
  | [], h => ⟨h, fun e he => by cases he⟩
  | (i, s) :: l, h => by
    simp only [xdisj] at h
    split at h
    · rename_i hc
      split at h
      · obtain ⟨h1, h2⟩ := xdisj_ok h
        refine ⟨h1, fun e he hk => ?_⟩
        rcases List.mem_cons.mp he with rfl | he
        · rfl
        · exact h2 e he hk
      · obtain ⟨h1, h2⟩ := xdisj_ok h
        refine ⟨h1, fun e he hk => ?_⟩
        rcases List.mem_cons.mp he with rfl | he
        · cases s <;> rfl
        · exact h2 e he hk
      · simp only [C0] at h
        split at h
        · rename_i hd
          obtain ⟨h1, h2⟩ := xdisj_ok h
          refine ⟨h1, fun e he hk => ?_⟩
          rcases List.mem_cons.mp he with rfl | he
          · exact hd
          · exact h2 e he hk
        · cases h
    · rename_i hc
      obtain ⟨h1, h2⟩ := xdisj_ok h
      refine ⟨h1, fun e he hk => ?_⟩
      rcases List.mem_cons.mp he with rfl | he
      · rw [hc] at hk; cases hk
      · exact h2 e he hk

/-- It may name that memory. -/
def tmem (id : Nat) : TV → Prop
  | .no => False
  | .addr v => id ∈ idsOf v
  | .all l => l.all (noId DEPTH) = false
theorem touch_tv {ev : Opd → AV} {H : Heap} {io : IOp} {id : Nat} (h : id ∈ touch ev H io) : tmem id (tvOf ev io) := by
  cases io <;> first | (cases h; done) | skip
  case load ag n a =>
    simp only [touch] at h
    simp only [tvOf, tmem]
    split at h
    · rename_i he; rw [he]; exact h
    · cases h
  case store n a v =>
    simp only [touch] at h
    simp only [tvOf, tmem]
    split at h
    · rename_i he; rw [he]; exact h
    · cases h
  case b2s x =>
    simp only [touch] at h
    simp only [tvOf, tmem]
    split at h
    · rename_i he; rw [he]; exact h
    · cases h
  case call sh f args =>
    simp only [touch] at h
    simp only [tvOf]
    split at h
    · rename_i he
      rw [he]
      simp only [tmem]
      split at h
      · cases h
      · rename_i hn; simpa using hn
    · cases h
theorem disj_no {id : Nat} {a b : TV} (h : disjB a b = true) (ha : tmem id a) (hb : tmem id b) : False := by
  cases a <;> cases b <;> simp only [tmem] at ha hb <;> try exact ha.elim
  all_goals (try exact hb.elim)
  · rename_i v w
    simp only [disjB, List.all_eq_true] at h
    have := h id ha
    simp [hb] at this
  · simp only [disjB] at h; rw [hb] at h; cases h
  · simp only [disjB] at h; rw [ha] at h; cases h
  · simp only [disjB] at h; rw [ha] at h; cases h
theorem xrunOpsH_ok {u : XU} {x : XCall} {call : CallF} (hx : XOK x call) : ∀ (l : List (IOper × List Nat)) (i : Nat) (lg : List (Nat × TV)) (log : List (Nat × Nat)) (s : St) (K : St → Ans) (r : AV), (∀ p ∈ log, ∃ e ∈ lg, e.1 = p.1 ∧ tmem p.2 e.2) →
    xrunOpsH C0 u x l i lg s K = some r → ∃ s', runOpsD call l i log s = some s' ∧ K s' = some r
  | [], i, lg, log, s, K, r, _, h => ⟨s, rfl, h⟩
  | (o, chk) :: l, i, lg, log, s, K, r, hl, h => by
    simp only [xrunOpsH] at h
    rcases xwant_ok h with ⟨hw, h⟩ | ⟨hw, h⟩
    · obtain ⟨h, hd⟩ := xdisj_ok h
      obtain ⟨v, H', h1, h2⟩ := xop_ok hx h
      have hok : log.all (fun p => !(chk.contains p.1) || !((touch (evO s.env) s.H o.op).contains p.2)) = true := by
        rw [List.all_eq_true]
        intro p hp
        obtain ⟨e, he, h3, h4⟩ := hl p hp
        cases hc : chk.contains p.1 with
        | false => rfl
        | true =>
          cases ht : (touch (evO s.env) s.H o.op).contains p.2 with
          | false => rfl
          | true => exact (disj_no (hd e he (by rw [h3]; exact hc)) h4 (touch_tv (by simpa using ht))).elim
      obtain ⟨s', h3, h4⟩ := xrunOpsH_ok hx l _ _ (log ++ (touch (evO s.env) s.H o.op).map fun id => (i, id)) _ K r (by
        intro p hp
        rcases List.mem_append.mp hp with hp | hp
        · obtain ⟨e, he, h3, h4⟩ := hl p hp
          exact ⟨e, List.mem_cons_of_mem _ he, h3, h4⟩
        · obtain ⟨id, hid, rfl⟩ := List.mem_map.mp hp
          exact ⟨_, List.mem_cons_self .., rfl, touch_tv hid⟩) h2
      refine ⟨s', ?_, h4⟩
      simp only [runOpsD, hw]
      rw [if_pos hok]
      simp only [h1, h3]
    · obtain ⟨s', h3, h4⟩ := xrunOpsH_ok hx l _ _ log _ K r hl h
      exact ⟨s', by simp only [runOpsD, hw, h3], h4⟩

theorem xexec_ok {x y : XCall} {call callP : CallF} (hx : XOK x call) (hy : XOK y callP) (u : XU) (fu : Nat) : ∀ (c : IC) (da : List Nat) (s : St) (K : Ex → St → Ans) (r : AV), xexec C0 u x y fu c da s K = some r → ∃ e s', exec call callP fu c s = some (e, s') ∧ K e s' = some r := by
  intro c
  induction c with
  | skip => intro da s K r h; exact ⟨_, _, rfl, h⟩
  | reg ops =>
    intro da s K r h
    obtain ⟨s', h1, h2⟩ := xrunOps_ok hx ops s _ r h
    exact ⟨.normal, s', by simp only [exec, h1], h2⟩
  | regD ops =>
    intro da s K r h
    simp only [xexec] at h
    split at h
    · obtain ⟨s', h1, h2⟩ := xrunOpsH_ok hy ops 0 [] [] s _ r (fun p hp => by cases hp) h
      exact ⟨.normal, s', by simp only [exec, h1], h2⟩
    · obtain ⟨s', h1, h2⟩ := xrunOpsD_ok hy ops 0 [] s _ r h
      exact ⟨.normal, s', by simp only [exec, h1], h2⟩
  | seq a b iha ihb =>
    intro da s K r h
    simp only [xexec] at h
    split at h
    case h_2 =>
      simp only [C0, xiter] at h
      obtain ⟨e, s1, h1, h2⟩ := iha _ s _ r (destrE_sound h)
      cases e with
      | normal =>
        simp only [xgo, if_true] at h2
        obtain ⟨e, s', h3, h4⟩ := ihb _ s1 K r (destrE_sound h2)
        exact ⟨e, s', by simp only [exec, h1, h3], h4⟩
      | exit i =>
        simp only at h2
        split at h2
        · cases h2
        · rename_i hi
          have hi := of_decide_eq_false hi
          simp only [xgo, if_neg hi] at h2
          exact ⟨_, s1, by simp only [exec, h1], destrE_sound (xgo_ok (f := fun i s1 => destrE C0 u da (daX a da i) a s s1 fun s2 => K (.exit i) s2) _ h2)⟩
      | ret =>
        have h3 := destrE_sound h2
        split at h3
        · exact ⟨_, s1, by simp only [exec, h1], h3⟩
        · cases h3
    obtain ⟨e, s1, h1, h2⟩ := iha _ s _ r h
    cases e with
    | normal =>
      obtain ⟨e, s', h3, h4⟩ := ihb _ s1 K r h2
      exact ⟨e, s', by simp only [exec, h1, h3], h4⟩
    | exit i => exact ⟨.exit i, s1, by simp only [exec, h1], h2⟩
    | ret => exact ⟨.ret, s1, by simp only [exec, h1], h2⟩
  | cond c a b iha ihb =>
    intro da s K r h
    cases c with
    | t n =>
      simp only [xexec] at h
      split at h <;> (try (cases h; done))
      rename_i t ht
      rcases cnd_some h with ⟨h0, h⟩ | ⟨h0, h⟩
      · subst h0; rw [set_same ht (by simp)] at h
        obtain ⟨e, s', h1, h2⟩ := iha _ s K r h
        exact ⟨e, s', by simp only [exec, evO, ht, cond_true, h1], h2⟩
      · subst h0; rw [set_same ht (by simp)] at h
        obtain ⟨e, s', h1, h2⟩ := ihb _ s K r h
        exact ⟨e, s', by simp only [exec, evO, ht, cond_false, h1], h2⟩
    | v c =>
      simp only [xexec] at h
      split at h <;> (try (cases h; done))
      rename_i t
      rcases cnd_some h with ⟨h0, h⟩ | ⟨h0, h⟩
      · subst h0
        obtain ⟨e, s', h1, h2⟩ := iha _ s K r h
        exact ⟨e, s', by simp only [exec, evO, cond_true, h1], h2⟩
      · subst h0
        obtain ⟨e, s', h1, h2⟩ := ihb _ s K r h
        exact ⟨e, s', by simp only [exec, evO, cond_false, h1], h2⟩
  | block id a iha =>
    intro da s K r h
    obtain ⟨e, s1, h1, h2⟩ := iha _ s _ r h
    cases e with
    | normal => exact ⟨.normal, s1, by simp only [exec, h1], h2⟩
    | ret => exact ⟨.ret, s1, by simp only [exec, h1], h2⟩
    | exit i =>
      simp only at h2
      split at h2
      · rename_i hi
        have hi := of_decide_eq_true hi
        exact ⟨.normal, s1, by simp only [exec, h1, hi, if_true], h2⟩
      · rename_i hi
        have hi := of_decide_eq_false hi
        exact ⟨.exit i, s1, by simp only [exec, h1, hi, if_false], h2⟩
  | loop a iha =>
    intro da s K r h
    have key2 : ∀ (n : Nat) (s0 : St) (K' : Ex → St → Ans), xiter (fun s1 Kn => xexec C0 u x y fu a da s1 Kn) n s0 K' = some r → ∃ e s', iter (exec call callP fu a) n s0 = some (e, s') ∧ K' e s' = some r := by
      intro n
      induction n with
      | zero => intro s0 K' h; simp [xiter] at h
      | succ n ih =>
        intro s0 K' h
        simp only [xiter] at h
        obtain ⟨e, s1, h1, h2⟩ := iha _ s0 _ r h
        cases e with
        | normal =>
          obtain ⟨e, s', h3, h4⟩ := ih s1 K' h2
          exact ⟨e, s', by simp only [iter, h1, h3], h4⟩
        | exit i => exact ⟨.exit i, s1, by simp only [iter, h1], h2⟩
        | ret => exact ⟨.ret, s1, by simp only [iter, h1], h2⟩
    have key : ∀ (n : Nat) (s0 : St) (K' : Ex → St → Ans), xiter (fun s1 Kn => destrE C0 u da [] a s s1 fun s2 => xexec C0 u x y fu a da s2 Kn) n s0 K' = some r → ∃ e s', iter (exec call callP fu a) n s0 = some (e, s') ∧ K' e s' = some r := by
      intro n
      induction n with
      | zero => intro s0 K' h; simp [xiter] at h
      | succ n ih =>
        intro s0 K' h
        simp only [xiter] at h
        obtain ⟨e, s1, h1, h2⟩ := iha _ s0 _ r (destrE_sound h)
        cases e with
        | normal =>
          obtain ⟨e, s', h3, h4⟩ := ih s1 K' h2
          exact ⟨e, s', by simp only [iter, h1, h3], h4⟩
        | exit i => exact ⟨.exit i, s1, by simp only [iter, h1], h2⟩
        | ret => exact ⟨.ret, s1, by simp only [iter, h1], h2⟩
    simp only [xexec] at h
    cases hun : u.un with
    | true => rw [hun] at h; exact key2 fu s K h
    | false =>
      rw [hun] at h
      obtain ⟨e, s', h1, h2⟩ := key fu s _ h
      cases e with
      | normal => cases h2
      | exit i => exact ⟨_, s', h1, destrE_sound (xgo_ok (f := fun i s1 => destrE C0 u da (daX a da i) a s s1 fun s2 => K (.exit i) s2) _ h2)⟩
      | ret => exact ⟨_, s', h1, destrE_sound h2⟩
  | exit id => intro da s K r h; exact ⟨_, _, rfl, h⟩
  | ret => intro da s K r h; exact ⟨_, _, rfl, h⟩

theorem xresAll_ok {s : St} : ∀ {l : List RV} {K : List AV → Ans} {r : AV}, xresAll C0 s l K = some r → ∃ vs, resAll s l = some vs ∧ K vs = some r
  | [], K, r, h => ⟨[], rfl, h⟩
  | .tmp t :: l, K, r, h => by
    obtain ⟨vs, h1, h2⟩ := xresAll_ok (l := l) h
    exact ⟨_, by simp only [resAll, resOf, h1], h2⟩
  | .cell ag n t :: l, K, r, h => by
    have h : (match (match aLoad s.H ag n (s.env.getD t .undef) with
        | some v => some (v, s.H)
        | none => none : Option (AV × Heap)) with
      | some (v, _) => xresAll C0 s l fun vs => K (v :: vs)
      | none => none) = some r := h
    cases ha : aLoad s.H ag n (s.env.getD t .undef) with
    | none => rw [ha] at h; cases h
    | some v =>
      rw [ha] at h
      obtain ⟨vs, h1, h2⟩ := xresAll_ok (l := l) h
      exact ⟨_, by simp only [resAll, resOf, ha, h1], h2⟩

theorem xrunFn_ok {un : XU} {x y : XCall} {call callP : CallF} (hx : XOK x call) (hy : XOK y callP) {fu : Nat} {fn : AFn} {args : List AV} {H : Heap} {K : AV → Heap → Ans} {r : AV} (h : xrunFn C0 un x y fu fn args H K = some r) :
    ∃ v H', runFn call callP fu fn args H = some (v, H') ∧ K v H' = some r := by
  unfold xrunFn at h
  obtain ⟨e, s', h1, h2⟩ := xexec_ok hx hy un fu _ _ _ _ r h
  unfold runFn
  rw [h1]
  cases e with
  | exit i => cases h2
  | normal =>
    simp only at h2 ⊢
    cases hm : un.hm <;> simp only [hm] at h2
    · cases hr : resAll s' fn.results with
      | none => simp [hr] at h2
      | some vs => simp only [hr] at h2; exact ⟨_, _, rfl, h2⟩
    · obtain ⟨vs, h3, h4⟩ := xresAll_ok h2
      simp only [h3]; exact ⟨_, _, rfl, h4⟩
  | ret =>
    simp only at h2 ⊢
    cases hm : un.hm <;> simp only [hm] at h2
    · cases hr : resAll s' fn.results with
      | none => simp [hr] at h2
      | some vs => simp only [hr] at h2; exact ⟨_, _, rfl, h2⟩
    · obtain ⟨vs, h3, h4⟩ := xresAll_ok h2
      simp only [h3]; exact ⟨_, _, rfl, h4⟩

theorem xempty_ok {M : Mod} {pc : PC} {g : FuncId} {args : List AV} {H : Heap} {K : AV → Heap → Ans} {rest : Ans} {r : AV} (h : xempty C0 M pc g args H K rest = some r) :
    (∃ v, emptyR M pc g args = some v ∧ K v H = some r) ∨ (emptyR M pc g args = none ∧ rest = some r) := by
  unfold xempty at h
  unfold emptyR
  cases hc : M.cl g with
  | false => simp only [hc] at h; exact .inr ⟨rfl, h⟩
  | true =>
    simp only [hc] at h
    match args, h with
    | [], h => exact .inr ⟨rfl, h⟩
    | [x], h =>
      simp only [C0] at h
      obtain ⟨b, hb, h⟩ := Option.bind_eq_some_iff.mp h
      have hx : clr x = some (.bool b) := by
        unfold isBool at hb
        split at hb <;> (try (cases hb; done))
        cases hb; assumption
      simp only [hx]
      cases b with
      | false => exact .inr ⟨rfl, h⟩
      | true =>
        simp only [cnd] at h
        split at h
        · rename_i he
          exact .inl ⟨_, he, h⟩
        · cases h
    | _ :: _ :: _, h => exact .inr ⟨rfl, h⟩

theorem xcallI_ok (M : Mod) (U : FuncId → XU) (pc : PC) : ∀ n, XOK (xcallI C0 M U pc n) (callI M pc n)
  | 0 => xcallP_ok M pc
  | n + 1 => by
    intro sn sh g args H K r h
    simp only [xcallI] at h
    simp only [callI]
    cases he : M.ext g with
    | some e =>
      simp only [he, xext] at h
      obtain ⟨v, h1, h2⟩ := destr_sound _ _ _ _ h
      exact ⟨v, H, by simp [extCall, h1], h2⟩
    | none =>
      simp only [he] at h
      cases hi : M.inl g <;> simp only [hi] at h
      · obtain ⟨v, H', h1, h2⟩ := xpure_ok pc _ _ _ _ _ _ _ h
        exact ⟨v, H', by simp [h1], h2⟩
      · rcases xempty_ok h with ⟨v, hv, h2⟩ | ⟨hn, h⟩
        · exact ⟨v, H, by simp [hv], h2⟩
        · cases hc : M.code g with
          | none => simp [hc] at h
          | some fn =>
            simp only [hc] at h
            obtain ⟨v, H', h1, h2⟩ := xrunFn_ok (xcallI_ok M U pc n) (xcallP_ok M pc) h
            exact ⟨v, H', by simp [hn, h1], h2⟩

/-- WHAT IS TOLD FORWARDS HOLDS. -/
theorem xcall_ok {M : Mod} {U : FuncId → XU} {d : Nat} {g : FuncId} {args : List AV} {r : AV} (h : xcall C0 M U d g args = some r) : pcall M (d + 1) g args = some r := by
  unfold xcall at h
  simp only [pcall]
  cases hc : M.code g with
  | none => simp [hc] at h
  | some fn =>
    simp only [hc] at h
    obtain ⟨v, H', h1, h2⟩ := xrunFn_ok (xcallI_ok M U (pcall M d) IDEPTH) (xcallP_ok M (pcall M d)) h
    simp only [h1]
    split at h2
    · exact h2
    · exact h2
end Go.Proofs.Ytnldgacamgjpnaa.AE

namespace Go.Proofs.Ytnldgacamgjpnaa.AE
set_option linter.unusedVariables false
set_option linter.unusedSimpArgs false
set_option linter.constructorNameAsVariable false
open Go Go.RowKit
set_option maxRecDepth 100000
def codes : FuncId → Option AFn
  | 3 => some c3
  | 4 => some c4
  | 5 => some c5
  | 6 => some c6
  | 7 => some c7
  | 8 => some c8
  | 9 => some c9
  | 10 => some c10
  | 11 => some c11
  | 12 => some c12
  | 13 => some c13
  | 14 => some c14
  | 15 => some c15
  | 16 => some c16
  | 17 => some c17
  | 18 => some c18
  | 19 => some c19
  | 20 => some c20
  | 21 => some c21
  | 22 => some c22
  | 23 => some c23
  | 24 => some c24
  | 25 => some c25
  | 26 => some c26
  | 27 => some c27
  | 28 => some c28
  | 29 => some c29
  | 30 => some c30
  | 31 => some c31
  | 32 => some c32
  | 33 => some c33
  | 34 => some c34
  | 35 => some c35
  | 36 => some c36
  | 37 => some c37
  | 38 => some c38
  | 39 => some c39
  | 40 => some c40
  | 41 => some c41
  | 42 => some c42
  | 43 => some c43
  | 44 => some c44
  | 45 => some c45
  | 46 => some c46
  | 47 => some c47
  | 48 => some c48
  | 49 => some c49
  | 50 => some c50
  | 51 => some c51
  | 52 => some c52
  | 54 => some c54
  | _ => none
/-- The sum of numbers of 64 bits. -/
def add64E : List AV → Option AV
  | [.int .u64 x, .int .u64 y, .int .u64 c] => match decide (0 ≤ x) && decide (0 ≤ y) && decide (0 ≤ c) && decide (c ≤ 1) with
    | true => some (.tup [.int .u64 ((x + y + c) % 18446744073709551616), .int .u64 ((x + y + c) / 18446744073709551616)])
    | false => none
  | _ => none
theorem add64_ok : ExtOK Try.prog 53 add64E := by
  intro args v h
  unfold add64E at h
  split at h <;> (try (cases h; done))
  rename_i x y c
  split at h <;> (try (cases h; done))
  rename_i hc
  simp only [Bool.and_eq_true, decide_eq_true_eq] at hc
  obtain ⟨⟨⟨h1, h2⟩, h3⟩, h4⟩ := hc
  cases h
  refine ⟨[(.u64, x), (.u64, y), (.u64, c)], rfl, .tuple #[.int .u64 ((x + y + c) % 18446744073709551616), .int .u64 ((x + y + c) / 18446744073709551616)], fun w => ?_, fun w bad => ?_⟩
  · rw [show ([(IntKind.u64, x), (.u64, y), (.u64, c)].map fun p => Value.int p.1 p.2).toArray = #[.int .u64 x, .int .u64 y, .int .u64 c] from rfl,
      run_callFunc_extern Try.func53 (by kernel_rfl) (by kernel_rfl) (by kernel_rfl) (e := add64Entry) (by kernel_rfl), run_add64 x y c h1 h2 h3 h4]
    rfl
  · refine .tup _ [.int .u64 ((x + y + c) % 18446744073709551616), .int .u64 ((x + y + c) / 18446744073709551616)] rfl fun i c' u hc hu => ?_
    match i, hc, hu with
    | 0, hc, hu => cases hc; cases hu; exact .int _ _
    | 1, hc, hu => cases hc; cases hu; exact .int _ _
def exts : FuncId → Option (List AV → Option AV)
  | 53 => some add64E
  | _ => none
def M : Mod := { code := codes, inl := inlF, ext := exts, fu := 1000000000000000000 }
def hm37 : List (Nat × Sh) := [(0, (.i .i64)), (1, (.i .i64)), (9, (.i .i64)), (10, (.agg [(.i .i64), (.i .u64)])), (11, (.agg [(.i .i64), (.i .u64)])), (12, (.i .i64)), (13, (.i .u64)), (7, (.i .u64)), (8, (.i .i64)), (14, (.i .i64)), (15, .b), (18, (.i .u64)), (19, (.i .i64)), (20, (.i .u64)), (21, (.i .u64)), (22, .b), (23, (.agg [(.i .i64), (.i .u64)])), (24, (.agg [(.i .i64), (.i .u64)])), (25, (.agg [(.i .i64), (.i .u64)])), (26, (.agg [(.i .i64), (.i .u64)])), (27, (.agg [(.i .i64), (.i .u64)])), (28, (.agg [(.i .i64), (.i .u64)])), (16, (.i .i64)), (17, (.i .i64)), (8, (.i .i64)), (29, (.i .i64)), (30, .b), (31, (.agg [(.i .i64), (.i .u64)])), (32, (.agg [(.i .i64), (.i .u64)])), (33, (.agg [(.i .i64), (.i .u64)])), (34, (.agg [(.i .i64), (.i .u64)])), (35, (.agg [(.i .i64), (.i .u64)]))]
def hm41 : List (Nat × Sh) := [(0, (.agg [(.i .i64), (.i .u64)])), (1, (.agg [(.i .i64), (.i .u64)])), (11, (.agg [(.i .i64), (.i .u64)])), (12, .any), (13, (.agg [(.i .i64), (.i .u64)])), (14, .any), (5, .any), (6, .any), (7, .any), (8, (.i .i64)), (9, (.i .i64)), (15, (.i .i64)), (16, .b), (19, .any), (20, (.i .i64)), (22, (.i .i64)), (23, .any), (24, (.i .i64)), (26, (.i .i64)), (27, (.i .i64)), (28, (.i .i64)), (29, (.i .i64)), (10, (.i .i64)), (30, .any), (31, (.i .i64)), (32, (.i .i64)), (33, .any), (34, .any), (7, .any), (35, (.i .i64)), (36, (.i .i64)), (8, (.i .i64)), (17, (.i .i64)), (18, (.i .i64)), (9, (.i .i64)), (37, .any), (38, (.agg [(.i .i64), (.i .u64)]))]
def hm46 : List (Nat × Sh) := [(0, (.agg [(.i .i64), (.i .u64)])), (2, .any), (3, .any), (4, (.i .i64)), (6, (.i .i64)), (7, .b), (10, .any), (12, (.i .u64)), (13, (.i .i64)), (14, (.i .u64)), (15, (.i .u64)), (16, (.i .i64)), (17, .any), (18, .any), (3, .any), (8, (.i .i64)), (9, (.i .i64)), (4, (.i .i64)), (5, (.i .i64)), (19, (.i .i64)), (20, .b), (23, .any), (25, (.i .i64)), (26, (.i .u64)), (27, (.i .i64)), (28, (.i .u64)), (29, (.i .u64)), (30, (.i .i64)), (31, .any), (32, .any), (3, .any), (21, (.i .i64)), (22, (.i .i64)), (5, (.i .i64)), (33, .any), (2, .any)]
def hm47 : List (Nat × Sh) := [(0, .any), (6, (.agg [(.i .i64), (.i .u64)])), (4, (.i .u64)), (5, (.i .i64)), (7, (.i .i64)), (8, .b), (11, .any), (12, (.i .i64)), (14, (.i .i64)), (15, .b), (17, (.i .u64)), (18, (.i .i64)), (19, (.i .u64)), (20, (.i .u64)), (22, .any), (23, (.i .i64)), (24, (.i .i64)), (26, (.i .i64)), (27, .b), (28, (.i .u64)), (29, (.i .i64)), (30, (.i .u64)), (31, (.i .u64)), (4, (.i .u64)), (9, (.i .i64)), (10, (.i .i64)), (5, (.i .i64)), (32, (.i .u64)), (33, (.i .i64)), (35, (.agg [(.i .i64), (.i .u64)]))]
def unr : FuncId → XU
  | 3 => ⟨false, false, h3, false⟩
  | 4 => ⟨false, false, h4, false⟩
  | 5 => ⟨false, false, h5, false⟩
  | 6 => ⟨false, false, h6, false⟩
  | 7 => ⟨false, false, h7, false⟩
  | 8 => ⟨false, false, h8, false⟩
  | 9 => ⟨false, false, h9, false⟩
  | 10 => ⟨false, false, h10, false⟩
  | 11 => ⟨false, false, h11, false⟩
  | 12 => ⟨false, false, h12, false⟩
  | 13 => ⟨false, false, h13, false⟩
  | 14 => ⟨false, false, h14, false⟩
  | 15 => ⟨false, false, h15, false⟩
  | 16 => ⟨false, false, h16, false⟩
  | 17 => ⟨false, false, h17, false⟩
  | 18 => ⟨false, false, h18, false⟩
  | 19 => ⟨false, false, h19, false⟩
  | 20 => ⟨false, false, h20, false⟩
  | 21 => ⟨false, false, h21, false⟩
  | 22 => ⟨false, false, h22, false⟩
  | 23 => ⟨false, false, h23, false⟩
  | 24 => ⟨false, false, h24, false⟩
  | 25 => ⟨false, false, h25, false⟩
  | 26 => ⟨false, false, h26, false⟩
  | 27 => ⟨false, false, h27, false⟩
  | 28 => ⟨false, false, h28, false⟩
  | 29 => ⟨false, false, h29, false⟩
  | 30 => ⟨false, false, h30, false⟩
  | 31 => ⟨false, false, h31, false⟩
  | 32 => ⟨false, false, h32, false⟩
  | 33 => ⟨false, false, h33, false⟩
  | 34 => ⟨false, false, h34, false⟩
  | 35 => ⟨false, false, h35, false⟩
  | 36 => ⟨false, false, h36, false⟩
  | 37 => ⟨false, true, hm37, false⟩
  | 38 => ⟨false, false, h38, false⟩
  | 39 => ⟨false, false, h39, false⟩
  | 40 => ⟨false, false, h40, false⟩
  | 41 => ⟨false, true, hm41, false⟩
  | 42 => ⟨false, false, h42, false⟩
  | 43 => ⟨false, false, h43, false⟩
  | 44 => ⟨false, false, h44, false⟩
  | 45 => ⟨false, false, h45, false⟩
  | 46 => ⟨false, true, hm46, false⟩
  | 47 => ⟨false, true, hm47, false⟩
  | 48 => ⟨false, false, h48, false⟩
  | 49 => ⟨false, false, h49, false⟩
  | 50 => ⟨false, false, h50, false⟩
  | 51 => ⟨false, false, h51, false⟩
  | 52 => ⟨false, false, h52, false⟩
  | 54 => ⟨false, false, h54, false⟩
  | _ => ⟨false, false, [], false⟩
theorem modOK : ModOK Try.prog M := by
  constructor
  · intro g fn h
    change codes g = some fn at h
    unfold codes at h
    split at h <;> (try (cases h; done))
    · cases h; exact c3_ok
    · cases h; exact c4_ok
    · cases h; exact c5_ok
    · cases h; exact c6_ok
    · cases h; exact c7_ok
    · cases h; exact c8_ok
    · cases h; exact c9_ok
    · cases h; exact c10_ok
    · cases h; exact c11_ok
    · cases h; exact c12_ok
    · cases h; exact c13_ok
    · cases h; exact c14_ok
    · cases h; exact c15_ok
    · cases h; exact c16_ok
    · cases h; exact c17_ok
    · cases h; exact c18_ok
    · cases h; exact c19_ok
    · cases h; exact c20_ok
    · cases h; exact c21_ok
    · cases h; exact c22_ok
    · cases h; exact c23_ok
    · cases h; exact c24_ok
    · cases h; exact c25_ok
    · cases h; exact c26_ok
    · cases h; exact c27_ok
    · cases h; exact c28_ok
    · cases h; exact c29_ok
    · cases h; exact c30_ok
    · cases h; exact c31_ok
    · cases h; exact c32_ok
    · cases h; exact c33_ok
    · cases h; exact c34_ok
    · cases h; exact c35_ok
    · cases h; exact c36_ok
    · cases h; exact c37_ok
    · cases h; exact c38_ok
    · cases h; exact c39_ok
    · cases h; exact c40_ok
    · cases h; exact c41_ok
    · cases h; exact c42_ok
    · cases h; exact c43_ok
    · cases h; exact c44_ok
    · cases h; exact c45_ok
    · cases h; exact c46_ok
    · cases h; exact c47_ok
    · cases h; exact c48_ok
    · cases h; exact c49_ok
    · cases h; exact c50_ok
    · cases h; exact c51_ok
    · cases h; exact c52_ok
    · cases h; exact c54_ok
  · intro g e h
    change exts g = some e at h
    unfold exts at h
    split at h <;> (try (cases h; done))
    · cases h; exact add64_ok
end Go.Proofs.Ytnldgacamgjpnaa.AE

namespace Go.Proofs.Ytnldgacamgjpnaa.AE
set_option linter.unusedVariables false
set_option linter.unusedSimpArgs false
set_option linter.constructorNameAsVariable false
open Go

theorem C0_int (k : IntKind) (n : Int) (K : Int → Ans) : C0.int k (some (.int k n)) K = K n := by simp [C0, isInt]
theorem C0_bool (b : Bool) (K : Bool → Ans) : C0.bool (some (.bool b)) K = K b := by simp [C0, isBool]
theorem C0_str (b : List UInt8) (K : List UInt8 → Ans) : C0.str (some (.str b)) K = K b := by simp [C0, isStr]
theorem C0_lst (l : List AV) (K : List AV → Ans) (Z : Bool → Ans) : C0.lst (some (.lst l)) K Z = K l := rfl
theorem C0_lstz (b : Bool) (K : List AV → Ans) (Z : Bool → Ans) : C0.lst (some (.zsl b)) K Z = Z b := rfl
theorem C0_agg (n : Nat) (l : List AV) (h : l.length = n) (K : List AV → Ans) : C0.agg n (some (.agg l)) K = K l := by simp [C0, isAgg, h]
theorem C0_tup (n : Nat) (l : List AV) (h : l.length = n) (K : List AV → Ans) : C0.tup n (some (.tup l)) K = K l := by simp [C0, isTup, h]
theorem C0_agg2 (a b : AV) (K : List AV → Ans) : C0.agg 2 (some (.agg [a, b])) K = K [a, b] := C0_agg 2 _ rfl K
theorem C0_tup2 (a b : AV) (K : List AV → Ans) : C0.tup 2 (some (.tup [a, b])) K = K [a, b] := C0_tup 2 _ rfl K
theorem C0_any (v : AV) (K : AV → Ans) : C0.any (some v) K = K v := by simp [C0]
theorem C0_same (v : AV) (K : Ans) : C0.same (some v) v K = K := by simp [C0]
theorem C0_sameH (H : Heap) (K : Ans) : C0.sameH H H K = K := by simp [C0]
theorem cnd_t (a b : Ans) : cnd true a b = a := rfl
theorem cnd_f (a b : Ans) : cnd false a b = b := rfl
theorem pl_len {t : Bool} {a b : Ans} (h : t = true) : cnd t a b = a := by subst h; rfl
theorem pl_f {t : Bool} {a b : Ans} (h : t = false) : cnd t a b = b := by subst h; rfl
theorem pl_same {o : Option AV} {v : AV} {K : Ans} (h : o = some v) : C0.same o v K = K := by subst h; simp [C0]
theorem pl_sameH {H : Heap} {K : Ans} : C0.sameH H H K = K := by simp [C0]
theorem pl_int {k : IntKind} {o : Option AV} {n : Int} {K : Int → Ans} (h : o = some (.int k n)) : C0.int k o K = K n := by subst h; simp [C0, isInt]
theorem pl_bool {o : Option AV} {n : Bool} {K : Bool → Ans} (h : o = some (.bool n)) : C0.bool o K = K n := by subst h; simp [C0, isBool]
theorem pl_str {o : Option AV} {n : List UInt8} {K : List UInt8 → Ans} (h : o = some (.str n)) : C0.str o K = K n := by subst h; simp [C0, isStr]
theorem pl_any {o : Option AV} {v : AV} {K : AV → Ans} (h : o = some v) : C0.any o K = K v := by subst h; simp [C0]
theorem pl_agg {n : Nat} {o : Option AV} {l : List AV} {K : List AV → Ans} (h : o = some (.agg l)) (h2 : l.length = n) : C0.agg n o K = K l := by subst h; simp [C0, isAgg, h2]
theorem pl_tup {n : Nat} {o : Option AV} {l : List AV} {K : List AV → Ans} (h : o = some (.tup l)) (h2 : l.length = n) : C0.tup n o K = K l := by subst h; simp [C0, isTup, h2]
theorem pl_lst {o : Option AV} {l : List AV} {K : List AV → Ans} {Z : Bool → Ans} (h : o = some (.lst l)) : C0.lst o K Z = K l := by subst h; rfl
/-- What comes behind a round; what comes behind a loop. -/
def kIter (R : St → (Ex → St → Ans) → Ans) (n : Nat) (K : Ex → St → Ans) : Ex → St → Ans := fun e s' => match e with
  | .normal => xiter R n s' K
  | .exit i => K (.exit i) s'
  | .ret => K .ret s'
def kOut (ids : List Nat) (ks : List (St → Ans)) (kr : St → Ans) : Ex → St → Ans := fun e s' => match e with
  | .ret => kr s'
  | .exit i => xgo i ids ks s'
  | .normal => none
theorem kIter_n (R : St → (Ex → St → Ans) → Ans) (n : Nat) (K : Ex → St → Ans) (s : St) : kIter R n K .normal s = xiter R n s K := rfl
theorem kIter_x (R : St → (Ex → St → Ans) → Ans) (n : Nat) (K : Ex → St → Ans) (i : Nat) (s : St) : kIter R n K (.exit i) s = K (.exit i) s := rfl
theorem kIter_r (R : St → (Ex → St → Ans) → Ans) (n : Nat) (K : Ex → St → Ans) (s : St) : kIter R n K .ret s = K .ret s := rfl
theorem kOut_x (ids : List Nat) (ks : List (St → Ans)) (kr : St → Ans) (i : Nat) (s : St) : kOut ids ks kr (.exit i) s = xgo i ids ks s := rfl
theorem kOut_r (ids : List Nat) (ks : List (St → Ans)) (kr : St → Ans) (s : St) : kOut ids ks kr .ret s = kr s := rfl
theorem it_ret (R : St → (Ex → St → Ans) → Ans) (n : Nat) (s : St) (ids : List Nat) (ks : List (St → Ans)) (kr : St → Ans) : C0.iter R n s ids ks kr = xiter R n s (kOut ids ks kr) := rfl
theorem xiter_s (R : St → (Ex → St → Ans) → Ans) (n : Nat) (s : St) (K : Ex → St → Ans) : xiter R (n + 1) s K = R s (kIter R n K) := rfl
theorem xgo_hit (i : Nat) (ids : List Nat) (k : St → Ans) (ks : List (St → Ans)) (s : St) : xgo i (i :: ids) (k :: ks) s = k s := by simp [xgo]
theorem xgo_miss {i j : Nat} (ids : List Nat) (k : St → Ans) (ks : List (St → Ans)) (s : St) (h : (i == j) = false) : xgo i (j :: ids) (k :: ks) s = xgo i ids ks s := by
  simp only [xgo]; rw [if_neg]; intro he; subst he; simp at h
theorem C0_hop (H : Heap) (io : IOp) (K : AV → Heap → Ans) : C0.hop H io K = match aop noCall (evO []) H io with
    | some (v, H') => K v H'
    | none => none := rfl
theorem hop_eq {H H' : Heap} {io : IOp} {v : AV} {K : AV → Heap → Ans} (h : aop noCall (evO []) H io = some (v, H')) : C0.hop H io K = K v H' := by rw [C0_hop, h]
theorem C0_fin (H : Heap) (v : AV) : C0.fin H v = some (snap 12 H v) := rfl
theorem C0_disj {a b : TV} {K : Ans} (h : disjB a b = true) : C0.disj a b K = K := by simp only [C0, h]
theorem snp_free {H : Heap} {args : List AV} {K : List AV → Bool → Ans} (h : args.all (noId DEPTH) = true) : C0.snp H args K = K args true := by simp [C0, h]
theorem snp_id {H : Heap} {args : List AV} {K : List AV → Bool → Ans} (h : args.all (noId DEPTH) = false) : C0.snp H args K = K (args.map (snap DEPTH H)) false := by simp [C0, h]
theorem at0 (a : AV) (l : List AV) : (a :: l)[0]? = some a := rfl
theorem at1 (a b : AV) (l : List AV) : (a :: b :: l)[1]? = some b := rfl
theorem at2 (a b c : AV) (l : List AV) : (a :: b :: c :: l)[2]? = some c := rfl
theorem at3 (a b c d : AV) (l : List AV) : (a :: b :: c :: d :: l)[3]? = some d := rfl
theorem at4 (a b c d e : AV) (l : List AV) : (a :: b :: c :: d :: e :: l)[4]? = some e := rfl
theorem at5 (a b c d e f : AV) (l : List AV) : (a :: b :: c :: d :: e :: f :: l)[5]? = some f := rfl
theorem at6 (a b c d e f g : AV) (l : List AV) : (a :: b :: c :: d :: e :: f :: g :: l)[6]? = some g := rfl
theorem at7 (a b c d e f g h : AV) (l : List AV) : (a :: b :: c :: d :: e :: f :: g :: h :: l)[7]? = some h := rfl
/-- From what is told forwards. -/
theorem told {d g : Nat} {args : List AV} {r : AV} {t : Ans} (h : xcall C0 M unr d g args = t) (h2 : t = some r) : pcall M (d + 1) g args = some r := xcall_ok (h.trans h2)
theorem up {k d : Nat} {p : Nat → Prop} (h : ∀ d, p (d + k)) (hd : k ≤ d) : p d := by
  have := h (d - k)
  rwa [Nat.sub_add_cancel hd] at this
theorem yt {a b c : Ans} (h : a = b) (k : b = c) : a = c := h.trans k
theorem yS {o : Option AV} {v : AV} {K : Ans} (h : o = some v := by rfl) : C0.same o v K = K := pl_same h
theorem yA {o : Option AV} {v : AV} {K : AV → Ans} (h : o = some v := by rfl) : C0.any o K = K v := pl_any h
theorem yI {k : IntKind} {o : Option AV} {n : Int} {K : Int → Ans} (h : o = some (.int k n) := by rfl) : C0.int k o K = K n := pl_int h
theorem yB {o : Option AV} {n : Bool} {K : Bool → Ans} (h : o = some (.bool n) := by rfl) : C0.bool o K = K n := pl_bool h
theorem yG {n : Nat} {o : Option AV} {l : List AV} {K : List AV → Ans} (h : o = some (.agg l) := by rfl) (h2 : l.length = n := by rfl) : C0.agg n o K = K l := pl_agg h h2
theorem yT {n : Nat} {o : Option AV} {l : List AV} {K : List AV → Ans} (h : o = some (.tup l) := by rfl) (h2 : l.length = n := by rfl) : C0.tup n o K = K l := pl_tup h h2
end Go.Proofs.Ytnldgacamgjpnaa.AE

namespace Go.Proofs.Ytnldgacamgjpnaa.AE
set_option linter.unusedVariables false
set_option linter.unusedSimpArgs false
set_option linter.constructorNameAsVariable false
open Go
set_option maxRecDepth 100000
/-- apogee/fix.Clamp -/
theorem r28 (C : Cb) (d : Nat) (a0 a1 a2 : Int) : xcall C M unr d 28 [(iz a0), (iz a1), (iz a2)] =
 cnd (decide (a0 < a1))
 (some (iz a1))
 (cnd (decide (a0 > a2))
 (some (iz a2))
 (some (iz a0))) := by kernel_rfl
/-- apogee/point.Right -/
theorem r34 (C : Cb) (d : Nat) (a0 a1 : Int) : xcall C M unr d 34 [(.agg [(iz a0), (iz a1)])] =
 C.bool (pcall M d 39 [(iz a0)]) fun b0 =>
 cnd b0
 (C.bool (pcall M d 39 [(iz a1)]) fun b1 =>
 some (.bool b1))
 (some bf) := by kernel_rfl
/-- apogee/fix.Sqrt -/
theorem r38 (C : Cb) (d : Nat) (a0 : Int) : xcall C M unr d 38 [(iz a0)] =
 C.agg 2 (pcall M d 44 [(iz a0)]) fun l0 =>
 C.int .i64 l0[0]? fun x1 =>
 C.int .u64 l0[1]? fun x2 =>
 C.tup 2 (pcall M d 43 [(.agg [(iz x1), (.int .u64 x2)]), bt]) fun l3 =>
 C.int .i64 l3[0]? fun x4 =>
 C.bool l3[1]? fun b5 =>
 some (.tup [(iz x4), (.bool b5)]) := by kernel_rfl
/-- apogee/point.within -/
theorem r39 (C : Cb) (d : Nat) (a0 : Int) : xcall C M unr d 39 [(iz a0)] =
 cnd (decide (a0 ≥ (-1099511627776)))
 (some (.bool (decide (a0 ≤ 1099511627776))))
 (some bf) := by kernel_rfl
def r40R0 (C : Cb) (d : Nat) (a0 : List AV) : St → (Ex → St → Ans) → Ans := fun s0 k1 =>
 cnd ((List.length s0.env) == 22)
 (C.same s0.env[0]? (.lst a0) <|
 C.same s0.env[1]? tz <|
 C.int .i64 s0.env[2]? fun x3 =>
 C.bool s0.env[3]? fun b4 =>
 C.same s0.env[4]? tz <|
 C.any s0.env[5]? fun v5 =>
 C.same s0.env[6]? (.lst a0) <|
 C.same s0.env[7]? (iz (((List.length a0) : Nat) : Int)) <|
 C.int .i64 s0.env[8]? fun x6 =>
 C.any s0.env[9]? fun v7 =>
 C.any s0.env[10]? fun v8 =>
 C.any s0.env[11]? fun v9 =>
 C.any s0.env[12]? fun v10 =>
 C.any s0.env[13]? fun v11 =>
 C.any s0.env[14]? fun v12 =>
 C.any s0.env[15]? fun v13 =>
 C.any s0.env[16]? fun v14 =>
 C.any s0.env[17]? fun v15 =>
 C.any s0.env[18]? fun v16 =>
 C.any s0.env[19]? fun v17 =>
 C.any s0.env[20]? fun v18 =>
 C.same s0.env[21]? tz <|
 C.sameH (St.H s0) [] <|
 cnd (decide (x6 < (((List.length a0) : Nat) : Int)))
 (cnd (decide (0 ≤ x6))
 (C.int .i64 a0[(Int.toNat x6)]? fun x19 =>
 C.tup 2 (pcall M d 45 [(iz x3), (iz x19)]) fun l20 =>
 C.int .i64 l20[0]? fun x21 =>
 C.bool l20[1]? fun b22 =>
 cnd (!b22)
 (k1 .ret ⟨[(.lst a0), tz, (iz 0), bf, tz, (iz x19), (.lst a0), (iz (((List.length a0) : Nat) : Int)), (iz x6), bt, (.fptr (iz x19) 0), (iz x19), (.tup [(iz x21), (.bool b22)]), (iz x3), (iz x19), (.tup [(iz x21), (.bool b22)]), (iz x21), (.bool b22), (.bool b22), bt, v18, tz], []⟩)
 (k1 .normal ⟨[(.lst a0), tz, (iz x21), (.bool b22), tz, (iz x19), (.lst a0), (iz (((List.length a0) : Nat) : Int)), (iz (IntKind.wrap .i64 (x6 + 1))), bt, (.fptr (iz x19) 0), (iz x19), (.tup [(iz x21), (.bool b22)]), (iz x3), (iz x19), (.tup [(iz x21), (.bool b22)]), (iz x21), (.bool b22), (.bool b22), bf, (iz (IntKind.wrap .i64 (x6 + 1))), tz], []⟩))
 (none))
 (k1 (.exit 0) ⟨[(.lst a0), tz, (iz x3), (.bool b4), tz, v5, (.lst a0), (iz (((List.length a0) : Nat) : Int)), (iz x6), bf, v8, v9, v10, v11, v12, v13, v14, v15, v16, v17, v18, tz], []⟩))
 (none)
def r40X0_0 (C : Cb) (d : Nat) (a0 : List AV) : St → Ans := fun s23 =>
 cnd ((List.length s23.env) == 22)
 (C.same s23.env[0]? (.lst a0) <|
 C.same s23.env[1]? tz <|
 C.int .i64 s23.env[2]? fun x24 =>
 C.bool s23.env[3]? fun b25 =>
 C.same s23.env[4]? tz <|
 C.any s23.env[5]? fun v26 =>
 C.same s23.env[6]? (.lst a0) <|
 C.same s23.env[7]? (iz (((List.length a0) : Nat) : Int)) <|
 C.int .i64 s23.env[8]? fun x27 =>
 C.any s23.env[9]? fun v28 =>
 C.any s23.env[10]? fun v29 =>
 C.any s23.env[11]? fun v30 =>
 C.any s23.env[12]? fun v31 =>
 C.any s23.env[13]? fun v32 =>
 C.any s23.env[14]? fun v33 =>
 C.any s23.env[15]? fun v34 =>
 C.any s23.env[16]? fun v35 =>
 C.any s23.env[17]? fun v36 =>
 C.any s23.env[18]? fun v37 =>
 C.any s23.env[19]? fun v38 =>
 C.any s23.env[20]? fun v39 =>
 C.same s23.env[21]? tz <|
 C.sameH (St.H s23) [] <|
 some (.tup [(iz x24), bt]))
 (none)
def r40E0 (C : Cb) (d : Nat) (a0 : List AV) : St → Ans := fun s2 =>
 cnd ((List.length s2.env) == 22)
 (C.same s2.env[0]? (.lst a0) <|
 C.same s2.env[1]? tz <|
 C.int .i64 s2.env[2]? fun x40 =>
 C.bool s2.env[3]? fun b41 =>
 C.same s2.env[4]? tz <|
 C.int .i64 s2.env[5]? fun x42 =>
 C.same s2.env[6]? (.lst a0) <|
 C.same s2.env[7]? (iz (((List.length a0) : Nat) : Int)) <|
 C.int .i64 s2.env[8]? fun x43 =>
 C.any s2.env[9]? fun v44 =>
 C.any s2.env[10]? fun v45 =>
 C.int .i64 s2.env[11]? fun x46 =>
 C.tup 2 s2.env[12]? fun l47 =>
 C.int .i64 l47[0]? fun x48 =>
 C.bool l47[1]? fun b49 =>
 C.int .i64 s2.env[13]? fun x50 =>
 C.int .i64 s2.env[14]? fun x51 =>
 C.tup 2 s2.env[15]? fun l52 =>
 C.int .i64 l52[0]? fun x53 =>
 C.bool l52[1]? fun b54 =>
 C.int .i64 s2.env[16]? fun x55 =>
 C.bool s2.env[17]? fun b56 =>
 C.bool s2.env[18]? fun b57 =>
 C.bool s2.env[19]? fun b58 =>
 C.any s2.env[20]? fun v59 =>
 C.same s2.env[21]? tz <|
 C.sameH (St.H s2) [] <|
 some (.tup [(iz x40), (.bool b41)]))
 (none)
/-- apogee/fix.Sum -/
theorem r40 (C : Cb) (d : Nat) (a0 : List AV) : xcall C M unr d 40 [(.lst a0)] =
 C.iter (r40R0 C d a0) 1000000000000000000 ⟨[(.lst a0), tz, (iz 0), bf, tz, tz, (.lst a0), (iz (((List.length a0) : Nat) : Int)), (iz 0), tz, tz, tz, tz, tz, tz, tz, tz, tz, tz, tz, tz, tz], []⟩ [0] [r40X0_0 C d a0] (r40E0 C d a0) := by kernel_rfl
/-- apogee/fix.root -/
theorem r43 (C : Cb) (d : Nat) (a0 a1 : Int) (a2 : Bool) : xcall C M unr d 43 [(.agg [(iz a0), (.int .u64 a1)]), (.bool a2)] =
 cnd (!a2)
 (some (.tup [(iz 0), bf]))
 (C.tup 2 (pcall M d 48 [(.agg [(iz a0), (.int .u64 a1)])]) fun l0 =>
 C.int .u64 l0[0]? fun x1 =>
 C.bool l0[1]? fun b2 =>
 cnd (!b2)
 (some (.tup [(iz 0), bf]))
 (cnd (decide (x1 > 9223372036854775807))
 (some (.tup [(iz 0), bf]))
 (some (.tup [(iz (IntKind.wrap .i64 x1)), bt])))) := by kernel_rfl
/-- apogee/wide.Of -/
theorem r44 (C : Cb) (d : Nat) (a0 : Int) : xcall C M unr d 44 [(iz a0)] =
 some (.agg [(iz (Int.fdiv a0 (2 ^ (min (Int.toNat 63) 64)))), (.int .u64 (IntKind.wrap .u64 a0))]) := by kernel_rfl
/-- apogee/fix.Add -/
theorem r45 (C : Cb) (d : Nat) (a0 a1 : Int) : xcall C M unr d 45 [(iz a0), (iz a1)] =
 C.agg 2 (pcall M d 44 [(iz a0)]) fun l0 =>
 C.int .i64 l0[0]? fun x1 =>
 C.int .u64 l0[1]? fun x2 =>
 C.agg 2 (pcall M d 44 [(iz a1)]) fun l3 =>
 C.int .i64 l3[0]? fun x4 =>
 C.int .u64 l3[1]? fun x5 =>
 C.tup 2 (pcall M d 50 [(.agg [(iz x1), (.int .u64 x2)]), (.agg [(iz x4), (.int .u64 x5)])]) fun l6 =>
 C.agg 2 l6[0]? fun l7 =>
 C.int .i64 l7[0]? fun x8 =>
 C.int .u64 l7[1]? fun x9 =>
 C.bool l6[1]? fun b10 =>
 C.tup 2 (pcall M d 49 [(.agg [(iz x8), (.int .u64 x9)]), (.bool b10)]) fun l11 =>
 C.int .i64 l11[0]? fun x12 =>
 C.bool l11[1]? fun b13 =>
 some (.tup [(iz x12), (.bool b13)]) := by kernel_rfl
def r48R0 (C : Cb) (d : Nat) (a0 a1 : Int) : St → (Ex → St → Ans) → Ans := fun s0 k1 =>
 cnd ((List.length s0.env) == 23)
 (C.same s0.env[0]? (.agg [(iz a0), (.int .u64 a1)]) <|
 C.same s0.env[1]? (.ptr 0 0 0) <|
 C.same s0.env[2]? (.int .u64 0) <|
 C.same s0.env[3]? bf <|
 C.int .u64 s0.env[4]? fun x3 =>
 C.int .u64 s0.env[5]? fun x4 =>
 C.same s0.env[6]? (.ptr 0 0 0) <|
 C.same s0.env[7]? (iz a0) <|
 C.same s0.env[8]? bf <|
 C.any s0.env[9]? fun v5 =>
 C.any s0.env[10]? fun v6 =>
 C.any s0.env[11]? fun v7 =>
 C.any s0.env[12]? fun v8 =>
 C.any s0.env[13]? fun v9 =>
 C.any s0.env[14]? fun v10 =>
 C.any s0.env[15]? fun v11 =>
 C.any s0.env[16]? fun v12 =>
 C.any s0.env[17]? fun v13 =>
 C.any s0.env[18]? fun v14 =>
 C.any s0.env[19]? fun v15 =>
 C.any s0.env[20]? fun v16 =>
 C.any s0.env[21]? fun v17 =>
 C.same s0.env[22]? tz <|
 C.sameH (St.H s0) [some ⟨E75, [(.agg [(iz a0), (.int .u64 a1)])]⟩] <|
 cnd (decide (x4 > 0))
 (C.bool (pcall M d 51 [(.int .u64 (bits .or .u64 x3 x4)), (.agg [(iz a0), (.int .u64 a1)])]) fun b18 =>
 cnd (!b18)
 (k1 .normal ⟨[(.agg [(iz a0), (.int .u64 a1)]), (.ptr 0 0 0), (.int .u64 0), bf, (.int .u64 (bits .or .u64 x3 x4)), (.int .u64 (Int.fdiv x4 (2 ^ (min (Int.toNat 1) 64)))), (.ptr 0 0 0), (iz a0), bf, (.int .u64 x4), bt, (.int .u64 x4), (.int .u64 (Int.fdiv x4 (2 ^ (min (Int.toNat 1) 64)))), (.int .u64 x3), (.int .u64 x4), (.int .u64 (bits .or .u64 x3 x4)), (.agg [(iz a0), (.int .u64 a1)]), (.bool b18), bt, (.int .u64 x3), (.int .u64 x4), (.int .u64 (bits .or .u64 x3 x4)), tz], [some ⟨E75, [(.agg [(iz a0), (.int .u64 a1)])]⟩]⟩)
 (k1 .normal ⟨[(.agg [(iz a0), (.int .u64 a1)]), (.ptr 0 0 0), (.int .u64 0), bf, (.int .u64 x3), (.int .u64 (Int.fdiv x4 (2 ^ (min (Int.toNat 1) 64)))), (.ptr 0 0 0), (iz a0), bf, (.int .u64 x4), bt, (.int .u64 x4), (.int .u64 (Int.fdiv x4 (2 ^ (min (Int.toNat 1) 64)))), (.int .u64 x3), (.int .u64 x4), (.int .u64 (bits .or .u64 x3 x4)), (.agg [(iz a0), (.int .u64 a1)]), (.bool b18), bf, v15, v16, v17, tz], [some ⟨E75, [(.agg [(iz a0), (.int .u64 a1)])]⟩]⟩))
 (k1 (.exit 0) ⟨[(.agg [(iz a0), (.int .u64 a1)]), (.ptr 0 0 0), (.int .u64 0), bf, (.int .u64 x3), (.int .u64 x4), (.ptr 0 0 0), (iz a0), bf, (.int .u64 x4), bf, v7, v8, v9, v10, v11, v12, v13, v14, v15, v16, v17, tz], [some ⟨E75, [(.agg [(iz a0), (.int .u64 a1)])]⟩]⟩))
 (none)
def r48X0_0 (C : Cb) (d : Nat) (a0 a1 : Int) : St → Ans := fun s19 =>
 cnd ((List.length s19.env) == 23)
 (C.same s19.env[0]? (.agg [(iz a0), (.int .u64 a1)]) <|
 C.same s19.env[1]? (.ptr 0 0 0) <|
 C.same s19.env[2]? (.int .u64 0) <|
 C.same s19.env[3]? bf <|
 C.int .u64 s19.env[4]? fun x20 =>
 C.int .u64 s19.env[5]? fun x21 =>
 C.same s19.env[6]? (.ptr 0 0 0) <|
 C.same s19.env[7]? (iz a0) <|
 C.same s19.env[8]? bf <|
 C.int .u64 s19.env[9]? fun x22 =>
 C.bool s19.env[10]? fun b23 =>
 C.any s19.env[11]? fun v24 =>
 C.any s19.env[12]? fun v25 =>
 C.any s19.env[13]? fun v26 =>
 C.any s19.env[14]? fun v27 =>
 C.any s19.env[15]? fun v28 =>
 C.any s19.env[16]? fun v29 =>
 C.any s19.env[17]? fun v30 =>
 C.any s19.env[18]? fun v31 =>
 C.any s19.env[19]? fun v32 =>
 C.any s19.env[20]? fun v33 =>
 C.any s19.env[21]? fun v34 =>
 C.same s19.env[22]? tz <|
 C.sameH (St.H s19) [some ⟨E75, [(.agg [(iz a0), (.int .u64 a1)])]⟩] <|
 some (.tup [(.int .u64 x20), bt]))
 (none)
def r48E0 (C : Cb) (d : Nat) (a0 a1 : Int) : St → Ans := fun s2 =>
 cnd ((List.length s2.env) == 23)
 (C.same s2.env[0]? (.agg [(iz a0), (.int .u64 a1)]) <|
 C.same s2.env[1]? (.ptr 0 0 0) <|
 C.same s2.env[2]? (.int .u64 0) <|
 C.same s2.env[3]? bf <|
 C.int .u64 s2.env[4]? fun x35 =>
 C.int .u64 s2.env[5]? fun x36 =>
 C.same s2.env[6]? (.ptr 0 0 0) <|
 C.same s2.env[7]? (iz a0) <|
 C.same s2.env[8]? bf <|
 C.any s2.env[9]? fun v37 =>
 C.any s2.env[10]? fun v38 =>
 C.any s2.env[11]? fun v39 =>
 C.any s2.env[12]? fun v40 =>
 C.any s2.env[13]? fun v41 =>
 C.any s2.env[14]? fun v42 =>
 C.any s2.env[15]? fun v43 =>
 C.any s2.env[16]? fun v44 =>
 C.any s2.env[17]? fun v45 =>
 C.any s2.env[18]? fun v46 =>
 C.any s2.env[19]? fun v47 =>
 C.any s2.env[20]? fun v48 =>
 C.any s2.env[21]? fun v49 =>
 C.same s2.env[22]? tz <|
 C.sameH (St.H s2) [some ⟨E75, [(.agg [(iz a0), (.int .u64 a1)])]⟩] <|
 some (.tup [(.int .u64 0), bf]))
 (none)
/-- (apogee/wide.Wide).Sqrt -/
theorem r48 (C : Cb) (d : Nat) (a0 a1 : Int) : xcall C M unr d 48 [(.agg [(iz a0), (.int .u64 a1)])] =
 cnd (decide (a0 < 0))
 (some (.tup [(.int .u64 0), bf]))
 (C.iter (r48R0 C d a0 a1) 1000000000000000000 ⟨[(.agg [(iz a0), (.int .u64 a1)]), (.ptr 0 0 0), (.int .u64 0), bf, (.int .u64 0), (.int .u64 9223372036854775808), (.ptr 0 0 0), (iz a0), bf, tz, tz, tz, tz, tz, tz, tz, tz, tz, tz, tz, tz, tz, tz], [some ⟨E75, [(.agg [(iz a0), (.int .u64 a1)])]⟩]⟩ [0] [r48X0_0 C d a0 a1] (r48E0 C d a0 a1)) := by kernel_rfl
/-- apogee/fix.told -/
theorem r49 (C : Cb) (d : Nat) (a0 a1 : Int) (a2 : Bool) : xcall C M unr d 49 [(.agg [(iz a0), (.int .u64 a1)]), (.bool a2)] =
 cnd (!a2)
 (some (.tup [(iz 0), bf]))
 (C.tup 2 (pcall M d 52 [(.agg [(iz a0), (.int .u64 a1)])]) fun l0 =>
 C.int .i64 l0[0]? fun x1 =>
 C.bool l0[1]? fun b2 =>
 some (.tup [(iz x1), (.bool b2)])) := by kernel_rfl
/-- (apogee/wide.Wide).Add -/
theorem r50 (C : Cb) (d : Nat) (a0 a1 a2 a3 : Int) : xcall C M unr d 50 [(.agg [(iz a0), (.int .u64 a1)]), (.agg [(iz a2), (.int .u64 a3)])] =
 C.tup 2 (add64E [(.int .u64 a1), (.int .u64 a3), (.int .u64 0)]) fun l0 =>
 C.int .u64 l0[0]? fun x1 =>
 C.int .u64 l0[1]? fun x2 =>
 C.tup 2 (add64E [(.int .u64 (IntKind.wrap .u64 a0)), (.int .u64 (IntKind.wrap .u64 a2)), (.int .u64 x2)]) fun l3 =>
 C.int .u64 l3[0]? fun x4 =>
 C.int .u64 l3[1]? fun x5 =>
 cnd (decide ((bits .and .i64 (bits .xor .i64 a0 (IntKind.wrap .i64 x4)) (bits .xor .i64 a2 (IntKind.wrap .i64 x4))) < 0))
 (some (.tup [(.agg [(iz 0), (.int .u64 0)]), bf]))
 (some (.tup [(.agg [(iz (IntKind.wrap .i64 x4)), (.int .u64 x1)]), bt])) := by kernel_rfl
/-- apogee/wide.above -/
theorem r51 (C : Cb) (d : Nat) (a0 a1 a2 : Int) : xcall C M unr d 51 [(.int .u64 a0), (.agg [(iz a1), (.int .u64 a2)])] =
 C.tup 2 (pcall M d 54 [(.int .u64 a0), (.int .u64 a0)]) fun l0 =>
 C.int .u64 l0[0]? fun x1 =>
 C.int .u64 l0[1]? fun x2 =>
 cnd (decide (x1 > (IntKind.wrap .u64 a1)))
 (some bt)
 (cnd (x1 == (IntKind.wrap .u64 a1))
 (some (.bool (decide (x2 > a2))))
 (some bf)) := by kernel_rfl
/-- (apogee/wide.Wide).Int -/
theorem r52 (C : Cb) (d : Nat) (a0 a1 : Int) : xcall C M unr d 52 [(.agg [(iz a0), (.int .u64 a1)])] =
 C.agg 2 (pcall M d 44 [(iz (IntKind.wrap .i64 a1))]) fun l0 =>
 C.int .i64 l0[0]? fun x1 =>
 C.int .u64 l0[1]? fun x2 =>
 cnd (xor true ((x1 == a0) && ((x2 == a1) && true)))
 (some (.tup [(iz 0), bf]))
 (some (.tup [(iz (IntKind.wrap .i64 a1)), bt])) := by kernel_rfl
/-- math/bits.Mul64 -/
theorem r54 (C : Cb) (d : Nat) (a0 a1 : Int) : xcall C M unr d 54 [(.int .u64 a0), (.int .u64 a1)] =
 some (.tup [(.int .u64 (IntKind.wrap .u64 ((IntKind.wrap .u64 ((IntKind.wrap .u64 ((Int.fdiv a0 (2 ^ (min (Int.toNat 32) 64))) * (Int.fdiv a1 (2 ^ (min (Int.toNat 32) 64))))) + (Int.fdiv (IntKind.wrap .u64 ((IntKind.wrap .u64 ((Int.fdiv a0 (2 ^ (min (Int.toNat 32) 64))) * (bits .and .u64 a1 4294967295))) + (Int.fdiv (IntKind.wrap .u64 ((bits .and .u64 a0 4294967295) * (bits .and .u64 a1 4294967295))) (2 ^ (min (Int.toNat 32) 64))))) (2 ^ (min (Int.toNat 32) 64))))) + (Int.fdiv (IntKind.wrap .u64 ((bits .and .u64 (IntKind.wrap .u64 ((IntKind.wrap .u64 ((Int.fdiv a0 (2 ^ (min (Int.toNat 32) 64))) * (bits .and .u64 a1 4294967295))) + (Int.fdiv (IntKind.wrap .u64 ((bits .and .u64 a0 4294967295) * (bits .and .u64 a1 4294967295))) (2 ^ (min (Int.toNat 32) 64))))) 4294967295) + (IntKind.wrap .u64 ((bits .and .u64 a0 4294967295) * (Int.fdiv a1 (2 ^ (min (Int.toNat 32) 64))))))) (2 ^ (min (Int.toNat 32) 64)))))), (.int .u64 (IntKind.wrap .u64 (a0 * a1)))]) := by kernel_rfl
end Go.Proofs.Ytnldgacamgjpnaa.AE

namespace Go.Proofs.Ytnldgacamgjpnaa.AE
set_option linter.unusedVariables false
set_option linter.unusedSimpArgs false
set_option linter.constructorNameAsVariable false
open Go
set_option maxRecDepth 100000
set_option maxHeartbeats 0
noncomputable def X40_0_0 (d : Nat) (a0 : List AV) (x24 : Int) : Ans :=
  some (.tup [(iz x24), bt])
theorem X40_0_0_ok (d : Nat) (a0 : List AV) (x24 : Int) (b25 : Bool) (v26 : AV) (x27 : Int) (v28 v29 v30 v31 v32 v33 v34 v35 v36 v37 v38 v39 : AV) : r40X0_0 C0 d a0 ⟨[(.lst a0), tz, (iz x24), (.bool b25), tz, v26, (.lst a0), (iz (((List.length a0) : Nat) : Int)), (iz x27), v28, v29, v30, v31, v32, v33, v34, v35, v36, v37, v38, v39, tz], []⟩ = X40_0_0 d a0 x24 := by
  unfold r40X0_0; refine Eq.trans (pl_len (by rfl)) ?_; (iterate 2 (refine yt yS ?_)); refine yt yI ?_; refine yt yB ?_; refine yt yS ?_; refine yt yA ?_; (iterate 2 (refine yt yS ?_)); refine yt yI ?_; (iterate 12 (refine yt yA ?_)); refine yt yS ?_; refine Eq.trans (pl_sameH) ?_
  rfl
noncomputable def E40_0 (d : Nat) (a0 : List AV) (x40 : Int) (b41 : Bool) : Ans :=
  some (.tup [(iz x40), (.bool b41)])
theorem E40_0_ok (d : Nat) (a0 : List AV) (x40 : Int) (b41 : Bool) (x42 x43 : Int) (v44 v45 : AV) (x46 x48 : Int) (b49 : Bool) (x50 x51 x53 : Int) (b54 : Bool) (x55 : Int) (b56 b57 b58 : Bool) (v59 : AV) : r40E0 C0 d a0 ⟨[(.lst a0), tz, (iz x40), (.bool b41), tz, (iz x42), (.lst a0), (iz (((List.length a0) : Nat) : Int)), (iz x43), v44, v45, (iz x46), (.tup [(iz x48), (.bool b49)]), (iz x50), (iz x51), (.tup [(iz x53), (.bool b54)]), (iz x55), (.bool b56), (.bool b57), (.bool b58), v59, tz], []⟩ = E40_0 d a0 x40 b41 := by
  unfold r40E0; refine Eq.trans (pl_len (by rfl)) ?_; (iterate 2 (refine yt yS ?_)); refine yt yI ?_; refine yt yB ?_; refine yt yS ?_; refine yt yI ?_; (iterate 2 (refine yt yS ?_)); refine yt yI ?_; (iterate 2 (refine yt yA ?_)); refine yt yI ?_; refine yt yT ?_; refine yt yI ?_; refine yt yB ?_; (iterate 2 (refine yt yI ?_)); refine yt yT ?_; refine yt yI ?_; refine yt yB ?_; refine yt yI ?_; (iterate 3 (refine yt yB ?_)); refine yt yA ?_; refine yt yS ?_; refine Eq.trans (pl_sameH) ?_
  rfl
noncomputable def L40_0 (d : Nat) (a0 : List AV) : Nat → Int → Int → Ans
  | 0, _, _ => none
  | n + 1, x3, x6 =>
  cnd (decide (x6 < (((List.length a0) : Nat) : Int)))
   (cnd (decide (0 ≤ x6))
   (C0.int .i64 a0[(Int.toNat x6)]? fun x19 =>
   C0.tup 2 (pcall M d 45 [(iz x3), (iz x19)]) fun l20 =>
   C0.int .i64 l20[0]? fun x21 =>
   C0.bool l20[1]? fun b22 =>
   cnd (!b22)
   (E40_0 d a0 0 false)
   (L40_0 d a0 n x21 (IntKind.wrap .i64 (x6 + 1))))
   (none))
   (X40_0_0 d a0 x3)
theorem it40_0 (d : Nat) (a0 : List AV)   : ∀ (n : Nat) (x3 : Int) (b4 : Bool) (v5 : AV) (x6 : Int) (v7 v8 v9 v10 v11 v12 v13 v14 v15 v16 v17 v18 : AV), C0.iter (r40R0 C0 d a0) n ⟨[(.lst a0), tz, (iz x3), (.bool b4), tz, v5, (.lst a0), (iz (((List.length a0) : Nat) : Int)), (iz x6), v7, v8, v9, v10, v11, v12, v13, v14, v15, v16, v17, v18, tz], []⟩ [0] [r40X0_0 C0 d a0] (r40E0 C0 d a0) = L40_0 d a0 n x3 x6 := by
  generalize hR : r40R0 C0 d a0 = R
  intro n
  induction n with
  | zero => intros; rfl
  | succ n ih =>
    intro x3 b4 v5 x6 v7 v8 v9 v10 v11 v12 v13 v14 v15 v16 v17 v18
    simp only [it_ret] at ih
    rw [it_ret, xiter_s]
    refine Eq.trans (congrFun (congrFun hR.symm _) _) ?_
    unfold r40R0
    refine Eq.trans (pl_len (by rfl)) ?_; (iterate 2 (refine yt yS ?_)); refine yt yI ?_; refine yt yB ?_; refine yt yS ?_; refine yt yA ?_; (iterate 2 (refine yt yS ?_)); refine yt yI ?_; (iterate 12 (refine yt yA ?_)); refine yt yS ?_; refine Eq.trans (pl_sameH) ?_
    simp only [L40_0, kIter_n, kIter_x, kIter_r, kOut_x, kOut_r, xgo_hit, xgo_miss, ih, X40_0_0_ok d a0  , E40_0_ok d a0  ]
/-- apogee/fix.Sum -/
theorem q40 (d : Nat) (a0 : List AV) : xcall C0 M unr d 40 [(.lst a0)] =
  L40_0 d a0 1000000000000000000 0 0 := (r40 C0 d a0).trans (by simp only [it40_0])
noncomputable def X48_0_0 (d : Nat) (a0 a1 x20 : Int) : Ans :=
  some (.tup [(.int .u64 x20), bt])
theorem X48_0_0_ok (d : Nat) (a0 a1 x20 x21 x22 : Int) (b23 : Bool) (v24 v25 v26 v27 v28 v29 v30 v31 v32 v33 v34 : AV) : r48X0_0 C0 d a0 a1 ⟨[(.agg [(iz a0), (.int .u64 a1)]), (.ptr 0 0 0), (.int .u64 0), bf, (.int .u64 x20), (.int .u64 x21), (.ptr 0 0 0), (iz a0), bf, (.int .u64 x22), (.bool b23), v24, v25, v26, v27, v28, v29, v30, v31, v32, v33, v34, tz], [some ⟨E75, [(.agg [(iz a0), (.int .u64 a1)])]⟩]⟩ = X48_0_0 d a0 a1 x20 := by
  unfold r48X0_0; refine Eq.trans (pl_len (by rfl)) ?_; (iterate 4 (refine yt yS ?_)); (iterate 2 (refine yt yI ?_)); (iterate 3 (refine yt yS ?_)); refine yt yI ?_; refine yt yB ?_; (iterate 11 (refine yt yA ?_)); refine yt yS ?_; refine Eq.trans (pl_sameH) ?_
  rfl
noncomputable def E48_0 (d : Nat) (a0 a1 : Int)  : Ans :=
  some (.tup [(.int .u64 0), bf])
theorem E48_0_ok (d : Nat) (a0 a1 x35 x36 : Int) (v37 v38 v39 v40 v41 v42 v43 v44 v45 v46 v47 v48 v49 : AV) : r48E0 C0 d a0 a1 ⟨[(.agg [(iz a0), (.int .u64 a1)]), (.ptr 0 0 0), (.int .u64 0), bf, (.int .u64 x35), (.int .u64 x36), (.ptr 0 0 0), (iz a0), bf, v37, v38, v39, v40, v41, v42, v43, v44, v45, v46, v47, v48, v49, tz], [some ⟨E75, [(.agg [(iz a0), (.int .u64 a1)])]⟩]⟩ = E48_0 d a0 a1  := by
  unfold r48E0; refine Eq.trans (pl_len (by rfl)) ?_; (iterate 4 (refine yt yS ?_)); (iterate 2 (refine yt yI ?_)); (iterate 3 (refine yt yS ?_)); (iterate 13 (refine yt yA ?_)); refine yt yS ?_; refine Eq.trans (pl_sameH) ?_
  rfl
noncomputable def L48_0 (d : Nat) (a0 a1 : Int) : Nat → Int → Int → Ans
  | 0, _, _ => none
  | n + 1, x3, x4 =>
  cnd (decide (x4 > 0))
   (C0.bool (pcall M d 51 [(.int .u64 (bits .or .u64 x3 x4)), (.agg [(iz a0), (.int .u64 a1)])]) fun b18 =>
   cnd (!b18)
   (L48_0 d a0 a1 n (bits .or .u64 x3 x4) (Int.fdiv x4 (2 ^ (min (Int.toNat 1) 64))))
   (L48_0 d a0 a1 n x3 (Int.fdiv x4 (2 ^ (min (Int.toNat 1) 64)))))
   (X48_0_0 d a0 a1 x3)
theorem it48_0 (d : Nat) (a0 a1 : Int)   : ∀ (n : Nat) (x3 x4 : Int) (v5 v6 v7 v8 v9 v10 v11 v12 v13 v14 v15 v16 v17 : AV), C0.iter (r48R0 C0 d a0 a1) n ⟨[(.agg [(iz a0), (.int .u64 a1)]), (.ptr 0 0 0), (.int .u64 0), bf, (.int .u64 x3), (.int .u64 x4), (.ptr 0 0 0), (iz a0), bf, v5, v6, v7, v8, v9, v10, v11, v12, v13, v14, v15, v16, v17, tz], [some ⟨E75, [(.agg [(iz a0), (.int .u64 a1)])]⟩]⟩ [0] [r48X0_0 C0 d a0 a1] (r48E0 C0 d a0 a1) = L48_0 d a0 a1 n x3 x4 := by
  generalize hR : r48R0 C0 d a0 a1 = R
  intro n
  induction n with
  | zero => intros; rfl
  | succ n ih =>
    intro x3 x4 v5 v6 v7 v8 v9 v10 v11 v12 v13 v14 v15 v16 v17
    simp only [it_ret] at ih
    rw [it_ret, xiter_s]
    refine Eq.trans (congrFun (congrFun hR.symm _) _) ?_
    unfold r48R0
    refine Eq.trans (pl_len (by rfl)) ?_; (iterate 4 (refine yt yS ?_)); (iterate 2 (refine yt yI ?_)); (iterate 3 (refine yt yS ?_)); (iterate 13 (refine yt yA ?_)); refine yt yS ?_; refine Eq.trans (pl_sameH) ?_
    simp only [L48_0, kIter_n, kIter_x, kIter_r, kOut_x, kOut_r, xgo_hit, xgo_miss, ih, X48_0_0_ok d a0 a1  , E48_0_ok d a0 a1  ]
/-- (apogee/wide.Wide).Sqrt -/
theorem q48 (d : Nat) (a0 a1 : Int) : xcall C0 M unr d 48 [(.agg [(iz a0), (.int .u64 a1)])] =
  cnd (decide (a0 < 0))
   (some (.tup [(.int .u64 0), bf]))
   (L48_0 d a0 a1 1000000000000000000 0 9223372036854775808) := (r48 C0 d a0 a1).trans (by simp only [it48_0])
end Go.Proofs.Ytnldgacamgjpnaa.AE

namespace Go.Proofs.Ytnldgacamgjpnaa.AE
set_option linter.unusedVariables false
set_option linter.unusedSimpArgs false
set_option linter.constructorNameAsVariable false
open Go
theorem ld_ptr {H : Heap} {id i j n : Nat} {ag : Bool} {b : Blk} {el v : AV} {K : AV → Heap → Ans} (h : hget H id = some b) (hi : b.els[i]? = some el) (hs : sub ag n j el = some v) :
    C0.hop H (.load ag n (.v (.ptr id i j))) K = K v H := hop_eq (by simp [aop, evO, aLoad, h, hi, hs])
theorem ld_fptr {H : Heap} {x v : AV} {j n : Nat} {ag : Bool} {K : AV → Heap → Ans} (hs : sub ag n j x = some v) :
    C0.hop H (.load ag n (.v (.fptr x j))) K = K v H := hop_eq (by simp [aop, evO, aLoad, hs])
theorem st_ptr {H : Heap} {id i j n : Nat} {b : Blk} {el el' x : AV} {K : AV → Heap → Ans} (h : hget H id = some b) (hi : b.els[i]? = some el) (hs : putSub n j x el = some el') :
    C0.hop H (.store n (.v (.ptr id i j)) (.v x)) K = K .undef (H.set id (some { b with els := b.els.set i el' })) := hop_eq (by simp [aop, evO, aStore, h, hi, hs])
theorem sh_ptr {H : Heap} {id i j d : Nat} {K : AV → Heap → Ans} : C0.hop H (.fldA d (.v (.ptr id i j))) K = K (.ptr id i (j + d)) H := hop_eq rfl
theorem sh_fptr {H : Heap} {x : AV} {j d : Nat} {K : AV → Heap → Ans} : C0.hop H (.fldA d (.v (.fptr x j))) K = K (.fptr x (j + d)) H := hop_eq rfl
theorem len_lst {H : Heap} {l : List AV} {K : AV → Heap → Ans} : C0.hop H (.bk .lenV [.v (.lst l)]) K = K (.int .i64 l.length) H := hop_eq rfl
theorem len_zsl {H : Heap} {b : Bool} {K : AV → Heap → Ans} : C0.hop H (.bk .lenV [.v (.zsl b)]) K = K (.int .i64 0) H := hop_eq rfl
theorem nil_ptr {H : Heap} {id i j : Nat} {K : AV → Heap → Ans} : C0.hop H (.nilck (.v (.ptr id i j))) K = K (.ptr id i j) H := hop_eq rfl
end Go.Proofs.Ytnldgacamgjpnaa.AE

namespace Go.Proofs.Ytnldgacamgjpnaa.AE
set_option linter.unusedVariables false
set_option linter.unusedSimpArgs false
set_option linter.constructorNameAsVariable false
open Go
theorem i64w (n : Int) : IntKind.i64.wrap n = (n + 9223372036854775808) % 18446744073709551616 - 9223372036854775808 := IntKind.wrap_i64 n
theorem u64w (n : Int) : IntKind.u64.wrap n = n % 18446744073709551616 := by simp [IntKind.wrap, IntKind.bits, IntKind.signed]
theorem u64_small {n : Int} (h : 0 ≤ n) (h' : n < 18446744073709551616) : IntKind.u64.wrap n = n := by rw [u64w]; omega
theorem i64_small {n : Int} (h : -9223372036854775808 ≤ n) (h' : n < 9223372036854775808) : IntKind.i64.wrap n = n := by rw [i64w]; omega
theorem u64_mask (k : Nat) (hk : k ≤ 64) {x : Int} (h : 0 ≤ x) (h' : x < 18446744073709551616) : Go.bits .and .u64 x (2 ^ k - 1) = x % 2 ^ k := by
  obtain ⟨n, rfl⟩ := Int.eq_ofNat_of_zero_le h
  have hn : n < 18446744073709551616 := by omega
  have hp : 1 ≤ 2 ^ k := Nat.one_le_two_pow
  have hm : ((2 : Int) ^ k - 1) = ((2 ^ k - 1 : Nat) : Int) := by
    rw [Int.natCast_sub hp]; simp
  have hk2 : 2 ^ k ≤ 18446744073709551616 := Nat.le_trans (Nat.pow_le_pow_right (by decide) hk) (by decide)
  show IntKind.u64.wrap ((BitVec.ofInt 64 (n : Int) &&& BitVec.ofInt 64 ((2 : Int) ^ k - 1)).toNat : Int) = _
  rw [hm, BitVec.toNat_and]
  rw [BitVec.ofInt_natCast, BitVec.ofInt_natCast, BitVec.toNat_ofNat, BitVec.toNat_ofNat, Nat.mod_eq_of_lt (by simpa using hn), Nat.mod_eq_of_lt (by simpa using (by omega : 2 ^ k - 1 < 18446744073709551616)), Nat.and_two_pow_sub_one_eq_mod]
  have : n % 2 ^ k ≤ n := Nat.mod_le _ _
  rw [u64_small (by omega) (by omega)]
  simp
theorem u64_and32 {x : Int} (h : 0 ≤ x) (h' : x < 18446744073709551616) : Go.bits .and .u64 x 4294967295 = x % 4294967296 := u64_mask 32 (by decide) h h'
def hiw (v : Int) : Int := IntKind.i64.wrap (v / 18446744073709551616)
def low (v : Int) : Int := v % 18446744073709551616
end Go.Proofs.Ytnldgacamgjpnaa.AE

namespace Go.Proofs.Ytnldgacamgjpnaa.Geo
set_option linter.unusedVariables false
set_option linter.unusedSimpArgs false
set_option linter.constructorNameAsVariable false
abbrev Pt := Int × Int
def Okc (x : Int) : Prop := -1099511627776 ≤ x ∧ x ≤ 1099511627776
instance (x : Int) : Decidable (Okc x) := by unfold Okc; infer_instance
def OkP (p : Pt) : Prop := Okc p.1 ∧ Okc p.2
instance (p : Pt) : Decidable (OkP p) := by unfold OkP; infer_instance
/-- Twice the area from a over b to c. -/
def TN (a b c : Pt) : Int := (b.1 - a.1) * (c.2 - a.2) - (b.2 - a.2) * (c.1 - a.1)
def sg (v : Int) : Int := if v < 0 then -1 else if v = 0 then 0 else 1
/-- Both numbers are between those of two places. -/
def Btw (p a b : Pt) : Prop := ((a.1 ≤ p.1 ∧ p.1 ≤ b.1) ∨ (b.1 ≤ p.1 ∧ p.1 ≤ a.1)) ∧ ((a.2 ≤ p.2 ∧ p.2 ≤ b.2) ∨ (b.2 ≤ p.2 ∧ p.2 ≤ a.2))
instance (p a b : Pt) : Decidable (Btw p a b) := by unfold Btw; infer_instance
/-- On the way from a to b. -/
def On (p a b : Pt) : Prop := TN a b p = 0 ∧ Btw p a b
instance (p a b : Pt) : Decidable (On p a b) := by unfold On; infer_instance
/-- The one way crosses the other one. -/
def Cross (a b c d : Pt) : Prop := sg (TN a b c) * sg (TN a b d) < 0 ∧ sg (TN c d a) * sg (TN c d b) < 0
instance (a b c d : Pt) : Decidable (Cross a b c d) := by unfold Cross; infer_instance
def Meet (a b c d : Pt) : Prop := On a c d ∨ On b c d ∨ On c a b ∨ On d a b ∨ Cross a b c d
instance (a b c d : Pt) : Decidable (Meet a b c d) := by unfold Meet; infer_instance
end Go.Proofs.Ytnldgacamgjpnaa.Geo

namespace Go.Proofs.Ytnldgacamgjpnaa.AE
set_option linter.unusedVariables false
set_option linter.unusedSimpArgs false
set_option linter.constructorNameAsVariable false
open Go Go.Proofs.Ytnldgacamgjpnaa.Geo
abbrev i64 (n : Int) : AV := .int .i64 n
abbrev u64 (n : Int) : AV := .int .u64 n
abbrev pt (p : Int × Int) : AV := .agg [.int .i64 p.1, .int .i64 p.2]
theorem s39 (d : Nat) (x : Int) : pcall M (d + 1) 39 [.int .i64 x] = some (.bool (decide (Okc x))) := told (r39 C0 d x) (by
  unfold Okc
  by_cases h : x ≥ -1099511627776 <;> by_cases h2 : x ≤ 1099511627776 <;> simp [h, h2, cnd_t, cnd_f])
theorem s34 (d : Nat) (p : Int × Int) : pcall M (d + 2) 34 [pt p] = some (.bool (decide (OkP p))) := told (r34 C0 (d + 1) p.1 p.2) (by
  rw [s39, s39, C0_bool, C0_bool]
  unfold OkP
  by_cases h : Okc p.1 <;> by_cases h2 : Okc p.2 <;> simp [h, h2, cnd_t, cnd_f])
end Go.Proofs.Ytnldgacamgjpnaa.AE

namespace Go.Proofs.Ytnldgacamgjpnaa.AE
set_option linter.unusedVariables false
set_option linter.unusedSimpArgs false
set_option linter.constructorNameAsVariable false
open Go Go.Proofs.Ytnldgacamgjpnaa.Geo
theorem s54 (d : Nat) (a b : Int) (ha : 0 ≤ a) (ha' : a < 18446744073709551616) (hb : 0 ≤ b) (hb' : b < 18446744073709551616) :
    ∃ hi lo, pcall M (d + 1) 54 [.int .u64 a, .int .u64 b] = some (.tup [.int .u64 hi, .int .u64 lo]) ∧ hi * 18446744073709551616 + lo = a * b ∧ 0 ≤ lo ∧ lo < 18446744073709551616 ∧ 0 ≤ hi ∧ hi < 18446744073709551616 := by
  refine ⟨_, _, told (r54 C0 d a b) rfl, ?_⟩
  have h32 : ∀ x : Int, Int.fdiv x (2 ^ (min (Int.toNat 32) 64)) = x / 4294967296 := by
    intro x
    rw [show ((2 : Int) ^ (min (Int.toNat 32) 64)) = 4294967296 from by decide]
    exact Int.fdiv_eq_ediv_of_nonneg x (by decide)
  rw [u64_and32 ha ha', u64_and32 hb hb']
  simp only [h32]
  obtain ⟨a1, a0, e1, e2, e3, e4⟩ : ∃ a1 a0 : Int, a / 4294967296 = a1 ∧ a % 4294967296 = a0 ∧ a = a1 * 4294967296 + a0 ∧ (0 ≤ a0 ∧ a0 < 4294967296 ∧ 0 ≤ a1 ∧ a1 < 4294967296) := ⟨_, _, rfl, rfl, by omega, by omega⟩
  obtain ⟨b1, b0, f1, f2, f3, f4⟩ : ∃ a1 a0 : Int, b / 4294967296 = a1 ∧ b % 4294967296 = a0 ∧ b = a1 * 4294967296 + a0 ∧ (0 ≤ a0 ∧ a0 < 4294967296 ∧ 0 ≤ a1 ∧ a1 < 4294967296) := ⟨_, _, rfl, rfl, by omega, by omega⟩
  rw [e1, e2, f1, f2]
  have hp : a * b = (a1 * b1) * 18446744073709551616 + (a1 * b0 + a0 * b1) * 4294967296 + a0 * b0 := by rw [e3, f3]; grind
  rw [hp]
  have bd : ∀ x y : Int, 0 ≤ x → x < 4294967296 → 0 ≤ y → y < 4294967296 → 0 ≤ x * y ∧ x * y ≤ 18446744065119617025 := by
    intro x y h1 h2 h3 h4
    exact ⟨Int.mul_nonneg h1 h3, Int.le_trans (Int.mul_le_mul (show x ≤ 4294967295 by omega) (show y ≤ 4294967295 by omega) h3 (by omega)) (by decide)⟩
  have B11 := bd a1 b1 (by omega) (by omega) (by omega) (by omega)
  have B10 := bd a1 b0 (by omega) (by omega) (by omega) (by omega)
  have B01 := bd a0 b1 (by omega) (by omega) (by omega) (by omega)
  have B00 := bd a0 b0 (by omega) (by omega) (by omega) (by omega)
  generalize a1 * b1 = p11 at *
  generalize a1 * b0 = p10 at *
  generalize a0 * b1 = p01 at *
  generalize a0 * b0 = p00 at *
  simp only [u64w]
  rw [show ∀ x : Int, Go.bits .and .u64 (x % 18446744073709551616) 4294967295 = (x % 18446744073709551616) % 4294967296 from fun x => u64_and32 (by omega) (by omega)]
  omega
def ok3 (a b c : Pt) : Prop := OkP a ∧ OkP b ∧ OkP c
instance (a b c : Pt) : Decidable (ok3 a b c) := by unfold ok3; infer_instance
def ok4 (a b c d : Pt) : Prop := OkP a ∧ OkP b ∧ OkP c ∧ OkP d
instance (a b c d : Pt) : Decidable (ok4 a b c d) := by unfold ok4; infer_instance
end Go.Proofs.Ytnldgacamgjpnaa.AE

namespace Go.Proofs.Ytnldgacamgjpnaa.AE
set_option linter.unusedVariables false
set_option linter.unusedSimpArgs false
set_option linter.constructorNameAsVariable false
open Go Go.Proofs.Ytnldgacamgjpnaa.Geo
theorem s44 (d : Nat) (x : Int) (h : -9223372036854775808 ≤ x) (h' : x < 9223372036854775808) : pcall M (d + 1) 44 [.int .i64 x] = some (.agg [.int .i64 (hiw x), .int .u64 (low x)]) := told (r44 C0 d x) (by
  rw [show ((2 : Int) ^ (min (Int.toNat 63) 64)) = 9223372036854775808 from by decide, Int.fdiv_eq_ediv_of_nonneg x (by decide)]
  have e1 : x / 9223372036854775808 = hiw x := by unfold hiw; rw [i64w]; omega
  have e2 : IntKind.wrap .u64 x = low x := by unfold low; rw [u64w]
  rw [e1, e2])
def fitB (v : Int) : Bool := decide (-9223372036854775808 ≤ v ∧ v < 9223372036854775808)
theorem s52 (d : Nat) (v : Int) (h : -170141183460469231731687303715884105728 ≤ v) (h' : v < 170141183460469231731687303715884105728) : pcall M (d + 2) 52 [.agg [.int .i64 (hiw v), .int .u64 (low v)]] = some (.tup [.int .i64 (if fitB v then v else 0), .bool (fitB v)]) := told (r52 C0 (d + 1) _ _) (by
  have hw : -9223372036854775808 ≤ IntKind.wrap .i64 (low v) ∧ IntKind.wrap .i64 (low v) < 9223372036854775808 := by rw [i64w]; omega
  rw [s44 d _ hw.1 hw.2, C0_agg2]
  simp only [at0, at1, C0_int]
  by_cases hf : fitB v = true
  · have h2 := of_decide_eq_true hf
    have e : IntKind.wrap .i64 (low v) = v := by unfold low; rw [i64w]; omega
    rw [e, hf]
    simp [cnd_f]
  · have h2 : ¬ (-9223372036854775808 ≤ v ∧ v < 9223372036854775808) := fun g => hf (decide_eq_true g)
    have e : (hiw (IntKind.wrap .i64 (low v)) == hiw v) = false := by
      rw [beq_eq_false_iff_ne]
      unfold hiw low
      rw [i64w, i64w, i64w]
      omega
    rw [e, Bool.eq_false_iff.mpr hf]
    simp [cnd_t])
theorem s49 (d : Nat) (v : Int) (h : -170141183460469231731687303715884105728 ≤ v) (h' : v < 170141183460469231731687303715884105728) : pcall M (d + 3) 49 [.agg [.int .i64 (hiw v), .int .u64 (low v)], .bool true] = some (.tup [.int .i64 (if fitB v then v else 0), .bool (fitB v)]) := told (r49 C0 (d + 2) _ _ true) (by
  rw [s52 d v h h', C0_tup2]
  simp only [at0, at1, C0_int, C0_bool, Bool.not_true, cnd_f])
end Go.Proofs.Ytnldgacamgjpnaa.AE

namespace Go.Proofs.Ytnldgacamgjpnaa.AE
set_option linter.unusedVariables false
set_option linter.unusedSimpArgs false
open Go
theorem sgn_i64 (b : BitVec 64) : (IntKind.i64.wrap (b.toNat : Int) < 0) ↔ b.msb = true := by
  rw [i64w, BitVec.msb_eq_decide]; have := b.isLt; simp; omega
theorem msb_i64 (x : Int) (h : -9223372036854775808 ≤ x) (h' : x < 9223372036854775808) : (BitVec.ofInt 64 x).msb = decide (x < 0) := by
  rw [BitVec.msb_eq_decide, BitVec.toNat_ofInt]
  by_cases hx : x < 0 <;> simp [hx] <;> omega
theorem bits_xor_sgn (x y : Int) (h : -9223372036854775808 ≤ x) (h' : x < 9223372036854775808) (g : -9223372036854775808 ≤ y) (g' : y < 9223372036854775808) :
    Go.bits .xor .i64 x y < 0 ↔ ¬ (x < 0 ↔ y < 0) := by
  show IntKind.i64.wrap ((BitVec.ofInt 64 x ^^^ BitVec.ofInt 64 y).toNat : Int) < 0 ↔ _
  rw [sgn_i64, BitVec.msb_xor, msb_i64 x h h', msb_i64 y g g']
  by_cases a : x < 0 <;> by_cases b : y < 0 <;> simp [a, b]
theorem bits_rng_i64 (op : BinOp) (x y : Int) : -9223372036854775808 ≤ Go.bits op .i64 x y ∧ Go.bits op .i64 x y < 9223372036854775808 := by
  unfold Go.bits; rw [show ∀ n, IntKind.wrap .i64 n = _ from i64w]; omega
theorem bits_and_sgn (x y : Int) (h : -9223372036854775808 ≤ x) (h' : x < 9223372036854775808) (g : -9223372036854775808 ≤ y) (g' : y < 9223372036854775808) :
    Go.bits .and .i64 x y < 0 ↔ (x < 0 ∧ y < 0) := by
  show IntKind.i64.wrap ((BitVec.ofInt 64 x &&& BitVec.ofInt 64 y).toNat : Int) < 0 ↔ _
  rw [sgn_i64, BitVec.msb_and, msb_i64 x h h', msb_i64 y g g']
  by_cases a : x < 0 <;> by_cases b : y < 0 <;> simp [a, b]
end Go.Proofs.Ytnldgacamgjpnaa.AE

namespace Go.Proofs.Ytnldgacamgjpnaa.AE
set_option linter.unusedVariables false
set_option linter.unusedSimpArgs false
set_option linter.constructorNameAsVariable false
open Go Go.Proofs.Ytnldgacamgjpnaa.Geo
theorem add64_e (x y c : Int) (hx : 0 ≤ x) (hy : 0 ≤ y) (hc : 0 ≤ c) (hc' : c ≤ 1) : add64E [.int .u64 x, .int .u64 y, .int .u64 c] = some (.tup [.int .u64 ((x + y + c) % 18446744073709551616), .int .u64 ((x + y + c) / 18446744073709551616)]) := by
  simp [add64E, hx, hy, hc, hc']
theorem s50 (d : Nat) (x y : Int) (hx : -9223372036854775808 ≤ x) (hx' : x < 9223372036854775808) (hy : -9223372036854775808 ≤ y) (hy' : y < 9223372036854775808) :
    pcall M (d + 1) 50 [.agg [.int .i64 (hiw x), .int .u64 (low x)], .agg [.int .i64 (hiw y), .int .u64 (low y)]] = some (.tup [.agg [.int .i64 (hiw (x + y)), .int .u64 (low (x + y))], .bool true]) := told (r50 C0 d _ _ _ _) (by
  have l0 : 0 ≤ low x ∧ low x < 18446744073709551616 := by unfold low; omega
  have l1 : 0 ≤ low y ∧ low y < 18446744073709551616 := by unfold low; omega
  have hhx : hiw x = if x < 0 then -1 else 0 := by unfold hiw; rw [i64w]; split <;> omega
  have hhy : hiw y = if y < 0 then -1 else 0 := by unfold hiw; rw [i64w]; split <;> omega
  rw [add64_e _ _ _ l0.1 l1.1 (by decide) (by decide), C0_tup2]
  simp only [at0, at1, C0_int]
  rw [add64_e _ _ _ (by rw [u64w]; omega) (by rw [u64w]; omega) (by omega) (by omega), C0_tup2]
  simp only [at0, at1, C0_int, Int.add_zero]
  have e1 : (low x + low y) % 18446744073709551616 = low (x + y) := by unfold low; omega
  have e2 : IntKind.wrap .i64 ((IntKind.wrap .u64 (hiw x) + IntKind.wrap .u64 (hiw y) + (low x + low y) / 18446744073709551616) % 18446744073709551616) = hiw (x + y) := by
    rw [u64w, u64w, i64w]
    have : hiw (x + y) = (x + y) / 18446744073709551616 := by unfold hiw; rw [i64_small (by omega) (by omega)]
    rw [this, hhx, hhy]
    unfold low
    split <;> split <;> omega
  rw [e1, e2]
  have hs : hiw (x + y) = if x + y < 0 then -1 else 0 := by unfold hiw; rw [i64w]; split <;> omega
  have b1 := bits_rng_i64 .xor (hiw x) (hiw (x + y))
  have b2 := bits_rng_i64 .xor (hiw y) (hiw (x + y))
  have key : ¬ Go.bits .and .i64 (Go.bits .xor .i64 (hiw x) (hiw (x + y))) (Go.bits .xor .i64 (hiw y) (hiw (x + y))) < 0 := by
    rw [bits_and_sgn _ _ b1.1 b1.2 b2.1 b2.2, bits_xor_sgn _ _ (by rw [hhx]; split <;> omega) (by rw [hhx]; split <;> omega) (by rw [hs]; split <;> omega) (by rw [hs]; split <;> omega), bits_xor_sgn _ _ (by rw [hhy]; split <;> omega) (by rw [hhy]; split <;> omega) (by rw [hs]; split <;> omega) (by rw [hs]; split <;> omega), hhx, hhy, hs]
    split <;> split <;> split <;> omega
  rw [decide_eq_false key, cnd_f])
theorem s45 (d : Nat) (x y : Int) (hx : -9223372036854775808 ≤ x) (hx' : x < 9223372036854775808) (hy : -9223372036854775808 ≤ y) (hy' : y < 9223372036854775808) :
    pcall M (d + 4) 45 [.int .i64 x, .int .i64 y] = some (.tup [.int .i64 (if fitB (x + y) then x + y else 0), .bool (fitB (x + y))]) := told (r45 C0 (d + 3) _ _) (by
  rw [s44 (d + 2) x hx hx', s44 (d + 2) y hy hy', C0_agg2]
  simp only [at0, at1, C0_int, C0_agg2]
  rw [s50 (d + 2) x y hx hx' hy hy', C0_tup2]
  simp only [at0, at1, C0_int, C0_agg2, C0_bool]
  rw [s49 d (x + y) (by omega) (by omega), C0_tup2]
  simp only [at0, at1, C0_int, C0_bool])
end Go.Proofs.Ytnldgacamgjpnaa.AE

namespace Go.Proofs.Ytnldgacamgjpnaa.AE
set_option linter.unusedVariables false
set_option linter.unusedSimpArgs false
open Go
def bin : List Int → Int
  | [] => 0
  | x :: l => x + 2 * bin l
end Go.Proofs.Ytnldgacamgjpnaa.AE

namespace Go.Proofs.Ytnldgacamgjpnaa.AE
set_option linter.unusedVariables false
set_option linter.unusedSimpArgs false
set_option linter.constructorNameAsVariable false
open Go
/-- A number of 128 bits, as a value. -/
abbrev wd (n : Int) : AV := .agg [.int .i64 (hiw n), .int .u64 (low n)]
end Go.Proofs.Ytnldgacamgjpnaa.AE

namespace Go.Proofs.Ytnldgacamgjpnaa.AE
set_option linter.unusedVariables false
set_option linter.unusedSimpArgs false
set_option linter.constructorNameAsVariable false
open Go
theorem hg_z {Z X : Heap} {k : Nat} {b : Blk} (h : Z[k]? = some (some b)) : hget (Z ++ X) k = some b := by
  unfold hget
  have hk : k < Z.length := by
    rcases Nat.lt_or_ge k Z.length with h1 | h1
    · exact h1
    · rw [List.getElem?_eq_none h1] at h; cases h
  rw [List.getElem?_append_left hk, h]
theorem set_z {Z X : Heap} {k : Nat} {b : Blk} {x : Option Blk} (h : Z[k]? = some (some b)) : (Z ++ X).set k x = Z.set k x ++ X := by
  have hk : k < Z.length := by
    rcases Nat.lt_or_ge k Z.length with h1 | h1
    · exact h1
    · rw [List.getElem?_eq_none h1] at h; cases h
  rw [List.set_append_left _ _ hk]
theorem hg_o {Z G S : Heap} {z k : Nat} {b : Blk} (hz : Z.length = z) (h : S[k]? = some (some b)) : hget (Z ++ (G ++ S)) (z + (G.length + k)) = some b := by
  subst hz
  unfold hget
  rw [List.getElem?_append_right (by omega), show Z.length + (G.length + k) - Z.length = G.length + k by omega, List.getElem?_append_right (by omega), show G.length + k - G.length = k by omega, h]
theorem set_o {Z G S : Heap} {z k : Nat} {x : Option Blk} (hz : Z.length = z) : (Z ++ (G ++ S)).set (z + (G.length + k)) x = Z ++ (G ++ S.set k x) := by
  subst hz
  rw [List.set_append_right _ _ (by omega), show Z.length + (G.length + k) - Z.length = G.length + k by omega, List.set_append_right _ _ (by omega), show G.length + k - G.length = k by omega]
theorem al_o {Z G S : Heap} {z s : Nat} {e : ETy} {K : AV → Heap → Ans} (hz : Z.length = z) (hs : S.length = s) : C0.hop (Z ++ (G ++ S)) (.alloc e) K = K (.ptr (z + (G.length + s)) 0 0) (Z ++ (G ++ (S ++ [some ⟨e, [e.zero]⟩]))) := by
  subst hz hs
  refine (hop_eq rfl).trans ?_
  simp only [evO, List.length_append, List.append_assoc]
theorem bx_o {Z G S : Heap} {z s : Nat} {e : ETy} {x : AV} {K : AV → Heap → Ans} (hz : Z.length = z) (hs : S.length = s) (h : elOk e x = true) : C0.hop (Z ++ (G ++ S)) (.box e (.v x)) K = K (.ptr (z + (G.length + s)) 0 0) (Z ++ (G ++ (S ++ [some ⟨e, [x]⟩]))) := by
  subst hz hs
  refine (hop_eq (v := .ptr (Z ++ (G ++ S)).length 0 0) (H' := (Z ++ (G ++ S)) ++ [some ⟨e, [x]⟩]) (by simp [aop, evO, h])).trans ?_
  simp only [List.length_append, List.append_assoc]
theorem ld_z {Z X : Heap} {k i j n : Nat} {ag : Bool} {b : Blk} {el v : AV} {K : AV → Heap → Ans} (h : Z[k]? = some (some b)) (hi : b.els[i]? = some el) (hs : sub ag n j el = some v) :
    C0.hop (Z ++ X) (.load ag n (.v (.ptr k i j))) K = K v (Z ++ X) := ld_ptr (hg_z h) hi hs
theorem ld_o {Z G S : Heap} {z k i j n : Nat} {ag : Bool} {b : Blk} {el v : AV} {K : AV → Heap → Ans} (hz : Z.length = z) (h : S[k]? = some (some b)) (hi : b.els[i]? = some el) (hs : sub ag n j el = some v) :
    C0.hop (Z ++ (G ++ S)) (.load ag n (.v (.ptr (z + (G.length + k)) i j))) K = K v (Z ++ (G ++ S)) := ld_ptr (hg_o hz h) hi hs
theorem st_z {Z X : Heap} {k i j n : Nat} {b : Blk} {el el' x : AV} {K : AV → Heap → Ans} (h : Z[k]? = some (some b)) (hi : b.els[i]? = some el) (hs : putSub n j x el = some el') :
    C0.hop (Z ++ X) (.store n (.v (.ptr k i j)) (.v x)) K = K .undef (Z.set k (some { b with els := b.els.set i el' }) ++ X) := by
  rw [st_ptr (hg_z h) hi hs, set_z h]
theorem st_o {Z G S : Heap} {z k i j n : Nat} {b : Blk} {el el' x : AV} {K : AV → Heap → Ans} (hz : Z.length = z) (h : S[k]? = some (some b)) (hi : b.els[i]? = some el) (hs : putSub n j x el = some el') :
    C0.hop (Z ++ (G ++ S)) (.store n (.v (.ptr (z + (G.length + k)) i j)) (.v x)) K = K .undef (Z ++ (G ++ S.set k (some { b with els := b.els.set i el' }))) := by
  rw [st_ptr (hg_o hz h) hi hs, set_o hz]
theorem sub_w {cs : List AV} {n : Nat} (h : cs.length = n) : sub true n 0 (.agg cs) = some (.agg cs) := by
  subst h; simp [sub]
theorem ld_zw {Z X : Heap} {k i n : Nat} {b : Blk} {cs : List AV} {K : AV → Heap → Ans} (h : Z[k]? = some (some b)) (hi : b.els[i]? = some (.agg cs)) (hn : cs.length = n) :
    C0.hop (Z ++ X) (.load true n (.v (.ptr k i 0))) K = K (.agg cs) (Z ++ X) := ld_z h hi (sub_w hn)
theorem ld_ow {Z G S : Heap} {z k i n : Nat} {b : Blk} {cs : List AV} {K : AV → Heap → Ans} (hz : Z.length = z) (h : S[k]? = some (some b)) (hi : b.els[i]? = some (.agg cs)) (hn : cs.length = n) :
    C0.hop (Z ++ (G ++ S)) (.load true n (.v (.ptr (z + (G.length + k)) i 0))) K = K (.agg cs) (Z ++ (G ++ S)) := ld_o hz h hi (sub_w hn)
theorem gen_at {l : List AV} {i : Nat} {a : AV} (h : l[i]? = some a) : l[i]? = some a := h
theorem pl_zsl {o : Option AV} {b : Bool} {K : List AV → Ans} {Z : Bool → Ans} (h : o = some (.zsl b)) : C0.lst o K Z = Z b := by subst h; rfl
theorem c_ort {b : Bool} {x y : Ans} : cnd (b || true) x y = x := by cases b <;> rfl
theorem c_nt {x y : Ans} : cnd (!true) x y = y := rfl
theorem c_nf {x y : Ans} : cnd (!false) x y = x := rfl
theorem at8 (a b c d e f g h i : AV) (l : List AV) : (a :: b :: c :: d :: e :: f :: g :: h :: i :: l)[8]? = some i := rfl
theorem at9 (a b c d e f g h i j : AV) (l : List AV) : (a :: b :: c :: d :: e :: f :: g :: h :: i :: j :: l)[9]? = some j := rfl
theorem at10 (a b c d e f g h i j k : AV) (l : List AV) : (a :: b :: c :: d :: e :: f :: g :: h :: i :: j :: k :: l)[10]? = some k := rfl
theorem tt {a b c : Ans} (h : a = b) (k : b = c) : a = c := h.trans k
theorem w2 {k : IntKind} {o : Option AV} {n : Int} {K : Int → Ans} (h : o = some (.int k n) := by first | with_reducible rfl | exact at0 _ _ | exact at1 _ _ _ | exact at2 _ _ _ _ | exact at3 _ _ _ _ _ | exact at4 _ _ _ _ _ _ | exact at5 _ _ _ _ _ _ _ | exact at6 _ _ _ _ _ _ _ _ | exact at7 _ _ _ _ _ _ _ _ _ | exact at8 _ _ _ _ _ _ _ _ _ _ | exact at9 _ _ _ _ _ _ _ _ _ _ _ | exact at10 _ _ _ _ _ _ _ _ _ _ _ _ | exact gen_at (by with_unfolding_all rfl)) : C0.int k o K = K n := pl_int h
theorem w3 {o : Option AV} {n : Bool} {K : Bool → Ans} (h : o = some (.bool n) := by first | with_reducible rfl | exact at0 _ _ | exact at1 _ _ _ | exact at2 _ _ _ _ | exact at3 _ _ _ _ _ | exact at4 _ _ _ _ _ _ | exact at5 _ _ _ _ _ _ _ | exact at6 _ _ _ _ _ _ _ _ | exact at7 _ _ _ _ _ _ _ _ _ | exact at8 _ _ _ _ _ _ _ _ _ _ | exact at9 _ _ _ _ _ _ _ _ _ _ _ | exact at10 _ _ _ _ _ _ _ _ _ _ _ _ | exact gen_at (by with_unfolding_all rfl)) : C0.bool o K = K n := pl_bool h
theorem w4 {o : Option AV} {v : AV} {K : AV → Ans} (h : o = some v := by first | with_reducible rfl | exact at0 _ _ | exact at1 _ _ _ | exact at2 _ _ _ _ | exact at3 _ _ _ _ _ | exact at4 _ _ _ _ _ _ | exact at5 _ _ _ _ _ _ _ | exact at6 _ _ _ _ _ _ _ _ | exact at7 _ _ _ _ _ _ _ _ _ | exact at8 _ _ _ _ _ _ _ _ _ _ | exact at9 _ _ _ _ _ _ _ _ _ _ _ | exact at10 _ _ _ _ _ _ _ _ _ _ _ _ | exact gen_at (by with_unfolding_all rfl)) : C0.any o K = K v := pl_any h
theorem w5 {o : Option AV} {n : List UInt8} {K : List UInt8 → Ans} (h : o = some (.str n) := by first | with_reducible rfl | exact at0 _ _ | exact at1 _ _ _ | exact at2 _ _ _ _ | exact at3 _ _ _ _ _ | exact at4 _ _ _ _ _ _ | exact at5 _ _ _ _ _ _ _ | exact at6 _ _ _ _ _ _ _ _ | exact at7 _ _ _ _ _ _ _ _ _ | exact at8 _ _ _ _ _ _ _ _ _ _ | exact at9 _ _ _ _ _ _ _ _ _ _ _ | exact at10 _ _ _ _ _ _ _ _ _ _ _ _ | exact gen_at (by with_unfolding_all rfl)) : C0.str o K = K n := pl_str h
theorem w6 {o : Option AV} {l : List AV} {K : List AV → Ans} {Z : Bool → Ans} (h : o = some (.lst l) := by first | with_reducible rfl | exact at0 _ _ | exact at1 _ _ _ | exact at2 _ _ _ _ | exact at3 _ _ _ _ _ | exact at4 _ _ _ _ _ _ | exact at5 _ _ _ _ _ _ _ | exact at6 _ _ _ _ _ _ _ _ | exact at7 _ _ _ _ _ _ _ _ _ | exact at8 _ _ _ _ _ _ _ _ _ _ | exact at9 _ _ _ _ _ _ _ _ _ _ _ | exact at10 _ _ _ _ _ _ _ _ _ _ _ _ | exact gen_at (by with_unfolding_all rfl)) : C0.lst o K Z = K l := pl_lst h
theorem w7 {o : Option AV} {b : Bool} {K : List AV → Ans} {Z : Bool → Ans} (h : o = some (.zsl b) := by first | with_reducible rfl | exact at0 _ _ | exact at1 _ _ _ | exact at2 _ _ _ _ | exact at3 _ _ _ _ _ | exact at4 _ _ _ _ _ _ | exact at5 _ _ _ _ _ _ _ | exact at6 _ _ _ _ _ _ _ _ | exact at7 _ _ _ _ _ _ _ _ _ | exact at8 _ _ _ _ _ _ _ _ _ _ | exact at9 _ _ _ _ _ _ _ _ _ _ _ | exact at10 _ _ _ _ _ _ _ _ _ _ _ _ | exact gen_at (by with_unfolding_all rfl)) : C0.lst o K Z = Z b := pl_zsl h
theorem w8 {n : Nat} {o : Option AV} {l : List AV} {K : List AV → Ans} (h : o = some (.agg l) := by first | with_reducible rfl | exact at0 _ _ | exact at1 _ _ _ | exact at2 _ _ _ _ | exact at3 _ _ _ _ _ | exact at4 _ _ _ _ _ _ | exact at5 _ _ _ _ _ _ _ | exact at6 _ _ _ _ _ _ _ _ | exact at7 _ _ _ _ _ _ _ _ _ | exact at8 _ _ _ _ _ _ _ _ _ _ | exact at9 _ _ _ _ _ _ _ _ _ _ _ | exact at10 _ _ _ _ _ _ _ _ _ _ _ _ | exact gen_at (by with_unfolding_all rfl)) (h2 : l.length = n := by with_unfolding_all rfl) : C0.agg n o K = K l := pl_agg h h2
theorem w9 {n : Nat} {o : Option AV} {l : List AV} {K : List AV → Ans} (h : o = some (.tup l) := by first | with_reducible rfl | exact at0 _ _ | exact at1 _ _ _ | exact at2 _ _ _ _ | exact at3 _ _ _ _ _ | exact at4 _ _ _ _ _ _ | exact at5 _ _ _ _ _ _ _ | exact at6 _ _ _ _ _ _ _ _ | exact at7 _ _ _ _ _ _ _ _ _ | exact at8 _ _ _ _ _ _ _ _ _ _ | exact at9 _ _ _ _ _ _ _ _ _ _ _ | exact at10 _ _ _ _ _ _ _ _ _ _ _ _ | exact gen_at (by with_unfolding_all rfl)) (h2 : l.length = n := by with_unfolding_all rfl) : C0.tup n o K = K l := pl_tup h h2
theorem wf {Z X : Heap} {k i n : Nat} {b : Blk} {cs : List AV} {K : AV → Heap → Ans} (h : Z[k]? = some (some b) := by with_unfolding_all rfl) (hi : b.els[i]? = some (.agg cs) := by with_unfolding_all rfl) (hn : cs.length = n := by with_unfolding_all rfl) :
    C0.hop (Z ++ X) (.load true n (.v (.ptr k i 0))) K = K (.agg cs) (Z ++ X) := ld_zw h hi hn
theorem wg {Z G S : Heap} {z k i n : Nat} {b : Blk} {cs : List AV} {K : AV → Heap → Ans} (hz : Z.length = z := by with_unfolding_all rfl) (h : S[k]? = some (some b) := by with_unfolding_all rfl) (hi : b.els[i]? = some (.agg cs) := by with_unfolding_all rfl) (hn : cs.length = n := by with_unfolding_all rfl) :
    C0.hop (Z ++ (G ++ S)) (.load true n (.v (.ptr (z + (G.length + k)) i 0))) K = K (.agg cs) (Z ++ (G ++ S)) := ld_ow hz h hi hn
theorem wh {Z X : Heap} {k i j n : Nat} {ag : Bool} {b : Blk} {el v : AV} {K : AV → Heap → Ans} (h : Z[k]? = some (some b) := by with_unfolding_all rfl) (hi : b.els[i]? = some el := by with_unfolding_all rfl) (hs : sub ag n j el = some v := by with_unfolding_all rfl) :
    C0.hop (Z ++ X) (.load ag n (.v (.ptr k i j))) K = K v (Z ++ X) := ld_z h hi hs
theorem wi {Z G S : Heap} {z k i j n : Nat} {ag : Bool} {b : Blk} {el v : AV} {K : AV → Heap → Ans} (hz : Z.length = z := by with_unfolding_all rfl) (h : S[k]? = some (some b) := by with_unfolding_all rfl) (hi : b.els[i]? = some el := by with_unfolding_all rfl) (hs : sub ag n j el = some v := by with_unfolding_all rfl) :
    C0.hop (Z ++ (G ++ S)) (.load ag n (.v (.ptr (z + (G.length + k)) i j))) K = K v (Z ++ (G ++ S)) := ld_o hz h hi hs
theorem wj {Z X : Heap} {k i j n : Nat} {b : Blk} {el el' x : AV} {K : AV → Heap → Ans} (h : Z[k]? = some (some b) := by with_unfolding_all rfl) (hi : b.els[i]? = some el := by with_unfolding_all rfl) (hs : putSub n j x el = some el' := by with_unfolding_all rfl) :
    C0.hop (Z ++ X) (.store n (.v (.ptr k i j)) (.v x)) K = K .undef (Z.set k (some { b with els := b.els.set i el' }) ++ X) := st_z h hi hs
theorem wk {Z G S : Heap} {z k i j n : Nat} {b : Blk} {el el' x : AV} {K : AV → Heap → Ans} (hz : Z.length = z := by with_unfolding_all rfl) (h : S[k]? = some (some b) := by with_unfolding_all rfl) (hi : b.els[i]? = some el := by with_unfolding_all rfl) (hs : putSub n j x el = some el' := by with_unfolding_all rfl) :
    C0.hop (Z ++ (G ++ S)) (.store n (.v (.ptr (z + (G.length + k)) i j)) (.v x)) K = K .undef (Z ++ (G ++ S.set k (some { b with els := b.els.set i el' }))) := st_o hz h hi hs
theorem wl {Z G S : Heap} {z s : Nat} {e : ETy} {K : AV → Heap → Ans} (hz : Z.length = z := by with_unfolding_all rfl) (hs : S.length = s := by with_unfolding_all rfl) : C0.hop (Z ++ (G ++ S)) (.alloc e) K = K (.ptr (z + (G.length + s)) 0 0) (Z ++ (G ++ (S ++ [some ⟨e, [e.zero]⟩]))) := al_o hz hs
theorem wm {Z G S : Heap} {z s : Nat} {e : ETy} {x : AV} {K : AV → Heap → Ans} (hz : Z.length = z := by with_unfolding_all rfl) (hs : S.length = s := by with_unfolding_all rfl) (h : elOk e x = true := by with_unfolding_all rfl) : C0.hop (Z ++ (G ++ S)) (.box e (.v x)) K = K (.ptr (z + (G.length + s)) 0 0) (Z ++ (G ++ (S ++ [some ⟨e, [x]⟩]))) := bx_o hz hs h
theorem wn {H : Heap} {x v : AV} {j n : Nat} {ag : Bool} {K : AV → Heap → Ans} (hs : sub ag n j x = some v := by with_unfolding_all rfl) : C0.hop H (.load ag n (.v (.fptr x j))) K = K v H := ld_fptr hs
theorem wo {H : Heap} {args : List AV} {K : List AV → Bool → Ans} (h : args.all (noId DEPTH) = true := by with_unfolding_all rfl) : C0.snp H args K = K args true := snp_free h
theorem wx {H : Heap} {len es id i j : Nat} {q : Int} {K : AV → Heap → Ans} (h : (decide (0 ≤ q) && decide (q < (len : Int))) = true := by with_unfolding_all rfl) : C0.hop H (.ixAA len es (.v (.ptr id i j)) (.v (.int .i64 q))) K = K (.ptr id i (j + q.toNat * es)) H := by
  have h' : 0 ≤ q ∧ q < (len : Int) := by simpa using h
  exact hop_eq (by simp only [aop, evO, aInt, aShift]; rw [if_pos h'])
end Go.Proofs.Ytnldgacamgjpnaa.AE

namespace Go.Proofs.Ytnldgacamgjpnaa.AE
set_option linter.unusedVariables false
set_option linter.unusedSimpArgs false
set_option linter.constructorNameAsVariable false
open Go
set_option maxRecDepth 100000
/-- apogee/fall.Span -/
theorem r19 (C : Cb) (d : Nat) (a0 a1 a2 a3 : Int) : xcall C M unr d 19 [(iz a0), (iz a1), (iz a2), (iz a3)] =
 C.bool (pcall M d 30 [(iz a3), (iz 0), (iz 2048)]) fun b0 =>
 cnd (!b0)
 (some (.tup [(iz 0), (iz 0), bf]))
 (C.bool (pcall M d 31 [(iz a0), (iz a1), (iz a2)]) fun b1 =>
 cnd (!b1)
 (some (.tup [(iz 0), (iz 0), bf]))
 (C.tup 2 (pcall M d 32 [(iz (IntKind.wrap .i64 (a0 - a3))), (iz (IntKind.wrap .i64 (a1 - a3))), (iz a2)]) fun l2 =>
 C.int .i64 l2[0]? fun x3 =>
 C.bool l2[1]? fun b4 =>
 C.tup 2 (pcall M d 32 [(iz (IntKind.wrap .i64 (a0 + a3))), (iz (IntKind.wrap .i64 (a1 + a3))), (iz a2)]) fun l5 =>
 C.int .i64 l5[0]? fun x6 =>
 C.bool l5[1]? fun b7 =>
 cnd (!b4)
 (some (.tup [(iz 0), (iz 0), bf]))
 (cnd (!b7)
 (some (.tup [(iz 0), (iz 0), bf]))
 (some (.tup [(iz x3), (iz (IntKind.wrap .i64 (x6 + 2))), bt]))))) := by kernel_rfl
/-- apogee/fall.Time -/
theorem r29 (C : Cb) (d : Nat) (a0 a1 a2 : Int) : xcall C M unr d 29 [(iz a0), (iz a1), (iz a2)] =
 C.bool (pcall M d 31 [(iz a0), (iz a1), (iz a2)]) fun b0 =>
 cnd (!b0)
 (some (.tup [(iz 0), bf]))
 (C.tup 2 (pcall M d 32 [(iz a0), (iz a1), (iz a2)]) fun l1 =>
 C.int .i64 l1[0]? fun x2 =>
 C.bool l1[1]? fun b3 =>
 some (.tup [(iz x2), (.bool b3)])) := by kernel_rfl
/-- apogee/fall.within -/
theorem r30 (C : Cb) (d : Nat) (a0 a1 a2 : Int) : xcall C M unr d 30 [(iz a0), (iz a1), (iz a2)] =
 cnd (decide (a0 ≥ a1))
 (some (.bool (decide (a0 ≤ a2))))
 (some bf) := by kernel_rfl
/-- apogee/fall.may -/
theorem r31 (C : Cb) (d : Nat) (a0 a1 a2 : Int) : xcall C M unr d 31 [(iz a0), (iz a1), (iz a2)] =
 C.bool (pcall M d 30 [(iz a0), (iz (-2147483648)), (iz 2147483648)]) fun b0 =>
 cnd b0
 (C.bool (pcall M d 30 [(iz a1), (iz (-131072)), (iz 131072)]) fun b1 =>
 cnd b1
 (C.bool (pcall M d 30 [(iz a2), (iz 1), (iz 100)]) fun b2 =>
 some (.bool b2))
 (some bf))
 (some bf) := by kernel_rfl
/-- apogee/fall.fallen -/
theorem r32 (C : Cb) (d : Nat) (a0 a1 a2 : Int) : xcall C M unr d 32 [(iz a0), (iz a1), (iz a2)] =
 cnd (decide (a0 < 0))
 (some (.tup [(iz 0), bt]))
 (C.tup 2 (pcall M d 38 [(iz (IntKind.wrap .i64 ((IntKind.wrap .i64 (a1 * a1)) + (IntKind.wrap .i64 ((IntKind.wrap .i64 (2 * a2)) * a0)))))]) fun l0 =>
 C.int .i64 l0[0]? fun x1 =>
 C.bool l0[1]? fun b2 =>
 cnd (decide (a2 = 0))
 (none)
 (some (.tup [(iz (IntKind.wrap .i64 (Int.tdiv (IntKind.wrap .i64 (a1 + x1)) a2))), (.bool b2)]))) := by kernel_rfl
/-- apogee/fall.Above -/
theorem r35 (C : Cb) (d : Nat) (a0 a1 a2 a3 : Int) : xcall C M unr d 35 [(iz a0), (iz a1), (iz a2), (iz a3)] =
 C.bool (pcall M d 31 [(iz a0), (iz a1), (iz a2)]) fun b0 =>
 cnd (!b0)
 (some (.tup [(iz 0), bf]))
 (C.bool (pcall M d 30 [(iz a3), (iz 0), (iz 16777216)]) fun b1 =>
 cnd (!b1)
 (some (.tup [(iz 0), bf]))
 (C.tup 2 (pcall M d 40 [(.lst [(iz (IntKind.wrap .i64 (2 * a0))), (iz (IntKind.wrap .i64 ((IntKind.wrap .i64 (2 * a1)) * a3))), (iz (IntKind.wrap .i64 ((IntKind.wrap .i64 ((IntKind.wrap .i64 (0 - a2)) * a3)) * a3)))])]) fun l2 =>
 C.int .i64 l2[0]? fun x3 =>
 C.bool l2[1]? fun b4 =>
 some (.tup [(iz x3), (.bool b4)]))) := by kernel_rfl
end Go.Proofs.Ytnldgacamgjpnaa.AE

namespace Go.Proofs.Ytnldgacamgjpnaa.AE
set_option linter.unusedVariables false
set_option linter.unusedSimpArgs false
set_option linter.constructorNameAsVariable false
open Go
attribute [local irreducible] pcall C0
theorem u64_or_high {x : Int} {i : Nat} (hi : i < 64) (h : 0 ≤ x) (h' : x < 18446744073709551616) (hd : x % 2 ^ (i + 1) = 0) (hs : x + 2 ^ i < 18446744073709551616) : Go.bits .or .u64 x (2 ^ i) = x + 2 ^ i := by
  obtain ⟨n, rfl⟩ := Int.eq_ofNat_of_zero_le h
  have hn : n < 2 ^ 64 := by omega
  have hp : (2 : Nat) ^ i < 2 ^ 64 := Nat.pow_lt_pow_right (by decide) hi
  have hd' : n % 2 ^ (i + 1) = 0 := by exact_mod_cast hd
  have hs' : n + 2 ^ i < 2 ^ 64 := by
    have : ((n + 2 ^ i : Nat) : Int) < ((2 ^ 64 : Nat) : Int) := by simpa using hs
    exact_mod_cast this
  show IntKind.u64.wrap ((BitVec.ofInt 64 (n : Int) ||| BitVec.ofInt 64 ((2 : Int) ^ i)).toNat : Int) = _
  rw [show ((2 : Int) ^ i) = ((2 ^ i : Nat) : Int) by simp, BitVec.toNat_or, BitVec.ofInt_natCast, BitVec.ofInt_natCast, BitVec.toNat_ofNat, BitVec.toNat_ofNat, Nat.mod_eq_of_lt hn, Nat.mod_eq_of_lt hp]
  obtain ⟨a, ha⟩ : ∃ a, n = 2 ^ (i + 1) * a := ⟨n / 2 ^ (i + 1), (Nat.mul_div_cancel' (Nat.dvd_of_mod_eq_zero hd')).symm⟩
  have := Nat.two_pow_add_eq_or_of_lt (i := i + 1) (b := 2 ^ i) (Nat.pow_lt_pow_right (by decide) (by omega)) a
  rw [ha] at hs' ⊢
  rw [← this, u64_small (by omega) (by omega)]
  simp
/-- A number is above another one's square. -/
theorem s51 (d : Nat) (s w : Int) (hs : 0 ≤ s) (hs' : s < 18446744073709551616) (hw : 0 ≤ w) (hw' : w < 170141183460469231731687303715884105728) : pcall M (d + 2) 51 [.int .u64 s, wd w] = some (.bool (decide (w < s * s))) := told (r51 C0 (d + 1) _ _ _) (by
  obtain ⟨hi, lo, e, h0, l0, l1, i0, i1⟩ := s54 d s s hs hs' hs hs'
  refine Eq.trans (pl_tup e (by rfl)) ?_
  repeat with_reducible first | refine tt sh_ptr ?_ | refine tt sh_fptr ?_ | refine tt w2 ?_ | refine tt w3 ?_ | refine tt w8 ?_ | refine tt w9 ?_ | refine tt wf ?_ | refine tt wg ?_ | refine tt wh ?_ | refine tt wi ?_ | refine tt wj ?_ | refine tt wk ?_ | refine tt wl ?_ | refine tt wn ?_ | refine tt c_ort ?_ | refine tt c_nt ?_ | refine tt c_nf ?_ | refine tt (cnd_t _ _) ?_ | refine tt (cnd_f _ _) ?_ | refine tt w6 ?_ | refine tt w4 ?_ | refine tt w5 ?_ | refine tt w7 ?_ | refine tt wm ?_ | refine tt wo ?_ | refine tt wx ?_ | refine tt nil_ptr ?_ | refine tt len_lst ?_ | refine tt len_zsl ?_
  have e1 : hiw w = w / 18446744073709551616 := by unfold hiw; rw [i64_small (by omega) (by omega)]
  have e2 : IntKind.wrap .u64 (hiw w) = w / 18446744073709551616 := by rw [e1, u64_small (by omega) (by omega)]
  rw [e2, ← h0]
  unfold low
  by_cases c1 : hi > w / 18446744073709551616
  · rw [decide_eq_true c1, cnd_t, decide_eq_true (by omega)]
  · rw [decide_eq_false c1, cnd_f]
    by_cases c2 : hi = w / 18446744073709551616
    · rw [show (hi == w / 18446744073709551616) = true from beq_iff_eq.mpr c2, cnd_t]
      congr 2; rw [decide_eq_decide]; omega
    · rw [show (hi == w / 18446744073709551616) = false from beq_eq_false_iff_ne.mpr c2, cnd_f, decide_eq_false (by omega)])
theorem sqrt0 (d : Nat) (w : Int) (hw : 0 ≤ w) (hw' : w < 170141183460469231731687303715884105728) : ∀ (i f : Nat) (s : Int), i ≤ 64 → i < f → 0 ≤ s → s % 2 ^ i = 0 → s + 2 ^ i ≤ 18446744073709551616 → s * s ≤ w → w < (s + 2 ^ i) * (s + 2 ^ i) →
    ∃ r, L48_0 (d + 2) (hiw w) (low w) f s (Int.fdiv (2 ^ i) 2) = some (.tup [.int .u64 r, .bool true]) ∧ 0 ≤ r ∧ r < 18446744073709551616 ∧ r * r ≤ w ∧ w < (r + 1) * (r + 1) := by
  intro i
  induction i with
  | zero =>
    intro f s hi hf h0 hd hb h1 h2
    obtain ⟨f, rfl⟩ : ∃ g, f = g + 1 := ⟨f - 1, by omega⟩
    refine ⟨s, ?_, h0, by simp at hb; omega, h1, by simpa using h2⟩
    rw [L48_0, decide_eq_false (by simp), cnd_f]; rfl
  | succ i ih =>
    intro f s hi hf h0 hd hb h1 h2
    obtain ⟨f, rfl⟩ : ∃ g, f = g + 1 := ⟨f - 1, by omega⟩
    have p0 : (0 : Int) < 2 ^ i := Int.pow_pos (by decide)
    have e1 : Int.fdiv (2 ^ (i + 1)) 2 = 2 ^ i := by
      rw [Int.fdiv_eq_ediv_of_nonneg _ (by decide), Int.pow_succ]; omega
    have e2 : (2 : Int) ^ (i + 1) = 2 ^ i + 2 ^ i := by rw [Int.pow_succ]; omega
    have e3 : Int.fdiv ((2 : Int) ^ i) (2 ^ (min (Int.toNat 1) 64)) = Int.fdiv (2 ^ i) 2 := by rw [show ((2 : Int) ^ (min (Int.toNat 1) 64)) = 2 by decide]
    have hor : Go.bits .or .u64 s (2 ^ i) = s + 2 ^ i := u64_or_high (by omega) h0 (by omega) hd (by omega)
    have hd0 : s % 2 ^ i = 0 := by
      have := Int.emod_emod_of_dvd s (show (2 : Int) ^ i ∣ 2 ^ (i + 1) from ⟨2, by rw [Int.pow_succ]⟩)
      rw [hd] at this; simpa using this.symm
    have hd1 : (s + 2 ^ i) % 2 ^ i = 0 := by rw [Int.add_emod_right]; exact hd0
    rw [e1]
    have ab := s51 d (s + 2 ^ i) w (by omega) (by omega) hw hw'
    by_cases c : w < (s + 2 ^ i) * (s + 2 ^ i)
    · obtain ⟨r, q1, q2⟩ := ih f s (by omega) (by omega) h0 hd0 (by omega) h1 c
      refine ⟨r, ?_, q2⟩
      rw [L48_0, decide_eq_true p0, cnd_t, hor]
      refine Eq.trans (pl_bool ab) ?_
      rw [decide_eq_true c, c_nt, e3]; exact q1
    · obtain ⟨r, q1, q2⟩ := ih f (s + 2 ^ i) (by omega) (by omega) (by omega) hd1 (by omega) (by omega) (by rw [show s + 2 ^ i + 2 ^ i = s + 2 ^ (i + 1) by omega]; exact h2)
      refine ⟨r, ?_, q2⟩
      rw [L48_0, decide_eq_true p0, cnd_t, hor]
      refine Eq.trans (pl_bool ab) ?_
      rw [decide_eq_false c, c_nf, e3]; exact q1
theorem wsqrt (d : Nat) (w : Int) (hw : 0 ≤ w) (hw' : w < 170141183460469231731687303715884105728) : ∃ r, pcall M (d + 3) 48 [wd w] = some (.tup [.int .u64 r, .bool true]) ∧ 0 ≤ r ∧ r < 18446744073709551616 ∧ r * r ≤ w ∧ w < (r + 1) * (r + 1) := by
  obtain ⟨r, q1, q2⟩ := sqrt0 d w hw hw' 64 1000000000000000000 0 (by omega) (by omega) (by omega) (by simp) (by decide) (by omega) (by omega)
  refine ⟨r, told (q48 (d + 2) _ _) ?_, q2⟩
  have e1 : hiw w = w / 18446744073709551616 := by unfold hiw; rw [i64_small (by omega) (by omega)]
  rw [decide_eq_false (by rw [e1]; omega), cnd_f]
  exact q1
/-- The root of a number of 64 bits. -/
def IsRoot (n r : Int) : Prop := 0 ≤ r ∧ r ≤ 3037000499 ∧ r * r ≤ n ∧ n < (r + 1) * (r + 1)
theorem root_top {n r : Int} (hn : n < 9223372036854775808) (h0 : 0 ≤ r) (h1 : r * r ≤ n) : r ≤ 3037000499 := by
  refine Int.not_lt.1 fun h => ?_
  have := Int.mul_le_mul (show 3037000500 ≤ r by omega) (show 3037000500 ≤ r by omega) (by omega) (by omega)
  omega
theorem fsqrt (d : Nat) (n : Int) (h0 : 0 ≤ n) (h1 : n < 9223372036854775808) : ∃ r, pcall M (d + 5) 38 [.int .i64 n] = some (.tup [.int .i64 r, .bool true]) ∧ IsRoot n r := by
  obtain ⟨r, q1, q2, q3, q4, q5⟩ := wsqrt d n h0 (by omega)
  have top := root_top h1 q2 q4
  refine ⟨r, told (r38 C0 (d + 4) _) ?_, q2, top, q4, q5⟩
  refine Eq.trans (pl_agg (s44 (d + 3) n (by omega) h1) (by rfl)) ?_
  repeat with_reducible first | refine tt sh_ptr ?_ | refine tt sh_fptr ?_ | refine tt w2 ?_ | refine tt w3 ?_ | refine tt w8 ?_ | refine tt w9 ?_ | refine tt wf ?_ | refine tt wg ?_ | refine tt wh ?_ | refine tt wi ?_ | refine tt wj ?_ | refine tt wk ?_ | refine tt wl ?_ | refine tt wn ?_ | refine tt c_ort ?_ | refine tt c_nt ?_ | refine tt c_nf ?_ | refine tt (cnd_t _ _) ?_ | refine tt (cnd_f _ _) ?_ | refine tt w6 ?_ | refine tt w4 ?_ | refine tt w5 ?_ | refine tt w7 ?_ | refine tt wm ?_ | refine tt wo ?_ | refine tt wx ?_ | refine tt nil_ptr ?_ | refine tt len_lst ?_ | refine tt len_zsl ?_
  have : pcall M (d + 4) 43 [wd n, .bool true] = some (.tup [.int .i64 r, .bool true]) := told (r43 C0 (d + 3) _ _ _) (by
    repeat with_reducible first | refine tt sh_ptr ?_ | refine tt sh_fptr ?_ | refine tt w2 ?_ | refine tt w3 ?_ | refine tt w8 ?_ | refine tt w9 ?_ | refine tt wf ?_ | refine tt wg ?_ | refine tt wh ?_ | refine tt wi ?_ | refine tt wj ?_ | refine tt wk ?_ | refine tt wl ?_ | refine tt wn ?_ | refine tt c_ort ?_ | refine tt c_nt ?_ | refine tt c_nf ?_ | refine tt (cnd_t _ _) ?_ | refine tt (cnd_f _ _) ?_ | refine tt w6 ?_ | refine tt w4 ?_ | refine tt w5 ?_ | refine tt w7 ?_ | refine tt wm ?_ | refine tt wo ?_ | refine tt wx ?_ | refine tt nil_ptr ?_ | refine tt len_lst ?_ | refine tt len_zsl ?_
    refine Eq.trans (pl_tup q1 (by rfl)) ?_
    repeat with_reducible first | refine tt sh_ptr ?_ | refine tt sh_fptr ?_ | refine tt w2 ?_ | refine tt w3 ?_ | refine tt w8 ?_ | refine tt w9 ?_ | refine tt wf ?_ | refine tt wg ?_ | refine tt wh ?_ | refine tt wi ?_ | refine tt wj ?_ | refine tt wk ?_ | refine tt wl ?_ | refine tt wn ?_ | refine tt c_ort ?_ | refine tt c_nt ?_ | refine tt c_nf ?_ | refine tt (cnd_t _ _) ?_ | refine tt (cnd_f _ _) ?_ | refine tt w6 ?_ | refine tt w4 ?_ | refine tt w5 ?_ | refine tt w7 ?_ | refine tt wm ?_ | refine tt wo ?_ | refine tt wx ?_ | refine tt nil_ptr ?_ | refine tt len_lst ?_ | refine tt len_zsl ?_
    rw [decide_eq_false (by omega), cnd_f, i64_small (by omega) (by omega)])
  refine Eq.trans (pl_tup this (by rfl)) ?_
  repeat with_reducible first | refine tt sh_ptr ?_ | refine tt sh_fptr ?_ | refine tt w2 ?_ | refine tt w3 ?_ | refine tt w8 ?_ | refine tt w9 ?_ | refine tt wf ?_ | refine tt wg ?_ | refine tt wh ?_ | refine tt wi ?_ | refine tt wj ?_ | refine tt wk ?_ | refine tt wl ?_ | refine tt wn ?_ | refine tt c_ort ?_ | refine tt c_nt ?_ | refine tt c_nf ?_ | refine tt (cnd_t _ _) ?_ | refine tt (cnd_f _ _) ?_ | refine tt w6 ?_ | refine tt w4 ?_ | refine tt w5 ?_ | refine tt w7 ?_ | refine tt wm ?_ | refine tt wo ?_ | refine tt wx ?_ | refine tt nil_ptr ?_ | refine tt len_lst ?_ | refine tt len_zsl ?_
  rfl
def clampX (n lo hi : Int) : Int := if n < lo then lo else if n > hi then hi else n
theorem s28 (d : Nat) (n lo hi : Int) : pcall M (d + 1) 28 [.int .i64 n, .int .i64 lo, .int .i64 hi] = some (.int .i64 (clampX n lo hi)) := told (r28 C0 d _ _ _) (by
  unfold clampX
  by_cases h : n < lo
  · rw [decide_eq_true h, cnd_t, if_pos h]
  · rw [decide_eq_false h, cnd_f, if_neg h]
    by_cases h2 : n > hi
    · rw [decide_eq_true h2, cnd_t, if_pos h2]
    · rw [decide_eq_false h2, cnd_f, if_neg h2])
theorem add_fit (d : Nat) (x y : Int) (h1 : -4611686018427387904 ≤ x) (h2 : x ≤ 4611686018427387904) (h3 : -2305843009213693952 ≤ y) (h4 : y ≤ 2305843009213693952) : pcall M (d + 4) 45 [.int .i64 x, .int .i64 y] = some (.tup [.int .i64 (x + y), .bool true]) := by
  have := s45 d x y (by omega) (by omega) (by omega) (by omega)
  have hf : fitB (x + y) = true := decide_eq_true (by omega)
  rw [hf] at this; exact this
theorem sum_step (d : Nat) (l : List AV) (i f : Nat) (x y : Int) (hi : i < l.length) (hy : l[i]? = some (.int .i64 y)) (hl : l.length ≤ 1000) (h1 : -4611686018427387904 ≤ x) (h2 : x ≤ 4611686018427387904) (h3 : -2305843009213693952 ≤ y) (h4 : y ≤ 2305843009213693952) :
    L40_0 (d + 4) l (f + 1) x (i : Nat) = L40_0 (d + 4) l f (x + y) ((i + 1 : Nat) : Int) := by
  rw [L40_0, decide_eq_true (by omega), cnd_t, decide_eq_true (by omega), cnd_t, show (((i : Nat) : Int)).toNat = i by omega, hy]
  repeat with_reducible first | refine tt sh_ptr ?_ | refine tt sh_fptr ?_ | refine tt w2 ?_ | refine tt w3 ?_ | refine tt w8 ?_ | refine tt w9 ?_ | refine tt wf ?_ | refine tt wg ?_ | refine tt wh ?_ | refine tt wi ?_ | refine tt wj ?_ | refine tt wk ?_ | refine tt wl ?_ | refine tt wn ?_ | refine tt c_ort ?_ | refine tt c_nt ?_ | refine tt c_nf ?_ | refine tt (cnd_t _ _) ?_ | refine tt (cnd_f _ _) ?_ | refine tt w6 ?_ | refine tt w4 ?_ | refine tt w5 ?_ | refine tt w7 ?_ | refine tt wm ?_ | refine tt wo ?_ | refine tt wx ?_ | refine tt nil_ptr ?_ | refine tt len_lst ?_ | refine tt len_zsl ?_
  refine Eq.trans (pl_tup (add_fit d x y h1 h2 h3 h4) (by rfl)) ?_
  repeat with_reducible first | refine tt sh_ptr ?_ | refine tt sh_fptr ?_ | refine tt w2 ?_ | refine tt w3 ?_ | refine tt w8 ?_ | refine tt w9 ?_ | refine tt wf ?_ | refine tt wg ?_ | refine tt wh ?_ | refine tt wi ?_ | refine tt wj ?_ | refine tt wk ?_ | refine tt wl ?_ | refine tt wn ?_ | refine tt c_ort ?_ | refine tt c_nt ?_ | refine tt c_nf ?_ | refine tt (cnd_t _ _) ?_ | refine tt (cnd_f _ _) ?_ | refine tt w6 ?_ | refine tt w4 ?_ | refine tt w5 ?_ | refine tt w7 ?_ | refine tt wm ?_ | refine tt wo ?_ | refine tt wx ?_ | refine tt nil_ptr ?_ | refine tt len_lst ?_ | refine tt len_zsl ?_
  rw [show IntKind.wrap .i64 (((i : Nat) : Int) + 1) = ((i + 1 : Nat) : Int) by rw [i64w]; omega]
theorem sum_end (d : Nat) (l : List AV) (f : Nat) (x : Int) : L40_0 d l (f + 1) x (l.length : Nat) = some (.tup [.int .i64 x, .bool true]) := by
  rw [L40_0, decide_eq_false (by omega), cnd_f]; rfl
/-- Three numbers together, none too great. -/
theorem sum3 (d : Nat) (a b c : Int) (ha : -2305843009213693952 ≤ a) (ha' : a ≤ 2305843009213693952) (hb : -2305843009213693952 ≤ b) (hb' : b ≤ 2305843009213693952) (hc : -2305843009213693952 ≤ c) (hc' : c ≤ 2305843009213693952) :
    pcall M (d + 5) 40 [.lst [.int .i64 a, .int .i64 b, .int .i64 c]] = some (.tup [.int .i64 (a + b + c), .bool true]) := told (q40 (d + 4) _) (by
  obtain ⟨f, hf⟩ : ∃ f : Nat, f + 1 + 1 + 1 + 1 = 1000000000000000000 := ⟨999999999999999996, rfl⟩
  rw [← hf]
  refine (sum_step d [.int .i64 a, .int .i64 b, .int .i64 c] 0 _ 0 a (by simp) rfl (by simp) (by omega) (by omega) ha ha').trans ?_
  refine (sum_step d [.int .i64 a, .int .i64 b, .int .i64 c] 1 _ (0 + a) b (by simp) rfl (by simp) (by omega) (by omega) hb hb').trans ?_
  refine (sum_step d [.int .i64 a, .int .i64 b, .int .i64 c] 2 _ (0 + a + b) c (by simp) rfl (by simp) (by omega) (by omega) hc hc').trans ?_
  refine (sum_end (d + 4) [.int .i64 a, .int .i64 b, .int .i64 c] _ (0 + a + b + c)).trans ?_
  rw [Int.zero_add])
end Go.Proofs.Ytnldgacamgjpnaa.AE

namespace Go.Proofs.Ytnldgacamgjpnaa.Geo
/-- Twice the height behind s cycles. -/
def A (z v g s : Int) : Int := 2 * z + 2 * v * s - g * s * s
theorem sq_nonneg (x : Int) : 0 ≤ x * x := by
  rcases Int.le_total 0 x with h | h
  · exact Int.mul_nonneg h h
  · have := Int.mul_nonneg (show 0 ≤ -x by omega) (show 0 ≤ -x by omega)
    rw [Int.neg_mul_neg] at this; exact this
theorem sq_le {x y : Int} (h : -y ≤ x) (h' : x ≤ y) : x * x ≤ y * y := by
  have h1 := Int.mul_nonneg (show 0 ≤ y - x by omega) (show 0 ≤ y + x by omega)
  have : (y - x) * (y + x) = y * y - x * x := by grind
  omega
theorem mul_bd {x y a b : Int} (h : -a ≤ x) (h' : x ≤ a) (g : -b ≤ y) (g' : y ≤ b) : -(a * b) ≤ x * y ∧ x * y ≤ a * b := by
  have h1 := Int.mul_nonneg (show 0 ≤ a - x by omega) (show 0 ≤ b + y by omega)
  have h2 := Int.mul_nonneg (show 0 ≤ a + x by omega) (show 0 ≤ b - y by omega)
  have h3 := Int.mul_nonneg (show 0 ≤ a - x by omega) (show 0 ≤ b - y by omega)
  have h4 := Int.mul_nonneg (show 0 ≤ a + x by omega) (show 0 ≤ b + y by omega)
  have e1 : (a - x) * (b + y) = a * b + a * y - x * b - x * y := by grind
  have e2 : (a + x) * (b - y) = a * b - a * y + x * b - x * y := by grind
  have e3 : (a - x) * (b - y) = a * b - a * y - x * b + x * y := by grind
  have e4 : (a + x) * (b + y) = a * b + a * y + x * b + x * y := by grind
  omega
/-- What may be reckoned with; what is small enough to be reckoned with inside. -/
def May (z v g : Int) : Prop := -2147483648 ≤ z ∧ z ≤ 2147483648 ∧ -131072 ≤ v ∧ v ≤ 131072 ∧ 1 ≤ g ∧ g ≤ 100
instance (z v g : Int) : Decidable (May z v g) := by unfold May; infer_instance
def Small (z v g : Int) : Prop := -2147487744 ≤ z ∧ z ≤ 2147487744 ∧ -135168 ≤ v ∧ v ≤ 135168 ∧ 1 ≤ g ∧ g ≤ 100
theorem may_small {z v g : Int} (h : May z v g) : Small z v g := by unfold May at h; unfold Small; omega
/-- The last cycle behind which it isn't below the ground. -/
def Falls (z v g t : Int) : Prop := 0 ≤ t ∧ t ≤ 1000000 ∧ (z < 0 → t = 0) ∧ (0 ≤ z → ∀ s, 0 ≤ s → (0 ≤ A z v g s ↔ s ≤ t))
theorem rad_bd {z v g : Int} (hs : Small z v g) (hz : 0 ≤ z) : 0 ≤ v * v ∧ v * v ≤ 18270388224 ∧ 0 ≤ 2 * g * z ∧ 2 * g * z ≤ 429497548800 := by
  obtain ⟨z0, z1, v0, v1, g0, g1⟩ := hs
  have hv := mul_bd v0 v1 v0 v1
  have hv' := sq_nonneg v
  have hgz := Int.mul_le_mul (show 2 * g ≤ 200 by omega) z1 (by omega) (by omega)
  have hgz' := Int.mul_nonneg (show 0 ≤ 2 * g by omega) (show 0 ≤ z by omega)
  omega
theorem falls_of_root {z v g r : Int} (hs : Small z v g) (hz : 0 ≤ z) (r0 : 0 ≤ r) (r1 : r * r ≤ v * v + 2 * g * z) (r2 : v * v + 2 * g * z < (r + 1) * (r + 1)) : Falls z v g ((v + r) / g) ∧ 0 ≤ v + r ∧ r ≤ 700000 := by
  have bd := rad_bd hs hz
  obtain ⟨z0, z1, v0, v1, g0, g1⟩ := hs
  have hrv : -r ≤ v ∧ v ≤ r := by
    constructor
    · refine Int.not_lt.1 fun h => ?_
      have := Int.mul_le_mul (show r + 1 ≤ -v by omega) (show r + 1 ≤ -v by omega) (by omega) (by omega)
      rw [Int.neg_mul_neg] at this; omega
    · refine Int.not_lt.1 fun h => ?_
      have := Int.mul_le_mul (show r + 1 ≤ v by omega) (show r + 1 ≤ v by omega) (by omega) (by omega)
      omega
  have hr : r ≤ 700000 := by
    refine Int.not_lt.1 fun h => ?_
    have := Int.mul_le_mul (show 700000 ≤ r by omega) (show 700000 ≤ r by omega) (by omega) (by omega)
    omega
  have hd0 : 0 ≤ (v + r) / g := Int.ediv_nonneg (by omega) (by omega)
  have hd1 : (v + r) / g ≤ v + r := Int.ediv_le_self _ (by omega)
  refine ⟨⟨hd0, by omega, fun h => by omega, fun _ s hs0 => ?_⟩, by omega, hr⟩
  have key : g * A z v g s = (v * v + 2 * g * z) - (g * s - v) * (g * s - v) := by unfold A; grind
  have hgs := Int.mul_nonneg (show 0 ≤ g by omega) hs0
  have hd : s ≤ (v + r) / g ↔ s * g ≤ v + r := Int.le_ediv_iff_mul_le (by omega)
  rw [hd, Int.mul_comm s g]
  constructor
  · intro h
    have h2 := Int.mul_nonneg (show 0 ≤ g by omega) h
    refine Int.not_lt.1 fun h3 => ?_
    have h4 := Int.mul_le_mul (show r + 1 ≤ g * s - v by omega) (show r + 1 ≤ g * s - v by omega) (by omega) (by omega)
    omega
  · intro h
    have h4 := sq_le (show -r ≤ g * s - v by omega) (show g * s - v ≤ r by omega)
    refine Int.not_lt.1 fun h5 => ?_
    have h6 := Int.mul_le_mul_of_nonneg_left (show A z v g s ≤ -1 by omega) (show 0 ≤ g by omega)
    omega
theorem falls_neg {z v g : Int} (hz : z < 0) : Falls z v g 0 := ⟨by omega, by omega, fun _ => rfl, fun h => by omega⟩
theorem A_mono {z v g z' v' s : Int} (hz : z ≤ z') (hv : v ≤ v') (hs : 0 ≤ s) : A z v g s ≤ A z' v' g s := by
  unfold A
  have := Int.mul_le_mul_of_nonneg_right (show 2 * v ≤ 2 * v' by omega) hs
  omega
theorem falls_mono {z v g z' v' t t' : Int} (h : Falls z v g t) (h' : Falls z' v' g t') (hz : z ≤ z') (hv : v ≤ v') : t ≤ t' := by
  by_cases c : z < 0
  · rw [h.2.2.1 c]; exact h'.1
  · have h1 := (h.2.2.2 (by omega) t h.1).2 (Int.le_refl _)
    exact (h'.2.2.2 (by omega) t h.1).1 (Int.le_trans h1 (A_mono hz hv h.1))
theorem falls_one {z v g t t' : Int} (h : Falls z v g t) (h' : Falls z v g t') : t = t' := by
  have := falls_mono h h' (Int.le_refl _) (Int.le_refl _)
  have := falls_mono h' h (Int.le_refl _) (Int.le_refl _)
  omega
/-- No number of a height is too great. -/
theorem A_bd (z v g s : Int) (hs : Small z v g) (h0 : 0 ≤ s) (h1 : s ≤ 16777220) :
    -4294975488 ≤ 2 * z ∧ 2 * z ≤ 4294975488 ∧ -4535607795200 ≤ 2 * v * s ∧ 2 * v * s ≤ 4535607795200 ∧ 0 ≤ g * s ∧ g * s ≤ 1677722000 ∧ 0 ≤ g * s * s ∧ g * s * s ≤ 28147511092840000 := by
  obtain ⟨z0, z1, v0, v1, g0, g1⟩ := hs
  have b1 := mul_bd (x := 2 * v) (a := 270336) (y := s) (b := 16777220) (by omega) (by omega) (by omega) (by omega)
  have b2 := mul_bd (x := g) (a := 100) (y := s) (b := 16777220) (by omega) (by omega) (by omega) (by omega)
  have b3 := Int.mul_nonneg (show 0 ≤ g by omega) h0
  have b4 := Int.mul_nonneg b3 h0
  have b5 := Int.mul_le_mul (show g * s ≤ 1677722000 by omega) h1 h0 (by omega)
  exact ⟨by omega, by omega, by omega, by omega, b3, by omega, b4, by omega⟩
def loS (x v eps lo hi : Int) : Int := x - eps + min ((v - eps) * lo) ((v - eps) * hi)
def hiS (x v eps lo hi : Int) : Int := x + eps + max ((v + eps) * lo) ((v + eps) * hi)
theorem lin_lo {v lo hi s : Int} (h1 : lo ≤ s) (h2 : s ≤ hi) : min (v * lo) (v * hi) ≤ v * s := by
  rcases Int.le_total 0 v with h | h
  · have := Int.mul_le_mul_of_nonneg_left h1 h; omega
  · have := Int.mul_le_mul_of_nonpos_left h h2; omega
theorem lin_hi {v lo hi s : Int} (h1 : lo ≤ s) (h2 : s ≤ hi) : v * s ≤ max (v * lo) (v * hi) := by
  rcases Int.le_total 0 v with h | h
  · have := Int.mul_le_mul_of_nonneg_left h2 h; omega
  · have := Int.mul_le_mul_of_nonpos_left h h1; omega
theorem sl_mono {v w s : Int} (h : v ≤ w) (hs : 0 ≤ s) : v * s ≤ w * s := Int.mul_le_mul_of_nonneg_right h hs
/-- A place above which it is between the times. -/
theorem side_has {x v eps lo hi x' v' s : Int} (h0 : 0 ≤ lo) (h1 : lo ≤ s) (h2 : s ≤ hi) (hx : x - eps ≤ x') (hx' : x' ≤ x + eps) (hv : v - eps ≤ v') (hv' : v' ≤ v + eps) : loS x v eps lo hi ≤ x' + v' * s ∧ x' + v' * s ≤ hiS x v eps lo hi := by
  have a := lin_lo (v := v - eps) h1 h2
  have b := lin_hi (v := v + eps) h1 h2
  have c := sl_mono hv (show 0 ≤ s by omega)
  have d := sl_mono hv' (show 0 ≤ s by omega)
  unfold loS hiS; omega
theorem side_ord {x v e lo hi : Int} (he : 0 ≤ e) (h0 : 0 ≤ lo) (h : lo ≤ hi) : loS x v e lo hi ≤ hiS x v e lo hi := by
  have := side_has (x := x) (v := v) (eps := e) (x' := x) (v' := v) h0 (Int.le_refl _) h (by omega) (by omega) (by omega) (by omega)
  omega
theorem side_bd {x v e lo hi : Int} (hx : -2147483648 ≤ x) (hx' : x ≤ 2147483648) (hv : -131072 ≤ v) (hv' : v ≤ 131072) (he : 0 ≤ e) (he' : e ≤ 2048) (h0 : 0 ≤ lo) (h : lo ≤ hi) (h1 : hi ≤ 1000002) :
    -1099511627776 ≤ loS x v e lo hi ∧ hiS x v e lo hi ≤ 1099511627776 := by
  have b1 := mul_bd (x := v - e) (a := 133120) (y := lo) (b := 1000002) (by omega) (by omega) (by omega) (by omega)
  have b2 := mul_bd (x := v - e) (a := 133120) (y := hi) (b := 1000002) (by omega) (by omega) (by omega) (by omega)
  have b3 := mul_bd (x := v + e) (a := 133120) (y := lo) (b := 1000002) (by omega) (by omega) (by omega) (by omega)
  have b4 := mul_bd (x := v + e) (a := 133120) (y := hi) (b := 1000002) (by omega) (by omega) (by omega) (by omega)
  unfold loS hiS; omega
end Go.Proofs.Ytnldgacamgjpnaa.Geo

namespace Go.Proofs.Ytnldgacamgjpnaa.AE
set_option linter.unusedVariables false
set_option linter.unusedSimpArgs false
set_option linter.constructorNameAsVariable false
open Go Go.Proofs.Ytnldgacamgjpnaa.Geo
attribute [local irreducible] pcall C0
theorem s30 (d : Nat) (a b c : Int) : pcall M (d + 1) 30 [.int .i64 a, .int .i64 b, .int .i64 c] = some (.bool (decide (b ≤ a ∧ a ≤ c))) := told (r30 C0 d _ _ _) (by
  by_cases h : a ≥ b
  · rw [decide_eq_true h, cnd_t]; congr 2; rw [decide_eq_decide]; omega
  · rw [decide_eq_false h, cnd_f, decide_eq_false (by omega)])
theorem s31 (d : Nat) (z v g : Int) : pcall M (d + 2) 31 [.int .i64 z, .int .i64 v, .int .i64 g] = some (.bool (decide (May z v g))) := told (r31 C0 (d + 1) _ _ _) (by
  refine Eq.trans (pl_bool (s30 d _ _ _)) ?_
  by_cases h1 : -2147483648 ≤ z ∧ z ≤ 2147483648
  · rw [decide_eq_true h1, cnd_t]
    refine Eq.trans (pl_bool (s30 d _ _ _)) ?_
    by_cases h2 : -131072 ≤ v ∧ v ≤ 131072
    · rw [decide_eq_true h2, cnd_t]
      refine Eq.trans (pl_bool (s30 d _ _ _)) ?_
      congr 2; rw [decide_eq_decide]; unfold May; omega
    · rw [decide_eq_false h2, cnd_f, decide_eq_false (by unfold May; omega)]
  · rw [decide_eq_false h1, cnd_f, decide_eq_false (by unfold May; omega)])
/-- What is reckoned ahead of the root. -/
theorem rad_code {z v g : Int} (hs : Small z v g) (hz : 0 ≤ z) : IntKind.wrap .i64 (IntKind.wrap .i64 (v * v) + IntKind.wrap .i64 (IntKind.wrap .i64 (2 * g) * z)) = v * v + 2 * g * z := by
  have bd := rad_bd hs hz
  have hs' := hs
  unfold Small at hs'
  rw [i64_small (n := 2 * g) (by omega) (by omega), i64_small (n := v * v) (by omega) (by omega), i64_small (n := 2 * g * z) (by omega) (by omega), i64_small (by omega) (by omega)]
theorem quo_code {v r g : Int} (hg : 1 ≤ g) (h0 : 0 ≤ v + r) (h1 : v + r ≤ 1000000) : IntKind.wrap .i64 (Int.tdiv (IntKind.wrap .i64 (v + r)) g) = (v + r) / g := by
  have hd0 : 0 ≤ (v + r) / g := Int.ediv_nonneg h0 (by omega)
  have hd1 : (v + r) / g ≤ v + r := Int.ediv_le_self _ h0
  rw [i64_small (n := v + r) (by omega) (by omega), Int.tdiv_eq_ediv_of_nonneg h0, i64_small (by omega) (by omega)]
theorem fallen (d : Nat) (z v g : Int) (hs : Small z v g) : ∃ t, pcall M (d + 6) 32 [.int .i64 z, .int .i64 v, .int .i64 g] = some (.tup [.int .i64 t, .bool true]) ∧ Falls z v g t := by
  by_cases hz : z < 0
  · exact ⟨0, told (r32 C0 (d + 5) _ _ _) (by rw [decide_eq_true hz]; rfl), falls_neg hz⟩
  · have bd := rad_bd hs (by omega)
    obtain ⟨r, e, r0, r1, r2, r3⟩ := fsqrt d (v * v + 2 * g * z) (by omega) (by omega)
    obtain ⟨f1, f2, f3⟩ := falls_of_root hs (by omega) r0 r2 r3
    have hs' := hs
    unfold Small at hs'
    refine ⟨(v + r) / g, told (r32 C0 (d + 5) _ _ _) ?_, f1⟩
    rw [decide_eq_false hz, cnd_f, rad_code hs (by omega)]
    refine Eq.trans (pl_tup e (by rfl)) ?_
    repeat with_reducible first | refine tt sh_ptr ?_ | refine tt sh_fptr ?_ | refine tt w2 ?_ | refine tt w3 ?_ | refine tt w8 ?_ | refine tt w9 ?_ | refine tt wf ?_ | refine tt wg ?_ | refine tt wh ?_ | refine tt wi ?_ | refine tt wj ?_ | refine tt wk ?_ | refine tt wl ?_ | refine tt wn ?_ | refine tt c_ort ?_ | refine tt c_nt ?_ | refine tt c_nf ?_ | refine tt (cnd_t _ _) ?_ | refine tt (cnd_f _ _) ?_ | refine tt w6 ?_ | refine tt w4 ?_ | refine tt w5 ?_ | refine tt w7 ?_ | refine tt wm ?_ | refine tt wo ?_ | refine tt wx ?_ | refine tt nil_ptr ?_ | refine tt len_lst ?_ | refine tt len_zsl ?_
    rw [decide_eq_false (by omega), cnd_f, quo_code (by omega) f2 (by omega)]
theorem ftime (d : Nat) (z v g : Int) (hm : May z v g) : ∃ t, pcall M (d + 7) 29 [.int .i64 z, .int .i64 v, .int .i64 g] = some (.tup [.int .i64 t, .bool true]) ∧ Falls z v g t := by
  obtain ⟨t, e, f⟩ := fallen d z v g (may_small hm)
  refine ⟨t, told (r29 C0 (d + 6) _ _ _) ?_, f⟩
  refine Eq.trans (pl_bool (s31 (d + 4) z v g)) ?_
  rw [decide_eq_true hm]
  repeat with_reducible first | refine tt sh_ptr ?_ | refine tt sh_fptr ?_ | refine tt w2 ?_ | refine tt w3 ?_ | refine tt w8 ?_ | refine tt w9 ?_ | refine tt wf ?_ | refine tt wg ?_ | refine tt wh ?_ | refine tt wi ?_ | refine tt wj ?_ | refine tt wk ?_ | refine tt wl ?_ | refine tt wn ?_ | refine tt c_ort ?_ | refine tt c_nt ?_ | refine tt c_nf ?_ | refine tt (cnd_t _ _) ?_ | refine tt (cnd_f _ _) ?_ | refine tt w6 ?_ | refine tt w4 ?_ | refine tt w5 ?_ | refine tt w7 ?_ | refine tt wm ?_ | refine tt wo ?_ | refine tt wx ?_ | refine tt nil_ptr ?_ | refine tt len_lst ?_ | refine tt len_zsl ?_
  refine Eq.trans (pl_tup e (by rfl)) ?_
  repeat with_reducible first | refine tt sh_ptr ?_ | refine tt sh_fptr ?_ | refine tt w2 ?_ | refine tt w3 ?_ | refine tt w8 ?_ | refine tt w9 ?_ | refine tt wf ?_ | refine tt wg ?_ | refine tt wh ?_ | refine tt wi ?_ | refine tt wj ?_ | refine tt wk ?_ | refine tt wl ?_ | refine tt wn ?_ | refine tt c_ort ?_ | refine tt c_nt ?_ | refine tt c_nf ?_ | refine tt (cnd_t _ _) ?_ | refine tt (cnd_f _ _) ?_ | refine tt w6 ?_ | refine tt w4 ?_ | refine tt w5 ?_ | refine tt w7 ?_ | refine tt wm ?_ | refine tt wo ?_ | refine tt wx ?_ | refine tt nil_ptr ?_ | refine tt len_lst ?_ | refine tt len_zsl ?_
  rfl
theorem fspan (d : Nat) (z v g eps : Int) (hm : May z v g) (h0 : 0 ≤ eps) (h1 : eps ≤ 2048) : ∃ lo hi, pcall M (d + 7) 19 [.int .i64 z, .int .i64 v, .int .i64 g, .int .i64 eps] = some (.tup [.int .i64 lo, .int .i64 (hi + 2), .bool true]) ∧ Falls (z - eps) (v - eps) g lo ∧ Falls (z + eps) (v + eps) g hi := by
  have hm' := hm
  unfold May at hm'
  obtain ⟨lo, e1, f1⟩ := fallen d (z - eps) (v - eps) g (by unfold Small; omega)
  obtain ⟨hi, e2, f2⟩ := fallen d (z + eps) (v + eps) g (by unfold Small; omega)
  refine ⟨lo, hi, told (r19 C0 (d + 6) _ _ _ _) ?_, f1, f2⟩
  refine Eq.trans (pl_bool (s30 (d + 5) _ _ _)) ?_
  rw [decide_eq_true ⟨h0, h1⟩]
  repeat with_reducible first | refine tt sh_ptr ?_ | refine tt sh_fptr ?_ | refine tt w2 ?_ | refine tt w3 ?_ | refine tt w8 ?_ | refine tt w9 ?_ | refine tt wf ?_ | refine tt wg ?_ | refine tt wh ?_ | refine tt wi ?_ | refine tt wj ?_ | refine tt wk ?_ | refine tt wl ?_ | refine tt wn ?_ | refine tt c_ort ?_ | refine tt c_nt ?_ | refine tt c_nf ?_ | refine tt (cnd_t _ _) ?_ | refine tt (cnd_f _ _) ?_ | refine tt w6 ?_ | refine tt w4 ?_ | refine tt w5 ?_ | refine tt w7 ?_ | refine tt wm ?_ | refine tt wo ?_ | refine tt wx ?_ | refine tt nil_ptr ?_ | refine tt len_lst ?_ | refine tt len_zsl ?_
  refine Eq.trans (pl_bool (s31 (d + 4) z v g)) ?_
  rw [decide_eq_true hm]
  repeat with_reducible first | refine tt sh_ptr ?_ | refine tt sh_fptr ?_ | refine tt w2 ?_ | refine tt w3 ?_ | refine tt w8 ?_ | refine tt w9 ?_ | refine tt wf ?_ | refine tt wg ?_ | refine tt wh ?_ | refine tt wi ?_ | refine tt wj ?_ | refine tt wk ?_ | refine tt wl ?_ | refine tt wn ?_ | refine tt c_ort ?_ | refine tt c_nt ?_ | refine tt c_nf ?_ | refine tt (cnd_t _ _) ?_ | refine tt (cnd_f _ _) ?_ | refine tt w6 ?_ | refine tt w4 ?_ | refine tt w5 ?_ | refine tt w7 ?_ | refine tt wm ?_ | refine tt wo ?_ | refine tt wx ?_ | refine tt nil_ptr ?_ | refine tt len_lst ?_ | refine tt len_zsl ?_
  rw [i64_small (n := z - eps) (by omega) (by omega), i64_small (n := v - eps) (by omega) (by omega), i64_small (n := z + eps) (by omega) (by omega), i64_small (n := v + eps) (by omega) (by omega)]
  refine Eq.trans (pl_tup e1 (by rfl)) ?_
  repeat with_reducible first | refine tt sh_ptr ?_ | refine tt sh_fptr ?_ | refine tt w2 ?_ | refine tt w3 ?_ | refine tt w8 ?_ | refine tt w9 ?_ | refine tt wf ?_ | refine tt wg ?_ | refine tt wh ?_ | refine tt wi ?_ | refine tt wj ?_ | refine tt wk ?_ | refine tt wl ?_ | refine tt wn ?_ | refine tt c_ort ?_ | refine tt c_nt ?_ | refine tt c_nf ?_ | refine tt (cnd_t _ _) ?_ | refine tt (cnd_f _ _) ?_ | refine tt w6 ?_ | refine tt w4 ?_ | refine tt w5 ?_ | refine tt w7 ?_ | refine tt wm ?_ | refine tt wo ?_ | refine tt wx ?_ | refine tt nil_ptr ?_ | refine tt len_lst ?_ | refine tt len_zsl ?_
  refine Eq.trans (pl_tup e2 (by rfl)) ?_
  repeat with_reducible first | refine tt sh_ptr ?_ | refine tt sh_fptr ?_ | refine tt w2 ?_ | refine tt w3 ?_ | refine tt w8 ?_ | refine tt w9 ?_ | refine tt wf ?_ | refine tt wg ?_ | refine tt wh ?_ | refine tt wi ?_ | refine tt wj ?_ | refine tt wk ?_ | refine tt wl ?_ | refine tt wn ?_ | refine tt c_ort ?_ | refine tt c_nt ?_ | refine tt c_nf ?_ | refine tt (cnd_t _ _) ?_ | refine tt (cnd_f _ _) ?_ | refine tt w6 ?_ | refine tt w4 ?_ | refine tt w5 ?_ | refine tt w7 ?_ | refine tt wm ?_ | refine tt wo ?_ | refine tt wx ?_ | refine tt nil_ptr ?_ | refine tt len_lst ?_ | refine tt len_zsl ?_
  have := f2.1
  have := f2.2.1
  rw [i64_small (n := hi + 2) (by omega) (by omega)]
theorem fspan_no (d : Nat) (z v g eps : Int) (hm : ¬ (May z v g ∧ 0 ≤ eps ∧ eps ≤ 2048)) : pcall M (d + 7) 19 [.int .i64 z, .int .i64 v, .int .i64 g, .int .i64 eps] = some (.tup [.int .i64 0, .int .i64 0, .bool false]) := told (r19 C0 (d + 6) _ _ _ _) (by
  refine Eq.trans (pl_bool (s30 (d + 5) _ _ _)) ?_
  by_cases h : 0 ≤ eps ∧ eps ≤ 2048
  · rw [decide_eq_true h]
    repeat with_reducible first | refine tt sh_ptr ?_ | refine tt sh_fptr ?_ | refine tt w2 ?_ | refine tt w3 ?_ | refine tt w8 ?_ | refine tt w9 ?_ | refine tt wf ?_ | refine tt wg ?_ | refine tt wh ?_ | refine tt wi ?_ | refine tt wj ?_ | refine tt wk ?_ | refine tt wl ?_ | refine tt wn ?_ | refine tt c_ort ?_ | refine tt c_nt ?_ | refine tt c_nf ?_ | refine tt (cnd_t _ _) ?_ | refine tt (cnd_f _ _) ?_ | refine tt w6 ?_ | refine tt w4 ?_ | refine tt w5 ?_ | refine tt w7 ?_ | refine tt wm ?_ | refine tt wo ?_ | refine tt wx ?_ | refine tt nil_ptr ?_ | refine tt len_lst ?_ | refine tt len_zsl ?_
    refine Eq.trans (pl_bool (s31 (d + 4) z v g)) ?_
    rw [decide_eq_false (fun g => hm ⟨g, h⟩)]; rfl
  · rw [decide_eq_false h]; rfl)
theorem above_code {z v g s : Int} (hs : Small z v g) (h0 : 0 ≤ s) (h1 : s ≤ 16777220) :
    IntKind.wrap .i64 (2 * z) = 2 * z ∧ IntKind.wrap .i64 (IntKind.wrap .i64 (2 * v) * s) = 2 * v * s ∧ IntKind.wrap .i64 (IntKind.wrap .i64 (IntKind.wrap .i64 (0 - g) * s) * s) = -(g * s * s) ∧ IntKind.wrap .i64 (IntKind.wrap .i64 (g * s) * s) = g * s * s := by
  have bd := A_bd z v g s hs h0 h1
  have hs' := hs
  unfold Small at hs'
  have e3 : (0 - g) * s = -(g * s) := by grind
  have e4 : -(g * s) * s = -(g * s * s) := Int.neg_mul ..
  rw [i64_small (n := 2 * z) (by omega) (by omega), i64_small (n := 2 * v) (by omega) (by omega), i64_small (n := 2 * v * s) (by omega) (by omega), i64_small (n := 0 - g) (by omega) (by omega), e3, i64_small (n := -(g * s)) (by omega) (by omega), e4, i64_small (n := -(g * s * s)) (by omega) (by omega), i64_small (n := g * s) (by omega) (by omega), i64_small (n := g * s * s) (by omega) (by omega)]
  exact ⟨rfl, rfl, rfl, rfl⟩
theorem fabove (d : Nat) (z v g s : Int) (hm : May z v g) (h0 : 0 ≤ s) (h1 : s ≤ 16777216) : pcall M (d + 6) 35 [.int .i64 z, .int .i64 v, .int .i64 g, .int .i64 s] = some (.tup [.int .i64 (A z v g s), .bool true]) := told (r35 C0 (d + 5) _ _ _ _) (by
  obtain ⟨e1, e2, e3, _⟩ := above_code (may_small hm) h0 (by omega)
  have bd := A_bd z v g s (may_small hm) h0 (by omega)
  refine Eq.trans (pl_bool (s31 (d + 3) z v g)) ?_
  rw [decide_eq_true hm]
  repeat with_reducible first | refine tt sh_ptr ?_ | refine tt sh_fptr ?_ | refine tt w2 ?_ | refine tt w3 ?_ | refine tt w8 ?_ | refine tt w9 ?_ | refine tt wf ?_ | refine tt wg ?_ | refine tt wh ?_ | refine tt wi ?_ | refine tt wj ?_ | refine tt wk ?_ | refine tt wl ?_ | refine tt wn ?_ | refine tt c_ort ?_ | refine tt c_nt ?_ | refine tt c_nf ?_ | refine tt (cnd_t _ _) ?_ | refine tt (cnd_f _ _) ?_ | refine tt w6 ?_ | refine tt w4 ?_ | refine tt w5 ?_ | refine tt w7 ?_ | refine tt wm ?_ | refine tt wo ?_ | refine tt wx ?_ | refine tt nil_ptr ?_ | refine tt len_lst ?_ | refine tt len_zsl ?_
  refine Eq.trans (pl_bool (s30 (d + 4) _ _ _)) ?_
  rw [decide_eq_true ⟨h0, h1⟩]
  repeat with_reducible first | refine tt sh_ptr ?_ | refine tt sh_fptr ?_ | refine tt w2 ?_ | refine tt w3 ?_ | refine tt w8 ?_ | refine tt w9 ?_ | refine tt wf ?_ | refine tt wg ?_ | refine tt wh ?_ | refine tt wi ?_ | refine tt wj ?_ | refine tt wk ?_ | refine tt wl ?_ | refine tt wn ?_ | refine tt c_ort ?_ | refine tt c_nt ?_ | refine tt c_nf ?_ | refine tt (cnd_t _ _) ?_ | refine tt (cnd_f _ _) ?_ | refine tt w6 ?_ | refine tt w4 ?_ | refine tt w5 ?_ | refine tt w7 ?_ | refine tt wm ?_ | refine tt wo ?_ | refine tt wx ?_ | refine tt nil_ptr ?_ | refine tt len_lst ?_ | refine tt len_zsl ?_
  rw [e1, e2, e3]
  refine Eq.trans (pl_tup (sum3 d (2 * z) (2 * v * s) (-(g * s * s)) (by omega) (by omega) (by omega) (by omega) (by omega) (by omega)) (by rfl)) ?_
  repeat with_reducible first | refine tt sh_ptr ?_ | refine tt sh_fptr ?_ | refine tt w2 ?_ | refine tt w3 ?_ | refine tt w8 ?_ | refine tt w9 ?_ | refine tt wf ?_ | refine tt wg ?_ | refine tt wh ?_ | refine tt wi ?_ | refine tt wj ?_ | refine tt wk ?_ | refine tt wl ?_ | refine tt wn ?_ | refine tt c_ort ?_ | refine tt c_nt ?_ | refine tt c_nf ?_ | refine tt (cnd_t _ _) ?_ | refine tt (cnd_f _ _) ?_ | refine tt w6 ?_ | refine tt w4 ?_ | refine tt w5 ?_ | refine tt w7 ?_ | refine tt wm ?_ | refine tt wo ?_ | refine tt wx ?_ | refine tt nil_ptr ?_ | refine tt len_lst ?_ | refine tt len_zsl ?_
  unfold A
  rw [show 2 * z + 2 * v * s - g * s * s = 2 * z + 2 * v * s + -(g * s * s) by omega])
end Go.Proofs.Ytnldgacamgjpnaa.AE

namespace Go.Proofs.Ytnldgacamgjpnaa.AE
set_option linter.unusedVariables false
set_option linter.unusedSimpArgs false
set_option linter.constructorNameAsVariable false
open Go Go.Proofs.Ytnldgacamgjpnaa.Geo
def okb (p : Pt) : Bool := decide (OkP p)
theorem okb_t {p : Pt} : okb p = true ↔ OkP p := decide_eq_true_iff
end Go.Proofs.Ytnldgacamgjpnaa.AE

namespace Go.Proofs.Ytnldgacamgjpnaa.AE
set_option linter.unusedVariables false
set_option linter.unusedSimpArgs false
set_option linter.constructorNameAsVariable false
open Go
set_option maxRecDepth 100000
/-- apogee/box.Right -/
theorem r22 (C : Cb) (d : Nat) (a0 a1 a2 a3 : Int) : xcall C M unr d 22 [(.agg [(iz a0), (iz a1), (iz a2), (iz a3)])] =
 C.bool (pcall M d 34 [(.agg [(iz a0), (iz a1)])]) fun b0 =>
 cnd b0
 (C.bool (pcall M d 34 [(.agg [(iz a2), (iz a3)])]) fun b1 =>
 cnd b1
 (cnd (decide (a0 ≤ a2))
 (some (.bool (decide (a1 ≤ a3))))
 (some bf))
 (some bf))
 (some bf) := by kernel_rfl
end Go.Proofs.Ytnldgacamgjpnaa.AE

namespace Go.Proofs.Ytnldgacamgjpnaa.AE
set_option linter.unusedVariables false
set_option linter.unusedSimpArgs false
set_option linter.constructorNameAsVariable false
open Go Go.Proofs.Ytnldgacamgjpnaa.Geo
abbrev Bx := Pt × Pt
abbrev bx (b : Bx) : AV := .agg [.int .i64 b.1.1, .int .i64 b.1.2, .int .i64 b.2.1, .int .i64 b.2.2]
def zB : Bx := ((0, 0), (0, 0))
def rightX (b : Bx) : Bool := okb b.1 && (okb b.2 && (decide (b.1.1 ≤ b.2.1) && decide (b.1.2 ≤ b.2.2)))
theorem rightX_t {b : Bx} : rightX b = true ↔ OkP b.1 ∧ OkP b.2 ∧ b.1.1 ≤ b.2.1 ∧ b.1.2 ≤ b.2.2 := by
  unfold rightX; simp only [Bool.and_eq_true, okb_t, decide_eq_true_iff]
theorem s22 (d : Nat) (b : Bx) : pcall M (d + 3) 22 [bx b] = some (.bool (rightX b)) := told (r22 C0 (d + 2) _ _ _ _) (by
  refine Eq.trans (pl_bool (s34 d b.1)) ?_
  unfold rightX
  change cnd (okb b.1) _ _ = _
  cases okb b.1
  · rfl
  · refine Eq.trans (pl_len (by rfl)) ?_
    refine Eq.trans (pl_bool (s34 d b.2)) ?_
    change cnd (okb b.2) _ _ = _
    cases okb b.2
    · rfl
    · refine Eq.trans (pl_len (by rfl)) ?_; cases decide (b.1.1 ≤ b.2.1) <;> rfl)
end Go.Proofs.Ytnldgacamgjpnaa.AE

namespace Go.Proofs.Ytnldgacamgjpnaa.AE
set_option linter.unusedVariables false
set_option linter.unusedSimpArgs false
set_option linter.constructorNameAsVariable false
open Go
set_option maxRecDepth 100000
/-- apogee/apogeelaw18.Held -/
theorem r8 (C : Cb) (d : Nat) (a0 a1 a2 a3 a4 a5 a6 a7 : Int) : xcall C M unr d 8 [(.agg [(iz a0), (iz a1), (iz a2), (iz a3), (iz a4), (iz a5), (iz a6), (iz a7)])] =
 some (.agg [(iz a0), (iz a1), (iz (Int.tmod a2 1073741824)), (iz (Int.tmod a3 1073741824)), (iz (bits .and .i64 a4 1073741823)), (iz (Int.tmod a5 65536)), (iz (Int.tmod a6 65536)), (iz (Int.tmod a7 65536))]) := by kernel_rfl
/-- apogee/impact.Box -/
theorem r9 (C : Cb) (d : Nat) (a0 a1 a2 a3 a4 a5 a6 a7 a8 a9 : Int) : xcall C M unr d 9 [(.agg [(iz a0), (iz a1), (iz a2), (iz a3), (iz a4), (iz a5), (iz a6), (iz a7)]), (iz a8), (iz a9)] =
 C.tup 3 (pcall M d 19 [(iz a4), (iz a7), (iz a8), (iz a9)]) fun l0 =>
 C.int .i64 l0[0]? fun x1 =>
 C.int .i64 l0[1]? fun x2 =>
 C.bool l0[2]? fun b3 =>
 cnd (!b3)
 (some (.tup [(.agg [(iz 0), (iz 0), (iz 0), (iz 0)]), bf]))
 (C.bool (pcall M d 20 [(.fptr (.agg [(iz a0), (iz a1), (iz a2), (iz a3), (iz a4), (iz a5), (iz a6), (iz a7)]) 0)]) fun b4 =>
 cnd (!b4)
 (some (.tup [(.agg [(iz 0), (iz 0), (iz 0), (iz 0)]), bf]))
 (C.tup 2 (pcall M d 21 [(iz a2), (iz a5), (iz a9), (iz x1), (iz x2)]) fun l5 =>
 C.int .i64 l5[0]? fun x6 =>
 C.int .i64 l5[1]? fun x7 =>
 C.tup 2 (pcall M d 21 [(iz a3), (iz a6), (iz a9), (iz x1), (iz x2)]) fun l8 =>
 C.int .i64 l8[0]? fun x9 =>
 C.int .i64 l8[1]? fun x10 =>
 C.bool (pcall M d 22 [(.agg [(iz x6), (iz x9), (iz x7), (iz x10)])]) fun b11 =>
 some (.tup [(.agg [(iz x6), (iz x9), (iz x7), (iz x10)]), (.bool b11)]))) := by kernel_rfl
/-- apogee/impact.Slack -/
theorem r17 (C : Cb) (d : Nat) (a0 a1 a2 a3 a4 a5 a6 a7 a8 a9 : Int) : xcall C M unr d 17 [(.agg [(iz a0), (iz a1), (iz a2), (iz a3), (iz a4), (iz a5), (iz a6), (iz a7)]), (iz a8), (iz a9)] =
 C.tup 2 (pcall M d 9 [(.agg [(iz a0), (iz a1), (iz a2), (iz a3), (iz a4), (iz a5), (iz a6), (iz a7)]), (iz a8), (iz a9)]) fun l0 =>
 C.agg 4 l0[0]? fun l1 =>
 C.int .i64 l1[0]? fun x2 =>
 C.int .i64 l1[1]? fun x3 =>
 C.int .i64 l1[2]? fun x4 =>
 C.int .i64 l1[3]? fun x5 =>
 C.bool l0[1]? fun b6 =>
 C.tup 2 (pcall M d 18 [(.agg [(iz a0), (iz a1), (iz a2), (iz a3), (iz a4), (iz a5), (iz a6), (iz a7)]), (iz a8)]) fun l7 =>
 C.agg 2 l7[0]? fun l8 =>
 C.int .i64 l8[0]? fun x9 =>
 C.int .i64 l8[1]? fun x10 =>
 C.bool l7[1]? fun b11 =>
 cnd (!b6)
 (some (.tup [(iz 0), bf]))
 (cnd (!b11)
 (some (.tup [(iz 0), bf]))
 (C.int .i64 (pcall M d 28 [(iz (if ((IntKind.wrap .i64 (x5 - x10)) > (if ((IntKind.wrap .i64 (x10 - x3)) > (if ((IntKind.wrap .i64 (x4 - x9)) > (IntKind.wrap .i64 (x9 - x2))) then (IntKind.wrap .i64 (x4 - x9)) else (IntKind.wrap .i64 (x9 - x2)))) then (IntKind.wrap .i64 (x10 - x3)) else (if ((IntKind.wrap .i64 (x4 - x9)) > (IntKind.wrap .i64 (x9 - x2))) then (IntKind.wrap .i64 (x4 - x9)) else (IntKind.wrap .i64 (x9 - x2))))) then (IntKind.wrap .i64 (x5 - x10)) else (if ((IntKind.wrap .i64 (x10 - x3)) > (if ((IntKind.wrap .i64 (x4 - x9)) > (IntKind.wrap .i64 (x9 - x2))) then (IntKind.wrap .i64 (x4 - x9)) else (IntKind.wrap .i64 (x9 - x2)))) then (IntKind.wrap .i64 (x10 - x3)) else (if ((IntKind.wrap .i64 (x4 - x9)) > (IntKind.wrap .i64 (x9 - x2))) then (IntKind.wrap .i64 (x4 - x9)) else (IntKind.wrap .i64 (x9 - x2)))))), (iz 0), (iz 4611686018427387904)]) fun x12 =>
 some (.tup [(iz x12), bt]))) := by kernel_rfl
/-- apogee/impact.At -/
theorem r18 (C : Cb) (d : Nat) (a0 a1 a2 a3 a4 a5 a6 a7 a8 : Int) : xcall C M unr d 18 [(.agg [(iz a0), (iz a1), (iz a2), (iz a3), (iz a4), (iz a5), (iz a6), (iz a7)]), (iz a8)] =
 C.tup 2 (pcall M d 29 [(iz a4), (iz a7), (iz a8)]) fun l0 =>
 C.int .i64 l0[0]? fun x1 =>
 C.bool l0[1]? fun b2 =>
 cnd (!b2)
 (some (.tup [(.agg [(iz 0), (iz 0)]), bf]))
 (C.tup 2 (pcall M d 23 [(.agg [(iz a0), (iz a1), (iz a2), (iz a3), (iz a4), (iz a5), (iz a6), (iz a7)]), (iz a8), (iz x1)]) fun l3 =>
 C.agg 2 l3[0]? fun l4 =>
 C.int .i64 l4[0]? fun x5 =>
 C.int .i64 l4[1]? fun x6 =>
 C.bool l3[1]? fun b7 =>
 some (.tup [(.agg [(iz x5), (iz x6)]), (.bool b7)])) := by kernel_rfl
/-- apogee/impact.may -/
theorem r20 (C : Cb) (d : Nat) (a0 : AV) (a1 a2 a3 a4 a5 a6 a7 a8 : Int) : xcall C M unr d 20 [(.fptr (.agg [(iz a1), (iz a2), (iz a3), (iz a4), (iz a5), (iz a6), (iz a7), (iz a8)]) 0)] =
 C.bool (pcall M d 33 [(iz 2147483648), (.lst [(iz a3), (iz a4)])]) fun b0 =>
 cnd b0
 (C.bool (pcall M d 33 [(iz 131072), (.lst [(iz a6), (iz a7)])]) fun b1 =>
 some (.bool b1))
 (some bf) := by kernel_rfl
/-- apogee/impact.side -/
theorem r21 (C : Cb) (d : Nat) (a0 a1 a2 a3 a4 : Int) : xcall C M unr d 21 [(iz a0), (iz a1), (iz a2), (iz a3), (iz a4)] =
 some (.tup [(iz (IntKind.wrap .i64 ((IntKind.wrap .i64 (a0 - a2)) + (if ((IntKind.wrap .i64 ((IntKind.wrap .i64 (a1 - a2)) * a4)) < (IntKind.wrap .i64 ((IntKind.wrap .i64 (a1 - a2)) * a3))) then (IntKind.wrap .i64 ((IntKind.wrap .i64 (a1 - a2)) * a4)) else (IntKind.wrap .i64 ((IntKind.wrap .i64 (a1 - a2)) * a3)))))), (iz (IntKind.wrap .i64 ((IntKind.wrap .i64 (a0 + a2)) + (if ((IntKind.wrap .i64 ((IntKind.wrap .i64 (a1 + a2)) * a4)) > (IntKind.wrap .i64 ((IntKind.wrap .i64 (a1 + a2)) * a3))) then (IntKind.wrap .i64 ((IntKind.wrap .i64 (a1 + a2)) * a4)) else (IntKind.wrap .i64 ((IntKind.wrap .i64 (a1 + a2)) * a3))))))]) := by kernel_rfl
/-- apogee/impact.Way -/
theorem r23 (C : Cb) (d : Nat) (a0 a1 a2 a3 a4 a5 a6 a7 a8 a9 : Int) : xcall C M unr d 23 [(.agg [(iz a0), (iz a1), (iz a2), (iz a3), (iz a4), (iz a5), (iz a6), (iz a7)]), (iz a8), (iz a9)] =
 C.tup 2 (pcall M d 35 [(iz a4), (iz a7), (iz a8), (iz a9)]) fun l0 =>
 C.int .i64 l0[0]? fun x1 =>
 C.bool l0[1]? fun b2 =>
 cnd (!b2)
 (some (.tup [(.agg [(iz 0), (iz 0)]), bf]))
 (C.bool (pcall M d 20 [(.fptr (.agg [(iz a0), (iz a1), (iz a2), (iz a3), (iz a4), (iz a5), (iz a6), (iz a7)]) 0)]) fun b3 =>
 cnd (!b3)
 (some (.tup [(.agg [(iz 0), (iz 0)]), bf]))
 (some (.tup [(.agg [(iz (IntKind.wrap .i64 (a2 + (IntKind.wrap .i64 (a5 * a9))))), (iz (IntKind.wrap .i64 (a3 + (IntKind.wrap .i64 (a6 * a9)))))]), bt]))) := by kernel_rfl
def r33R0 (C : Cb) (d : Nat) (a0 : Int) (a1 : List AV) : St → (Ex → St → Ans) → Ans := fun s0 k1 =>
 cnd ((List.length s0.env) == 23)
 (C.same s0.env[0]? (iz a0) <|
 C.same s0.env[1]? (.lst a1) <|
 C.same s0.env[2]? tz <|
 C.same s0.env[3]? tz <|
 C.bool s0.env[4]? fun b3 =>
 C.same s0.env[5]? tz <|
 C.any s0.env[6]? fun v4 =>
 C.same s0.env[7]? (.lst a1) <|
 C.same s0.env[8]? (iz (((List.length a1) : Nat) : Int)) <|
 C.int .i64 s0.env[9]? fun x5 =>
 C.any s0.env[10]? fun v6 =>
 C.any s0.env[11]? fun v7 =>
 C.any s0.env[12]? fun v8 =>
 C.any s0.env[13]? fun v9 =>
 C.any s0.env[14]? fun v10 =>
 C.any s0.env[15]? fun v11 =>
 C.any s0.env[16]? fun v12 =>
 C.any s0.env[17]? fun v13 =>
 C.any s0.env[18]? fun v14 =>
 C.any s0.env[19]? fun v15 =>
 C.any s0.env[20]? fun v16 =>
 C.any s0.env[21]? fun v17 =>
 C.any s0.env[22]? fun v18 =>
 C.sameH (St.H s0) [] <|
 cnd (decide (x5 < (((List.length a1) : Nat) : Int)))
 (cnd (decide (0 ≤ x5))
 (C.int .i64 a1[(Int.toNat x5)]? fun x19 =>
 cnd (decide (x19 < (IntKind.wrap .i64 (0 - a0))))
 (k1 .ret ⟨[(iz a0), (.lst a1), tz, tz, bf, tz, (iz x19), (.lst a1), (iz (((List.length a1) : Nat) : Int)), (iz x5), bt, (.fptr (iz x19) 0), (iz x19), (iz x19), (iz a0), (iz (IntKind.wrap .i64 (0 - a0))), (.bool (decide (x19 < (IntKind.wrap .i64 (0 - a0))))), bt, tz, tz, tz, bt, v18], []⟩)
 (cnd (decide (x19 > a0))
 (k1 .ret ⟨[(iz a0), (.lst a1), tz, tz, bf, tz, (iz x19), (.lst a1), (iz (((List.length a1) : Nat) : Int)), (iz x5), bt, (.fptr (iz x19) 0), (iz x19), (iz x19), (iz a0), (iz (IntKind.wrap .i64 (0 - a0))), (.bool (decide (x19 < (IntKind.wrap .i64 (0 - a0))))), bf, (iz x19), (iz a0), (.bool (decide (x19 > a0))), bt, v18], []⟩)
 (k1 .normal ⟨[(iz a0), (.lst a1), tz, tz, (.bool b3), tz, (iz x19), (.lst a1), (iz (((List.length a1) : Nat) : Int)), (iz (IntKind.wrap .i64 (x5 + 1))), bt, (.fptr (iz x19) 0), (iz x19), (iz x19), (iz a0), (iz (IntKind.wrap .i64 (0 - a0))), (.bool (decide (x19 < (IntKind.wrap .i64 (0 - a0))))), bf, (iz x19), (iz a0), (.bool (decide (x19 > a0))), bf, (iz (IntKind.wrap .i64 (x5 + 1)))], []⟩)))
 (none))
 (k1 (.exit 0) ⟨[(iz a0), (.lst a1), tz, tz, (.bool b3), tz, v4, (.lst a1), (iz (((List.length a1) : Nat) : Int)), (iz x5), bf, v7, v8, v9, v10, v11, v12, v13, v14, v15, v16, v17, v18], []⟩))
 (none)
def r33X0_0 (C : Cb) (d : Nat) (a0 : Int) (a1 : List AV) : St → Ans := fun s20 =>
 cnd ((List.length s20.env) == 23)
 (C.same s20.env[0]? (iz a0) <|
 C.same s20.env[1]? (.lst a1) <|
 C.same s20.env[2]? tz <|
 C.same s20.env[3]? tz <|
 C.bool s20.env[4]? fun b21 =>
 C.same s20.env[5]? tz <|
 C.any s20.env[6]? fun v22 =>
 C.same s20.env[7]? (.lst a1) <|
 C.same s20.env[8]? (iz (((List.length a1) : Nat) : Int)) <|
 C.int .i64 s20.env[9]? fun x23 =>
 C.any s20.env[10]? fun v24 =>
 C.any s20.env[11]? fun v25 =>
 C.any s20.env[12]? fun v26 =>
 C.any s20.env[13]? fun v27 =>
 C.any s20.env[14]? fun v28 =>
 C.any s20.env[15]? fun v29 =>
 C.any s20.env[16]? fun v30 =>
 C.any s20.env[17]? fun v31 =>
 C.any s20.env[18]? fun v32 =>
 C.any s20.env[19]? fun v33 =>
 C.any s20.env[20]? fun v34 =>
 C.any s20.env[21]? fun v35 =>
 C.any s20.env[22]? fun v36 =>
 C.sameH (St.H s20) [] <|
 some bt)
 (none)
def r33E0 (C : Cb) (d : Nat) (a0 : Int) (a1 : List AV) : St → Ans := fun s2 =>
 cnd ((List.length s2.env) == 23)
 (C.same s2.env[0]? (iz a0) <|
 C.same s2.env[1]? (.lst a1) <|
 C.same s2.env[2]? tz <|
 C.same s2.env[3]? tz <|
 C.bool s2.env[4]? fun b37 =>
 C.same s2.env[5]? tz <|
 C.int .i64 s2.env[6]? fun x38 =>
 C.same s2.env[7]? (.lst a1) <|
 C.same s2.env[8]? (iz (((List.length a1) : Nat) : Int)) <|
 C.int .i64 s2.env[9]? fun x39 =>
 C.any s2.env[10]? fun v40 =>
 C.any s2.env[11]? fun v41 =>
 C.int .i64 s2.env[12]? fun x42 =>
 C.int .i64 s2.env[13]? fun x43 =>
 C.int .i64 s2.env[14]? fun x44 =>
 C.int .i64 s2.env[15]? fun x45 =>
 C.bool s2.env[16]? fun b46 =>
 C.bool s2.env[17]? fun b47 =>
 C.any s2.env[18]? fun v48 =>
 C.any s2.env[19]? fun v49 =>
 C.any s2.env[20]? fun v50 =>
 C.bool s2.env[21]? fun b51 =>
 C.any s2.env[22]? fun v52 =>
 C.sameH (St.H s2) [] <|
 some (.bool b37))
 (none)
/-- apogee/impact.within -/
theorem r33 (C : Cb) (d : Nat) (a0 : Int) (a1 : List AV) : xcall C M unr d 33 [(iz a0), (.lst a1)] =
 C.iter (r33R0 C d a0 a1) 1000000000000000000 ⟨[(iz a0), (.lst a1), tz, tz, bf, tz, tz, (.lst a1), (iz (((List.length a1) : Nat) : Int)), (iz 0), tz, tz, tz, tz, tz, tz, tz, tz, tz, tz, tz, tz, tz], []⟩ [0] [r33X0_0 C d a0 a1] (r33E0 C d a0 a1) := by kernel_rfl
end Go.Proofs.Ytnldgacamgjpnaa.AE

namespace Go.Proofs.Ytnldgacamgjpnaa.AE
set_option linter.unusedVariables false
set_option linter.unusedSimpArgs false
set_option linter.constructorNameAsVariable false
open Go
set_option maxRecDepth 100000
set_option maxHeartbeats 0
noncomputable def X33_0_0 (d : Nat) (a0 : Int) (a1 : List AV)  : Ans :=
  some bt
theorem X33_0_0_ok (d : Nat) (a0 : Int) (a1 : List AV) (b21 : Bool) (v22 : AV) (x23 : Int) (v24 v25 v26 v27 v28 v29 v30 v31 v32 v33 v34 v35 v36 : AV) : r33X0_0 C0 d a0 a1 ⟨[(iz a0), (.lst a1), tz, tz, (.bool b21), tz, v22, (.lst a1), (iz (((List.length a1) : Nat) : Int)), (iz x23), v24, v25, v26, v27, v28, v29, v30, v31, v32, v33, v34, v35, v36], []⟩ = X33_0_0 d a0 a1  := by
  unfold r33X0_0; refine Eq.trans (pl_len (by rfl)) ?_; (iterate 4 (refine yt yS ?_)); refine yt yB ?_; refine yt yS ?_; refine yt yA ?_; (iterate 2 (refine yt yS ?_)); refine yt yI ?_; (iterate 13 (refine yt yA ?_)); refine Eq.trans (pl_sameH) ?_
  rfl
noncomputable def E33_0 (d : Nat) (a0 : Int) (a1 : List AV) (b37 : Bool) : Ans :=
  some (.bool b37)
theorem E33_0_ok (d : Nat) (a0 : Int) (a1 : List AV) (b37 : Bool) (x38 x39 : Int) (v40 v41 : AV) (x42 x43 x44 x45 : Int) (b46 b47 : Bool) (v48 v49 v50 : AV) (b51 : Bool) (v52 : AV) : r33E0 C0 d a0 a1 ⟨[(iz a0), (.lst a1), tz, tz, (.bool b37), tz, (iz x38), (.lst a1), (iz (((List.length a1) : Nat) : Int)), (iz x39), v40, v41, (iz x42), (iz x43), (iz x44), (iz x45), (.bool b46), (.bool b47), v48, v49, v50, (.bool b51), v52], []⟩ = E33_0 d a0 a1 b37 := by
  unfold r33E0; refine Eq.trans (pl_len (by rfl)) ?_; (iterate 4 (refine yt yS ?_)); refine yt yB ?_; refine yt yS ?_; refine yt yI ?_; (iterate 2 (refine yt yS ?_)); refine yt yI ?_; (iterate 2 (refine yt yA ?_)); (iterate 4 (refine yt yI ?_)); (iterate 2 (refine yt yB ?_)); (iterate 3 (refine yt yA ?_)); refine yt yB ?_; refine yt yA ?_; refine Eq.trans (pl_sameH) ?_
  rfl
noncomputable def L33_0 (d : Nat) (a0 : Int) (a1 : List AV) : Nat → Int → Ans
  | 0, _ => none
  | n + 1, x5 =>
  cnd (decide (x5 < (((List.length a1) : Nat) : Int)))
   (cnd (decide (0 ≤ x5))
   (C0.int .i64 a1[(Int.toNat x5)]? fun x19 =>
   cnd (decide (x19 < (IntKind.wrap .i64 (0 - a0))))
   (E33_0 d a0 a1 false)
   (cnd (decide (x19 > a0))
   (E33_0 d a0 a1 false)
   (L33_0 d a0 a1 n (IntKind.wrap .i64 (x5 + 1)))))
   (none))
   (X33_0_0 d a0 a1)
theorem it33_0 (d : Nat) (a0 : Int) (a1 : List AV)   : ∀ (n : Nat) (b3 : Bool) (v4 : AV) (x5 : Int) (v6 v7 v8 v9 v10 v11 v12 v13 v14 v15 v16 v17 v18 : AV), C0.iter (r33R0 C0 d a0 a1) n ⟨[(iz a0), (.lst a1), tz, tz, (.bool b3), tz, v4, (.lst a1), (iz (((List.length a1) : Nat) : Int)), (iz x5), v6, v7, v8, v9, v10, v11, v12, v13, v14, v15, v16, v17, v18], []⟩ [0] [r33X0_0 C0 d a0 a1] (r33E0 C0 d a0 a1) = L33_0 d a0 a1 n x5 := by
  generalize hR : r33R0 C0 d a0 a1 = R
  intro n
  induction n with
  | zero => intros; rfl
  | succ n ih =>
    intro b3 v4 x5 v6 v7 v8 v9 v10 v11 v12 v13 v14 v15 v16 v17 v18
    simp only [it_ret] at ih
    rw [it_ret, xiter_s]
    refine Eq.trans (congrFun (congrFun hR.symm _) _) ?_
    unfold r33R0
    refine Eq.trans (pl_len (by rfl)) ?_; (iterate 4 (refine yt yS ?_)); refine yt yB ?_; refine yt yS ?_; refine yt yA ?_; (iterate 2 (refine yt yS ?_)); refine yt yI ?_; (iterate 13 (refine yt yA ?_)); refine Eq.trans (pl_sameH) ?_
    simp only [L33_0, kIter_n, kIter_x, kIter_r, kOut_x, kOut_r, xgo_hit, xgo_miss, ih, X33_0_0_ok d a0 a1  , E33_0_ok d a0 a1  ]
/-- apogee/impact.within -/
theorem q33 (d : Nat) (a0 : Int) (a1 : List AV) : xcall C0 M unr d 33 [(iz a0), (.lst a1)] =
  L33_0 d a0 a1 1000000000000000000 0 := (r33 C0 d a0 a1).trans (by simp only [it33_0])
end Go.Proofs.Ytnldgacamgjpnaa.AE

namespace Go.Proofs.Ytnldgacamgjpnaa.AE
set_option linter.unusedVariables false
set_option linter.unusedSimpArgs false
set_option linter.constructorNameAsVariable false
open Go Go.Proofs.Ytnldgacamgjpnaa.Geo
attribute [local irreducible] pcall C0
structure Nav where
  c : Int
  fl : Int
  x : Int
  y : Int
  z : Int
  vx : Int
  vy : Int
  vz : Int
abbrev nv (n : Nav) : AV := .agg [.int .i64 n.c, .int .i64 n.fl, .int .i64 n.x, .int .i64 n.y, .int .i64 n.z, .int .i64 n.vx, .int .i64 n.vy, .int .i64 n.vz]
theorem within_step (d : Nat) (m : Int) (l : List AV) (i f : Nat) (y : Int) (hi : i < l.length) (hy : l[i]? = some (.int .i64 y)) (hl : l.length ≤ 1000) (hm : 0 ≤ m) (hm' : m ≤ 4294967296) (h : -m ≤ y ∧ y ≤ m) :
    L33_0 d m l (f + 1) (i : Nat) = L33_0 d m l f ((i + 1 : Nat) : Int) := by
  rw [L33_0, decide_eq_true (by omega), cnd_t, decide_eq_true (by omega), cnd_t, show (((i : Nat) : Int)).toNat = i by omega, hy]
  repeat with_reducible first | refine tt sh_ptr ?_ | refine tt sh_fptr ?_ | refine tt w2 ?_ | refine tt w3 ?_ | refine tt w8 ?_ | refine tt w9 ?_ | refine tt wf ?_ | refine tt wg ?_ | refine tt wh ?_ | refine tt wi ?_ | refine tt wj ?_ | refine tt wk ?_ | refine tt wl ?_ | refine tt wn ?_ | refine tt c_ort ?_ | refine tt c_nt ?_ | refine tt c_nf ?_ | refine tt (cnd_t _ _) ?_ | refine tt (cnd_f _ _) ?_ | refine tt w6 ?_ | refine tt w4 ?_ | refine tt w5 ?_ | refine tt w7 ?_ | refine tt wm ?_ | refine tt wo ?_ | refine tt wx ?_ | refine tt nil_ptr ?_ | refine tt len_lst ?_ | refine tt len_zsl ?_
  rw [i64_small (n := 0 - m) (by omega) (by omega), decide_eq_false (by omega), cnd_f, decide_eq_false (by omega), cnd_f, show IntKind.wrap .i64 (((i : Nat) : Int) + 1) = ((i + 1 : Nat) : Int) by rw [i64w]; omega]
theorem within_out (d : Nat) (m : Int) (l : List AV) (i f : Nat) (y : Int) (hi : i < l.length) (hy : l[i]? = some (.int .i64 y)) (hm : 0 ≤ m) (hm' : m ≤ 4294967296) (h : ¬ (-m ≤ y ∧ y ≤ m)) :
    L33_0 d m l (f + 1) (i : Nat) = some (.bool false) := by
  rw [L33_0, decide_eq_true (by omega), cnd_t, decide_eq_true (by omega), cnd_t, show (((i : Nat) : Int)).toNat = i by omega, hy]
  repeat with_reducible first | refine tt sh_ptr ?_ | refine tt sh_fptr ?_ | refine tt w2 ?_ | refine tt w3 ?_ | refine tt w8 ?_ | refine tt w9 ?_ | refine tt wf ?_ | refine tt wg ?_ | refine tt wh ?_ | refine tt wi ?_ | refine tt wj ?_ | refine tt wk ?_ | refine tt wl ?_ | refine tt wn ?_ | refine tt c_ort ?_ | refine tt c_nt ?_ | refine tt c_nf ?_ | refine tt (cnd_t _ _) ?_ | refine tt (cnd_f _ _) ?_ | refine tt w6 ?_ | refine tt w4 ?_ | refine tt w5 ?_ | refine tt w7 ?_ | refine tt wm ?_ | refine tt wo ?_ | refine tt wx ?_ | refine tt nil_ptr ?_ | refine tt len_lst ?_ | refine tt len_zsl ?_
  rw [i64_small (n := 0 - m) (by omega) (by omega)]
  by_cases c : y < 0 - m
  · rw [decide_eq_true c, cnd_t]; rfl
  · rw [decide_eq_false c, cnd_f, decide_eq_true (by omega), cnd_t]; rfl
theorem within2 (d : Nat) (m a b : Int) (hm : 0 ≤ m) (hm' : m ≤ 4294967296) : pcall M (d + 1) 33 [.int .i64 m, .lst [.int .i64 a, .int .i64 b]] = some (.bool (decide ((-m ≤ a ∧ a ≤ m) ∧ (-m ≤ b ∧ b ≤ m)))) := told (q33 d _ _) (by
  obtain ⟨f, hf⟩ : ∃ f : Nat, f + 1 + 1 + 1 = 1000000000000000000 := ⟨999999999999999997, rfl⟩
  rw [← hf]
  by_cases h1 : -m ≤ a ∧ a ≤ m
  · refine (within_step d m [.int .i64 a, .int .i64 b] 0 _ a (by simp) rfl (by simp) hm hm' h1).trans ?_
    by_cases h2 : -m ≤ b ∧ b ≤ m
    · refine (within_step d m [.int .i64 a, .int .i64 b] 1 _ b (by simp) rfl (by simp) hm hm' h2).trans ?_
      rw [L33_0, decide_eq_false (by simp), cnd_f, decide_eq_true ⟨h1, h2⟩]; rfl
    · refine (within_out d m [.int .i64 a, .int .i64 b] 1 _ b (by simp) rfl hm hm' h2).trans ?_
      rw [decide_eq_false (fun h => h2 h.2)]
  · refine (within_out d m [.int .i64 a, .int .i64 b] 0 _ a (by simp) rfl hm hm' h1).trans ?_
    rw [decide_eq_false (fun h => h1 h.1)])
/-- All but the height. -/
def MayN (n : Nav) : Prop := ((-2147483648 ≤ n.x ∧ n.x ≤ 2147483648) ∧ (-2147483648 ≤ n.y ∧ n.y ≤ 2147483648)) ∧ ((-131072 ≤ n.vx ∧ n.vx ≤ 131072) ∧ (-131072 ≤ n.vy ∧ n.vy ≤ 131072))
instance (n : Nav) : Decidable (MayN n) := by unfold MayN; infer_instance
theorem s20 (d : Nat) (n : Nav) : pcall M (d + 2) 20 [.fptr (nv n) 0] = some (.bool (decide (MayN n))) := told (r20 C0 (d + 1) .nilp _ _ _ _ _ _ _ _) (by
  refine Eq.trans (pl_bool (within2 d 2147483648 n.x n.y (by omega) (by omega))) ?_
  by_cases h1 : (-2147483648 ≤ n.x ∧ n.x ≤ 2147483648) ∧ (-2147483648 ≤ n.y ∧ n.y ≤ 2147483648)
  · rw [decide_eq_true h1, cnd_t]
    refine Eq.trans (pl_bool (within2 d 131072 n.vx n.vy (by omega) (by omega))) ?_
    congr 2; rw [decide_eq_decide]; unfold MayN; exact ⟨fun h => ⟨h1, h⟩, fun h => h.2⟩
  · rw [decide_eq_false h1, cnd_f, decide_eq_false (fun h => h1 h.1)])
theorem s21 (d : Nat) (x v e lo hi : Int) (hx : -2147483648 ≤ x) (hx' : x ≤ 2147483648) (hv : -131072 ≤ v) (hv' : v ≤ 131072) (he : 0 ≤ e) (he' : e ≤ 2048) (h0 : 0 ≤ lo) (h0' : lo ≤ 1000002) (h1 : 0 ≤ hi) (h1' : hi ≤ 1000002) :
    pcall M (d + 1) 21 [.int .i64 x, .int .i64 v, .int .i64 e, .int .i64 lo, .int .i64 hi] = some (.tup [.int .i64 (loS x v e lo hi), .int .i64 (hiS x v e lo hi)]) := told (r21 C0 d _ _ _ _ _) (by
  have b1 := mul_bd (x := v - e) (a := 133120) (y := lo) (b := 1000002) (by omega) (by omega) (by omega) (by omega)
  have b2 := mul_bd (x := v - e) (a := 133120) (y := hi) (b := 1000002) (by omega) (by omega) (by omega) (by omega)
  have b3 := mul_bd (x := v + e) (a := 133120) (y := lo) (b := 1000002) (by omega) (by omega) (by omega) (by omega)
  have b4 := mul_bd (x := v + e) (a := 133120) (y := hi) (b := 1000002) (by omega) (by omega) (by omega) (by omega)
  rw [i64_small (n := x - e) (by omega) (by omega), i64_small (n := x + e) (by omega) (by omega), i64_small (n := v - e) (by omega) (by omega), i64_small (n := v + e) (by omega) (by omega),
    i64_small (n := (v - e) * lo) (by omega) (by omega), i64_small (n := (v - e) * hi) (by omega) (by omega), i64_small (n := (v + e) * lo) (by omega) (by omega), i64_small (n := (v + e) * hi) (by omega) (by omega)]
  unfold loS hiS
  have e1 : (if (v - e) * hi < (v - e) * lo then (v - e) * hi else (v - e) * lo) = min ((v - e) * lo) ((v - e) * hi) := by omega
  have e2 : (if (v + e) * hi > (v + e) * lo then (v + e) * hi else (v + e) * lo) = max ((v + e) * lo) ((v + e) * hi) := by omega
  rw [e1, e2, i64_small (by omega) (by omega), i64_small (by omega) (by omega)])
def boxN (n : Nav) (e lo hi : Int) : Bx := ((loS n.x n.vx e lo hi, loS n.y n.vy e lo hi), (hiS n.x n.vx e lo hi, hiS n.y n.vy e lo hi))
def MayB (n : Nav) (g e : Int) : Prop := May n.z n.vz g ∧ (0 ≤ e ∧ e ≤ 2048) ∧ MayN n
theorem boxI (d : Nat) (n : Nav) (g e : Int) (h : MayB n g e) : ∃ lo hi, pcall M (d + 8) 9 [nv n, .int .i64 g, .int .i64 e] = some (.tup [bx (boxN n e lo (hi + 2)), .bool (rightX (boxN n e lo (hi + 2)))]) ∧ Falls (n.z - e) (n.vz - e) g lo ∧ Falls (n.z + e) (n.vz + e) g hi := by
  obtain ⟨hm, ⟨e0, e1⟩, hn⟩ := h
  have hn' := hn
  unfold MayN at hn'
  obtain ⟨lo, hi, q, f1, f2⟩ := fspan d n.z n.vz g e hm e0 e1
  refine ⟨lo, hi, told (r9 C0 (d + 7) _ _ _ _ _ _ _ _ _ _) ?_, f1, f2⟩
  have l0 := f1.1; have l1 := f1.2.1; have h0 := f2.1; have h1 := f2.2.1
  refine Eq.trans (pl_tup q (by rfl)) ?_
  repeat with_reducible first | refine tt sh_ptr ?_ | refine tt sh_fptr ?_ | refine tt w2 ?_ | refine tt w3 ?_ | refine tt w8 ?_ | refine tt w9 ?_ | refine tt wf ?_ | refine tt wg ?_ | refine tt wh ?_ | refine tt wi ?_ | refine tt wj ?_ | refine tt wk ?_ | refine tt wl ?_ | refine tt wn ?_ | refine tt c_ort ?_ | refine tt c_nt ?_ | refine tt c_nf ?_ | refine tt (cnd_t _ _) ?_ | refine tt (cnd_f _ _) ?_ | refine tt w6 ?_ | refine tt w4 ?_ | refine tt w5 ?_ | refine tt w7 ?_ | refine tt wm ?_ | refine tt wo ?_ | refine tt wx ?_ | refine tt nil_ptr ?_ | refine tt len_lst ?_ | refine tt len_zsl ?_
  refine Eq.trans (pl_bool (s20 (d + 5) n)) ?_
  rw [decide_eq_true hn]
  repeat with_reducible first | refine tt sh_ptr ?_ | refine tt sh_fptr ?_ | refine tt w2 ?_ | refine tt w3 ?_ | refine tt w8 ?_ | refine tt w9 ?_ | refine tt wf ?_ | refine tt wg ?_ | refine tt wh ?_ | refine tt wi ?_ | refine tt wj ?_ | refine tt wk ?_ | refine tt wl ?_ | refine tt wn ?_ | refine tt c_ort ?_ | refine tt c_nt ?_ | refine tt c_nf ?_ | refine tt (cnd_t _ _) ?_ | refine tt (cnd_f _ _) ?_ | refine tt w6 ?_ | refine tt w4 ?_ | refine tt w5 ?_ | refine tt w7 ?_ | refine tt wm ?_ | refine tt wo ?_ | refine tt wx ?_ | refine tt nil_ptr ?_ | refine tt len_lst ?_ | refine tt len_zsl ?_
  refine Eq.trans (pl_tup (s21 (d + 6) n.x n.vx e lo (hi + 2) (by omega) (by omega) (by omega) (by omega) e0 e1 l0 (by omega) (by omega) (by omega)) (by rfl)) ?_
  repeat with_reducible first | refine tt sh_ptr ?_ | refine tt sh_fptr ?_ | refine tt w2 ?_ | refine tt w3 ?_ | refine tt w8 ?_ | refine tt w9 ?_ | refine tt wf ?_ | refine tt wg ?_ | refine tt wh ?_ | refine tt wi ?_ | refine tt wj ?_ | refine tt wk ?_ | refine tt wl ?_ | refine tt wn ?_ | refine tt c_ort ?_ | refine tt c_nt ?_ | refine tt c_nf ?_ | refine tt (cnd_t _ _) ?_ | refine tt (cnd_f _ _) ?_ | refine tt w6 ?_ | refine tt w4 ?_ | refine tt w5 ?_ | refine tt w7 ?_ | refine tt wm ?_ | refine tt wo ?_ | refine tt wx ?_ | refine tt nil_ptr ?_ | refine tt len_lst ?_ | refine tt len_zsl ?_
  refine Eq.trans (pl_tup (s21 (d + 6) n.y n.vy e lo (hi + 2) (by omega) (by omega) (by omega) (by omega) e0 e1 l0 (by omega) (by omega) (by omega)) (by rfl)) ?_
  repeat with_reducible first | refine tt sh_ptr ?_ | refine tt sh_fptr ?_ | refine tt w2 ?_ | refine tt w3 ?_ | refine tt w8 ?_ | refine tt w9 ?_ | refine tt wf ?_ | refine tt wg ?_ | refine tt wh ?_ | refine tt wi ?_ | refine tt wj ?_ | refine tt wk ?_ | refine tt wl ?_ | refine tt wn ?_ | refine tt c_ort ?_ | refine tt c_nt ?_ | refine tt c_nf ?_ | refine tt (cnd_t _ _) ?_ | refine tt (cnd_f _ _) ?_ | refine tt w6 ?_ | refine tt w4 ?_ | refine tt w5 ?_ | refine tt w7 ?_ | refine tt wm ?_ | refine tt wo ?_ | refine tt wx ?_ | refine tt nil_ptr ?_ | refine tt len_lst ?_ | refine tt len_zsl ?_
  exact pl_bool (s22 (d + 4) (boxN n e lo (hi + 2)))
theorem boxI_no (d : Nat) (n : Nav) (g e : Int) (h : ¬ MayB n g e) : pcall M (d + 8) 9 [nv n, .int .i64 g, .int .i64 e] = some (.tup [bx zB, .bool false]) := told (r9 C0 (d + 7) _ _ _ _ _ _ _ _ _ _) (by
  by_cases h1 : May n.z n.vz g ∧ 0 ≤ e ∧ e ≤ 2048
  · obtain ⟨lo, hi, q, f1, f2⟩ := fspan d n.z n.vz g e h1.1 h1.2.1 h1.2.2
    refine Eq.trans (pl_tup q (by rfl)) ?_
    repeat with_reducible first | refine tt sh_ptr ?_ | refine tt sh_fptr ?_ | refine tt w2 ?_ | refine tt w3 ?_ | refine tt w8 ?_ | refine tt w9 ?_ | refine tt wf ?_ | refine tt wg ?_ | refine tt wh ?_ | refine tt wi ?_ | refine tt wj ?_ | refine tt wk ?_ | refine tt wl ?_ | refine tt wn ?_ | refine tt c_ort ?_ | refine tt c_nt ?_ | refine tt c_nf ?_ | refine tt (cnd_t _ _) ?_ | refine tt (cnd_f _ _) ?_ | refine tt w6 ?_ | refine tt w4 ?_ | refine tt w5 ?_ | refine tt w7 ?_ | refine tt wm ?_ | refine tt wo ?_ | refine tt wx ?_ | refine tt nil_ptr ?_ | refine tt len_lst ?_ | refine tt len_zsl ?_
    refine Eq.trans (pl_bool (s20 (d + 5) n)) ?_
    rw [decide_eq_false (fun hn => h ⟨h1.1, h1.2, hn⟩)]; rfl
  · refine Eq.trans (pl_tup (fspan_no d n.z n.vz g e h1) (by rfl)) ?_
    repeat with_reducible first | refine tt sh_ptr ?_ | refine tt sh_fptr ?_ | refine tt w2 ?_ | refine tt w3 ?_ | refine tt w8 ?_ | refine tt w9 ?_ | refine tt wf ?_ | refine tt wg ?_ | refine tt wh ?_ | refine tt wi ?_ | refine tt wj ?_ | refine tt wk ?_ | refine tt wl ?_ | refine tt wn ?_ | refine tt c_ort ?_ | refine tt c_nt ?_ | refine tt c_nf ?_ | refine tt (cnd_t _ _) ?_ | refine tt (cnd_f _ _) ?_ | refine tt w6 ?_ | refine tt w4 ?_ | refine tt w5 ?_ | refine tt w7 ?_ | refine tt wm ?_ | refine tt wo ?_ | refine tt wx ?_ | refine tt nil_ptr ?_ | refine tt len_lst ?_ | refine tt len_zsl ?_
    rfl)
def wayN (n : Nav) (t : Int) : Pt := (n.x + n.vx * t, n.y + n.vy * t)
theorem way_code {n : Nav} {t : Int} (hn : MayN n) (h0 : 0 ≤ t) (h1 : t ≤ 16777220) : IntKind.wrap .i64 (n.x + IntKind.wrap .i64 (n.vx * t)) = n.x + n.vx * t ∧ IntKind.wrap .i64 (n.y + IntKind.wrap .i64 (n.vy * t)) = n.y + n.vy * t := by
  unfold MayN at hn
  have b1 := mul_bd (x := n.vx) (a := 131072) (y := t) (b := 16777220) (by omega) (by omega) (by omega) (by omega)
  have b2 := mul_bd (x := n.vy) (a := 131072) (y := t) (b := 16777220) (by omega) (by omega) (by omega) (by omega)
  rw [i64_small (n := n.vx * t) (by omega) (by omega), i64_small (n := n.vy * t) (by omega) (by omega), i64_small (by omega) (by omega), i64_small (by omega) (by omega)]
  exact ⟨rfl, rfl⟩
theorem s23 (d : Nat) (n : Nav) (g t : Int) (hm : May n.z n.vz g) (hn : MayN n) (h0 : 0 ≤ t) (h1 : t ≤ 16777216) : pcall M (d + 7) 23 [nv n, .int .i64 g, .int .i64 t] = some (.tup [pt (wayN n t), .bool true]) := told (r23 C0 (d + 6) _ _ _ _ _ _ _ _ _ _) (by
  refine Eq.trans (pl_tup (fabove d n.z n.vz g t hm h0 h1) (by rfl)) ?_
  repeat with_reducible first | refine tt sh_ptr ?_ | refine tt sh_fptr ?_ | refine tt w2 ?_ | refine tt w3 ?_ | refine tt w8 ?_ | refine tt w9 ?_ | refine tt wf ?_ | refine tt wg ?_ | refine tt wh ?_ | refine tt wi ?_ | refine tt wj ?_ | refine tt wk ?_ | refine tt wl ?_ | refine tt wn ?_ | refine tt c_ort ?_ | refine tt c_nt ?_ | refine tt c_nf ?_ | refine tt (cnd_t _ _) ?_ | refine tt (cnd_f _ _) ?_ | refine tt w6 ?_ | refine tt w4 ?_ | refine tt w5 ?_ | refine tt w7 ?_ | refine tt wm ?_ | refine tt wo ?_ | refine tt wx ?_ | refine tt nil_ptr ?_ | refine tt len_lst ?_ | refine tt len_zsl ?_
  refine Eq.trans (pl_bool (s20 (d + 4) n)) ?_
  rw [decide_eq_true hn]
  repeat with_reducible first | refine tt sh_ptr ?_ | refine tt sh_fptr ?_ | refine tt w2 ?_ | refine tt w3 ?_ | refine tt w8 ?_ | refine tt w9 ?_ | refine tt wf ?_ | refine tt wg ?_ | refine tt wh ?_ | refine tt wi ?_ | refine tt wj ?_ | refine tt wk ?_ | refine tt wl ?_ | refine tt wn ?_ | refine tt c_ort ?_ | refine tt c_nt ?_ | refine tt c_nf ?_ | refine tt (cnd_t _ _) ?_ | refine tt (cnd_f _ _) ?_ | refine tt w6 ?_ | refine tt w4 ?_ | refine tt w5 ?_ | refine tt w7 ?_ | refine tt wm ?_ | refine tt wo ?_ | refine tt wx ?_ | refine tt nil_ptr ?_ | refine tt len_lst ?_ | refine tt len_zsl ?_
  obtain ⟨e1, e2⟩ := way_code hn h0 (show t ≤ 16777220 by omega)
  rw [e1, e2]; rfl)
theorem atI (d : Nat) (n : Nav) (g : Int) (hm : May n.z n.vz g) (hn : MayN n) : ∃ t, pcall M (d + 8) 18 [nv n, .int .i64 g] = some (.tup [pt (wayN n t), .bool true]) ∧ Falls n.z n.vz g t := by
  obtain ⟨t, q, f⟩ := ftime d n.z n.vz g hm
  have f1 := f.2.1
  refine ⟨t, told (r18 C0 (d + 7) _ _ _ _ _ _ _ _ _) ?_, f⟩
  refine Eq.trans (pl_tup q (by rfl)) ?_
  repeat with_reducible first | refine tt sh_ptr ?_ | refine tt sh_fptr ?_ | refine tt w2 ?_ | refine tt w3 ?_ | refine tt w8 ?_ | refine tt w9 ?_ | refine tt wf ?_ | refine tt wg ?_ | refine tt wh ?_ | refine tt wi ?_ | refine tt wj ?_ | refine tt wk ?_ | refine tt wl ?_ | refine tt wn ?_ | refine tt c_ort ?_ | refine tt c_nt ?_ | refine tt c_nf ?_ | refine tt (cnd_t _ _) ?_ | refine tt (cnd_f _ _) ?_ | refine tt w6 ?_ | refine tt w4 ?_ | refine tt w5 ?_ | refine tt w7 ?_ | refine tt wm ?_ | refine tt wo ?_ | refine tt wx ?_ | refine tt nil_ptr ?_ | refine tt len_lst ?_ | refine tt len_zsl ?_
  refine Eq.trans (pl_tup (s23 d n g t hm hn f.1 (by omega)) (by rfl)) ?_
  repeat with_reducible first | refine tt sh_ptr ?_ | refine tt sh_fptr ?_ | refine tt w2 ?_ | refine tt w3 ?_ | refine tt w8 ?_ | refine tt w9 ?_ | refine tt wf ?_ | refine tt wg ?_ | refine tt wh ?_ | refine tt wi ?_ | refine tt wj ?_ | refine tt wk ?_ | refine tt wl ?_ | refine tt wn ?_ | refine tt c_ort ?_ | refine tt c_nt ?_ | refine tt c_nf ?_ | refine tt (cnd_t _ _) ?_ | refine tt (cnd_f _ _) ?_ | refine tt w6 ?_ | refine tt w4 ?_ | refine tt w5 ?_ | refine tt w7 ?_ | refine tt wm ?_ | refine tt wo ?_ | refine tt wx ?_ | refine tt nil_ptr ?_ | refine tt len_lst ?_ | refine tt len_zsl ?_
  rfl
/-- How far the place may be off. -/
def slackN (b : Bx) (p : Pt) : Int := max (max (p.1 - b.1.1) (b.2.1 - p.1)) (max (p.2 - b.1.2) (b.2.2 - p.2))
theorem slackI (d : Nat) (n : Nav) (g e : Int) (h : MayB n g e) (hr : ∀ lo hi, Falls (n.z - e) (n.vz - e) g lo → Falls (n.z + e) (n.vz + e) g hi → rightX (boxN n e lo (hi + 2)) = true) :
    ∃ lo hi t, pcall M (d + 9) 17 [nv n, .int .i64 g, .int .i64 e] = some (.tup [.int .i64 (clampX (slackN (boxN n e lo (hi + 2)) (wayN n t)) 0 4611686018427387904), .bool true]) ∧ Falls (n.z - e) (n.vz - e) g lo ∧ Falls (n.z + e) (n.vz + e) g hi ∧ Falls n.z n.vz g t := by
  obtain ⟨lo, hi, q1, f1, f2⟩ := boxI d n g e h
  obtain ⟨t, q2, f3⟩ := atI d n g h.1 h.2.2
  have hr := hr lo hi f1 f2
  refine ⟨lo, hi, t, told (r17 C0 (d + 8) _ _ _ _ _ _ _ _ _ _) ?_, f1, f2, f3⟩
  refine Eq.trans (pl_tup q1 (by rfl)) ?_
  repeat with_reducible first | refine tt sh_ptr ?_ | refine tt sh_fptr ?_ | refine tt w2 ?_ | refine tt w3 ?_ | refine tt w8 ?_ | refine tt w9 ?_ | refine tt wf ?_ | refine tt wg ?_ | refine tt wh ?_ | refine tt wi ?_ | refine tt wj ?_ | refine tt wk ?_ | refine tt wl ?_ | refine tt wn ?_ | refine tt c_ort ?_ | refine tt c_nt ?_ | refine tt c_nf ?_ | refine tt (cnd_t _ _) ?_ | refine tt (cnd_f _ _) ?_ | refine tt w6 ?_ | refine tt w4 ?_ | refine tt w5 ?_ | refine tt w7 ?_ | refine tt wm ?_ | refine tt wo ?_ | refine tt wx ?_ | refine tt nil_ptr ?_ | refine tt len_lst ?_ | refine tt len_zsl ?_
  refine Eq.trans (pl_tup q2 (by rfl)) ?_
  rw [hr]
  repeat with_reducible first | refine tt sh_ptr ?_ | refine tt sh_fptr ?_ | refine tt w2 ?_ | refine tt w3 ?_ | refine tt w8 ?_ | refine tt w9 ?_ | refine tt wf ?_ | refine tt wg ?_ | refine tt wh ?_ | refine tt wi ?_ | refine tt wj ?_ | refine tt wk ?_ | refine tt wl ?_ | refine tt wn ?_ | refine tt c_ort ?_ | refine tt c_nt ?_ | refine tt c_nf ?_ | refine tt (cnd_t _ _) ?_ | refine tt (cnd_f _ _) ?_ | refine tt w6 ?_ | refine tt w4 ?_ | refine tt w5 ?_ | refine tt w7 ?_ | refine tt wm ?_ | refine tt wo ?_ | refine tt wx ?_ | refine tt nil_ptr ?_ | refine tt len_lst ?_ | refine tt len_zsl ?_
  obtain ⟨⟨⟨u1, u2⟩, u3, u4⟩, ⟨⟨u5, u6⟩, u7, u8⟩, ux, uy⟩ := rightX_t.mp hr
  have hn := h.2.2
  unfold MayN at hn
  have t0 := f3.1
  have t1 := f3.2.1
  have b1 := mul_bd (x := n.vx) (a := 131072) (y := t) (b := 1000000) (by omega) (by omega) (by omega) (by omega)
  have b2 := mul_bd (x := n.vy) (a := 131072) (y := t) (b := 1000000) (by omega) (by omega) (by omega) (by omega)
  generalize hB : boxN n e lo (hi + 2) = B at *
  have w1 : -1099511627776 ≤ (wayN n t).1 ∧ (wayN n t).1 ≤ 1099511627776 := by unfold wayN; simp only; omega
  have w2 : -1099511627776 ≤ (wayN n t).2 ∧ (wayN n t).2 ≤ 1099511627776 := by unfold wayN; simp only; omega
  generalize wayN n t = P at *
  rw [i64_small (n := B.2.2 - P.2) (by omega) (by omega), i64_small (n := P.2 - B.1.2) (by omega) (by omega), i64_small (n := B.2.1 - P.1) (by omega) (by omega), i64_small (n := P.1 - B.1.1) (by omega) (by omega)]
  have e : (if B.2.2 - P.2 > (if P.2 - B.1.2 > (if B.2.1 - P.1 > P.1 - B.1.1 then B.2.1 - P.1 else P.1 - B.1.1) then P.2 - B.1.2 else (if B.2.1 - P.1 > P.1 - B.1.1 then B.2.1 - P.1 else P.1 - B.1.1)) then B.2.2 - P.2 else (if P.2 - B.1.2 > (if B.2.1 - P.1 > P.1 - B.1.1 then B.2.1 - P.1 else P.1 - B.1.1) then P.2 - B.1.2 else (if B.2.1 - P.1 > P.1 - B.1.1 then B.2.1 - P.1 else P.1 - B.1.1))) = slackN B P := by
    unfold slackN; omega
  rw [e]
  refine Eq.trans (pl_int (s28 (d + 7) _ _ _)) ?_
  rfl
end Go.Proofs.Ytnldgacamgjpnaa.AE

namespace Go.Proofs.Ytnldgacamgjpnaa.AE
set_option linter.unusedVariables false
set_option linter.unusedSimpArgs false
set_option linter.constructorNameAsVariable false
open Go
set_option maxRecDepth 100000
/-- apogee/apogeelaw18.awake -/
theorem r10 (C : Cb) (d : Nat)  : xcall C M unr d 10 [] =
 C.tup 2 (pcall M d 9 [(.agg [(iz 0), (iz 0), (iz 0), (iz 0), (iz 100), (iz 3), (iz 0), (iz 0)]), (iz 2), (iz 0)]) fun l0 =>
 C.agg 4 l0[0]? fun l1 =>
 C.int .i64 l1[0]? fun x2 =>
 C.int .i64 l1[1]? fun x3 =>
 C.int .i64 l1[2]? fun x4 =>
 C.int .i64 l1[3]? fun x5 =>
 C.bool l0[1]? fun b6 =>
 C.tup 2 (pcall M d 18 [(.agg [(iz 0), (iz 0), (iz 0), (iz 0), (iz 100), (iz 3), (iz 0), (iz 0)]), (iz 2)]) fun l7 =>
 C.agg 2 l7[0]? fun l8 =>
 C.int .i64 l8[0]? fun x9 =>
 C.int .i64 l8[1]? fun x10 =>
 C.bool l7[1]? fun b11 =>
 C.tup 2 (pcall M d 17 [(.agg [(iz 0), (iz 0), (iz 0), (iz 0), (iz 100), (iz 3), (iz 0), (iz 0)]), (iz 2), (iz 0)]) fun l12 =>
 C.int .i64 l12[0]? fun x13 =>
 C.bool l12[1]? fun b14 =>
 C.tup 2 (pcall M d 23 [(.agg [(iz 0), (iz 0), (iz 0), (iz 0), (iz 100), (iz 3), (iz 0), (iz 0)]), (iz 2), (iz 4)]) fun l15 =>
 C.agg 2 l15[0]? fun l16 =>
 C.int .i64 l16[0]? fun x17 =>
 C.int .i64 l16[1]? fun x18 =>
 C.bool l15[1]? fun b19 =>
 C.tup 2 (pcall M d 9 [(.agg [(iz 0), (iz 0), (iz 0), (iz 0), (iz 100), (iz 3), (iz 0), (iz 0)]), (iz 0), (iz 0)]) fun l20 =>
 C.agg 4 l20[0]? fun l21 =>
 C.int .i64 l21[0]? fun x22 =>
 C.int .i64 l21[1]? fun x23 =>
 C.int .i64 l21[2]? fun x24 =>
 C.int .i64 l21[3]? fun x25 =>
 C.bool l20[1]? fun b26 =>
 C.tup 2 (pcall M d 23 [(.agg [(iz 0), (iz 0), (iz 0), (iz 0), (iz 100), (iz 3), (iz 0), (iz 0)]), (iz 2), (iz (-1))]) fun l27 =>
 C.agg 2 l27[0]? fun l28 =>
 C.int .i64 l28[0]? fun x29 =>
 C.int .i64 l28[1]? fun x30 =>
 C.bool l27[1]? fun b31 =>
 cnd (xor false ((x2 == 30) && ((x3 == 0) && ((x4 == 36) && ((x5 == 0) && true)))))
 (cnd b6
 (cnd (xor false ((x9 == 30) && ((x10 == 0) && true)))
 (cnd b11
 (cnd (x13 == 6)
 (cnd b14
 (cnd (xor false ((x17 == 12) && ((x18 == 0) && true)))
 (cnd b19
 (cnd (!b26)
 (some (.bool (!b31)))
 (some bf))
 (some bf))
 (some bf))
 (some bf))
 (some bf))
 (some bf))
 (some bf))
 (some bf))
 (some bf) := by kernel_rfl
end Go.Proofs.Ytnldgacamgjpnaa.AE

namespace Go.Proofs.Ytnldgacamgjpnaa.AE
set_option linter.unusedVariables false
set_option linter.unusedSimpArgs false
set_option linter.constructorNameAsVariable false
open Go Go.Proofs.Ytnldgacamgjpnaa.Geo
attribute [local irreducible] pcall C0
set_option maxRecDepth 100000
theorem and_i64_bd (x m : Int) (h0 : 0 ≤ m) (h1 : m < 9223372036854775808) : 0 ≤ Go.bits .and .i64 x m ∧ Go.bits .and .i64 x m ≤ m := by
  show 0 ≤ IntKind.i64.wrap ((BitVec.ofInt 64 x &&& BitVec.ofInt 64 m).toNat : Int) ∧ IntKind.i64.wrap ((BitVec.ofInt 64 x &&& BitVec.ofInt 64 m).toNat : Int) ≤ m
  have e : ((BitVec.ofInt 64 m).toNat : Int) = m := by rw [BitVec.toNat_ofInt]; omega
  have h : (BitVec.ofInt 64 x &&& BitVec.ofInt 64 m).toNat ≤ (BitVec.ofInt 64 m).toNat := by rw [BitVec.toNat_and]; exact Nat.and_le_right
  rw [i64w]; omega
theorem tmod_bd (x c : Int) (hc : 0 < c) : -c < Int.tmod x c ∧ Int.tmod x c < c := by
  refine ⟨?_, Int.tmod_lt_of_pos _ hc⟩
  have h := Int.tmod_lt_of_pos (-x) hc
  rw [Int.neg_tmod] at h; omega
theorem u64_tmod_bd (x c : Int) (hc : 0 < c) : 0 ≤ Int.tmod (IntKind.u64.wrap x) c ∧ Int.tmod (IntKind.u64.wrap x) c < c :=
  ⟨Int.tmod_nonneg _ (by rw [u64w]; omega), Int.tmod_lt_of_pos _ hc⟩
theorem grav_bd (x c : Int) (hc : 0 < c) (hc' : c < 1000) : ∃ g, IntKind.wrap .i64 (1 + (IntKind.wrap .i64 (Int.tmod (IntKind.wrap .u64 x) c))) = g ∧ 1 ≤ g ∧ g ≤ c := by
  have h := u64_tmod_bd x c hc
  refine ⟨_, rfl, ?_⟩
  rw [i64_small (n := Int.tmod _ _) (by omega) (by omega), i64_small (by omega) (by omega)]; omega
/-- What the laws hold a nav to. -/
def HeldN (n : Nav) : Prop := (-1073741824 < n.x ∧ n.x < 1073741824) ∧ (-1073741824 < n.y ∧ n.y < 1073741824) ∧ (0 ≤ n.z ∧ n.z < 1073741824) ∧ (-65536 < n.vx ∧ n.vx < 65536) ∧ (-65536 < n.vy ∧ n.vy < 65536) ∧ (-65536 < n.vz ∧ n.vz < 65536)
theorem heldI (d : Nat) (n : Nav) : ∃ m, pcall M (d + 1) 8 [nv n] = some (nv m) ∧ HeldN m := by
  refine ⟨⟨n.c, n.fl, Int.tmod n.x 1073741824, Int.tmod n.y 1073741824, bits .and .i64 n.z 1073741823, Int.tmod n.vx 65536, Int.tmod n.vy 65536, Int.tmod n.vz 65536⟩, told (r8 C0 d _ _ _ _ _ _ _ _) rfl, ?_⟩
  have := and_i64_bd n.z 1073741823 (by omega) (by omega)
  exact ⟨tmod_bd _ _ (by omega), tmod_bd _ _ (by omega), ⟨this.1, by simp only; omega⟩, tmod_bd _ _ (by omega), tmod_bd _ _ (by omega), tmod_bd _ _ (by omega)⟩
theorem held_may {n : Nav} (h : HeldN n) : MayN n := by unfold HeldN at h; unfold MayN; omega
theorem held_mayB {n : Nav} {g e : Int} (h : HeldN n) (g0 : 1 ≤ g) (g1 : g ≤ 100) (e0 : 0 ≤ e) (e1 : e ≤ 2048) : MayB n g e := ⟨by unfold HeldN at h; unfold May; omega, ⟨e0, e1⟩, held_may h⟩
/-- The box is one. -/
theorem box_right {n : Nav} {g e lo hi : Int} (h : MayB n g e) (f1 : Falls (n.z - e) (n.vz - e) g lo) (f2 : Falls (n.z + e) (n.vz + e) g hi) : rightX (boxN n e lo (hi + 2)) = true := by
  obtain ⟨hm, ⟨e0, e1⟩, hn⟩ := h
  unfold MayN at hn
  have l := falls_mono f1 f2 (by omega) (by omega)
  have l0 := f1.1; have h1 := f2.2.1
  have x := side_bd (x := n.x) (v := n.vx) (e := e) (lo := lo) (hi := hi + 2) (by omega) (by omega) (by omega) (by omega) e0 e1 l0 (by omega) (by omega)
  have y := side_bd (x := n.y) (v := n.vy) (e := e) (lo := lo) (hi := hi + 2) (by omega) (by omega) (by omega) (by omega) e0 e1 l0 (by omega) (by omega)
  have ox := side_ord (x := n.x) (v := n.vx) (e := e) (lo := lo) (hi := hi + 2) e0 l0 (by omega)
  have oy := side_ord (x := n.y) (v := n.vy) (e := e) (lo := lo) (hi := hi + 2) e0 l0 (by omega)
  rw [rightX_t]
  unfold OkP Okc boxN
  simp only
  omega
theorem wayI_no (d : Nat) (n : Nav) (g t : Int) (ht : ¬ (0 ≤ t ∧ t ≤ 16777216)) : pcall M (d + 7) 23 [nv n, .int .i64 g, .int .i64 t] = some (.tup [pt (0, 0), .bool false]) := told (r23 C0 (d + 6) _ _ _ _ _ _ _ _ _ _) (by
  have q : pcall M (d + 6) 35 [.int .i64 n.z, .int .i64 n.vz, .int .i64 g, .int .i64 t] = some (.tup [.int .i64 0, .bool false]) := told (r35 C0 (d + 5) _ _ _ _) (by
    refine Eq.trans (pl_bool (s31 (d + 3) n.z n.vz g)) ?_
    by_cases h : May n.z n.vz g
    · rw [decide_eq_true h]
      repeat with_reducible first | refine tt sh_ptr ?_ | refine tt sh_fptr ?_ | refine tt w2 ?_ | refine tt w3 ?_ | refine tt w8 ?_ | refine tt w9 ?_ | refine tt wf ?_ | refine tt wg ?_ | refine tt wh ?_ | refine tt wi ?_ | refine tt wj ?_ | refine tt wk ?_ | refine tt wl ?_ | refine tt wn ?_ | refine tt c_ort ?_ | refine tt c_nt ?_ | refine tt c_nf ?_ | refine tt (cnd_t _ _) ?_ | refine tt (cnd_f _ _) ?_ | refine tt w6 ?_ | refine tt w4 ?_ | refine tt w5 ?_ | refine tt w7 ?_ | refine tt wm ?_ | refine tt wo ?_ | refine tt wx ?_ | refine tt nil_ptr ?_ | refine tt len_lst ?_ | refine tt len_zsl ?_
      refine Eq.trans (pl_bool (s30 (d + 4) _ _ _)) ?_
      rw [decide_eq_false ht]; rfl
    · rw [decide_eq_false h]; rfl)
  refine Eq.trans (pl_tup q (by rfl)) ?_
  repeat with_reducible first | refine tt sh_ptr ?_ | refine tt sh_fptr ?_ | refine tt w2 ?_ | refine tt w3 ?_ | refine tt w8 ?_ | refine tt w9 ?_ | refine tt wf ?_ | refine tt wg ?_ | refine tt wh ?_ | refine tt wi ?_ | refine tt wj ?_ | refine tt wk ?_ | refine tt wl ?_ | refine tt wn ?_ | refine tt c_ort ?_ | refine tt c_nt ?_ | refine tt c_nf ?_ | refine tt (cnd_t _ _) ?_ | refine tt (cnd_f _ _) ?_ | refine tt w6 ?_ | refine tt w4 ?_ | refine tt w5 ?_ | refine tt w7 ?_ | refine tt wm ?_ | refine tt wo ?_ | refine tt wx ?_ | refine tt nil_ptr ?_ | refine tt len_lst ?_ | refine tt len_zsl ?_
  rfl)
def nA : Nav := ⟨0, 0, 0, 0, 100, 3, 0, 0⟩
theorem fA : Falls 100 0 2 10 := by
  refine ⟨by omega, by omega, fun h => by omega, fun _ s hs => ?_⟩
  have e : A 100 0 2 s = 200 - 2 * (s * s) := by unfold A; grind
  rw [e]
  constructor
  · intro h
    by_cases c : s ≤ 10
    · exact c
    · have := Int.mul_le_mul (show (11 : Int) ≤ s by omega) (show (11 : Int) ≤ s by omega) (by omega) (by omega); omega
  · intro h
    have := sq_le (x := s) (y := 10) (by omega) h; omega
theorem awake : pcall M 40 10 [] = some (.bool true) := told (r10 C0 39) (by
  have hm : May nA.z nA.vz 2 := by unfold May; simp only [nA]; omega
  have hn : MayN nA := by decide
  have hb : MayB nA 2 0 := ⟨hm, by omega, hn⟩
  have fix : ∀ t, Falls (nA.z - 0) (nA.vz - 0) 2 t → t = 10 := fun t h => falls_one (by simpa [nA] using h) fA
  have fix' : ∀ t, Falls (nA.z + 0) (nA.vz + 0) 2 t → t = 10 := fun t h => falls_one (by simpa [nA] using h) fA
  obtain ⟨lo, hi, q, f1, f2⟩ := boxI 31 nA 2 0 hb
  have := fix lo f1; have := fix' hi f2; subst lo hi
  obtain ⟨t, q2, f3⟩ := atI 31 nA 2 hm hn
  have := falls_one (by simpa [nA] using f3) fA; subst t
  obtain ⟨lo, hi, t, q3, f4, f5, f6⟩ := slackI 30 nA 2 0 hb (fun lo hi => box_right hb)
  have := fix lo f4; have := fix' hi f5; subst lo hi
  have := falls_one (by simpa [nA] using f6) fA; subst t
  have eb : boxN nA 0 10 (10 + 2) = ((30, 0), (36, 0)) := by kernel_rfl
  have ew : wayN nA 10 = (30, 0) := by kernel_rfl
  refine Eq.trans (pl_tup q (by rfl)) ?_
  rw [eb, show rightX ((30, 0), (36, 0)) = true by kernel_rfl]
  repeat with_reducible first | refine tt sh_ptr ?_ | refine tt sh_fptr ?_ | refine tt w2 ?_ | refine tt w3 ?_ | refine tt w8 ?_ | refine tt w9 ?_ | refine tt wf ?_ | refine tt wg ?_ | refine tt wh ?_ | refine tt wi ?_ | refine tt wj ?_ | refine tt wk ?_ | refine tt wl ?_ | refine tt wn ?_ | refine tt c_ort ?_ | refine tt c_nt ?_ | refine tt c_nf ?_ | refine tt (cnd_t _ _) ?_ | refine tt (cnd_f _ _) ?_ | refine tt w6 ?_ | refine tt w4 ?_ | refine tt w5 ?_ | refine tt w7 ?_ | refine tt wm ?_ | refine tt wo ?_ | refine tt wx ?_ | refine tt nil_ptr ?_ | refine tt len_lst ?_ | refine tt len_zsl ?_
  refine Eq.trans (pl_tup q2 (by rfl)) ?_
  rw [ew]
  repeat with_reducible first | refine tt sh_ptr ?_ | refine tt sh_fptr ?_ | refine tt w2 ?_ | refine tt w3 ?_ | refine tt w8 ?_ | refine tt w9 ?_ | refine tt wf ?_ | refine tt wg ?_ | refine tt wh ?_ | refine tt wi ?_ | refine tt wj ?_ | refine tt wk ?_ | refine tt wl ?_ | refine tt wn ?_ | refine tt c_ort ?_ | refine tt c_nt ?_ | refine tt c_nf ?_ | refine tt (cnd_t _ _) ?_ | refine tt (cnd_f _ _) ?_ | refine tt w6 ?_ | refine tt w4 ?_ | refine tt w5 ?_ | refine tt w7 ?_ | refine tt wm ?_ | refine tt wo ?_ | refine tt wx ?_ | refine tt nil_ptr ?_ | refine tt len_lst ?_ | refine tt len_zsl ?_
  refine Eq.trans (pl_tup q3 (by rfl)) ?_
  rw [eb, ew, show clampX (slackN ((30, 0), (36, 0)) (30, 0)) 0 4611686018427387904 = 6 by kernel_rfl]
  repeat with_reducible first | refine tt sh_ptr ?_ | refine tt sh_fptr ?_ | refine tt w2 ?_ | refine tt w3 ?_ | refine tt w8 ?_ | refine tt w9 ?_ | refine tt wf ?_ | refine tt wg ?_ | refine tt wh ?_ | refine tt wi ?_ | refine tt wj ?_ | refine tt wk ?_ | refine tt wl ?_ | refine tt wn ?_ | refine tt c_ort ?_ | refine tt c_nt ?_ | refine tt c_nf ?_ | refine tt (cnd_t _ _) ?_ | refine tt (cnd_f _ _) ?_ | refine tt w6 ?_ | refine tt w4 ?_ | refine tt w5 ?_ | refine tt w7 ?_ | refine tt wm ?_ | refine tt wo ?_ | refine tt wx ?_ | refine tt nil_ptr ?_ | refine tt len_lst ?_ | refine tt len_zsl ?_
  refine Eq.trans (pl_tup (s23 32 nA 2 4 hm hn (by omega) (by omega)) (by rfl)) ?_
  rw [show wayN nA 4 = (12, 0) by kernel_rfl]
  repeat with_reducible first | refine tt sh_ptr ?_ | refine tt sh_fptr ?_ | refine tt w2 ?_ | refine tt w3 ?_ | refine tt w8 ?_ | refine tt w9 ?_ | refine tt wf ?_ | refine tt wg ?_ | refine tt wh ?_ | refine tt wi ?_ | refine tt wj ?_ | refine tt wk ?_ | refine tt wl ?_ | refine tt wn ?_ | refine tt c_ort ?_ | refine tt c_nt ?_ | refine tt c_nf ?_ | refine tt (cnd_t _ _) ?_ | refine tt (cnd_f _ _) ?_ | refine tt w6 ?_ | refine tt w4 ?_ | refine tt w5 ?_ | refine tt w7 ?_ | refine tt wm ?_ | refine tt wo ?_ | refine tt wx ?_ | refine tt nil_ptr ?_ | refine tt len_lst ?_ | refine tt len_zsl ?_
  refine Eq.trans (pl_tup (boxI_no 31 nA 0 0 (fun h => by have := h.1; unfold May at this; omega)) (by rfl)) ?_
  repeat with_reducible first | refine tt sh_ptr ?_ | refine tt sh_fptr ?_ | refine tt w2 ?_ | refine tt w3 ?_ | refine tt w8 ?_ | refine tt w9 ?_ | refine tt wf ?_ | refine tt wg ?_ | refine tt wh ?_ | refine tt wi ?_ | refine tt wj ?_ | refine tt wk ?_ | refine tt wl ?_ | refine tt wn ?_ | refine tt c_ort ?_ | refine tt c_nt ?_ | refine tt c_nf ?_ | refine tt (cnd_t _ _) ?_ | refine tt (cnd_f _ _) ?_ | refine tt w6 ?_ | refine tt w4 ?_ | refine tt w5 ?_ | refine tt w7 ?_ | refine tt wm ?_ | refine tt wo ?_ | refine tt wx ?_ | refine tt nil_ptr ?_ | refine tt len_lst ?_ | refine tt len_zsl ?_
  refine Eq.trans (pl_tup (wayI_no 32 nA 2 (-1) (fun h => by omega)) (by rfl)) ?_
  repeat with_reducible first | refine tt sh_ptr ?_ | refine tt sh_fptr ?_ | refine tt w2 ?_ | refine tt w3 ?_ | refine tt w8 ?_ | refine tt w9 ?_ | refine tt wf ?_ | refine tt wg ?_ | refine tt wh ?_ | refine tt wi ?_ | refine tt wj ?_ | refine tt wk ?_ | refine tt wl ?_ | refine tt wn ?_ | refine tt c_ort ?_ | refine tt c_nt ?_ | refine tt c_nf ?_ | refine tt (cnd_t _ _) ?_ | refine tt (cnd_f _ _) ?_ | refine tt w6 ?_ | refine tt w4 ?_ | refine tt w5 ?_ | refine tt w7 ?_ | refine tt wm ?_ | refine tt wo ?_ | refine tt wx ?_ | refine tt nil_ptr ?_ | refine tt len_lst ?_ | refine tt len_zsl ?_
  rfl)
end Go.Proofs.Ytnldgacamgjpnaa.AE

namespace Go.Proofs.Ytnldgacamgjpnaa.AE
set_option linter.unusedVariables false
set_option linter.unusedSimpArgs false
set_option linter.constructorNameAsVariable false
open Go Go.WideShapes

/-- The form of a cell. -/
inductive CT where
  | i (k : IntKind)
  | b
  | s
  | sl (ag : Bool) (es : List CT)
mutual
def CTok : CT → AV → Prop
  | .i k, v => ∃ n, v = .int k n ∧ (Lit.int k n).wf = true
  | .b, v => ∃ x, v = .bool x
  | .s, v => ∃ x, v = .str x ∧ x.length ≤ maxLen
  | .sl ag es, v => ∃ l, v = .lst l ∧ l.length ≤ maxLen ∧ ∀ x ∈ l, ∃ cs, (match ag with
    | true => x = .agg cs
    | false => cs = [x]) ∧ CTall es cs
def CTall : List CT → List AV → Prop
  | [], l => l = []
  | c :: cs, l => ∃ x t, l = x :: t ∧ CTok c x ∧ CTall cs t
end
/-- An argument of a form: is it a struct or an array; its cells. -/
def TyOK (ag : Bool) (cs : List CT) (v : AV) : Prop := ∃ l, (match ag with
  | true => v = .agg l
  | false => l = [v]) ∧ CTall cs l
theorem CTall_len : ∀ {cs : List CT} {l : List AV}, CTall cs l → l.length = cs.length
  | [], l, h => by simp only [CTall] at h; subst h; rfl
  | c :: cs, l, h => by
    simp only [CTall] at h
    obtain ⟨x, t, rfl, _, h⟩ := h
    simp [CTall_len h]
theorem CTall_app : ∀ {a b : List CT} {l m : List AV}, CTall a l → CTall b m → CTall (a ++ b) (l ++ m)
  | [], b, l, m, h, h' => by simp only [CTall] at h; subst h; exact h'
  | c :: cs, b, l, m, h, h' => by
    simp only [CTall] at h
    obtain ⟨x, t, rfl, h1, h⟩ := h
    simp only [List.cons_append, CTall]
    exact ⟨x, t ++ m, rfl, h1, CTall_app h h'⟩

section
variable (P : Program)
def ctFs (g : TypeId → Option (List CT)) : List Field → Nat → Option (List CT)
  | [], _ => some []
  | f :: fs, off => if f.offset = off then match g f.type with
      | some l => if P.cellsOf f.type = l.length then match ctFs g fs (off + l.length) with
          | some m => some (l ++ m)
          | none => none
        else none
      | none => none
    else none
def ctOf : Nat → TypeId → Option (List CT)
  | 0, _ => none
  | d + 1, t => match P.underlying t with
    | some (.int k) => some [.i k]
    | some .bool => some [.b]
    | some .string => some [.s]
    | some (.slice e) => match ctOf d e, agB P e with
      | some l, some ag => if P.cellsOf e = l.length ∧ 0 < l.length ∧ (ag || l.length == 1) = true then some [.sl ag l] else none
      | _, _ => none
    | some (.struct fs) => match ctFs P (ctOf d) fs.toList 0 with
      | some l => if P.cellsOf t = l.length then some l else none
      | none => none
    | some (.array n e) => match ctOf d e with
      | some l => if P.cellsOf e = l.length ∧ P.cellsOf t = n * l.length then some (List.replicate n l).flatten else none
      | none => none
    | _ => none
end

section
variable {H : Type} {enc : TypeId × Value → H} {P : Program} {w : World} {base : Nat} {spare : Nat → Bool} {held : Bool}
abbrev noBad : Nat → Prop := fun _ => False

/-- Each cell is told. -/
def Cells (w : World) (avs : List AV) (cs : List Value) : Prop := ∀ (i : Nat) (c : AV) (u : Value), avs[i]? = some c → cs[i]? = some u → FRep w noBad c u

theorem cells_one {c : AV} {u : Value} (h : FRep w noBad c u) : Cells w [c] [u] := by
  intro i a b ha hb
  match i with
  | 0 => cases ha; cases hb; exact h
  | i + 1 => cases ha

theorem ctFs_open {g : TypeId → Option (List CT)} {cs : List Value} (hg : ∀ t l (ds : List Value) fuel x, g t = some l → DataW.trod enc P w base spare held fuel t ds = some x → ∃ avs, avs.length = ds.length ∧ CTall l avs ∧ Cells w avs ds) :
    ∀ (fs : List Field) (off : Nat) (l : List CT), ctFs P g fs off = some l → (∀ f ∈ fs, ∃ fuel y, DataW.trod enc P w base spare held fuel f.type ((cs.drop f.offset).take (P.cellsOf f.type)) = some y) →
      ∃ avs, CTall l avs ∧ Cells w avs (cs.drop off)
  | [], off, l, h, _ => by
    simp only [ctFs] at h; cases h
    exact ⟨[], rfl, fun i c u hc _ => by cases hc⟩
  | f :: fs, off, l, h, ht => by
    simp only [ctFs] at h
    split at h
    · rename_i ho
      split at h <;> (try (cases h; done))
      rename_i l1 h1
      split at h
      · rename_i hn
        split at h <;> (try (cases h; done))
        rename_i m hm
        cases h
        obtain ⟨fuel, y, hy⟩ := ht f (List.mem_cons_self ..)
        obtain ⟨a1, e1, e2, e3⟩ := hg _ _ _ _ _ h1 hy
        obtain ⟨a2, q1, q2⟩ := ctFs_open hg fs (off + l1.length) m hm (fun f hf => ht f (List.mem_cons_of_mem _ hf))
        refine ⟨a1 ++ a2, CTall_app e2 q1, ?_⟩
        have hl : a1.length = l1.length := CTall_len e2
        intro i c u hc hu
        by_cases hi : i < a1.length
        · rw [List.getElem?_append_left hi] at hc
          refine e3 i c u hc ?_
          rw [ho, hn, List.getElem?_take, if_pos (by omega)]; exact hu
        · rw [List.getElem?_append_right (by omega)] at hc
          refine q2 (i - a1.length) c u hc ?_
          rw [List.getElem?_drop] at hu ⊢
          rw [← hu]; congr 1; omega
      · cases h
    · cases h

theorem cells?_at {a : Addr} {n : Nat} {cs : List Value} (h : w.cells? base a n = some cs) : cs.length = n ∧ ∀ j u, cs[j]? = some u → w.cell? (a.add j) = some u := by
  unfold World.cells? at h
  split at h
  · have hl : cs.length = n := by simpa using mapM_some_length h
    refine ⟨hl, fun j u hu => ?_⟩
    have hj : j < n := by
      rcases Nat.lt_or_ge j n with h1 | h1
      · exact h1
      · rw [List.getElem?_eq_none (by omega)] at hu; cases hu
    have := mapM_some_get h j j (by simp [hj])
    rw [hu] at this
    exact this
  · cases h

theorem rng_at {n i j : Nat} (h : (List.range n)[i]? = some j) : i < n ∧ i = j := by
  rcases Nat.lt_or_ge i n with h1 | h1
  · rw [List.getElem?_range h1] at h; exact ⟨h1, Option.some.inj h⟩
  · rw [List.getElem?_eq_none (by simpa using h1)] at h; cases h
theorem add_pl (b o n : Nat) : (⟨b, o, none⟩ : Addr).add n = ⟨b, o + n, none⟩ := by
  unfold Addr.add; split <;> simp_all

theorem open_cells : ∀ (d : Nat) (t : TypeId) (l : List CT) (cs : List Value) (fuel : Nat) (x : DataW H × List MemPlace), ctOf P d t = some l → DataW.trod enc P w base spare held fuel t cs = some x →
    ∃ avs, avs.length = cs.length ∧ CTall l avs ∧ Cells w avs cs
  | 0, t, l, cs, fuel, x, h, _ => by cases h
  | d + 1, t, l, cs, fuel, x, h, ht => by
    simp only [ctOf] at h
    split at h <;> (try (cases h; done))
    · rename_i k hu
      cases h
      obtain ⟨n, rfl, _, hw⟩ := DataW.trod_int hu ht
      exact ⟨[.int k n], rfl, ⟨_, _, rfl, ⟨n, rfl, hw⟩, rfl⟩, cells_one (.int k n)⟩
    · rename_i hu
      cases h
      obtain ⟨b, rfl, _⟩ := DataW.trod_bool hu ht
      exact ⟨[.bool b], rfl, ⟨_, _, rfl, ⟨b, rfl⟩, rfl⟩, cells_one (.bool b)⟩
    · rename_i hu
      cases h
      obtain ⟨s, rfl, _, hs⟩ := DataW.trod_string hu ht
      refine ⟨[.str s.data.toList], rfl, ⟨_, _, rfl, ⟨_, rfl, by simpa using hs⟩, rfl⟩, cells_one ?_⟩
      have := FRep.str (w := w) (bad := noBad) s.data.toList
      simpa using this
    · rename_i e hu
      split at h <;> (try (cases h; done))
      rename_i le ag hle hag
      split at h
      · rename_i hc
        obtain ⟨hc1, hc2, hc3⟩ := hc
        cases h
        rcases DataW.trod_slice hu ht with ⟨rfl, _⟩ | ⟨a, len, cap, elems, rest, n, _, rfl, _, hb, hl, hm, hel, hat, _, _⟩
        · exact ⟨[.lst []], rfl, ⟨_, _, rfl, ⟨[], rfl, by simp, fun x hx => by cases hx⟩, rfl⟩, cells_one (.lst0 none 0 fun _ => rfl)⟩
        · have each : ∀ i, i < len → ∃ ex : List AV × List Value, w.cells? base (a.add (i * P.cellsOf e)) (P.cellsOf e) = some ex.2 ∧ CTall le ex.1 ∧ Cells w ex.1 ex.2 := by
            intro i hi
            have h1 := hat i hi
            rw [List.getElem?_eq_getElem (by omega)] at h1
            obtain ⟨ds, h2, h3⟩ := Option.bind_eq_some_iff.mp h1
            obtain ⟨avs, _, q2, q3⟩ := open_cells d e le ds n _ hle h3
            exact ⟨(avs, ds), h2, q2, q3⟩
          obtain ⟨f, hf⟩ := Go.Deep.choose_lt each
          let el : List AV → AV := fun cs => match ag with
            | true => .agg cs
            | false => cs.headD .undef
          have elc : ∀ cs, CTall le cs → (el cs).cells = cs ∨ (ag = false ∧ ∃ v, cs = [v] ∧ el cs = v) := by
            intro cs hcs
            cases ag with
            | true => exact .inl rfl
            | false =>
              have hl1 : le.length = 1 := by simpa using hc3
              have := CTall_len hcs
              match cs, this.trans hl1 with
              | [v], _ => exact .inr ⟨rfl, v, rfl, rfl⟩
          have scal : ∀ cs, CTall le cs → (el cs).cells = cs := by
            intro cs hcs
            rcases elc cs hcs with h1 | ⟨hag', v, rfl, h2⟩
            · exact h1
            · rw [h2]
              match v, hcs with
              | .agg l', hcs =>
                exfalso
                cases le with
                | nil => simp only [CTall] at hcs; cases hcs
                | cons c cs' =>
                  simp only [CTall] at hcs
                  obtain ⟨x', t', hx', hok, _⟩ := hcs
                  injection hx' with hx1 _
                  subst hx1
                  cases c <;> simp [CTok] at hok
              | .int .., _ | .bool _, _ | .str _, _ | .nilp, _ | .zsl _, _ | .ptr .., _ | .slc .., _ | .lst _, _ | .fptr .., _ | .tup _, _ | .fn .., _ | .nilf, _ | .undef, _ | .emp, _ => rfl
          have hlen : ∀ i, i < len → ((f i).1).length = P.cellsOf e := fun i hi => by rw [CTall_len (hf i hi).2.1, hc1]
          refine ⟨[.lst ((List.range len).map fun i => el (f i).1)], rfl, ⟨_, _, rfl, ⟨_, rfl, by simp; omega, ?_⟩, rfl⟩, cells_one ?_⟩
          · intro y hy
            obtain ⟨i, hi, rfl⟩ := List.mem_map.mp hy
            have hi := List.mem_range.mp hi
            refine ⟨(f i).1, ?_, (hf i hi).2.1⟩
            cases ag with
            | true => rfl
            | false =>
              rcases elc _ (hf i hi).2.1 with h1 | ⟨_, v, h1, h2⟩
              · have h3 := scal _ (hf i hi).2.1
                have hl1 : le.length = 1 := by simpa using hc3
                have h4 := (CTall_len (hf i hi).2.1).trans hl1
                show (f i).1 = [(f i).1.headD .undef]
                match (f i).1, h4 with
                | [v], _ => rfl
              · show (f i).1 = [(f i).1.headD .undef]
                rw [h1]; rfl
          · by_cases h0 : len = 0
            · subst h0; exact .lst0 (some a) cap (fun h => by cases h)
            · have hsp : a.spot = none ∧ a.block < w.heap.size := by
                obtain ⟨g1, g2, g3⟩ := hf 0 (by omega)
                obtain ⟨g4, g5⟩ := cells?_at g1
                have h6 : ∃ u, (f 0).2[0]? = some u := ⟨_, List.getElem?_eq_getElem (by omega)⟩
                obtain ⟨u, hu0⟩ := h6
                have := g5 0 u hu0
                rw [Nat.zero_mul, show (a.add 0).add 0 = a by simp [Addr.add]] at this
                unfold World.cell? at this
                split at this
                · rename_i c _ _ hh
                  split at this
                  · cases this
                  · rename_i hs
                    refine ⟨by simpa using hs, ?_⟩
                    rcases Nat.lt_or_ge a.block w.heap.size with h7 | h7
                    · exact h7
                    · rw [Array.getElem?_eq_none h7] at hh; cases hh
                · cases this
              obtain ⟨b, o, sp⟩ := a
              obtain ⟨hsp1, hsp2⟩ := hsp
              simp only at hsp1 hsp2
              subst hsp1
              have hlm : ((List.range len).map fun i => el (f i).1).length = len := by simp
              have key := FRep.lst (w := w) (bad := noBad) ((List.range len).map fun i => el (f i).1) b o (P.cellsOf e) cap (fun i j => (f i).2.getD j (.bool false)) (by rw [hlm]; exact hl) (by omega) (fun h => h) hsp2 ?_ ?_ ?_
              · rw [hlm] at key; exact key
              · intro i y hy
                rw [List.getElem?_map] at hy
                obtain ⟨i', h1, rfl⟩ := Option.map_eq_some_iff.mp hy
                obtain ⟨h2, rfl⟩ := rng_at h1
                rw [scal _ (hf _ h2).2.1, hlen _ h2]
              · intro i y j c hy hc
                rw [List.getElem?_map] at hy
                obtain ⟨i', h1, rfl⟩ := Option.map_eq_some_iff.mp hy
                obtain ⟨h2, rfl⟩ := rng_at h1
                rw [scal _ (hf _ h2).2.1] at hc
                obtain ⟨g4, g5⟩ := cells?_at (hf _ h2).1
                have hj : j < (f i).2.length := by
                  rw [g4, ← hlen _ h2]
                  rcases Nat.lt_or_ge j (f i).1.length with h7 | h7
                  · exact h7
                  · rw [List.getElem?_eq_none h7] at hc; cases hc
                have := g5 j _ (List.getElem?_eq_getElem hj)
                rw [add_pl, add_pl] at this
                rw [List.getD_eq_getElem?_getD, List.getElem?_eq_getElem hj]
                simp only [Option.getD_some]
                rw [← Nat.add_assoc]; exact this
              · intro i y j c hy hc
                rw [List.getElem?_map] at hy
                obtain ⟨i', h1, rfl⟩ := Option.map_eq_some_iff.mp hy
                obtain ⟨h2, rfl⟩ := rng_at h1
                rw [scal _ (hf _ h2).2.1] at hc
                obtain ⟨g4, g5⟩ := cells?_at (hf _ h2).1
                have hj : j < (f i).2.length := by
                  rw [g4, ← hlen _ h2]
                  rcases Nat.lt_or_ge j (f i).1.length with h7 | h7
                  · exact h7
                  · rw [List.getElem?_eq_none h7] at hc; cases hc
                refine (hf _ h2).2.2 j c _ hc ?_
                rw [List.getD_eq_getElem?_getD, List.getElem?_eq_getElem hj]; rfl
      · cases h
    · rename_i fs hu
      split at h <;> (try (cases h; done))
      rename_i l' hl'
      split at h
      · rename_i hc
        cases h
        obtain ⟨xs, n, _, _, hlen, hxs, hf⟩ := DataW.trod_struct hu ht
        obtain ⟨avs, q1, q2⟩ := ctFs_open (cs := cs) (enc := enc) (base := base) (spare := spare) (held := held) (fun t l ds fuel x => open_cells d t l ds fuel x) fs.toList 0 l hl' (fun f hfm => by
          obtain ⟨i, hi⟩ := List.getElem?_of_mem hfm
          have h1 := hf i f (by simpa using hi)
          have hi' : i < xs.length := by
            rw [hxs]
            rcases Nat.lt_or_ge i fs.size with h7 | h7
            · exact h7
            · rw [List.getElem?_eq_none (by simpa using h7)] at hi; cases hi
          exact ⟨n, _, h1.trans (List.getElem?_eq_getElem hi')⟩)
        exact ⟨avs, by rw [CTall_len q1, hlen, hc], q1, by simpa using q2⟩
      · cases h
    · rename_i n e hu
      split at h <;> (try (cases h; done))
      rename_i le hle
      split at h
      · rename_i hc
        obtain ⟨hc1, hc2⟩ := hc
        cases h
        obtain ⟨xs, m, _, _, hlen, hxs, hf⟩ := DataW.trod_array hu ht
        have key : ∀ k, k ≤ n → ∃ avs, CTall (List.replicate k le).flatten avs ∧ Cells w avs (cs.drop ((n - k) * le.length)) := by
          intro k
          induction k with
          | zero => intro _; exact ⟨[], rfl, fun i c u hc _ => by cases hc⟩
          | succ k ih =>
            intro hk
            obtain ⟨a2, q1, q2⟩ := ih (by omega)
            have h1 := hf (n - (k + 1)) (by omega)
            rw [List.getElem?_eq_getElem (by omega)] at h1
            obtain ⟨a1, e1, e2, e3⟩ := open_cells d e le _ m _ hle h1
            refine ⟨a1 ++ a2, by rw [List.replicate_succ, List.flatten_cons]; exact CTall_app e2 q1, ?_⟩
            have hl : a1.length = le.length := CTall_len e2
            intro i c u hc hu
            by_cases hi : i < a1.length
            · rw [List.getElem?_append_left hi] at hc
              refine e3 i c u hc ?_
              rw [hc1, List.getElem?_take, if_pos (by omega)]; exact hu
            · rw [List.getElem?_append_right (by omega)] at hc
              refine q2 (i - a1.length) c u hc ?_
              rw [List.getElem?_drop] at hu ⊢
              rw [← hu]; congr 1
              have : n - k = n - (k + 1) + 1 := by omega
              rw [this, Nat.add_mul]; omega
        obtain ⟨avs, q1, q2⟩ := key n (Nat.le_refl _)
        refine ⟨avs, ?_, q1, by simpa using q2⟩
        rw [CTall_len q1, hlen, hc2]; simp
      · cases h

theorem okWide_array {r : Reach} {n : Nat} {t e : TypeId} {v : Value} (ht : P.underlying t = some (.array n e)) (h : Value.okWide P w r base t v) : ∃ cs, v = .agg cs ∧ cs.size = P.cellsOf t := by
  simp only [Value.okWide, ht] at h
  obtain ⟨cs, h1, h2, _⟩ := h
  exact ⟨cs, h1, h2⟩
/-- A scalar argument. -/
theorem open_sc {t : TypeId} {v : Value} {d : DataW H} {ps : List MemPlace} {l : List CT} (hv : v.cells.toList = [v]) (hl : ctOf P 9 t = some l) (h : DataW.Trod enc P w base spare held t v d ps) :
    ∃ a, TyOK false l a ∧ FRep w noBad a v := by
  obtain ⟨fuel, h⟩ := h
  obtain ⟨avs, h1, h2, h3⟩ := open_cells 9 t l _ fuel _ hl h
  rw [hv] at h1 h3
  match avs, h1 with
  | [a], _ => exact ⟨a, ⟨_, rfl, h2⟩, h3 0 a v rfl rfl⟩
/-- A struct, or an array. -/
theorem open_ag {t : TypeId} {cs : Array Value} {d : DataW H} {ps : List MemPlace} {l : List CT} (hl : ctOf P 9 t = some l) (h : DataW.Trod enc P w base spare held t (.agg cs) d ps) :
    ∃ a, TyOK true l a ∧ FRep w noBad a (.agg cs) := by
  obtain ⟨fuel, h⟩ := h
  obtain ⟨avs, h1, h2, h3⟩ := open_cells 9 t l _ fuel _ hl h
  refine ⟨.agg avs, ⟨_, rfl, h2⟩, ?_⟩
  have := FRep.agg (w := w) (bad := noBad) avs cs.toList h1 h3
  simpa using this
end
end Go.Proofs.Ytnldgacamgjpnaa.AE

namespace Go.Proofs.Ytnldgacamgjpnaa.AE
set_option linter.unusedVariables false
set_option linter.unusedSimpArgs false
set_option linter.constructorNameAsVariable false
open Go Go.RowKit

theorem frl_nil {w : World} {bad : Nat → Prop} : ∀ (i : Nat) (c : AV) (u : Value), ([] : List AV)[i]? = some c → ([] : List Value)[i]? = some u → FRep w bad c u := fun _ _ _ h => by cases h
theorem frl_cons {w : World} {bad : Nat → Prop} {c0 : AV} {u0 : Value} {cs : List AV} {us : List Value} (h0 : FRep w bad c0 u0) (h : ∀ (i : Nat) (c : AV) (u : Value), cs[i]? = some c → us[i]? = some u → FRep w bad c u) :
    ∀ (i : Nat) (c : AV) (u : Value), (c0 :: cs)[i]? = some c → (u0 :: us)[i]? = some u → FRep w bad c u
  | 0, c, u, hc, hu => by cases hc; cases hu; exact h0
  | i + 1, c, u, hc, hu => h i c u hc hu
theorem law_calls {d : Nat} {g : FuncId} {args : List AV} {vs : List Value} (h : pcall M d g args = some (.bool true)) (W : World) (hl : args.length = vs.length)
    (hr : ∀ (i : Nat) (c : AV) (u : Value), args[i]? = some c → vs[i]? = some u → FRep W (fun _ => False) c u) : Calls Try.prog g vs.toArray W fun e W' => e = .returned (.bool true) ∧ Below W.heap.size W W' := by
  refine (pcall_law modOK d g args _ h W (fun _ => False) vs (fun _ h => h.elim) hl hr).mono ?_
  rintro e W' ⟨cv, rfl, hf, hb⟩
  cases hf
  exact ⟨rfl, hb⟩
end Go.Proofs.Ytnldgacamgjpnaa.AE
