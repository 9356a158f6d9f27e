/- The texts that the seat's laws need, part 2. No conditions. -/
import Derived.ChangeArms
import Derived.WideShapes
import Derived.OpenShut
import Derived.Deep.Slices
import Derived.Test.YtoceckjagfhfmaaMc1
namespace Go.Proofs.Ytoceckjagfhfmaa.AE
set_option linter.unusedVariables false
set_option linter.unusedSimpArgs false
set_option linter.constructorNameAsVariable false
open Go

theorem aop_call_irr {call call' : CallF} {ev : Opd → AV} {H : Heap} {io : IOp} (h : ∀ sh f args, io ≠ .call sh f args) : aop call ev H io = aop call' ev H io := by
  cases io <;> first | rfl | exact absurd rfl (h _ _ _) | skip
  all_goals (rename_i b _; cases b <;> rfl)

theorem xop0_ok {u : XU} {x : XCall} {call : CallF} (hx : XOK x call) {ev : Opd → AV} {H : Heap} {io : IOp} {K : AV → Heap → Ans} {r : AV} (h : xop0 C0 u x ev H io K = some r) : ∃ v H', aop call ev H io = some (v, H') ∧ K v H' = some r := by
  unfold xop0 at h
  split at h
  · obtain ⟨t, h1, h2⟩ := xpick_ok h
    exact ⟨_, H, by simp [aop, h1], h2⟩
  · obtain ⟨v, h1, h2⟩ := xbin_ok h
    exact ⟨v, H, by simp [aop, h1], h2⟩
  · split at h <;> (try (cases h; done))
    rename_i b hb
    exact ⟨_, H, by simp only [aop, hb], h⟩
  · split at h <;> (try (cases h; done))
    rename_i b hb
    exact ⟨_, H, by simp only [aop, hb], h⟩
  · split at h
    · rename_i l h1 h2
      rcases cnd_some h with ⟨_, h⟩ | ⟨h0, h⟩
      · cases h
      · cases l with
        | nil => simp at h0
        | cons a l => exact ⟨_, H, by simp only [aop, h1, h2, eqV, eqS], h⟩
    · split at h <;> (try (cases h; done))
      rename_i b hb
      exact ⟨_, H, by simp only [aop, hb], h⟩
  · split at h <;> (try (cases h; done))
    rename_i g a b hf
    split at h
    · obtain ⟨v, H', h1, h2⟩ := hx _ _ _ _ _ _ _ h
      exact ⟨v, H', by simp only [aop, hf, h1], h2⟩
    · obtain ⟨v, H', h1, h2⟩ := hx _ _ _ _ _ _ _ h
      exact ⟨v, H', by simp only [aop, hf, h1], h2⟩
  · split at h <;> (try (cases h; done))
    rename_i s hs
    obtain ⟨hh, h1, h2⟩ := xbound_ok h
    obtain ⟨l, h3, h4⟩ := xbound_ok h2
    exact ⟨_, H, by simp only [aop, aSubS, hs, h1, h3], h4⟩
  · split at h <;> (try (cases h; done))
    rename_i s q hs hq
    rcases cnd_some h with ⟨h0, h⟩ | ⟨_, h⟩
    · have h0 := of_decide_eq_true h0
      simp only [C0] at h
      obtain ⟨n, h1, h2⟩ := Option.bind_eq_some_iff.mp h
      cases hb : s[q.toNat]? with
      | none => simp [hb, isInt] at h1
      | some b =>
        simp [hb, isInt] at h1
        subst h1
        exact ⟨_, H, by simp [aop, hs, hq, h0, hb], h2⟩
    · cases h
  · split at h <;> (try (cases h; done))
    rename_i q hq
    split at h <;> (try (cases h; done))
    · rename_i l hl
      unfold xat at h
      rcases cnd_some h with ⟨h0, h⟩ | ⟨_, h⟩
      · have h0 := of_decide_eq_true h0
        obtain ⟨v, h1, h2⟩ := destr_sound _ _ _ _ h
        split at h2 <;> (try (cases h2; done))
        rename_i hc
        have hc := of_decide_eq_true hc
        exact ⟨_, H, by simp [aop, hq, hl, aIx, h0, h1, hc], h2⟩
      · cases h
    · rename_i id o n hl
      split at h <;> (try (cases h; done))
      rename_i b hb
      split at h <;> (try (cases h; done))
      rename_i he
      have he := of_decide_eq_true he
      rcases cnd_some h with ⟨h0, h⟩ | ⟨_, h⟩
      · have h0 := of_decide_eq_true h0
        exact ⟨_, H, by simp [aop, hq, hl, aIx, hb, h0, he], h⟩
      · cases h
  · rename_i hne
    split at h <;> (try (cases h; done))
    rename_i v H' hv
    exact ⟨v, H', by rw [← hv]; exact aop_call_irr (fun sh f args he => by subst he; simp_all), h⟩

theorem xop_ok {u : XU} {sh : Sh} {x : XCall} {call : CallF} (hx : XOK x call) {ev : Opd → AV} {H : Heap} {io : IOp} {K : AV → Heap → Ans} {r : AV} (h : xop C0 u sh x ev H io K = some r) : ∃ v H', aop call ev H io = some (v, H') ∧ K v H' = some r := by
  unfold xop at h
  split at h
  · split at h
    · rename_i hi
      rw [close_ok hi]
      simp only [C0] at h
      split at h
      · rename_i v H' hv
        split at h
        · exact ⟨v, H', hv, h⟩
        · obtain ⟨w, h1, h2⟩ := destr_sound _ _ _ _ h
          cases h1
          exact ⟨v, H', hv, h2⟩
      · cases h
    · exact xop0_ok hx h
  · exact xop0_ok hx h

theorem set_same {env : List AV} {t : Nat} {v : AV} (h : env.getD t .undef = v) (hv : v ≠ .undef) : env.set t v = env := by
  apply List.ext_getElem?
  intro i
  by_cases hi : t = i
  · subst hi
    rcases Nat.lt_or_ge t env.length with hlt | hge
    · rw [List.getElem?_set_self hlt, List.getElem?_eq_getElem hlt, ← h]
      simp [List.getD_eq_getElem?_getD, hlt]
    · exact absurd (by rw [← h]; simp [List.getD_eq_getElem?_getD, List.getElem?_eq_none hge]) hv
  · rw [List.getElem?_set_ne hi]

theorem xwant_ok {env : List AV} {g : Option (Option Nat × Bool)} {A B : List AV → Ans} {r : AV} (h : xwant env g A B = some r) : (want env g = some true ∧ A env = some r) ∨ (want env g = some false ∧ B env = some r) := by
  unfold xwant at h
  split at h
  · exact .inl ⟨rfl, h⟩
  · rename_i t b
    split at h <;> (try (cases h; done))
    · rename_i c hc
      split at h
      · rcases cnd_some h with ⟨h0, h⟩ | ⟨h0, h⟩
        · subst h0; rw [set_same hc (by simp)] at h; exact .inl ⟨by simp only [want, hc]; rfl, h⟩
        · subst h0; rw [set_same hc (by simp)] at h; exact .inr ⟨by simp only [want, hc]; rfl, h⟩
      · rcases cnd_some h with ⟨h0, h⟩ | ⟨h0, h⟩
        · subst h0; rw [set_same hc (by simp)] at h; exact .inr ⟨by simp only [want, hc]; rfl, h⟩
        · subst h0; rw [set_same hc (by simp)] at h; exact .inl ⟨by simp only [want, hc]; rfl, h⟩
    · rename_i hc
      exact .inr ⟨by simp only [want, hc], h⟩
  · exact .inr ⟨rfl, h⟩

theorem xrunOps_ok {u : XU} {x : XCall} {call : CallF} (hx : XOK x call) : ∀ (l : List IOper) (s : St) (K : St → Ans) (r : AV), xrunOps C0 u x l s K = some r → ∃ s', runOps call l s = some s' ∧ K s' = some r
  | [], s, K, r, h => ⟨s, rfl, h⟩
  | o :: l, s, K, r, h => by
    simp only [xrunOps] at h
    rcases xwant_ok h with ⟨hw, h⟩ | ⟨hw, h⟩
    · obtain ⟨v, H', h1, h2⟩ := xop_ok hx h
      obtain ⟨s', h3, h4⟩ := xrunOps_ok hx l _ K r h2
      exact ⟨s', by simp only [runOps, hw, h1, h3], h4⟩
    · obtain ⟨s', h3, h4⟩ := xrunOps_ok hx l _ K r h
      exact ⟨s', by simp only [runOps, hw, h3], h4⟩

theorem XOK.sel {x y : XCall} {call callP : CallF} (hx : XOK x call) (hy : XOK y callP) (b : Bool) : XOK (match b with | true => x | false => y) (bif b then call else callP) := by cases b <;> assumption
theorem xrunOpsD_ok {u : XU} {x y : XCall} {call callP : CallF} (hx : XOK x call) (hy : XOK y callP) : ∀ (l : List (IOper × List Nat)) (i : Nat) (log : List (Nat × Nat)) (s : St) (K : St → Ans) (r : AV), xrunOpsD C0 u x y l i log s K = some r → ∃ s', runOpsD call callP l i log s = some s' ∧ K s' = some r
  | [], i, log, s, K, r, h => ⟨s, rfl, h⟩
  | (o, chk) :: l, i, log, s, K, r, h => by
    simp only [xrunOpsD] at h
    rcases xwant_ok h with ⟨hw, h⟩ | ⟨hw, h⟩
    · split at h <;> (try (cases h; done))
      rename_i hl
      obtain ⟨v, H', h1, h2⟩ := xop_ok (hx.sel hy (isFull chk)) h
      obtain ⟨s', h3, h4⟩ := xrunOpsD_ok hx hy l _ _ _ K r h2
      refine ⟨s', ?_, h4⟩
      simp only [runOpsD, hw]
      split
      · simp only [h1, h3]
      · rename_i hn
        rw [Bool.or_eq_true] at hl
        rcases hl with hl | hl
        · exact absurd (by rw [List.isEmpty_iff] at hl; subst hl; simp) hn
        · exact absurd hl hn
    · obtain ⟨s', h3, h4⟩ := xrunOpsD_ok hx hy l _ _ _ K r h
      exact ⟨s', by simp only [runOpsD, hw, h3], h4⟩

theorem xdisj_ok {chk : List Nat} {t : TV} {K : Ans} {r : AV} : ∀ {l : List (Nat × TV)}, xdisj C0 chk t l K = some r → K = some r ∧ ∀ e ∈ l, chk.contains e.1 = true → disjB e.2 t = true
  | [], h => ⟨h, fun e he => by cases he⟩
  | (i, s) :: l, h => by
    simp only [xdisj] at h
    split at h
    · rename_i hc
      split at h
      · obtain ⟨h1, h2⟩ := xdisj_ok h
        refine ⟨h1, fun e he hk => ?_⟩
        rcases List.mem_cons.mp he with rfl | he
        · rfl
        · exact h2 e he hk
      · obtain ⟨h1, h2⟩ := xdisj_ok h
        refine ⟨h1, fun e he hk => ?_⟩
        rcases List.mem_cons.mp he with rfl | he
        · cases s <;> rfl
        · exact h2 e he hk
      · simp only [C0] at h
        split at h
        · rename_i hd
          obtain ⟨h1, h2⟩ := xdisj_ok h
          refine ⟨h1, fun e he hk => ?_⟩
          rcases List.mem_cons.mp he with rfl | he
          · exact hd
          · exact h2 e he hk
        · cases h
    · rename_i hc
      obtain ⟨h1, h2⟩ := xdisj_ok h
      refine ⟨h1, fun e he hk => ?_⟩
      rcases List.mem_cons.mp he with rfl | he
      · rw [hc] at hk; cases hk
      · exact h2 e he hk

/-- It may name that memory. -/
def tmem (id : Nat) : TV → Prop
  | .no => False
  | .addr v => id ∈ idsOf v
  | .all l => l.all (noId DEPTH) = false
theorem touch_tv {ev : Opd → AV} {H : Heap} {io : IOp} {id : Nat} (h : id ∈ touch ev H io) : tmem id (tvOf ev io) := by
  cases io <;> first | (cases h; done) | skip
  case load ag n a =>
    simp only [touch] at h
    simp only [tvOf, tmem]
    split at h
    · rename_i he; rw [he]; exact h
    · cases h
  case store n a v =>
    simp only [touch] at h
    simp only [tvOf, tmem]
    split at h
    · rename_i he; rw [he]; exact h
    · cases h
  case b2s x =>
    simp only [touch] at h
    simp only [tvOf, tmem]
    split at h
    · rename_i he; rw [he]; exact h
    · cases h
  case call sh f args =>
    simp only [touch] at h
    simp only [tvOf]
    split at h
    · rename_i he
      rw [he]
      simp only [tmem]
      split at h
      · cases h
      · rename_i hn; simpa using hn
    · cases h
theorem disj_no {id : Nat} {a b : TV} (h : disjB a b = true) (ha : tmem id a) (hb : tmem id b) : False := by
  cases a <;> cases b <;> simp only [tmem] at ha hb <;> try exact ha.elim
  all_goals (try exact hb.elim)
  · rename_i v w
    simp only [disjB, List.all_eq_true] at h
    have := h id ha
    simp [hb] at this
  · simp only [disjB] at h; rw [hb] at h; cases h
  · simp only [disjB] at h; rw [ha] at h; cases h
  · simp only [disjB] at h; rw [ha] at h; cases h
theorem xrunOpsH_ok {u : XU} {x y : XCall} {call callP : CallF} (hx : XOK x call) (hy : XOK y callP) : ∀ (l : List (IOper × List Nat)) (i : Nat) (lg : List (Nat × TV)) (log : List (Nat × Nat)) (s : St) (K : St → Ans) (r : AV), (∀ p ∈ log, ∃ e ∈ lg, e.1 = p.1 ∧ tmem p.2 e.2) →
    xrunOpsH C0 u x y l i lg s K = some r → ∃ s', runOpsD call callP l i log s = some s' ∧ K s' = some r
  | [], i, lg, log, s, K, r, _, h => ⟨s, rfl, h⟩
  | (o, chk) :: l, i, lg, log, s, K, r, hl, h => by
    simp only [xrunOpsH] at h
    rcases xwant_ok h with ⟨hw, h⟩ | ⟨hw, h⟩
    · obtain ⟨h, hd⟩ := xdisj_ok h
      obtain ⟨v, H', h1, h2⟩ := xop_ok (hx.sel hy (isFull chk)) h
      have hok : log.all (fun p => !(chk.contains p.1) || !((touch (evO s.env) s.H o.op).contains p.2)) = true := by
        rw [List.all_eq_true]
        intro p hp
        obtain ⟨e, he, h3, h4⟩ := hl p hp
        cases hc : chk.contains p.1 with
        | false => rfl
        | true =>
          cases ht : (touch (evO s.env) s.H o.op).contains p.2 with
          | false => rfl
          | true => exact (disj_no (hd e he (by rw [h3]; exact hc)) h4 (touch_tv (by simpa using ht))).elim
      obtain ⟨s', h3, h4⟩ := xrunOpsH_ok hx hy l _ _ (log ++ (touch (evO s.env) s.H o.op).map fun id => (i, id)) _ K r (by
        intro p hp
        rcases List.mem_append.mp hp with hp | hp
        · obtain ⟨e, he, h3, h4⟩ := hl p hp
          exact ⟨e, List.mem_cons_of_mem _ he, h3, h4⟩
        · obtain ⟨id, hid, rfl⟩ := List.mem_map.mp hp
          exact ⟨_, List.mem_cons_self .., rfl, touch_tv hid⟩) h2
      refine ⟨s', ?_, h4⟩
      simp only [runOpsD, hw]
      rw [if_pos hok]
      simp only [h1, h3]
    · obtain ⟨s', h3, h4⟩ := xrunOpsH_ok hx hy l _ _ log _ K r hl h
      exact ⟨s', by simp only [runOpsD, hw, h3], h4⟩

theorem xexec_ok {x y : XCall} {call callP : CallF} (hx : XOK x call) (hy : XOK y callP) (u : XU) (fu : Nat) : ∀ (c : IC) (da : List Nat) (s : St) (K : Ex → St → Ans) (r : AV), xexec C0 u x y fu c da s K = some r → ∃ e s', exec call callP fu c s = some (e, s') ∧ K e s' = some r := by
  intro c
  induction c with
  | skip => intro da s K r h; exact ⟨_, _, rfl, h⟩
  | reg ops =>
    intro da s K r h
    obtain ⟨s', h1, h2⟩ := xrunOps_ok hx ops s _ r h
    exact ⟨.normal, s', by simp only [exec, h1], h2⟩
  | regD ops =>
    intro da s K r h
    simp only [xexec] at h
    split at h
    · obtain ⟨s', h1, h2⟩ := xrunOpsH_ok hx hy ops 0 [] [] s _ r (fun p hp => by cases hp) h
      exact ⟨.normal, s', by simp only [exec, h1], h2⟩
    · obtain ⟨s', h1, h2⟩ := xrunOpsD_ok hx hy ops 0 [] s _ r h
      exact ⟨.normal, s', by simp only [exec, h1], h2⟩
  | seq a b iha ihb =>
    intro da s K r h
    simp only [xexec] at h
    split at h
    case h_2 =>
      simp only [C0, xiter] at h
      obtain ⟨e, s1, h1, h2⟩ := iha _ s _ r (destrE_sound h)
      cases e with
      | normal =>
        simp only [xgo, if_true] at h2
        obtain ⟨e, s', h3, h4⟩ := ihb _ s1 K r (destrE_sound h2)
        exact ⟨e, s', by simp only [exec, h1, h3], h4⟩
      | exit i =>
        simp only at h2
        split at h2
        · cases h2
        · rename_i hi
          have hi := of_decide_eq_false hi
          simp only [xgo, if_neg hi] at h2
          exact ⟨_, s1, by simp only [exec, h1], destrE_sound (xgo_ok (f := fun i s1 => destrE C0 u da (daX a da i) a s s1 fun s2 => K (.exit i) s2) _ h2)⟩
      | ret =>
        have h3 := destrE_sound h2
        split at h3
        · exact ⟨_, s1, by simp only [exec, h1], h3⟩
        · cases h3
    obtain ⟨e, s1, h1, h2⟩ := iha _ s _ r h
    cases e with
    | normal =>
      obtain ⟨e, s', h3, h4⟩ := ihb _ s1 K r h2
      exact ⟨e, s', by simp only [exec, h1, h3], h4⟩
    | exit i => exact ⟨.exit i, s1, by simp only [exec, h1], h2⟩
    | ret => exact ⟨.ret, s1, by simp only [exec, h1], h2⟩
  | cond c a b iha ihb =>
    intro da s K r h
    cases c with
    | t n =>
      simp only [xexec] at h
      split at h <;> (try (cases h; done))
      rename_i t ht
      rcases cnd_some h with ⟨h0, h⟩ | ⟨h0, h⟩
      · subst h0; rw [set_same ht (by simp)] at h
        obtain ⟨e, s', h1, h2⟩ := iha _ s K r h
        exact ⟨e, s', by simp only [exec, evO, ht, cond_true, h1], h2⟩
      · subst h0; rw [set_same ht (by simp)] at h
        obtain ⟨e, s', h1, h2⟩ := ihb _ s K r h
        exact ⟨e, s', by simp only [exec, evO, ht, cond_false, h1], h2⟩
    | v c =>
      simp only [xexec] at h
      split at h <;> (try (cases h; done))
      rename_i t
      rcases cnd_some h with ⟨h0, h⟩ | ⟨h0, h⟩
      · subst h0
        obtain ⟨e, s', h1, h2⟩ := iha _ s K r h
        exact ⟨e, s', by simp only [exec, evO, cond_true, h1], h2⟩
      · subst h0
        obtain ⟨e, s', h1, h2⟩ := ihb _ s K r h
        exact ⟨e, s', by simp only [exec, evO, cond_false, h1], h2⟩
  | block id a iha =>
    intro da s K r h
    obtain ⟨e, s1, h1, h2⟩ := iha _ s _ r h
    cases e with
    | normal => exact ⟨.normal, s1, by simp only [exec, h1], h2⟩
    | ret => exact ⟨.ret, s1, by simp only [exec, h1], h2⟩
    | exit i =>
      simp only at h2
      split at h2
      · rename_i hi
        have hi := of_decide_eq_true hi
        exact ⟨.normal, s1, by simp only [exec, h1, hi, if_true], h2⟩
      · rename_i hi
        have hi := of_decide_eq_false hi
        exact ⟨.exit i, s1, by simp only [exec, h1, hi, if_false], h2⟩
  | loop a iha =>
    intro da s K r h
    have key2 : ∀ (n : Nat) (s0 : St) (K' : Ex → St → Ans), xiter (fun s1 Kn => xexec C0 u x y fu a da s1 Kn) n s0 K' = some r → ∃ e s', iter (exec call callP fu a) n s0 = some (e, s') ∧ K' e s' = some r := by
      intro n
      induction n with
      | zero => intro s0 K' h; simp [xiter] at h
      | succ n ih =>
        intro s0 K' h
        simp only [xiter] at h
        obtain ⟨e, s1, h1, h2⟩ := iha _ s0 _ r h
        cases e with
        | normal =>
          obtain ⟨e, s', h3, h4⟩ := ih s1 K' h2
          exact ⟨e, s', by simp only [iter, h1, h3], h4⟩
        | exit i => exact ⟨.exit i, s1, by simp only [iter, h1], h2⟩
        | ret => exact ⟨.ret, s1, by simp only [iter, h1], h2⟩
    have key : ∀ (n : Nat) (s0 : St) (K' : Ex → St → Ans), xiter (fun s1 Kn => destrE C0 u da [] a s s1 fun s2 => xexec C0 u x y fu a da s2 Kn) n s0 K' = some r → ∃ e s', iter (exec call callP fu a) n s0 = some (e, s') ∧ K' e s' = some r := by
      intro n
      induction n with
      | zero => intro s0 K' h; simp [xiter] at h
      | succ n ih =>
        intro s0 K' h
        simp only [xiter] at h
        obtain ⟨e, s1, h1, h2⟩ := iha _ s0 _ r (destrE_sound h)
        cases e with
        | normal =>
          obtain ⟨e, s', h3, h4⟩ := ih s1 K' h2
          exact ⟨e, s', by simp only [iter, h1, h3], h4⟩
        | exit i => exact ⟨.exit i, s1, by simp only [iter, h1], h2⟩
        | ret => exact ⟨.ret, s1, by simp only [iter, h1], h2⟩
    simp only [xexec] at h
    cases hun : u.un with
    | true => rw [hun] at h; exact key2 fu s K h
    | false =>
      rw [hun] at h
      obtain ⟨e, s', h1, h2⟩ := key fu s _ h
      cases e with
      | normal => cases h2
      | exit i => exact ⟨_, s', h1, destrE_sound (xgo_ok (f := fun i s1 => destrE C0 u da (daX a da i) a s s1 fun s2 => K (.exit i) s2) _ h2)⟩
      | ret => exact ⟨_, s', h1, destrE_sound h2⟩
  | exit id => intro da s K r h; exact ⟨_, _, rfl, h⟩
  | ret => intro da s K r h; exact ⟨_, _, rfl, h⟩

theorem xresAll_ok {s : St} : ∀ {l : List RV} {K : List AV → Ans} {r : AV}, xresAll C0 s l K = some r → ∃ vs, resAll s l = some vs ∧ K vs = some r
  | [], K, r, h => ⟨[], rfl, h⟩
  | .tmp t :: l, K, r, h => by
    obtain ⟨vs, h1, h2⟩ := xresAll_ok (l := l) h
    exact ⟨_, by simp only [resAll, resOf, h1], h2⟩
  | .cell ag n t :: l, K, r, h => by
    have h : (match (match aLoad s.H ag n (s.env.getD t .undef) with
        | some v => some (v, s.H)
        | none => none : Option (AV × Heap)) with
      | some (v, _) => xresAll C0 s l fun vs => K (v :: vs)
      | none => none) = some r := h
    cases ha : aLoad s.H ag n (s.env.getD t .undef) with
    | none => rw [ha] at h; cases h
    | some v =>
      rw [ha] at h
      obtain ⟨vs, h1, h2⟩ := xresAll_ok (l := l) h
      exact ⟨_, by simp only [resAll, resOf, ha, h1], h2⟩

theorem xrunFn_ok {un : XU} {x y : XCall} {call callP : CallF} (hx : XOK x call) (hy : XOK y callP) {fu : Nat} {fn : AFn} {args : List AV} {H : Heap} {K : AV → Heap → Ans} {r : AV} (h : xrunFn C0 un x y fu fn args H K = some r) :
    ∃ v H', runFn call callP fu fn args H = some (v, H') ∧ K v H' = some r := by
  unfold xrunFn at h
  obtain ⟨e, s', h1, h2⟩ := xexec_ok hx hy un fu _ _ _ _ r h
  unfold runFn
  rw [h1]
  cases e with
  | exit i => cases h2
  | normal =>
    simp only at h2 ⊢
    cases hm : un.hm <;> simp only [hm] at h2
    · cases hr : resAll s' fn.results with
      | none => simp [hr] at h2
      | some vs => simp only [hr] at h2; exact ⟨_, _, rfl, h2⟩
    · obtain ⟨vs, h3, h4⟩ := xresAll_ok h2
      simp only [h3]; exact ⟨_, _, rfl, h4⟩
  | ret =>
    simp only at h2 ⊢
    cases hm : un.hm <;> simp only [hm] at h2
    · cases hr : resAll s' fn.results with
      | none => simp [hr] at h2
      | some vs => simp only [hr] at h2; exact ⟨_, _, rfl, h2⟩
    · obtain ⟨vs, h3, h4⟩ := xresAll_ok h2
      simp only [h3]; exact ⟨_, _, rfl, h4⟩

theorem xempty_ok {M : Mod} {pc : PC} {g : FuncId} {args : List AV} {H : Heap} {K : AV → Heap → Ans} {rest : Ans} {r : AV} (h : xempty C0 M pc g args H K rest = some r) :
    (∃ v, emptyR M pc g args = some v ∧ K v H = some r) ∨ (emptyR M pc g args = none ∧ rest = some r) := by
  unfold xempty at h
  unfold emptyR
  cases hc : M.cl g with
  | false => simp only [hc] at h; exact .inr ⟨rfl, h⟩
  | true =>
    simp only [hc] at h
    match args, h with
    | [], h => exact .inr ⟨rfl, h⟩
    | [x], h =>
      simp only [C0] at h
      obtain ⟨b, hb, h⟩ := Option.bind_eq_some_iff.mp h
      have hx : clr x = some (.bool b) := by
        unfold isBool at hb
        split at hb <;> (try (cases hb; done))
        cases hb; assumption
      simp only [hx]
      cases b with
      | false => exact .inr ⟨rfl, h⟩
      | true =>
        simp only [cnd] at h
        split at h
        · rename_i he
          exact .inl ⟨_, he, h⟩
        · cases h
    | _ :: _ :: _, h => exact .inr ⟨rfl, h⟩

theorem xcallZ_ok (M : Mod) (pc : PC) : XOK (xcallZ C0 M pc) (callZ M pc) := by
  intro sn sh g args H K r h
  unfold xcallZ at h
  unfold callZ
  cases he : M.ext g with
  | some e =>
    simp only [he, xext] at h
    obtain ⟨v, h1, h2⟩ := destr_sound _ _ _ _ h
    exact ⟨v, H, by simp [extCall, h1], h2⟩
  | none =>
    simp only [he] at h
    cases hi : M.inl g <;> simp only [hi] at h
    · obtain ⟨v, H', h1, h2⟩ := xpure_ok pc _ _ _ _ _ _ _ h
      exact ⟨v, H', by simp [h1], h2⟩
    · rcases xempty_ok h with ⟨v, h1, h2⟩ | ⟨h1, h⟩
      · exact ⟨v, H, by simp [h1], h2⟩
      · obtain ⟨v, H', h2, h3⟩ := xpure_ok pc _ _ _ _ _ _ _ h
        exact ⟨v, H', by simp [h1, h2], h3⟩

theorem xfresh_ok {un : XU} {x y : XCall} {call callP : CallF} (hx : XOK x call) (hy : XOK y callP) {fu : Nat} {fn : AFn} {args : List AV} {H : Heap} {K : AV → Heap → Ans} {r : AV} (h : xfresh C0 un x y fu fn args H K = some r) :
    ∃ v H', freshRun (runFn call callP fu fn) args H = some (v, H') ∧ K v H' = some r := by
  unfold xfresh at h
  obtain ⟨v, H1, h1, h2⟩ := xrunFn_ok hx hy h
  unfold freshRun
  rw [h1]
  simp only
  cases hp : padOk H.length H1 with
  | false => simp [hp] at h2
  | true => simp only [hp] at h2 ⊢; exact ⟨_, _, rfl, h2⟩

theorem xcallB_ok (M : Mod) (U : FuncId → XU) (pc : PC) : ∀ n b, XOK (xcallB C0 M U pc n b) (callB M pc n b)
  | 0, _ => xcallZ_ok M pc
  | n + 1, b => by
    intro sn sh g args H K r h
    simp only [xcallB] at h
    cases he : M.ext g with
    | some e =>
      simp only [he, xext] at h
      obtain ⟨v, h1, h2⟩ := destr_sound _ _ _ _ h
      exact ⟨v, H, by simp [callB, he, extCall, h1], h2⟩
    | none =>
      simp only [he] at h
      cases hi : M.inl g <;> simp only [hi] at h
      · obtain ⟨v, H', h1, h2⟩ := xpure_ok pc _ _ _ _ _ _ _ h
        exact ⟨v, H', by simp [callB, he, hi, h1], h2⟩
      · split at h
        · change (match callB M pc (n + 1) b g args H with
            | some (v, H') => destr C0 sh (some v) fun v' => K v' H'
            | none => none) = some r at h
          cases hc : callB M pc (n + 1) b g args H with
          | none => rw [hc] at h; cases h
          | some p =>
            rw [hc] at h
            obtain ⟨v', h1, h2⟩ := destr_sound _ _ _ _ h
            cases h1
            exact ⟨p.1, p.2, rfl, h2⟩
        · rcases xempty_ok h with ⟨v, hv, h2⟩ | ⟨hn, h⟩
          · exact ⟨v, H, by simp [callB, he, hi, hv], h2⟩
          · cases b with
            | true =>
              cases hc : M.code g with
              | none => simp [hc] at h
              | some fn =>
                simp only [hc] at h
                obtain ⟨v, H', h1, h2⟩ := xrunFn_ok (xcallB_ok M U pc n true) (xcallB_ok M U pc n false) h
                exact ⟨v, H', by simp [callB, he, hi, hn, hc, h1], h2⟩
            | false =>
              simp only at h
              cases hf : (M.fr g && args.all (noId DEPTH)) with
              | false =>
                simp only [hf] at h
                obtain ⟨v, H', h1, h2⟩ := xpure_ok pc _ _ _ _ _ _ _ h
                exact ⟨v, H', by simp only [callB, he, hi, hn, hf, h1]; rfl, h2⟩
              | true =>
                simp only [hf] at h
                cases hc : M.code g with
                | none => simp [hc] at h
                | some fn =>
                  simp only [hc] at h
                  obtain ⟨v, H', h1, h2⟩ := xfresh_ok (xcallB_ok M U pc n true) (xcallB_ok M U pc n false) h
                  exact ⟨v, H', by simp only [callB, he, hi, hn, hf, hc, h1]; rfl, h2⟩

/-- WHAT IS TOLD FORWARDS HOLDS. -/
theorem xcall_ok {M : Mod} {U : FuncId → XU} {d : Nat} {g : FuncId} {args : List AV} {r : AV} (h : xcall C0 M U d g args = some r) : pcall M (d + 1) g args = some r := by
  unfold xcall at h
  simp only [pcall]
  cases hc : M.code g with
  | none => simp [hc] at h
  | some fn =>
    simp only [hc] at h
    obtain ⟨v, H', h1, h2⟩ := xrunFn_ok (xcallB_ok M U (pcall M d) IDEPTH true) (xcallB_ok M U (pcall M d) IDEPTH false) h
    simp only [h1]
    split at h2
    · exact h2
    · exact h2
/-- Of a call in the caller's own memory. -/
theorem xmeth_ok {M : Mod} {U : FuncId → XU} {d n : Nat} {g : FuncId} {args : List AV} {H H' : Heap} {v : AV} (he : M.ext g = none) (hi : M.inl g = true) (hn : M.cl g = false) (h : ∀ K, xmeth C0 M U d n g args H K = K v H') : callB M (pcall M d) (n + 1) true g args H = some (v, H') := by
  classical
  have hk := h fun v' H1 => if v' = v ∧ H1 = H' then some .undef else none
  rw [if_pos ⟨rfl, rfl⟩] at hk
  unfold xmeth at hk
  have hem : emptyR M (pcall M d) g args = none := by simp [emptyR, hn]
  simp only [callB, he, hi, hem, if_true]
  cases hc : M.code g with
  | none => simp [hc] at hk
  | some fn =>
    simp only [hc] at hk ⊢
    obtain ⟨v', H1, h1, h2⟩ := xrunFn_ok (xcallB_ok M U (pcall M d) n true) (xcallB_ok M U (pcall M d) n false) hk
    split at h2
    · rename_i hh
      obtain ⟨rfl, rfl⟩ := hh
      exact h1
    · cases h2
end Go.Proofs.Ytoceckjagfhfmaa.AE

namespace Go.Proofs.Ytoceckjagfhfmaa.AE
set_option linter.unusedVariables false
set_option linter.unusedSimpArgs false
set_option linter.constructorNameAsVariable false
open Go Go.RowKit
set_option maxRecDepth 100000
def codes : FuncId → Option AFn
  | 3 => some c3
  | 4 => some c4
  | 5 => some c5
  | 7 => some c7
  | 8 => some c8
  | 9 => some c9
  | 10 => some c10
  | 11 => some c11
  | 12 => some c12
  | 13 => some c13
  | 14 => some c14
  | 15 => some c15
  | 16 => some c16
  | 17 => some c17
  | 18 => some c18
  | 19 => some c19
  | 20 => some c20
  | 21 => some c21
  | 22 => some c22
  | 23 => some c23
  | 24 => some c24
  | 25 => some c25
  | 26 => some c26
  | 27 => some c27
  | 28 => some c28
  | 29 => some c29
  | 30 => some c30
  | 31 => some c31
  | 32 => some c32
  | 33 => some c33
  | 34 => some c34
  | 35 => some c35
  | 36 => some c36
  | 37 => some c37
  | 38 => some c38
  | 39 => some c39
  | 40 => some c40
  | 41 => some c41
  | _ => none
def exts : FuncId → Option (List AV → Option AV)
  | _ => none
def frF (g : FuncId) : Bool := [27].contains g
def M : Mod := { code := codes, inl := inlF, ext := exts, fu := 1000000000000000000, fr := frF }
def hm38 : List (Nat × Sh) := [(0, .s), (2, (.i .u32)), (3, (.i .u32)), (6, .s), (7, .any), (8, (.i .i64)), (9, (.i .i64)), (12, (.i .u8)), (5, (.i .u8)), (13, (.i .u32)), (14, (.i .u8)), (15, (.i .u32)), (16, (.i .u32)), (17, (.i .u32)), (3, (.i .u32)), (18, (.i .i64)), (9, (.i .i64)), (19, (.i .u32)), (20, (.i .u32)), (2, (.i .u32))]
def hm29 : List (Nat × Sh) := [(0, .s), (2, (.i .u32)), (3, (.i .u32)), (6, .s), (7, .s), (8, .any), (9, (.i .i64)), (10, (.i .i64)), (13, (.i .u8)), (5, (.i .u8)), (14, (.i .u32)), (15, (.i .u32)), (16, (.i .u8)), (17, (.i .u32)), (18, (.i .u32)), (3, (.i .u32)), (19, (.i .i64)), (10, (.i .i64)), (20, (.i .u32)), (2, (.i .u32))]
def unr : FuncId → XU
  | 3 => ⟨false, false, h3, false, false⟩
  | 4 => ⟨false, false, h4, false, false⟩
  | 5 => ⟨false, false, h5, false, false⟩
  | 7 => ⟨true, false, h7, false, false⟩
  | 8 => ⟨false, false, h8, false, false⟩
  | 9 => ⟨false, false, h9, false, false⟩
  | 10 => ⟨false, false, h10, false, false⟩
  | 11 => ⟨false, false, h11, false, false⟩
  | 12 => ⟨false, false, h12, false, false⟩
  | 13 => ⟨false, false, h13, false, false⟩
  | 14 => ⟨false, false, h14, false, false⟩
  | 15 => ⟨false, false, h15, false, false⟩
  | 16 => ⟨false, false, h16, false, false⟩
  | 17 => ⟨false, false, h17, false, false⟩
  | 18 => ⟨false, false, h18, false, false⟩
  | 19 => ⟨false, false, h19, false, false⟩
  | 20 => ⟨false, false, h20, false, false⟩
  | 21 => ⟨false, false, h21, false, false⟩
  | 22 => ⟨false, false, h22, false, false⟩
  | 23 => ⟨false, false, h23, false, false⟩
  | 24 => ⟨false, false, h24, false, false⟩
  | 25 => ⟨false, false, h25, false, false⟩
  | 26 => ⟨false, false, h26, false, false⟩
  | 27 => ⟨false, false, h27, false, false⟩
  | 28 => ⟨false, false, h28, false, false⟩
  | 29 => ⟨false, true, hm29, false, false⟩
  | 30 => ⟨false, false, h30, false, false⟩
  | 31 => ⟨false, false, h31, false, false⟩
  | 32 => ⟨false, false, h32, false, false⟩
  | 33 => ⟨false, false, h33, false, false⟩
  | 34 => ⟨true, false, h34, false, false⟩
  | 35 => ⟨false, false, h35, false, false⟩
  | 36 => ⟨false, false, h36, false, false⟩
  | 37 => ⟨false, false, h37, false, false⟩
  | 38 => ⟨false, true, hm38, false, false⟩
  | 39 => ⟨false, false, h39, false, false⟩
  | 40 => ⟨false, false, h40, false, false⟩
  | 41 => ⟨false, false, h41, false, false⟩
  | _ => ⟨false, false, [], false, false⟩
theorem modOK : ModOK Try.prog M := by
  constructor
  · intro g fn h
    change codes g = some fn at h
    unfold codes at h
    split at h <;> (try (cases h; done))
    · cases h; exact fnOK_of c3_ok
    · cases h; exact fnOK_of c4_ok
    · cases h; exact fnOK_of c5_ok
    · cases h; exact fnOK_of c7_ok
    · cases h; exact fnOK_of c8_ok
    · cases h; exact fnOK_of c9_ok
    · cases h; exact fnOK_of c10_ok
    · cases h; exact fnOK_of c11_ok
    · cases h; exact fnOK_of c12_ok
    · cases h; exact fnOK_of c13_ok
    · cases h; exact fnOK_of c14_ok
    · cases h; exact fnOK_of c15_ok
    · cases h; exact fnOK_of c16_ok
    · cases h; exact fnOK_of c17_ok
    · cases h; exact fnOK_of c18_ok
    · cases h; exact fnOK_of c19_ok
    · cases h; exact fnOK_of c20_ok
    · cases h; exact fnOK_of c21_ok
    · cases h; exact fnOK_of c22_ok
    · cases h; exact fnOK_of c23_ok
    · cases h; exact fnOK_of c24_ok
    · cases h; exact fnOK_of c25_ok
    · cases h; exact fnOK_of c26_ok
    · cases h; exact fnOK_of c27_ok
    · cases h; exact fnOK_of c28_ok
    · cases h; exact fnOK_of c29_ok
    · cases h; exact fnOK_of c30_ok
    · cases h; exact fnOK_of c31_ok
    · cases h; exact fnOK_of c32_ok
    · cases h; exact fnOK_of c33_ok
    · cases h; exact fnOK_of c34_ok
    · cases h; exact fnOK_of c35_ok
    · cases h; exact fnOK_of c36_ok
    · cases h; exact fnOK_of c37_ok
    · cases h; exact fnOK_of c38_ok
    · cases h; exact fnOK_of c39_ok
    · cases h; exact fnOK_of c40_ok
    · cases h; exact fnOK_of c41_ok
  · intro g e h
    change exts g = some e at h
    unfold exts at h
    split at h <;> (try (cases h; done))
end Go.Proofs.Ytoceckjagfhfmaa.AE

namespace Go.Proofs.Ytoceckjagfhfmaa.AE
set_option linter.unusedVariables false
set_option linter.unusedSimpArgs false
set_option linter.constructorNameAsVariable false
open Go

theorem C0_int (k : IntKind) (n : Int) (K : Int → Ans) : C0.int k (some (.int k n)) K = K n := by simp [C0, isInt]
theorem C0_bool (b : Bool) (K : Bool → Ans) : C0.bool (some (.bool b)) K = K b := by simp [C0, isBool]
theorem C0_str (b : List UInt8) (K : List UInt8 → Ans) : C0.str (some (.str b)) K = K b := by simp [C0, isStr]
theorem C0_lst (l : List AV) (K : List AV → Ans) (Z : Bool → Ans) : C0.lst (some (.lst l)) K Z = K l := rfl
theorem C0_lstz (b : Bool) (K : List AV → Ans) (Z : Bool → Ans) : C0.lst (some (.zsl b)) K Z = Z b := rfl
theorem C0_agg (n : Nat) (l : List AV) (h : l.length = n) (K : List AV → Ans) : C0.agg n (some (.agg l)) K = K l := by simp [C0, isAgg, h]
theorem C0_tup (n : Nat) (l : List AV) (h : l.length = n) (K : List AV → Ans) : C0.tup n (some (.tup l)) K = K l := by simp [C0, isTup, h]
theorem C0_agg2 (a b : AV) (K : List AV → Ans) : C0.agg 2 (some (.agg [a, b])) K = K [a, b] := C0_agg 2 _ rfl K
theorem C0_tup2 (a b : AV) (K : List AV → Ans) : C0.tup 2 (some (.tup [a, b])) K = K [a, b] := C0_tup 2 _ rfl K
theorem C0_any (v : AV) (K : AV → Ans) : C0.any (some v) K = K v := by simp [C0]
theorem C0_same (v : AV) (K : Ans) : C0.same (some v) v K = K := by simp [C0]
theorem C0_sameH (H : Heap) (K : Ans) : C0.sameH H H K = K := by simp [C0]
theorem cnd_t (a b : Ans) : cnd true a b = a := rfl
theorem cnd_f (a b : Ans) : cnd false a b = b := rfl
theorem pl_len {t : Bool} {a b : Ans} (h : t = true) : cnd t a b = a := by subst h; rfl
theorem pl_f {t : Bool} {a b : Ans} (h : t = false) : cnd t a b = b := by subst h; rfl
theorem pl_same {o : Option AV} {v : AV} {K : Ans} (h : o = some v) : C0.same o v K = K := by subst h; simp [C0]
theorem pl_sameH {H : Heap} {K : Ans} : C0.sameH H H K = K := by simp [C0]
theorem pl_int {k : IntKind} {o : Option AV} {n : Int} {K : Int → Ans} (h : o = some (.int k n)) : C0.int k o K = K n := by subst h; simp [C0, isInt]
theorem pl_bool {o : Option AV} {n : Bool} {K : Bool → Ans} (h : o = some (.bool n)) : C0.bool o K = K n := by subst h; simp [C0, isBool]
theorem pl_str {o : Option AV} {n : List UInt8} {K : List UInt8 → Ans} (h : o = some (.str n)) : C0.str o K = K n := by subst h; simp [C0, isStr]
theorem pl_any {o : Option AV} {v : AV} {K : AV → Ans} (h : o = some v) : C0.any o K = K v := by subst h; simp [C0]
theorem pl_agg {n : Nat} {o : Option AV} {l : List AV} {K : List AV → Ans} (h : o = some (.agg l)) (h2 : l.length = n) : C0.agg n o K = K l := by subst h; simp [C0, isAgg, h2]
theorem pl_tup {n : Nat} {o : Option AV} {l : List AV} {K : List AV → Ans} (h : o = some (.tup l)) (h2 : l.length = n) : C0.tup n o K = K l := by subst h; simp [C0, isTup, h2]
theorem pl_lst {o : Option AV} {l : List AV} {K : List AV → Ans} {Z : Bool → Ans} (h : o = some (.lst l)) : C0.lst o K Z = K l := by subst h; rfl
/-- What comes behind a round; what comes behind a loop. -/
def kIter (R : St → (Ex → St → Ans) → Ans) (n : Nat) (K : Ex → St → Ans) : Ex → St → Ans := fun e s' => match e with
  | .normal => xiter R n s' K
  | .exit i => K (.exit i) s'
  | .ret => K .ret s'
def kOut (ids : List Nat) (ks : List (St → Ans)) (kr : St → Ans) : Ex → St → Ans := fun e s' => match e with
  | .ret => kr s'
  | .exit i => xgo i ids ks s'
  | .normal => none
theorem kIter_n (R : St → (Ex → St → Ans) → Ans) (n : Nat) (K : Ex → St → Ans) (s : St) : kIter R n K .normal s = xiter R n s K := rfl
theorem kIter_x (R : St → (Ex → St → Ans) → Ans) (n : Nat) (K : Ex → St → Ans) (i : Nat) (s : St) : kIter R n K (.exit i) s = K (.exit i) s := rfl
theorem kIter_r (R : St → (Ex → St → Ans) → Ans) (n : Nat) (K : Ex → St → Ans) (s : St) : kIter R n K .ret s = K .ret s := rfl
theorem kOut_x (ids : List Nat) (ks : List (St → Ans)) (kr : St → Ans) (i : Nat) (s : St) : kOut ids ks kr (.exit i) s = xgo i ids ks s := rfl
theorem kOut_r (ids : List Nat) (ks : List (St → Ans)) (kr : St → Ans) (s : St) : kOut ids ks kr .ret s = kr s := rfl
theorem it_ret (R : St → (Ex → St → Ans) → Ans) (n : Nat) (s : St) (ids : List Nat) (ks : List (St → Ans)) (kr : St → Ans) : C0.iter R n s ids ks kr = xiter R n s (kOut ids ks kr) := rfl
theorem xiter_s (R : St → (Ex → St → Ans) → Ans) (n : Nat) (s : St) (K : Ex → St → Ans) : xiter R (n + 1) s K = R s (kIter R n K) := rfl
theorem xgo_hit (i : Nat) (ids : List Nat) (k : St → Ans) (ks : List (St → Ans)) (s : St) : xgo i (i :: ids) (k :: ks) s = k s := by simp [xgo]
theorem xgo_miss {i j : Nat} (ids : List Nat) (k : St → Ans) (ks : List (St → Ans)) (s : St) (h : (i == j) = false) : xgo i (j :: ids) (k :: ks) s = xgo i ids ks s := by
  simp only [xgo]; rw [if_neg]; intro he; subst he; simp at h
theorem C0_hop (H : Heap) (io : IOp) (K : AV → Heap → Ans) : C0.hop H io K = match aop noCall (evO []) H io with
    | some (v, H') => K v H'
    | none => none := rfl
theorem hop_eq {H H' : Heap} {io : IOp} {v : AV} {K : AV → Heap → Ans} (h : aop noCall (evO []) H io = some (v, H')) : C0.hop H io K = K v H' := by rw [C0_hop, h]
theorem cal_eq {M : Mod} {pc : FuncId → List AV → Option AV} {n : Nat} {b : Bool} {g : FuncId} {args : List AV} {H H' : Heap} {v : AV} {K : AV → Heap → Ans} (h : callB M pc n b g args H = some (v, H')) : C0.cal M pc n b g args H K = K v H' := by
  change (match callB M pc n b g args H with
    | some (v, H') => K v H'
    | none => none) = _
  rw [h]
theorem C0_fin (H : Heap) (v : AV) : C0.fin H v = some (snap 12 H v) := rfl
theorem C0_disj {a b : TV} {K : Ans} (h : disjB a b = true) : C0.disj a b K = K := by simp only [C0, h]
theorem snp_free {H : Heap} {args : List AV} {K : List AV → Bool → Ans} (h : args.all (noId DEPTH) = true) : C0.snp H args K = K args true := by simp [C0, h]
theorem snp_id {H : Heap} {args : List AV} {K : List AV → Bool → Ans} (h : args.all (noId DEPTH) = false) : C0.snp H args K = K (args.map (snap DEPTH H)) false := by simp [C0, h]
theorem at0 (a : AV) (l : List AV) : (a :: l)[0]? = some a := rfl
theorem at1 (a b : AV) (l : List AV) : (a :: b :: l)[1]? = some b := rfl
theorem at2 (a b c : AV) (l : List AV) : (a :: b :: c :: l)[2]? = some c := rfl
theorem at3 (a b c d : AV) (l : List AV) : (a :: b :: c :: d :: l)[3]? = some d := rfl
theorem at4 (a b c d e : AV) (l : List AV) : (a :: b :: c :: d :: e :: l)[4]? = some e := rfl
theorem at5 (a b c d e f : AV) (l : List AV) : (a :: b :: c :: d :: e :: f :: l)[5]? = some f := rfl
theorem at6 (a b c d e f g : AV) (l : List AV) : (a :: b :: c :: d :: e :: f :: g :: l)[6]? = some g := rfl
theorem at7 (a b c d e f g h : AV) (l : List AV) : (a :: b :: c :: d :: e :: f :: g :: h :: l)[7]? = some h := rfl
/-- From what is told forwards. -/
theorem told {d g : Nat} {args : List AV} {r : AV} {t : Ans} (h : xcall C0 M unr d g args = t) (h2 : t = some r) : pcall M (d + 1) g args = some r := xcall_ok (h.trans h2)
theorem up {k d : Nat} {p : Nat → Prop} (h : ∀ d, p (d + k)) (hd : k ≤ d) : p d := by
  have := h (d - k)
  rwa [Nat.sub_add_cancel hd] at this
theorem yt {a b c : Ans} (h : a = b) (k : b = c) : a = c := h.trans k
theorem yS {o : Option AV} {v : AV} {K : Ans} (h : o = some v := by rfl) : C0.same o v K = K := pl_same h
theorem yA {o : Option AV} {v : AV} {K : AV → Ans} (h : o = some v := by rfl) : C0.any o K = K v := pl_any h
theorem yI {k : IntKind} {o : Option AV} {n : Int} {K : Int → Ans} (h : o = some (.int k n) := by rfl) : C0.int k o K = K n := pl_int h
theorem yB {o : Option AV} {n : Bool} {K : Bool → Ans} (h : o = some (.bool n) := by rfl) : C0.bool o K = K n := pl_bool h
theorem yG {n : Nat} {o : Option AV} {l : List AV} {K : List AV → Ans} (h : o = some (.agg l) := by rfl) (h2 : l.length = n := by rfl) : C0.agg n o K = K l := pl_agg h h2
theorem yT {n : Nat} {o : Option AV} {l : List AV} {K : List AV → Ans} (h : o = some (.tup l) := by rfl) (h2 : l.length = n := by rfl) : C0.tup n o K = K l := pl_tup h h2
end Go.Proofs.Ytoceckjagfhfmaa.AE

namespace Go.Proofs.Ytoceckjagfhfmaa.AE
set_option linter.unusedVariables false
set_option linter.unusedSimpArgs false
set_option linter.constructorNameAsVariable false
open Go
/-- An element's place, a look at it, and a store. -/
theorem ix_slc {H : Heap} {id o n es : Nat} {b : Blk} {q : Int} {K : AV → Heap → Ans} (h : hget H id = some b) (h0 : 0 ≤ q) (h1 : q < n) (he : b.e.es = es) :
    C0.hop H (.ixAS .any es (.v (.slc id o n)) (.v (.int .i64 q))) K = K (.ptr id (o + q.toNat) 0) H := hop_eq (by simp [aop, evO, aInt, aIx, h, h0, h1, he])
theorem ld_ptr {H : Heap} {id i j n : Nat} {ag : Bool} {b : Blk} {el v : AV} {K : AV → Heap → Ans} (h : hget H id = some b) (hi : b.els[i]? = some el) (hs : sub ag n j el = some v) :
    C0.hop H (.load ag n (.v (.ptr id i j))) K = K v H := hop_eq (by simp [aop, evO, aLoad, h, hi, hs])
theorem ld_fptr {H : Heap} {x v : AV} {j n : Nat} {ag : Bool} {K : AV → Heap → Ans} (hs : sub ag n j x = some v) :
    C0.hop H (.load ag n (.v (.fptr x j))) K = K v H := hop_eq (by simp [aop, evO, aLoad, hs])
theorem st_ptr {H : Heap} {id i j n : Nat} {b : Blk} {el el' x : AV} {K : AV → Heap → Ans} (h : hget H id = some b) (hi : b.els[i]? = some el) (hs : putSub n j x el = some el') :
    C0.hop H (.store n (.v (.ptr id i j)) (.v x)) K = K .undef (H.set id (some { b with els := b.els.set i el' })) := hop_eq (by simp [aop, evO, aStore, h, hi, hs])
theorem sh_ptr {H : Heap} {id i j d : Nat} {K : AV → Heap → Ans} : C0.hop H (.fldA d (.v (.ptr id i j))) K = K (.ptr id i (j + d)) H := hop_eq rfl
theorem sh_fptr {H : Heap} {x : AV} {j d : Nat} {K : AV → Heap → Ans} : C0.hop H (.fldA d (.v (.fptr x j))) K = K (.fptr x (j + d)) H := hop_eq rfl
theorem len_lst {H : Heap} {l : List AV} {K : AV → Heap → Ans} : C0.hop H (.bk .lenV [.v (.lst l)]) K = K (.int .i64 l.length) H := hop_eq rfl
theorem len_zsl {H : Heap} {b : Bool} {K : AV → Heap → Ans} : C0.hop H (.bk .lenV [.v (.zsl b)]) K = K (.int .i64 0) H := hop_eq rfl
theorem nil_ptr {H : Heap} {id i j : Nat} {K : AV → Heap → Ans} : C0.hop H (.nilck (.v (.ptr id i j))) K = K (.ptr id i j) H := hop_eq rfl
end Go.Proofs.Ytoceckjagfhfmaa.AE

namespace Go.Proofs.Ytoceckjagfhfmaa.AE
set_option linter.unusedVariables false
set_option linter.unusedSimpArgs false
set_option linter.constructorNameAsVariable false
open Go
theorem hg_z {Z X : Heap} {k : Nat} {b : Blk} (h : Z[k]? = some (some b)) : hget (Z ++ X) k = some b := by
  unfold hget
  have hk : k < Z.length := by
    rcases Nat.lt_or_ge k Z.length with h1 | h1
    · exact h1
    · rw [List.getElem?_eq_none h1] at h; cases h
  rw [List.getElem?_append_left hk, h]
theorem set_z {Z X : Heap} {k : Nat} {b : Blk} {x : Option Blk} (h : Z[k]? = some (some b)) : (Z ++ X).set k x = Z.set k x ++ X := by
  have hk : k < Z.length := by
    rcases Nat.lt_or_ge k Z.length with h1 | h1
    · exact h1
    · rw [List.getElem?_eq_none h1] at h; cases h
  rw [List.set_append_left _ _ hk]
theorem hg_o {Z G S : Heap} {z k : Nat} {b : Blk} (hz : Z.length = z) (h : S[k]? = some (some b)) : hget (Z ++ (G ++ S)) (z + (G.length + k)) = some b := by
  subst hz
  unfold hget
  rw [List.getElem?_append_right (by omega), show Z.length + (G.length + k) - Z.length = G.length + k by omega, List.getElem?_append_right (by omega), show G.length + k - G.length = k by omega, h]
theorem set_o {Z G S : Heap} {z k : Nat} {x : Option Blk} (hz : Z.length = z) : (Z ++ (G ++ S)).set (z + (G.length + k)) x = Z ++ (G ++ S.set k x) := by
  subst hz
  rw [List.set_append_right _ _ (by omega), show Z.length + (G.length + k) - Z.length = G.length + k by omega, List.set_append_right _ _ (by omega), show G.length + k - G.length = k by omega]
theorem al_o {Z G S : Heap} {z s : Nat} {e : ETy} {K : AV → Heap → Ans} (hz : Z.length = z) (hs : S.length = s) : C0.hop (Z ++ (G ++ S)) (.alloc e) K = K (.ptr (z + (G.length + s)) 0 0) (Z ++ (G ++ (S ++ [some ⟨e, [e.zero]⟩]))) := by
  subst hz hs
  refine (hop_eq rfl).trans ?_
  simp only [evO, List.length_append, List.append_assoc]
theorem bx_o {Z G S : Heap} {z s : Nat} {e : ETy} {x : AV} {K : AV → Heap → Ans} (hz : Z.length = z) (hs : S.length = s) (h : elOk e x = true) : C0.hop (Z ++ (G ++ S)) (.box e (.v x)) K = K (.ptr (z + (G.length + s)) 0 0) (Z ++ (G ++ (S ++ [some ⟨e, [x]⟩]))) := by
  subst hz hs
  refine (hop_eq (v := .ptr (Z ++ (G ++ S)).length 0 0) (H' := (Z ++ (G ++ S)) ++ [some ⟨e, [x]⟩]) (by simp [aop, evO, h])).trans ?_
  simp only [List.length_append, List.append_assoc]
theorem ld_z {Z X : Heap} {k i j n : Nat} {ag : Bool} {b : Blk} {el v : AV} {K : AV → Heap → Ans} (h : Z[k]? = some (some b)) (hi : b.els[i]? = some el) (hs : sub ag n j el = some v) :
    C0.hop (Z ++ X) (.load ag n (.v (.ptr k i j))) K = K v (Z ++ X) := ld_ptr (hg_z h) hi hs
theorem ld_o {Z G S : Heap} {z k i j n : Nat} {ag : Bool} {b : Blk} {el v : AV} {K : AV → Heap → Ans} (hz : Z.length = z) (h : S[k]? = some (some b)) (hi : b.els[i]? = some el) (hs : sub ag n j el = some v) :
    C0.hop (Z ++ (G ++ S)) (.load ag n (.v (.ptr (z + (G.length + k)) i j))) K = K v (Z ++ (G ++ S)) := ld_ptr (hg_o hz h) hi hs
theorem st_z {Z X : Heap} {k i j n : Nat} {b : Blk} {el el' x : AV} {K : AV → Heap → Ans} (h : Z[k]? = some (some b)) (hi : b.els[i]? = some el) (hs : putSub n j x el = some el') :
    C0.hop (Z ++ X) (.store n (.v (.ptr k i j)) (.v x)) K = K .undef (Z.set k (some { b with els := b.els.set i el' }) ++ X) := by
  rw [st_ptr (hg_z h) hi hs, set_z h]
theorem st_o {Z G S : Heap} {z k i j n : Nat} {b : Blk} {el el' x : AV} {K : AV → Heap → Ans} (hz : Z.length = z) (h : S[k]? = some (some b)) (hi : b.els[i]? = some el) (hs : putSub n j x el = some el') :
    C0.hop (Z ++ (G ++ S)) (.store n (.v (.ptr (z + (G.length + k)) i j)) (.v x)) K = K .undef (Z ++ (G ++ S.set k (some { b with els := b.els.set i el' }))) := by
  rw [st_ptr (hg_o hz h) hi hs, set_o hz]
theorem sub_w {cs : List AV} {n : Nat} (h : cs.length = n) : sub true n 0 (.agg cs) = some (.agg cs) := by
  subst h; simp [sub]
theorem ld_zw {Z X : Heap} {k i n : Nat} {b : Blk} {cs : List AV} {K : AV → Heap → Ans} (h : Z[k]? = some (some b)) (hi : b.els[i]? = some (.agg cs)) (hn : cs.length = n) :
    C0.hop (Z ++ X) (.load true n (.v (.ptr k i 0))) K = K (.agg cs) (Z ++ X) := ld_z h hi (sub_w hn)
theorem ld_ow {Z G S : Heap} {z k i n : Nat} {b : Blk} {cs : List AV} {K : AV → Heap → Ans} (hz : Z.length = z) (h : S[k]? = some (some b)) (hi : b.els[i]? = some (.agg cs)) (hn : cs.length = n) :
    C0.hop (Z ++ (G ++ S)) (.load true n (.v (.ptr (z + (G.length + k)) i 0))) K = K (.agg cs) (Z ++ (G ++ S)) := ld_o hz h hi (sub_w hn)
theorem gen_at {l : List AV} {i : Nat} {a : AV} (h : l[i]? = some a) : l[i]? = some a := h
theorem pl_zsl {o : Option AV} {b : Bool} {K : List AV → Ans} {Z : Bool → Ans} (h : o = some (.zsl b)) : C0.lst o K Z = Z b := by subst h; rfl
theorem c_ort {b : Bool} {x y : Ans} : cnd (b || true) x y = x := by cases b <;> rfl
theorem c_nt {x y : Ans} : cnd (!true) x y = y := rfl
theorem c_nf {x y : Ans} : cnd (!false) x y = x := rfl
theorem f_free {H : Heap} {v : AV} (h : snap 12 H v = v) : C0.fin H v = some v := by rw [C0_fin, h]
theorem at8 (a b c d e f g h i : AV) (l : List AV) : (a :: b :: c :: d :: e :: f :: g :: h :: i :: l)[8]? = some i := rfl
theorem at9 (a b c d e f g h i j : AV) (l : List AV) : (a :: b :: c :: d :: e :: f :: g :: h :: i :: j :: l)[9]? = some j := rfl
theorem at10 (a b c d e f g h i j k : AV) (l : List AV) : (a :: b :: c :: d :: e :: f :: g :: h :: i :: j :: k :: l)[10]? = some k := rfl
theorem tt {a b c : Ans} (h : a = b) (k : b = c) : a = c := h.trans k
theorem w2 {k : IntKind} {o : Option AV} {n : Int} {K : Int → Ans} (h : o = some (.int k n) := by first | with_reducible rfl | exact at0 _ _ | exact at1 _ _ _ | exact at2 _ _ _ _ | exact at3 _ _ _ _ _ | exact at4 _ _ _ _ _ _ | exact at5 _ _ _ _ _ _ _ | exact at6 _ _ _ _ _ _ _ _ | exact at7 _ _ _ _ _ _ _ _ _ | exact at8 _ _ _ _ _ _ _ _ _ _ | exact at9 _ _ _ _ _ _ _ _ _ _ _ | exact at10 _ _ _ _ _ _ _ _ _ _ _ _ | exact gen_at (by with_unfolding_all rfl)) : C0.int k o K = K n := pl_int h
theorem w3 {o : Option AV} {n : Bool} {K : Bool → Ans} (h : o = some (.bool n) := by first | with_reducible rfl | exact at0 _ _ | exact at1 _ _ _ | exact at2 _ _ _ _ | exact at3 _ _ _ _ _ | exact at4 _ _ _ _ _ _ | exact at5 _ _ _ _ _ _ _ | exact at6 _ _ _ _ _ _ _ _ | exact at7 _ _ _ _ _ _ _ _ _ | exact at8 _ _ _ _ _ _ _ _ _ _ | exact at9 _ _ _ _ _ _ _ _ _ _ _ | exact at10 _ _ _ _ _ _ _ _ _ _ _ _ | exact gen_at (by with_unfolding_all rfl)) : C0.bool o K = K n := pl_bool h
theorem w4 {o : Option AV} {v : AV} {K : AV → Ans} (h : o = some v := by first | with_reducible rfl | exact at0 _ _ | exact at1 _ _ _ | exact at2 _ _ _ _ | exact at3 _ _ _ _ _ | exact at4 _ _ _ _ _ _ | exact at5 _ _ _ _ _ _ _ | exact at6 _ _ _ _ _ _ _ _ | exact at7 _ _ _ _ _ _ _ _ _ | exact at8 _ _ _ _ _ _ _ _ _ _ | exact at9 _ _ _ _ _ _ _ _ _ _ _ | exact at10 _ _ _ _ _ _ _ _ _ _ _ _ | exact gen_at (by with_unfolding_all rfl)) : C0.any o K = K v := pl_any h
theorem w5 {o : Option AV} {n : List UInt8} {K : List UInt8 → Ans} (h : o = some (.str n) := by first | with_reducible rfl | exact at0 _ _ | exact at1 _ _ _ | exact at2 _ _ _ _ | exact at3 _ _ _ _ _ | exact at4 _ _ _ _ _ _ | exact at5 _ _ _ _ _ _ _ | exact at6 _ _ _ _ _ _ _ _ | exact at7 _ _ _ _ _ _ _ _ _ | exact at8 _ _ _ _ _ _ _ _ _ _ | exact at9 _ _ _ _ _ _ _ _ _ _ _ | exact at10 _ _ _ _ _ _ _ _ _ _ _ _ | exact gen_at (by with_unfolding_all rfl)) : C0.str o K = K n := pl_str h
theorem w6 {o : Option AV} {l : List AV} {K : List AV → Ans} {Z : Bool → Ans} (h : o = some (.lst l) := by first | with_reducible rfl | exact at0 _ _ | exact at1 _ _ _ | exact at2 _ _ _ _ | exact at3 _ _ _ _ _ | exact at4 _ _ _ _ _ _ | exact at5 _ _ _ _ _ _ _ | exact at6 _ _ _ _ _ _ _ _ | exact at7 _ _ _ _ _ _ _ _ _ | exact at8 _ _ _ _ _ _ _ _ _ _ | exact at9 _ _ _ _ _ _ _ _ _ _ _ | exact at10 _ _ _ _ _ _ _ _ _ _ _ _ | exact gen_at (by with_unfolding_all rfl)) : C0.lst o K Z = K l := pl_lst h
theorem w7 {o : Option AV} {b : Bool} {K : List AV → Ans} {Z : Bool → Ans} (h : o = some (.zsl b) := by first | with_reducible rfl | exact at0 _ _ | exact at1 _ _ _ | exact at2 _ _ _ _ | exact at3 _ _ _ _ _ | exact at4 _ _ _ _ _ _ | exact at5 _ _ _ _ _ _ _ | exact at6 _ _ _ _ _ _ _ _ | exact at7 _ _ _ _ _ _ _ _ _ | exact at8 _ _ _ _ _ _ _ _ _ _ | exact at9 _ _ _ _ _ _ _ _ _ _ _ | exact at10 _ _ _ _ _ _ _ _ _ _ _ _ | exact gen_at (by with_unfolding_all rfl)) : C0.lst o K Z = Z b := pl_zsl h
theorem w8 {n : Nat} {o : Option AV} {l : List AV} {K : List AV → Ans} (h : o = some (.agg l) := by first | with_reducible rfl | exact at0 _ _ | exact at1 _ _ _ | exact at2 _ _ _ _ | exact at3 _ _ _ _ _ | exact at4 _ _ _ _ _ _ | exact at5 _ _ _ _ _ _ _ | exact at6 _ _ _ _ _ _ _ _ | exact at7 _ _ _ _ _ _ _ _ _ | exact at8 _ _ _ _ _ _ _ _ _ _ | exact at9 _ _ _ _ _ _ _ _ _ _ _ | exact at10 _ _ _ _ _ _ _ _ _ _ _ _ | exact gen_at (by with_unfolding_all rfl)) (h2 : l.length = n := by with_unfolding_all rfl) : C0.agg n o K = K l := pl_agg h h2
theorem w9 {n : Nat} {o : Option AV} {l : List AV} {K : List AV → Ans} (h : o = some (.tup l) := by first | with_reducible rfl | exact at0 _ _ | exact at1 _ _ _ | exact at2 _ _ _ _ | exact at3 _ _ _ _ _ | exact at4 _ _ _ _ _ _ | exact at5 _ _ _ _ _ _ _ | exact at6 _ _ _ _ _ _ _ _ | exact at7 _ _ _ _ _ _ _ _ _ | exact at8 _ _ _ _ _ _ _ _ _ _ | exact at9 _ _ _ _ _ _ _ _ _ _ _ | exact at10 _ _ _ _ _ _ _ _ _ _ _ _ | exact gen_at (by with_unfolding_all rfl)) (h2 : l.length = n := by with_unfolding_all rfl) : C0.tup n o K = K l := pl_tup h h2
theorem wf {Z X : Heap} {k i n : Nat} {b : Blk} {cs : List AV} {K : AV → Heap → Ans} (h : Z[k]? = some (some b) := by with_unfolding_all rfl) (hi : b.els[i]? = some (.agg cs) := by with_unfolding_all rfl) (hn : cs.length = n := by with_unfolding_all rfl) :
    C0.hop (Z ++ X) (.load true n (.v (.ptr k i 0))) K = K (.agg cs) (Z ++ X) := ld_zw h hi hn
theorem wg {Z G S : Heap} {z k i n : Nat} {b : Blk} {cs : List AV} {K : AV → Heap → Ans} (hz : Z.length = z := by with_unfolding_all rfl) (h : S[k]? = some (some b) := by with_unfolding_all rfl) (hi : b.els[i]? = some (.agg cs) := by with_unfolding_all rfl) (hn : cs.length = n := by with_unfolding_all rfl) :
    C0.hop (Z ++ (G ++ S)) (.load true n (.v (.ptr (z + (G.length + k)) i 0))) K = K (.agg cs) (Z ++ (G ++ S)) := ld_ow hz h hi hn
theorem wh {Z X : Heap} {k i j n : Nat} {ag : Bool} {b : Blk} {el v : AV} {K : AV → Heap → Ans} (h : Z[k]? = some (some b) := by with_unfolding_all rfl) (hi : b.els[i]? = some el := by with_unfolding_all rfl) (hs : sub ag n j el = some v := by with_unfolding_all rfl) :
    C0.hop (Z ++ X) (.load ag n (.v (.ptr k i j))) K = K v (Z ++ X) := ld_z h hi hs
theorem wi {Z G S : Heap} {z k i j n : Nat} {ag : Bool} {b : Blk} {el v : AV} {K : AV → Heap → Ans} (hz : Z.length = z := by with_unfolding_all rfl) (h : S[k]? = some (some b) := by with_unfolding_all rfl) (hi : b.els[i]? = some el := by with_unfolding_all rfl) (hs : sub ag n j el = some v := by with_unfolding_all rfl) :
    C0.hop (Z ++ (G ++ S)) (.load ag n (.v (.ptr (z + (G.length + k)) i j))) K = K v (Z ++ (G ++ S)) := ld_o hz h hi hs
theorem wj {Z X : Heap} {k i j n : Nat} {b : Blk} {el el' x : AV} {K : AV → Heap → Ans} (h : Z[k]? = some (some b) := by with_unfolding_all rfl) (hi : b.els[i]? = some el := by with_unfolding_all rfl) (hs : putSub n j x el = some el' := by with_unfolding_all rfl) :
    C0.hop (Z ++ X) (.store n (.v (.ptr k i j)) (.v x)) K = K .undef (Z.set k (some { b with els := b.els.set i el' }) ++ X) := st_z h hi hs
theorem wk {Z G S : Heap} {z k i j n : Nat} {b : Blk} {el el' x : AV} {K : AV → Heap → Ans} (hz : Z.length = z := by with_unfolding_all rfl) (h : S[k]? = some (some b) := by with_unfolding_all rfl) (hi : b.els[i]? = some el := by with_unfolding_all rfl) (hs : putSub n j x el = some el' := by with_unfolding_all rfl) :
    C0.hop (Z ++ (G ++ S)) (.store n (.v (.ptr (z + (G.length + k)) i j)) (.v x)) K = K .undef (Z ++ (G ++ S.set k (some { b with els := b.els.set i el' }))) := st_o hz h hi hs
theorem wl {Z G S : Heap} {z s : Nat} {e : ETy} {K : AV → Heap → Ans} (hz : Z.length = z := by with_unfolding_all rfl) (hs : S.length = s := by with_unfolding_all rfl) : C0.hop (Z ++ (G ++ S)) (.alloc e) K = K (.ptr (z + (G.length + s)) 0 0) (Z ++ (G ++ (S ++ [some ⟨e, [e.zero]⟩]))) := al_o hz hs
theorem wm {Z G S : Heap} {z s : Nat} {e : ETy} {x : AV} {K : AV → Heap → Ans} (hz : Z.length = z := by with_unfolding_all rfl) (hs : S.length = s := by with_unfolding_all rfl) (h : elOk e x = true := by with_unfolding_all rfl) : C0.hop (Z ++ (G ++ S)) (.box e (.v x)) K = K (.ptr (z + (G.length + s)) 0 0) (Z ++ (G ++ (S ++ [some ⟨e, [x]⟩]))) := bx_o hz hs h
theorem wn {H : Heap} {x v : AV} {j n : Nat} {ag : Bool} {K : AV → Heap → Ans} (hs : sub ag n j x = some v := by with_unfolding_all rfl) : C0.hop H (.load ag n (.v (.fptr x j))) K = K v H := ld_fptr hs
theorem wo {H : Heap} {args : List AV} {K : List AV → Bool → Ans} (h : args.all (noId DEPTH) = true := by with_unfolding_all rfl) : C0.snp H args K = K args true := snp_free h
theorem wx {H : Heap} {len es id i j : Nat} {q : Int} {K : AV → Heap → Ans} (h : (decide (0 ≤ q) && decide (q < (len : Int))) = true := by with_unfolding_all rfl) : C0.hop H (.ixAA len es (.v (.ptr id i j)) (.v (.int .i64 q))) K = K (.ptr id i (j + q.toNat * es)) H := by
  have h' : 0 ≤ q ∧ q < (len : Int) := by simpa using h
  exact hop_eq (by simp only [aop, evO, aInt, aShift]; rw [if_pos h'])
end Go.Proofs.Ytoceckjagfhfmaa.AE

namespace Go.Proofs.Ytoceckjagfhfmaa.AE
set_option linter.unusedVariables false
set_option linter.unusedSimpArgs false
set_option linter.constructorNameAsVariable false
open Go
theorem i64w (n : Int) : IntKind.i64.wrap n = (n + 9223372036854775808) % 18446744073709551616 - 9223372036854775808 := IntKind.wrap_i64 n
theorem i64_small {n : Int} (h : -9223372036854775808 ≤ n) (h' : n < 9223372036854775808) : IntKind.i64.wrap n = n := by rw [i64w]; omega
def low (v : Int) : Int := v % 18446744073709551616
end Go.Proofs.Ytoceckjagfhfmaa.AE

namespace Go.Proofs.Ytoceckjagfhfmaa.Geo
set_option linter.unusedVariables false
/-- A step of the sum of 32 bits. -/
def st (x : BitVec 32) : BitVec 32 := (x >>> 1) ^^^ (bif x.getLsbD 0 then 0xedb88320#32 else 0#32)
theorem st_zero : st 0#32 = 0#32 := by decide
def stN : Nat → BitVec 32 → BitVec 32
  | 0, x => x
  | n + 1, x => stN n (st x)
theorem stN_zero : ∀ n : Nat, stN n 0#32 = 0#32
  | 0 => rfl
  | n + 1 => by rw [stN, st_zero, stN_zero n]
def bt (e : Bool) : BitVec 32 := bif e then 1#32 else 0#32
/-- A bit is fed. -/
def bf (x : BitVec 32) (e : Bool) : BitVec 32 := st (x ^^^ bt e)
theorem up1 : ∀ k : Fin 32, stN k.val (1#32 <<< k.val) = 1#32 := by decide
theorem up (k : Nat) (h : k < 32) (e : Bool) : stN k (bt e <<< k) = bt e := by
  cases e
  · rw [show bt false = 0#32 from rfl, BitVec.zero_shiftLeft]; exact stN_zero k
  · exact up1 ⟨k, h⟩
def b32 (b : UInt8) : BitVec 32 := b.toBitVec.setWidth 32
def byteF (x : BitVec 32) (b : UInt8) : BitVec 32 := stN 8 (x ^^^ b32 b)
def crcF (s : List UInt8) : BitVec 32 := s.foldl byteF 0xffffffff#32 ^^^ 0xffffffff#32
end Go.Proofs.Ytoceckjagfhfmaa.Geo

namespace Go.Proofs.Ytoceckjagfhfmaa.AE
set_option linter.unusedVariables false
open Go Go.Proofs.Ytoceckjagfhfmaa.Geo
theorem ofInt32 (x : BitVec 32) : BitVec.ofInt 32 (x.toNat : Int) = x := by
  apply BitVec.eq_of_toNat_eq
  rw [BitVec.toNat_ofInt]
  have := x.isLt
  omega
theorem u32w (n : Int) : IntKind.u32.wrap n = n % 4294967296 := by simp [IntKind.wrap, IntKind.bits, IntKind.signed]
theorem u32_xor (x y : BitVec 32) : Go.bits .xor .u32 (x.toNat : Int) (y.toNat : Int) = ((x ^^^ y).toNat : Int) := by
  show IntKind.u32.wrap ((BitVec.ofInt 32 (x.toNat : Int) ^^^ BitVec.ofInt 32 (y.toNat : Int)).toNat : Int) = _
  rw [ofInt32, ofInt32, u32w]; have := (x ^^^ y).isLt; omega
theorem u32_and (x y : BitVec 32) : Go.bits .and .u32 (x.toNat : Int) (y.toNat : Int) = ((x &&& y).toNat : Int) := by
  show IntKind.u32.wrap ((BitVec.ofInt 32 (x.toNat : Int) &&& BitVec.ofInt 32 (y.toNat : Int)).toNat : Int) = _
  rw [ofInt32, ofInt32, u32w]; have := (x &&& y).isLt; omega
theorem shr1 (x : BitVec 32) : ((x >>> 1).toNat : Int) = (x.toNat : Int) / 2 := by
  rw [BitVec.toNat_ushiftRight, Nat.shiftRight_eq_div_pow]; omega
theorem lsb (x : BitVec 32) : x.getLsbD 0 = decide (x.toNat % 2 = 1) := by
  rw [BitVec.getLsbD, Nat.testBit_zero]
theorem byte_nat (b : UInt8) : ((b32 b).toNat : Int) = (b.toNat : Int) := by
  unfold b32
  rw [BitVec.toNat_setWidth]
  have := b.toNat_lt
  rw [Nat.mod_eq_of_lt (by have : b.toBitVec.toNat = b.toNat := rfl; omega)]; rfl
end Go.Proofs.Ytoceckjagfhfmaa.AE

namespace Go.Proofs.Ytoceckjagfhfmaa.AE
set_option linter.unusedVariables false
set_option linter.unusedSimpArgs false
set_option linter.constructorNameAsVariable false
open Go
set_option maxRecDepth 100000
def r38R0 (C : Cb) (d : Nat) (a0 : List UInt8) (v0 : AV) (x4 : Int) : St → (Ex → St → Ans) → Ans := fun s5 k6 =>
 cnd ((List.length s5.env) == 21)
 (C.same s5.env[0]? (.str a0) <|
 C.same s5.env[1]? tz <|
 C.same s5.env[2]? (.int .u32 0) <|
 C.int .u32 s5.env[3]? fun x8 =>
 C.same s5.env[4]? tz <|
 C.any s5.env[5]? fun v9 =>
 C.same s5.env[6]? (.str a0) <|
 C.same s5.env[7]? v0 <|
 C.same s5.env[8]? (iz x4) <|
 C.int .i64 s5.env[9]? fun x10 =>
 C.any s5.env[10]? fun v11 =>
 C.any s5.env[11]? fun v12 =>
 C.any s5.env[12]? fun v13 =>
 C.any s5.env[13]? fun v14 =>
 C.any s5.env[14]? fun v15 =>
 C.any s5.env[15]? fun v16 =>
 C.any s5.env[16]? fun v17 =>
 C.any s5.env[17]? fun v18 =>
 C.any s5.env[18]? fun v19 =>
 C.same s5.env[19]? tz <|
 C.same s5.env[20]? tz <|
 cnd (decide (x10 < x4))
 (C.hop (St.H s5) (.ixAS .any 1 (.v v0) (.v (iz x10))) fun v20 h21 =>
 C.hop h21 (.load false 1 (.v v20)) fun v22 h23 =>
 C.int .u8 (some v22) fun x24 =>
 C.int .u32 (pcall M d 40 [(.int .u32 (bits .xor .u32 x8 (IntKind.wrap .u32 x24)))]) fun x25 =>
 k6 .normal ⟨[(.str a0), tz, (.int .u32 0), (.int .u32 x25), tz, (.int .u8 x24), (.str a0), v0, (iz x4), (iz (IntKind.wrap .i64 (x10 + 1))), bt, v20, (.int .u8 x24), (.int .u32 x8), (.int .u8 x24), (.int .u32 (IntKind.wrap .u32 x24)), (.int .u32 (bits .xor .u32 x8 (IntKind.wrap .u32 x24))), (.int .u32 x25), (iz (IntKind.wrap .i64 (x10 + 1))), tz, tz], h23⟩)
 (k6 (.exit 0) ⟨[(.str a0), tz, (.int .u32 0), (.int .u32 x8), tz, v9, (.str a0), v0, (iz x4), (iz x10), bf, v12, v13, v14, v15, v16, v17, v18, v19, tz, tz], (St.H s5)⟩))
 (none)
def r38X0_0 (C : Cb) (d : Nat) (a0 : List UInt8) (v0 : AV) (x4 : Int) : St → Ans := fun s26 =>
 cnd ((List.length s26.env) == 21)
 (C.same s26.env[0]? (.str a0) <|
 C.same s26.env[1]? tz <|
 C.same s26.env[2]? (.int .u32 0) <|
 C.int .u32 s26.env[3]? fun x27 =>
 C.same s26.env[4]? tz <|
 C.any s26.env[5]? fun v28 =>
 C.same s26.env[6]? (.str a0) <|
 C.same s26.env[7]? v0 <|
 C.same s26.env[8]? (iz x4) <|
 C.int .i64 s26.env[9]? fun x29 =>
 C.any s26.env[10]? fun v30 =>
 C.any s26.env[11]? fun v31 =>
 C.any s26.env[12]? fun v32 =>
 C.any s26.env[13]? fun v33 =>
 C.any s26.env[14]? fun v34 =>
 C.any s26.env[15]? fun v35 =>
 C.any s26.env[16]? fun v36 =>
 C.any s26.env[17]? fun v37 =>
 C.any s26.env[18]? fun v38 =>
 C.same s26.env[19]? tz <|
 C.same s26.env[20]? tz <|
 C.fin (St.H s26) (.int .u32 (bits .xor .u32 x27 4294967295)))
 (none)
def r38E0 (C : Cb) (d : Nat) (a0 : List UInt8) (v0 : AV) (x4 : Int) : St → Ans := fun s7 =>
 cnd ((List.length s7.env) == 21)
 (C.same s7.env[0]? (.str a0) <|
 C.same s7.env[1]? tz <|
 C.same s7.env[2]? (.int .u32 0) <|
 C.int .u32 s7.env[3]? fun x39 =>
 C.same s7.env[4]? tz <|
 C.any s7.env[5]? fun v40 =>
 C.same s7.env[6]? (.str a0) <|
 C.same s7.env[7]? v0 <|
 C.same s7.env[8]? (iz x4) <|
 C.int .i64 s7.env[9]? fun x41 =>
 C.any s7.env[10]? fun v42 =>
 C.any s7.env[11]? fun v43 =>
 C.any s7.env[12]? fun v44 =>
 C.any s7.env[13]? fun v45 =>
 C.any s7.env[14]? fun v46 =>
 C.any s7.env[15]? fun v47 =>
 C.any s7.env[16]? fun v48 =>
 C.any s7.env[17]? fun v49 =>
 C.any s7.env[18]? fun v50 =>
 C.same s7.env[19]? tz <|
 C.same s7.env[20]? tz <|
 C.fin (St.H s7) (.int .u32 0))
 (none)
/-- apogee/crc.Sum32 -/
theorem r38 (C : Cb) (d : Nat) (a0 : List UInt8) : xcall C M unr d 38 [(.str a0)] =
 C.hop [] (.s2b E5 (.v (.str a0))) fun v0 h1 =>
 C.hop h1 (.bk .lenV [(.v v0)]) fun v2 h3 =>
 C.int .i64 (some v2) fun x4 =>
 C.iter (r38R0 C d a0 v0 x4) 1000000000000000000 ⟨[(.str a0), tz, (.int .u32 0), (.int .u32 4294967295), tz, tz, (.str a0), v0, (iz x4), (iz 0), tz, tz, tz, tz, tz, tz, tz, tz, tz, tz, tz], h3⟩ [0] [r38X0_0 C d a0 v0 x4] (r38E0 C d a0 v0 x4) := by kernel_rfl
def r39R0 (C : Cb) (d : Nat) (a0 : List UInt8) : St → (Ex → St → Ans) → Ans := fun s0 k1 =>
 cnd ((List.length s0.env) == 20)
 (C.same s0.env[0]? (.str a0) <|
 C.same s0.env[1]? tz <|
 C.same s0.env[2]? (.int .u32 0) <|
 C.int .u32 s0.env[3]? fun x3 =>
 C.int .i64 s0.env[4]? fun x4 =>
 C.any s0.env[5]? fun v5 =>
 C.any s0.env[6]? fun v6 =>
 C.any s0.env[7]? fun v7 =>
 C.any s0.env[8]? fun v8 =>
 C.any s0.env[9]? fun v9 =>
 C.any s0.env[10]? fun v10 =>
 C.any s0.env[11]? fun v11 =>
 C.any s0.env[12]? fun v12 =>
 C.any s0.env[13]? fun v13 =>
 C.any s0.env[14]? fun v14 =>
 C.any s0.env[15]? fun v15 =>
 C.any s0.env[16]? fun v16 =>
 C.any s0.env[17]? fun v17 =>
 C.same s0.env[18]? tz <|
 C.same s0.env[19]? tz <|
 C.sameH (St.H s0) [] <|
 cnd (decide (x4 < (((List.length a0) : Nat) : Int)))
 (cnd (decide ((0 : Int) ≤ x4))
 (C.int .u8 (Option.map (fun b : UInt8 => AV.int .u8 (b.toNat : Int)) a0[(Int.toNat x4)]?) fun x18 =>
 C.int .u32 (pcall M d 41 [(.int .u32 (bits .xor .u32 x3 (IntKind.wrap .u32 x18)))]) fun x19 =>
 k1 .normal ⟨[(.str a0), tz, (.int .u32 0), (.int .u32 x19), (iz (IntKind.wrap .i64 (x4 + 1))), (iz x4), (.str a0), (iz (((List.length a0) : Nat) : Int)), bt, (iz x4), (iz (IntKind.wrap .i64 (x4 + 1))), (.int .u32 x3), (.str a0), (iz x4), (.int .u8 x18), (.int .u32 (IntKind.wrap .u32 x18)), (.int .u32 (bits .xor .u32 x3 (IntKind.wrap .u32 x18))), (.int .u32 x19), tz, tz], []⟩)
 (none))
 (k1 (.exit 0) ⟨[(.str a0), tz, (.int .u32 0), (.int .u32 x3), (iz x4), (iz x4), (.str a0), (iz (((List.length a0) : Nat) : Int)), bf, v9, v10, v11, v12, v13, v14, v15, v16, v17, tz, tz], []⟩))
 (none)
def r39X0_0 (C : Cb) (d : Nat) (a0 : List UInt8) : St → Ans := fun s20 =>
 cnd ((List.length s20.env) == 20)
 (C.same s20.env[0]? (.str a0) <|
 C.same s20.env[1]? tz <|
 C.same s20.env[2]? (.int .u32 0) <|
 C.int .u32 s20.env[3]? fun x21 =>
 C.int .i64 s20.env[4]? fun x22 =>
 C.int .i64 s20.env[5]? fun x23 =>
 C.str s20.env[6]? fun s24 =>
 C.int .i64 s20.env[7]? fun x25 =>
 C.bool s20.env[8]? fun b26 =>
 C.any s20.env[9]? fun v27 =>
 C.any s20.env[10]? fun v28 =>
 C.any s20.env[11]? fun v29 =>
 C.any s20.env[12]? fun v30 =>
 C.any s20.env[13]? fun v31 =>
 C.any s20.env[14]? fun v32 =>
 C.any s20.env[15]? fun v33 =>
 C.any s20.env[16]? fun v34 =>
 C.any s20.env[17]? fun v35 =>
 C.same s20.env[18]? tz <|
 C.same s20.env[19]? tz <|
 C.sameH (St.H s20) [] <|
 some (.int .u32 (bits .xor .u32 x21 4294967295)))
 (none)
def r39E0 (C : Cb) (d : Nat) (a0 : List UInt8) : St → Ans := fun s2 =>
 cnd ((List.length s2.env) == 20)
 (C.same s2.env[0]? (.str a0) <|
 C.same s2.env[1]? tz <|
 C.same s2.env[2]? (.int .u32 0) <|
 C.int .u32 s2.env[3]? fun x36 =>
 C.int .i64 s2.env[4]? fun x37 =>
 C.any s2.env[5]? fun v38 =>
 C.any s2.env[6]? fun v39 =>
 C.any s2.env[7]? fun v40 =>
 C.any s2.env[8]? fun v41 =>
 C.any s2.env[9]? fun v42 =>
 C.any s2.env[10]? fun v43 =>
 C.any s2.env[11]? fun v44 =>
 C.any s2.env[12]? fun v45 =>
 C.any s2.env[13]? fun v46 =>
 C.any s2.env[14]? fun v47 =>
 C.any s2.env[15]? fun v48 =>
 C.any s2.env[16]? fun v49 =>
 C.any s2.env[17]? fun v50 =>
 C.same s2.env[18]? tz <|
 C.same s2.env[19]? tz <|
 C.sameH (St.H s2) [] <|
 some (.int .u32 0))
 (none)
/-- apogee/apogeeref04.Sum32 -/
theorem r39 (C : Cb) (d : Nat) (a0 : List UInt8) : xcall C M unr d 39 [(.str a0)] =
 C.iter (r39R0 C d a0) 1000000000000000000 ⟨[(.str a0), tz, (.int .u32 0), (.int .u32 4294967295), (iz 0), tz, tz, tz, tz, tz, tz, tz, tz, tz, tz, tz, tz, tz, tz, tz], []⟩ [0] [r39X0_0 C d a0] (r39E0 C d a0) := by kernel_rfl
def r40R0 (C : Cb) (d : Nat) : St → (Ex → St → Ans) → Ans := fun s0 k1 =>
 cnd ((List.length s0.env) == 16)
 (C.int .u32 s0.env[0]? fun x3 =>
 C.same s0.env[1]? tz <|
 C.same s0.env[2]? (.int .u32 0) <|
 C.any s0.env[3]? fun v4 =>
 C.int .i64 s0.env[4]? fun x5 =>
 C.any s0.env[5]? fun v6 =>
 C.any s0.env[6]? fun v7 =>
 C.any s0.env[7]? fun v8 =>
 C.any s0.env[8]? fun v9 =>
 C.any s0.env[9]? fun v10 =>
 C.any s0.env[10]? fun v11 =>
 C.any s0.env[11]? fun v12 =>
 C.any s0.env[12]? fun v13 =>
 C.any s0.env[13]? fun v14 =>
 C.any s0.env[14]? fun v15 =>
 C.same s0.env[15]? tz <|
 C.sameH (St.H s0) [] <|
 cnd (decide (x5 < 8))
 (cnd ((bits .and .u32 x3 1) != 0)
 (k1 .normal ⟨[(.int .u32 (bits .xor .u32 (Int.fdiv x3 (2 ^ (min (Int.toNat 1) 32))) 3988292384)), tz, (.int .u32 0), (.bool ((bits .and .u32 x3 1) != 0)), (iz (IntKind.wrap .i64 (x5 + 1))), bt, (.int .u32 x3), (.int .u32 (bits .and .u32 x3 1)), (.bool ((bits .and .u32 x3 1) != 0)), (.int .u32 x3), (.int .u32 (Int.fdiv x3 (2 ^ (min (Int.toNat 1) 32)))), bt, (.int .u32 (Int.fdiv x3 (2 ^ (min (Int.toNat 1) 32)))), (.int .u32 (bits .xor .u32 (Int.fdiv x3 (2 ^ (min (Int.toNat 1) 32))) 3988292384)), (iz (IntKind.wrap .i64 (x5 + 1))), tz], []⟩)
 (k1 .normal ⟨[(.int .u32 (Int.fdiv x3 (2 ^ (min (Int.toNat 1) 32)))), tz, (.int .u32 0), (.bool ((bits .and .u32 x3 1) != 0)), (iz (IntKind.wrap .i64 (x5 + 1))), bt, (.int .u32 x3), (.int .u32 (bits .and .u32 x3 1)), (.bool ((bits .and .u32 x3 1) != 0)), (.int .u32 x3), (.int .u32 (Int.fdiv x3 (2 ^ (min (Int.toNat 1) 32)))), bf, v13, v14, (iz (IntKind.wrap .i64 (x5 + 1))), tz], []⟩))
 (k1 (.exit 0) ⟨[(.int .u32 x3), tz, (.int .u32 0), v4, (iz x5), bf, v7, v8, v9, v10, v11, v12, v13, v14, v15, tz], []⟩))
 (none)
def r40X0_0 (C : Cb) (d : Nat) : St → Ans := fun s16 =>
 cnd ((List.length s16.env) == 16)
 (C.int .u32 s16.env[0]? fun x17 =>
 C.same s16.env[1]? tz <|
 C.same s16.env[2]? (.int .u32 0) <|
 C.any s16.env[3]? fun v18 =>
 C.int .i64 s16.env[4]? fun x19 =>
 C.bool s16.env[5]? fun b20 =>
 C.any s16.env[6]? fun v21 =>
 C.any s16.env[7]? fun v22 =>
 C.any s16.env[8]? fun v23 =>
 C.any s16.env[9]? fun v24 =>
 C.any s16.env[10]? fun v25 =>
 C.any s16.env[11]? fun v26 =>
 C.any s16.env[12]? fun v27 =>
 C.any s16.env[13]? fun v28 =>
 C.any s16.env[14]? fun v29 =>
 C.same s16.env[15]? tz <|
 C.sameH (St.H s16) [] <|
 some (.int .u32 x17))
 (none)
def r40E0 (C : Cb) (d : Nat) : St → Ans := fun s2 =>
 cnd ((List.length s2.env) == 16)
 (C.int .u32 s2.env[0]? fun x30 =>
 C.same s2.env[1]? tz <|
 C.same s2.env[2]? (.int .u32 0) <|
 C.any s2.env[3]? fun v31 =>
 C.int .i64 s2.env[4]? fun x32 =>
 C.any s2.env[5]? fun v33 =>
 C.any s2.env[6]? fun v34 =>
 C.any s2.env[7]? fun v35 =>
 C.any s2.env[8]? fun v36 =>
 C.any s2.env[9]? fun v37 =>
 C.any s2.env[10]? fun v38 =>
 C.any s2.env[11]? fun v39 =>
 C.any s2.env[12]? fun v40 =>
 C.any s2.env[13]? fun v41 =>
 C.any s2.env[14]? fun v42 =>
 C.same s2.env[15]? tz <|
 C.sameH (St.H s2) [] <|
 some (.int .u32 0))
 (none)
/-- apogee/crc.step32 -/
theorem r40 (C : Cb) (d : Nat) (a0 : Int) : xcall C M unr d 40 [(.int .u32 a0)] =
 C.iter (r40R0 C d) 1000000000000000000 ⟨[(.int .u32 a0), tz, (.int .u32 0), tz, (iz 0), tz, tz, tz, tz, tz, tz, tz, tz, tz, tz, tz], []⟩ [0] [r40X0_0 C d] (r40E0 C d) := by kernel_rfl
def r41R0 (C : Cb) (d : Nat) : St → (Ex → St → Ans) → Ans := fun s0 k1 =>
 cnd ((List.length s0.env) == 17)
 (C.int .u32 s0.env[0]? fun x3 =>
 C.same s0.env[1]? tz <|
 C.same s0.env[2]? (.int .u32 0) <|
 C.int .i64 s0.env[3]? fun x4 =>
 C.any s0.env[4]? fun v5 =>
 C.any s0.env[5]? fun v6 =>
 C.any s0.env[6]? fun v7 =>
 C.any s0.env[7]? fun v8 =>
 C.any s0.env[8]? fun v9 =>
 C.any s0.env[9]? fun v10 =>
 C.any s0.env[10]? fun v11 =>
 C.any s0.env[11]? fun v12 =>
 C.any s0.env[12]? fun v13 =>
 C.any s0.env[13]? fun v14 =>
 C.any s0.env[14]? fun v15 =>
 C.any s0.env[15]? fun v16 =>
 C.same s0.env[16]? tz <|
 C.sameH (St.H s0) [] <|
 cnd (decide (x4 < 8))
 (cnd ((Int.tmod x3 2) == 1)
 (k1 .normal ⟨[(.int .u32 (bits .xor .u32 (IntKind.wrap .u32 (Int.tdiv x3 2)) 3988292384)), tz, (.int .u32 0), (iz (IntKind.wrap .i64 (x4 + 1))), (iz x4), bt, (iz x4), (iz (IntKind.wrap .i64 (x4 + 1))), (.int .u32 x3), (.int .u32 (Int.tmod x3 2)), bt, (.int .u32 x3), (.int .u32 (IntKind.wrap .u32 (Int.tdiv x3 2))), (.int .u32 (bits .xor .u32 (IntKind.wrap .u32 (Int.tdiv x3 2)) 3988292384)), v15, v16, tz], []⟩)
 (k1 .normal ⟨[(.int .u32 (IntKind.wrap .u32 (Int.tdiv x3 2))), tz, (.int .u32 0), (iz (IntKind.wrap .i64 (x4 + 1))), (iz x4), bt, (iz x4), (iz (IntKind.wrap .i64 (x4 + 1))), (.int .u32 x3), (.int .u32 (Int.tmod x3 2)), bf, v12, v13, v14, (.int .u32 x3), (.int .u32 (IntKind.wrap .u32 (Int.tdiv x3 2))), tz], []⟩))
 (k1 (.exit 0) ⟨[(.int .u32 x3), tz, (.int .u32 0), (iz x4), (iz x4), bf, v7, v8, v9, v10, v11, v12, v13, v14, v15, v16, tz], []⟩))
 (none)
def r41X0_0 (C : Cb) (d : Nat) : St → Ans := fun s17 =>
 cnd ((List.length s17.env) == 17)
 (C.int .u32 s17.env[0]? fun x18 =>
 C.same s17.env[1]? tz <|
 C.same s17.env[2]? (.int .u32 0) <|
 C.int .i64 s17.env[3]? fun x19 =>
 C.int .i64 s17.env[4]? fun x20 =>
 C.bool s17.env[5]? fun b21 =>
 C.any s17.env[6]? fun v22 =>
 C.any s17.env[7]? fun v23 =>
 C.any s17.env[8]? fun v24 =>
 C.any s17.env[9]? fun v25 =>
 C.any s17.env[10]? fun v26 =>
 C.any s17.env[11]? fun v27 =>
 C.any s17.env[12]? fun v28 =>
 C.any s17.env[13]? fun v29 =>
 C.any s17.env[14]? fun v30 =>
 C.any s17.env[15]? fun v31 =>
 C.same s17.env[16]? tz <|
 C.sameH (St.H s17) [] <|
 some (.int .u32 x18))
 (none)
def r41E0 (C : Cb) (d : Nat) : St → Ans := fun s2 =>
 cnd ((List.length s2.env) == 17)
 (C.int .u32 s2.env[0]? fun x32 =>
 C.same s2.env[1]? tz <|
 C.same s2.env[2]? (.int .u32 0) <|
 C.int .i64 s2.env[3]? fun x33 =>
 C.any s2.env[4]? fun v34 =>
 C.any s2.env[5]? fun v35 =>
 C.any s2.env[6]? fun v36 =>
 C.any s2.env[7]? fun v37 =>
 C.any s2.env[8]? fun v38 =>
 C.any s2.env[9]? fun v39 =>
 C.any s2.env[10]? fun v40 =>
 C.any s2.env[11]? fun v41 =>
 C.any s2.env[12]? fun v42 =>
 C.any s2.env[13]? fun v43 =>
 C.any s2.env[14]? fun v44 =>
 C.any s2.env[15]? fun v45 =>
 C.same s2.env[16]? tz <|
 C.sameH (St.H s2) [] <|
 some (.int .u32 0))
 (none)
/-- apogee/apogeeref04.Step32 -/
theorem r41 (C : Cb) (d : Nat) (a0 : Int) : xcall C M unr d 41 [(.int .u32 a0)] =
 C.iter (r41R0 C d) 1000000000000000000 ⟨[(.int .u32 a0), tz, (.int .u32 0), (iz 0), tz, tz, tz, tz, tz, tz, tz, tz, tz, tz, tz, tz, tz], []⟩ [0] [r41X0_0 C d] (r41E0 C d) := by kernel_rfl
end Go.Proofs.Ytoceckjagfhfmaa.AE

namespace Go.Proofs.Ytoceckjagfhfmaa.AE
set_option linter.unusedVariables false
set_option linter.unusedSimpArgs false
set_option linter.constructorNameAsVariable false
open Go
set_option maxRecDepth 100000
set_option maxHeartbeats 0
noncomputable def X38_0_0 (d : Nat) (v0 : AV) (x4 x27 : Int) (H : Heap) : Ans :=
  C0.fin H (.int .u32 (bits .xor .u32 x27 4294967295))
theorem X38_0_0_ok (d : Nat) (a0 : List UInt8) (v0 : AV) (x4 x27 : Int) (v28 : AV) (x29 : Int) (v30 v31 v32 v33 v34 v35 v36 v37 v38 : AV) (H : Heap) : r38X0_0 C0 d a0 v0 x4 ⟨[(.str a0), tz, (.int .u32 0), (.int .u32 x27), tz, v28, (.str a0), v0, (iz x4), (iz x29), v30, v31, v32, v33, v34, v35, v36, v37, v38, tz, tz], H⟩ = X38_0_0 d v0 x4 x27 H := by
  unfold r38X0_0; refine Eq.trans (pl_len (by rfl)) ?_; (iterate 3 (refine yt yS ?_)); refine yt yI ?_; refine yt yS ?_; refine yt yA ?_; (iterate 3 (refine yt yS ?_)); refine yt yI ?_; (iterate 9 (refine yt yA ?_)); (iterate 2 (refine yt yS ?_))
  rfl
noncomputable def E38_0 (d : Nat) (v0 : AV) (x4 : Int) (H : Heap) : Ans :=
  C0.fin H (.int .u32 0)
theorem E38_0_ok (d : Nat) (a0 : List UInt8) (v0 : AV) (x4 x39 : Int) (v40 : AV) (x41 : Int) (v42 v43 v44 v45 v46 v47 v48 v49 v50 : AV) (H : Heap) : r38E0 C0 d a0 v0 x4 ⟨[(.str a0), tz, (.int .u32 0), (.int .u32 x39), tz, v40, (.str a0), v0, (iz x4), (iz x41), v42, v43, v44, v45, v46, v47, v48, v49, v50, tz, tz], H⟩ = E38_0 d v0 x4 H := by
  unfold r38E0; refine Eq.trans (pl_len (by rfl)) ?_; (iterate 3 (refine yt yS ?_)); refine yt yI ?_; refine yt yS ?_; refine yt yA ?_; (iterate 3 (refine yt yS ?_)); refine yt yI ?_; (iterate 9 (refine yt yA ?_)); (iterate 2 (refine yt yS ?_))
  rfl
noncomputable def L38_0 (d : Nat) (v0 : AV) (x4 : Int) : Nat → Int → Int → Heap → Ans
  | 0, _, _, _ => none
  | n + 1, x8, x10, H =>
  cnd (decide (x10 < x4))
   (C0.hop H (.ixAS .any 1 (.v v0) (.v (iz x10))) fun v20 h21 =>
   C0.hop h21 (.load false 1 (.v v20)) fun v22 h23 =>
   C0.int .u8 (some v22) fun x24 =>
   C0.int .u32 (pcall M d 40 [(.int .u32 (bits .xor .u32 x8 (IntKind.wrap .u32 x24)))]) fun x25 =>
   L38_0 d v0 x4 n x25 (IntKind.wrap .i64 (x10 + 1)) h23)
   (X38_0_0 d v0 x4 x8 H)
theorem it38_0 (d : Nat) (a0 : List UInt8) (v0 : AV) (x4 : Int)   : ∀ (n : Nat) (x8 : Int) (v9 : AV) (x10 : Int) (v11 v12 v13 v14 v15 v16 v17 v18 v19 : AV) (H : Heap), C0.iter (r38R0 C0 d a0 v0 x4) n ⟨[(.str a0), tz, (.int .u32 0), (.int .u32 x8), tz, v9, (.str a0), v0, (iz x4), (iz x10), v11, v12, v13, v14, v15, v16, v17, v18, v19, tz, tz], H⟩ [0] [r38X0_0 C0 d a0 v0 x4] (r38E0 C0 d a0 v0 x4) = L38_0 d v0 x4 n x8 x10 H := by
  generalize hR : r38R0 C0 d a0 v0 x4 = R
  intro n
  induction n with
  | zero => intros; rfl
  | succ n ih =>
    intro x8 v9 x10 v11 v12 v13 v14 v15 v16 v17 v18 v19 H
    simp only [it_ret] at ih
    rw [it_ret, xiter_s]
    refine Eq.trans (congrFun (congrFun hR.symm _) _) ?_
    unfold r38R0
    refine Eq.trans (pl_len (by rfl)) ?_; (iterate 3 (refine yt yS ?_)); refine yt yI ?_; refine yt yS ?_; refine yt yA ?_; (iterate 3 (refine yt yS ?_)); refine yt yI ?_; (iterate 9 (refine yt yA ?_)); (iterate 2 (refine yt yS ?_))
    simp only [L38_0, kIter_n, kIter_x, kIter_r, kOut_x, kOut_r, xgo_hit, xgo_miss, ih, X38_0_0_ok d a0 v0 x4  , E38_0_ok d a0 v0 x4  ]
/-- apogee/crc.Sum32 -/
theorem q38 (d : Nat) (a0 : List UInt8) : xcall C0 M unr d 38 [(.str a0)] =
  C0.hop [] (.s2b E5 (.v (.str a0))) fun v0 h1 =>
  C0.hop h1 (.bk .lenV [(.v v0)]) fun v2 h3 =>
  C0.int .i64 (some v2) fun x4 =>
  L38_0 d v0 x4 1000000000000000000 4294967295 0 h3 := (r38 C0 d a0).trans (by simp only [it38_0])
noncomputable def X39_0_0 (d : Nat) (a0 : List UInt8) (x21 : Int) : Ans :=
  some (.int .u32 (bits .xor .u32 x21 4294967295))
theorem X39_0_0_ok (d : Nat) (a0 : List UInt8)   (x21 x22 x23 : Int) (s24 : List UInt8) (x25 : Int) (b26 : Bool) (v27 v28 v29 v30 v31 v32 v33 v34 v35 : AV) : r39X0_0 C0 d a0 ⟨[(.str a0), tz, (.int .u32 0), (.int .u32 x21), (iz x22), (iz x23), (.str s24), (iz x25), (.bool b26), v27, v28, v29, v30, v31, v32, v33, v34, v35, tz, tz], []⟩ = X39_0_0 d a0 x21 := by
  unfold r39X0_0; refine Eq.trans (pl_len (by rfl)) ?_; (iterate 3 (refine yt yS ?_)); (iterate 3 (refine yt yI ?_)); refine Eq.trans (pl_str (by rfl)) ?_; refine yt yI ?_; refine yt yB ?_; (iterate 9 (refine yt yA ?_)); (iterate 2 (refine yt yS ?_)); refine Eq.trans (pl_sameH) ?_
  rfl
noncomputable def E39_0 (d : Nat) (a0 : List UInt8)  : Ans :=
  some (.int .u32 0)
theorem E39_0_ok (d : Nat) (a0 : List UInt8)   (x36 x37 : Int) (v38 v39 v40 v41 v42 v43 v44 v45 v46 v47 v48 v49 v50 : AV) : r39E0 C0 d a0 ⟨[(.str a0), tz, (.int .u32 0), (.int .u32 x36), (iz x37), v38, v39, v40, v41, v42, v43, v44, v45, v46, v47, v48, v49, v50, tz, tz], []⟩ = E39_0 d a0  := by
  unfold r39E0; refine Eq.trans (pl_len (by rfl)) ?_; (iterate 3 (refine yt yS ?_)); (iterate 2 (refine yt yI ?_)); (iterate 13 (refine yt yA ?_)); (iterate 2 (refine yt yS ?_)); refine Eq.trans (pl_sameH) ?_
  rfl
noncomputable def L39_0 (d : Nat) (a0 : List UInt8) : Nat → Int → Int → Ans
  | 0, _, _ => none
  | n + 1, x3, x4 =>
  cnd (decide (x4 < (((List.length a0) : Nat) : Int)))
   (cnd (decide ((0 : Int) ≤ x4))
   (C0.int .u8 (Option.map (fun b : UInt8 => AV.int .u8 (b.toNat : Int)) a0[(Int.toNat x4)]?) fun x18 =>
   C0.int .u32 (pcall M d 41 [(.int .u32 (bits .xor .u32 x3 (IntKind.wrap .u32 x18)))]) fun x19 =>
   L39_0 d a0 n x19 (IntKind.wrap .i64 (x4 + 1)))
   (none))
   (X39_0_0 d a0 x3)
theorem it39_0 (d : Nat) (a0 : List UInt8)   : ∀ (n : Nat) (x3 x4 : Int) (v5 v6 v7 v8 v9 v10 v11 v12 v13 v14 v15 v16 v17 : AV), C0.iter (r39R0 C0 d a0) n ⟨[(.str a0), tz, (.int .u32 0), (.int .u32 x3), (iz x4), v5, v6, v7, v8, v9, v10, v11, v12, v13, v14, v15, v16, v17, tz, tz], []⟩ [0] [r39X0_0 C0 d a0] (r39E0 C0 d a0) = L39_0 d a0 n x3 x4 := by
  generalize hR : r39R0 C0 d a0 = R
  intro n
  induction n with
  | zero => intros; rfl
  | succ n ih =>
    intro x3 x4 v5 v6 v7 v8 v9 v10 v11 v12 v13 v14 v15 v16 v17
    simp only [it_ret] at ih
    rw [it_ret, xiter_s]
    refine Eq.trans (congrFun (congrFun hR.symm _) _) ?_
    unfold r39R0
    refine Eq.trans (pl_len (by rfl)) ?_; (iterate 3 (refine yt yS ?_)); (iterate 2 (refine yt yI ?_)); (iterate 13 (refine yt yA ?_)); (iterate 2 (refine yt yS ?_)); refine Eq.trans (pl_sameH) ?_
    simp only [L39_0, kIter_n, kIter_x, kIter_r, kOut_x, kOut_r, xgo_hit, xgo_miss, ih, X39_0_0_ok d a0  , E39_0_ok d a0  ]
/-- apogee/apogeeref04.Sum32 -/
theorem q39 (d : Nat) (a0 : List UInt8) : xcall C0 M unr d 39 [(.str a0)] =
  L39_0 d a0 1000000000000000000 4294967295 0 := (r39 C0 d a0).trans (by simp only [it39_0])
noncomputable def X40_0_0 (d : Nat)  (x17 : Int) : Ans :=
  some (.int .u32 x17)
theorem X40_0_0_ok (d : Nat)    (x17 : Int) (v18 : AV) (x19 : Int) (b20 : Bool) (v21 v22 v23 v24 v25 v26 v27 v28 v29 : AV) : r40X0_0 C0 d  ⟨[(.int .u32 x17), tz, (.int .u32 0), v18, (iz x19), (.bool b20), v21, v22, v23, v24, v25, v26, v27, v28, v29, tz], []⟩ = X40_0_0 d  x17 := by
  unfold r40X0_0; refine Eq.trans (pl_len (by rfl)) ?_; refine yt yI ?_; (iterate 2 (refine yt yS ?_)); refine yt yA ?_; refine yt yI ?_; refine yt yB ?_; (iterate 9 (refine yt yA ?_)); refine yt yS ?_; refine Eq.trans (pl_sameH) ?_
  rfl
noncomputable def E40_0 (d : Nat)   : Ans :=
  some (.int .u32 0)
theorem E40_0_ok (d : Nat)    (x30 : Int) (v31 : AV) (x32 : Int) (v33 v34 v35 v36 v37 v38 v39 v40 v41 v42 : AV) : r40E0 C0 d  ⟨[(.int .u32 x30), tz, (.int .u32 0), v31, (iz x32), v33, v34, v35, v36, v37, v38, v39, v40, v41, v42, tz], []⟩ = E40_0 d   := by
  unfold r40E0; refine Eq.trans (pl_len (by rfl)) ?_; refine yt yI ?_; (iterate 2 (refine yt yS ?_)); refine yt yA ?_; refine yt yI ?_; (iterate 10 (refine yt yA ?_)); refine yt yS ?_; refine Eq.trans (pl_sameH) ?_
  rfl
noncomputable def L40_0 (d : Nat)  : Nat → Int → Int → Ans
  | 0, _, _ => none
  | n + 1, x3, x5 =>
  cnd (decide (x5 < 8))
   (cnd ((bits .and .u32 x3 1) != 0)
   (L40_0 d n (bits .xor .u32 (Int.fdiv x3 (2 ^ (min (Int.toNat 1) 32))) 3988292384) (IntKind.wrap .i64 (x5 + 1)))
   (L40_0 d n (Int.fdiv x3 (2 ^ (min (Int.toNat 1) 32))) (IntKind.wrap .i64 (x5 + 1))))
   (X40_0_0 d x3)
theorem it40_0 (d : Nat)    : ∀ (n : Nat) (x3 : Int) (v4 : AV) (x5 : Int) (v6 v7 v8 v9 v10 v11 v12 v13 v14 v15 : AV), C0.iter (r40R0 C0 d ) n ⟨[(.int .u32 x3), tz, (.int .u32 0), v4, (iz x5), v6, v7, v8, v9, v10, v11, v12, v13, v14, v15, tz], []⟩ [0] [r40X0_0 C0 d ] (r40E0 C0 d ) = L40_0 d  n x3 x5 := by
  generalize hR : r40R0 C0 d  = R
  intro n
  induction n with
  | zero => intros; rfl
  | succ n ih =>
    intro x3 v4 x5 v6 v7 v8 v9 v10 v11 v12 v13 v14 v15
    simp only [it_ret] at ih
    rw [it_ret, xiter_s]
    refine Eq.trans (congrFun (congrFun hR.symm _) _) ?_
    unfold r40R0
    refine Eq.trans (pl_len (by rfl)) ?_; refine yt yI ?_; (iterate 2 (refine yt yS ?_)); refine yt yA ?_; refine yt yI ?_; (iterate 10 (refine yt yA ?_)); refine yt yS ?_; refine Eq.trans (pl_sameH) ?_
    simp only [L40_0, kIter_n, kIter_x, kIter_r, kOut_x, kOut_r, xgo_hit, xgo_miss, ih, X40_0_0_ok d   , E40_0_ok d   ]
/-- apogee/crc.step32 -/
theorem q40 (d : Nat) (a0 : Int) : xcall C0 M unr d 40 [(.int .u32 a0)] =
  L40_0 d 1000000000000000000 a0 0 := (r40 C0 d a0).trans (by simp only [it40_0])
noncomputable def X41_0_0 (d : Nat)  (x18 : Int) : Ans :=
  some (.int .u32 x18)
theorem X41_0_0_ok (d : Nat)    (x18 x19 x20 : Int) (b21 : Bool) (v22 v23 v24 v25 v26 v27 v28 v29 v30 v31 : AV) : r41X0_0 C0 d  ⟨[(.int .u32 x18), tz, (.int .u32 0), (iz x19), (iz x20), (.bool b21), v22, v23, v24, v25, v26, v27, v28, v29, v30, v31, tz], []⟩ = X41_0_0 d  x18 := by
  unfold r41X0_0; refine Eq.trans (pl_len (by rfl)) ?_; refine yt yI ?_; (iterate 2 (refine yt yS ?_)); (iterate 2 (refine yt yI ?_)); refine yt yB ?_; (iterate 10 (refine yt yA ?_)); refine yt yS ?_; refine Eq.trans (pl_sameH) ?_
  rfl
noncomputable def E41_0 (d : Nat)   : Ans :=
  some (.int .u32 0)
theorem E41_0_ok (d : Nat)    (x32 x33 : Int) (v34 v35 v36 v37 v38 v39 v40 v41 v42 v43 v44 v45 : AV) : r41E0 C0 d  ⟨[(.int .u32 x32), tz, (.int .u32 0), (iz x33), v34, v35, v36, v37, v38, v39, v40, v41, v42, v43, v44, v45, tz], []⟩ = E41_0 d   := by
  unfold r41E0; refine Eq.trans (pl_len (by rfl)) ?_; refine yt yI ?_; (iterate 2 (refine yt yS ?_)); refine yt yI ?_; (iterate 12 (refine yt yA ?_)); refine yt yS ?_; refine Eq.trans (pl_sameH) ?_
  rfl
noncomputable def L41_0 (d : Nat)  : Nat → Int → Int → Ans
  | 0, _, _ => none
  | n + 1, x3, x4 =>
  cnd (decide (x4 < 8))
   (cnd ((Int.tmod x3 2) == 1)
   (L41_0 d n (bits .xor .u32 (IntKind.wrap .u32 (Int.tdiv x3 2)) 3988292384) (IntKind.wrap .i64 (x4 + 1)))
   (L41_0 d n (IntKind.wrap .u32 (Int.tdiv x3 2)) (IntKind.wrap .i64 (x4 + 1))))
   (X41_0_0 d x3)
theorem it41_0 (d : Nat)    : ∀ (n : Nat) (x3 x4 : Int) (v5 v6 v7 v8 v9 v10 v11 v12 v13 v14 v15 v16 : AV), C0.iter (r41R0 C0 d ) n ⟨[(.int .u32 x3), tz, (.int .u32 0), (iz x4), v5, v6, v7, v8, v9, v10, v11, v12, v13, v14, v15, v16, tz], []⟩ [0] [r41X0_0 C0 d ] (r41E0 C0 d ) = L41_0 d  n x3 x4 := by
  generalize hR : r41R0 C0 d  = R
  intro n
  induction n with
  | zero => intros; rfl
  | succ n ih =>
    intro x3 x4 v5 v6 v7 v8 v9 v10 v11 v12 v13 v14 v15 v16
    simp only [it_ret] at ih
    rw [it_ret, xiter_s]
    refine Eq.trans (congrFun (congrFun hR.symm _) _) ?_
    unfold r41R0
    refine Eq.trans (pl_len (by rfl)) ?_; refine yt yI ?_; (iterate 2 (refine yt yS ?_)); refine yt yI ?_; (iterate 12 (refine yt yA ?_)); refine yt yS ?_; refine Eq.trans (pl_sameH) ?_
    simp only [L41_0, kIter_n, kIter_x, kIter_r, kOut_x, kOut_r, xgo_hit, xgo_miss, ih, X41_0_0_ok d   , E41_0_ok d   ]
/-- apogee/apogeeref04.Step32 -/
theorem q41 (d : Nat) (a0 : Int) : xcall C0 M unr d 41 [(.int .u32 a0)] =
  L41_0 d 1000000000000000000 a0 0 := (r41 C0 d a0).trans (by simp only [it41_0])
end Go.Proofs.Ytoceckjagfhfmaa.AE

namespace Go.Proofs.Ytoceckjagfhfmaa.AE
set_option linter.unusedVariables false
set_option linter.unusedSimpArgs false
set_option linter.constructorNameAsVariable false
open Go Go.Proofs.Ytoceckjagfhfmaa.Geo
attribute [local irreducible] pcall C0
set_option maxRecDepth 100000
/-- A word as a number. -/
abbrev w32 (x : BitVec 32) : Int := (x.toNat : Int)
theorem w32_and1 (x : BitVec 32) : (Go.bits .and .u32 (w32 x) 1 != 0) = x.getLsbD 0 := by
  rw [show (1 : Int) = w32 1#32 from rfl, u32_and, lsb]
  have : (x &&& 1#32).toNat = x.toNat % 2 := by rw [BitVec.toNat_and]; exact Nat.and_one_is_mod _
  rw [this]
  by_cases h : x.toNat % 2 = 1
  · rw [h, decide_eq_true rfl]; rfl
  · have h0 : x.toNat % 2 = 0 := by omega
    rw [h0, decide_eq_false (by omega)]; rfl
theorem w32_half (x : BitVec 32) : Int.fdiv (w32 x) (2 ^ (min (Int.toNat 1) 32)) = w32 (x >>> 1) := by
  show Int.fdiv (x.toNat : Int) _ = ((x >>> 1).toNat : Int)
  rw [shr1, show (2 ^ (min (Int.toNat 1) 32) : Int) = 2 from rfl, Int.fdiv_eq_ediv_of_nonneg _ (by decide)]
theorem w32_half' (x : BitVec 32) : IntKind.wrap .u32 (Int.tdiv (w32 x) 2) = w32 (x >>> 1) := by
  show IntKind.wrap .u32 (Int.tdiv (x.toNat : Int) 2) = ((x >>> 1).toNat : Int)
  rw [shr1, u32w, Int.tdiv_eq_ediv_of_nonneg (by omega)]
  have := x.isLt
  omega
theorem w32_odd (x : BitVec 32) : (Int.tmod (w32 x) 2 == 1) = x.getLsbD 0 := by
  show (Int.tmod (x.toNat : Int) 2 == 1) = _
  rw [lsb, Int.tmod_eq_emod_of_nonneg (by omega)]
  by_cases h : x.toNat % 2 = 1
  · rw [decide_eq_true h]; exact beq_iff_eq.mpr (by omega)
  · rw [decide_eq_false h]; exact beq_eq_false_iff_ne.mpr (by omega)
theorem w32_poly (x : BitVec 32) : Go.bits .xor .u32 (w32 x) 3988292384 = w32 (x ^^^ 0xedb88320#32) := u32_xor x 0xedb88320#32
theorem w32_all (x : BitVec 32) : Go.bits .xor .u32 (w32 x) 4294967295 = w32 (x ^^^ 0xffffffff#32) := u32_xor x 0xffffffff#32
theorem w32_byte (x : BitVec 32) (b : UInt8) : Go.bits .xor .u32 (w32 x) (IntKind.wrap .u32 (b.toNat : Int)) = w32 (x ^^^ b32 b) := by
  have hb := b.toNat_lt
  rw [u32w, show (b.toNat : Int) % 4294967296 = (b.toNat : Int) by omega, ← byte_nat, u32_xor]
theorem i64_up {i : Nat} (h : i < 9223372036854775807) : IntKind.wrap .i64 (((i : Nat) : Int) + 1) = ((i + 1 : Nat) : Int) := by rw [i64w]; omega
theorem step_go (d : Nat) : ∀ (k i : Nat), i + k = 8 → ∀ (x : BitVec 32) f, k < f → L40_0 d f (w32 x) (i : Nat) = some (.int .u32 (w32 (stN k x)))
  | 0, i, h, x, f + 1, _ => by
    rw [L40_0, decide_eq_false (by omega), cnd_f]; rfl
  | k + 1, i, h, x, f + 1, hf => by
    rw [L40_0, decide_eq_true (by omega), cnd_t, w32_and1, w32_half, w32_poly, i64_up (by omega)]
    rw [stN]
    have e : st x = bif x.getLsbD 0 then (x >>> 1) ^^^ 0xedb88320#32 else x >>> 1 := by
      unfold st; cases x.getLsbD 0 <;> simp
    rw [e]
    cases x.getLsbD 0
    · rw [cnd_f, cond_false]; exact step_go d k (i + 1) (by omega) _ f (by omega)
    · rw [cnd_t, cond_true]; exact step_go d k (i + 1) (by omega) _ f (by omega)
theorem s40 (d : Nat) (x : BitVec 32) : pcall M (d + 1) 40 [.int .u32 (w32 x)] = some (.int .u32 (w32 (stN 8 x))) := told (q40 d _) (step_go d 8 0 rfl x 1000000000000000000 (by omega))
theorem step_go' (d : Nat) : ∀ (k i : Nat), i + k = 8 → ∀ (x : BitVec 32) f, k < f → L41_0 d f (w32 x) (i : Nat) = some (.int .u32 (w32 (stN k x)))
  | 0, i, h, x, f + 1, _ => by
    rw [L41_0, decide_eq_false (by omega), cnd_f]; rfl
  | k + 1, i, h, x, f + 1, hf => by
    rw [L41_0, decide_eq_true (by omega), cnd_t, w32_odd, w32_half', w32_poly, i64_up (by omega)]
    rw [stN]
    have e : st x = bif x.getLsbD 0 then (x >>> 1) ^^^ 0xedb88320#32 else x >>> 1 := by
      unfold st; cases x.getLsbD 0 <;> simp
    rw [e]
    cases x.getLsbD 0
    · rw [cnd_f, cond_false]; exact step_go' d k (i + 1) (by omega) _ f (by omega)
    · rw [cnd_t, cond_true]; exact step_go' d k (i + 1) (by omega) _ f (by omega)
theorem s41 (d : Nat) (x : BitVec 32) : pcall M (d + 1) 41 [.int .u32 (w32 x)] = some (.int .u32 (w32 (stN 8 x))) := told (q41 d _) (step_go' d 8 0 rfl x 1000000000000000000 (by omega))
theorem s2b_h {H : Heap} {e : ETy} {s : List UInt8} {K : AV → Heap → Ans} : C0.hop H (.s2b e (.v (.str s))) K = K (.slc H.length 0 s.length) (H ++ [some ⟨e, bytesAV s⟩]) := hop_eq rfl
theorem len_slc {H : Heap} {id o n : Nat} {b : Blk} {K : AV → Heap → Ans} (h : hget H id = some b) : C0.hop H (.bk .lenV [.v (.slc id o n)]) K = K (.int .i64 n) H := hop_eq (by simp [aop, evO, lenOf, h])
theorem bytes_at {s : List UInt8} {i : Nat} (h : i < s.length) : (bytesAV s)[i]? = some (.int .u8 (s[i].toNat : Int)) := by simp [bytesAV, List.getElem?_map, List.getElem?_eq_getElem h]
theorem str_at {s : List UInt8} {i : Nat} (h : i < s.length) : Option.map (fun b : UInt8 => AV.int .u8 (b.toNat : Int)) s[i]? = some (.int .u8 (s[i].toNat : Int)) := by rw [List.getElem?_eq_getElem h]; rfl
theorem sum_go (d : Nat) (s : List UInt8) (hl : s.length < 9223372036854775807) : ∀ (k i : Nat), i + k = s.length → ∀ (x : BitVec 32) f, k < f →
    L38_0 (d + 1) (.slc 0 0 s.length) (s.length : Nat) f (w32 x) (i : Nat) [some ⟨E5, bytesAV s⟩] = some (.int .u32 (w32 ((s.drop i).foldl byteF x ^^^ 0xffffffff#32)))
  | 0, i, h, x, f + 1, _ => by
    rw [L38_0, decide_eq_false (by omega), cnd_f, List.drop_of_length_le (by omega), List.foldl_nil]
    unfold X38_0_0
    rw [w32_all]
    exact f_free rfl
  | k + 1, i, h, x, f + 1, hf => by
    have hi : i < s.length := by omega
    rw [L38_0, decide_eq_true (by omega), cnd_t]
    refine Eq.trans (ix_slc (b := ⟨E5, bytesAV s⟩) rfl (by omega) (by omega) rfl) ?_
    refine Eq.trans (ld_ptr (b := ⟨E5, bytesAV s⟩) (v := .int .u8 (s[i].toNat : Int)) rfl (show (bytesAV s)[0 + ((i : Nat) : Int).toNat]? = _ by rw [show 0 + ((i : Nat) : Int).toNat = i by omega]; exact bytes_at hi) rfl) ?_
    refine Eq.trans (pl_int rfl) ?_
    rw [w32_byte]
    refine Eq.trans (pl_int (s40 d _)) ?_
    rw [i64_up (by omega), List.drop_eq_getElem_cons hi, List.foldl_cons]
    exact sum_go d s hl k (i + 1) (by omega) _ f (by omega)
theorem s38 (d : Nat) (s : List UInt8) (hl : s.length < 1000000000000000000) : pcall M (d + 2) 38 [.str s] = some (.int .u32 (w32 (crcF s))) := told (q38 (d + 1) _) (by
  refine Eq.trans s2b_h ?_
  refine Eq.trans (len_slc (b := ⟨E5, bytesAV s⟩) rfl) ?_
  refine Eq.trans (pl_int rfl) ?_
  exact sum_go d s (by omega) s.length 0 (by omega) 0xffffffff#32 1000000000000000000 (by omega))
theorem sum_go' (d : Nat) (s : List UInt8) (hl : s.length < 9223372036854775807) : ∀ (k i : Nat), i + k = s.length → ∀ (x : BitVec 32) f, k < f →
    L39_0 (d + 1) s f (w32 x) (i : Nat) = some (.int .u32 (w32 ((s.drop i).foldl byteF x ^^^ 0xffffffff#32)))
  | 0, i, h, x, f + 1, _ => by
    rw [L39_0, decide_eq_false (by omega), cnd_f, List.drop_of_length_le (by omega), List.foldl_nil]
    unfold X39_0_0
    rw [w32_all]
  | k + 1, i, h, x, f + 1, hf => by
    have hi : i < s.length := by omega
    rw [L39_0, decide_eq_true (by omega), cnd_t, decide_eq_true (by omega), cnd_t, show (((i : Nat) : Int)).toNat = i by omega]
    refine Eq.trans (pl_int (str_at hi)) ?_
    rw [w32_byte]
    refine Eq.trans (pl_int (s41 d _)) ?_
    rw [i64_up (by omega), List.drop_eq_getElem_cons hi, List.foldl_cons]
    exact sum_go' d s hl k (i + 1) (by omega) _ f (by omega)
theorem s39 (d : Nat) (s : List UInt8) (hl : s.length < 1000000000000000000) : pcall M (d + 2) 39 [.str s] = some (.int .u32 (w32 (crcF s))) := told (q39 (d + 1) _) (sum_go' d s (by omega) s.length 0 (by omega) 0xffffffff#32 1000000000000000000 (by omega))
end Go.Proofs.Ytoceckjagfhfmaa.AE

namespace Go.Proofs.Ytoceckjagfhfmaa.AE
set_option linter.unusedVariables false
set_option linter.unusedSimpArgs false
open Go Go.Proofs.Ytoceckjagfhfmaa.Geo
attribute [local irreducible] pcall C0
/-- A number's lowest byte. -/
def by8 (n : Int) : UInt8 := UInt8.ofNat (n % 256).toNat
theorem u8w (n : Int) : IntKind.u8.wrap n = n % 256 := by simp [IntKind.wrap, IntKind.bits, IntKind.signed]
theorem by8e (n : Int) : UInt8.ofNat (Int.toNat (IntKind.wrap .u8 n)) = by8 n := by rw [u8w]; rfl
theorem by8_n (n : Int) : ((by8 n).toNat : Int) = n % 256 := by
  unfold by8
  rw [UInt8.toNat_ofNat']
  omega
theorem by8_b (b : UInt8) : by8 (b.toNat : Int) = b := by
  unfold by8
  have h := b.toNat_lt
  rw [show ((b.toNat : Int) % 256).toNat = b.toNat by omega]
  simp
theorem by8_mod (n : Int) : by8 (n % 256) = by8 n := by unfold by8; rw [Int.emod_emod_of_dvd _ (by decide)]
theorem fd24 (n : Int) : Int.fdiv n (2 ^ (min (Int.toNat 24) 32)) = n / 16777216 := by
  rw [show (2 ^ (min (Int.toNat 24) 32) : Int) = 16777216 from rfl, Int.fdiv_eq_ediv_of_nonneg _ (by decide)]
theorem fd16 (n : Int) : Int.fdiv n (2 ^ (min (Int.toNat 16) 32)) = n / 65536 := by
  rw [show (2 ^ (min (Int.toNat 16) 32) : Int) = 65536 from rfl, Int.fdiv_eq_ediv_of_nonneg _ (by decide)]
theorem fd8 (n : Int) : Int.fdiv n (2 ^ (min (Int.toNat 8) 32)) = n / 256 := by
  rw [show (2 ^ (min (Int.toNat 8) 32) : Int) = 256 from rfl, Int.fdiv_eq_ediv_of_nonneg _ (by decide)]
/-- A number's four bytes, the highest first. -/
def be4 (n : Int) : List UInt8 := [by8 (n / 16777216), by8 (n / 65536), by8 (n / 256), by8 n]
theorem be4_len (n : Int) : (be4 n).length = 4 := rfl
/-- The number of four bytes. -/
def num4 (s : List UInt8) : Int := ((s.getD 0 0).toNat : Int) * 16777216 + ((s.getD 1 0).toNat : Int) * 65536 + ((s.getD 2 0).toNat : Int) * 256 + ((s.getD 3 0).toNat : Int)
theorem u8lt (b : UInt8) : (b.toNat : Int) < 256 := by have := b.toNat_lt; omega
theorem num4_bd (s : List UInt8) : 0 ≤ num4 s ∧ num4 s < 4294967296 := by
  unfold num4
  have h0 := u8lt (s.getD 0 0); have h1 := u8lt (s.getD 1 0); have h2 := u8lt (s.getD 2 0); have h3 := u8lt (s.getD 3 0)
  omega
theorem num4_be4 {n : Int} (h : 0 ≤ n) (h' : n < 4294967296) (t : List UInt8) : num4 (be4 n ++ t) = n := by
  unfold num4 be4
  simp only [List.cons_append, List.nil_append, List.getD_cons_zero, List.getD_cons_succ, by8_n]
  omega
theorem be4_num4 {s : List UInt8} (h : s.length = 4) : be4 (num4 s) = s := by
  match s, h with
  | [a, b, c, e], _ =>
    unfold num4 be4
    simp only [List.getD_cons_zero, List.getD_cons_succ]
    have ha := u8lt a; have hb := u8lt b; have hc := u8lt c; have he := u8lt e
    have e1 : ((a.toNat : Int) * 16777216 + b.toNat * 65536 + c.toNat * 256 + e.toNat) / 16777216 = a.toNat := by omega
    rw [e1, by8_b]
    have e2 : ((a.toNat : Int) * 16777216 + b.toNat * 65536 + c.toNat * 256 + e.toNat) / 65536 % 256 = b.toNat := by omega
    have e3 : ((a.toNat : Int) * 16777216 + b.toNat * 65536 + c.toNat * 256 + e.toNat) / 256 % 256 = c.toNat := by omega
    have e4 : ((a.toNat : Int) * 16777216 + b.toNat * 65536 + c.toNat * 256 + e.toNat) % 256 = e.toNat := by omega
    rw [← by8_mod (_ / 65536), e2, by8_b, ← by8_mod (_ / 256), e3, by8_b, ← by8_mod (_ + _), e4, by8_b]
theorem be4_eq {n : Int} (h : 0 ≤ n) (h' : n < 4294967296) {s : List UInt8} (hs : s.length = 4) : be4 n = s ↔ n = num4 s := by
  constructor
  · intro e
    have := num4_be4 h h' []
    rw [List.append_nil, e] at this
    exact this.symm
  · intro e
    rw [e, be4_num4 hs]
theorem w32_bd (x : BitVec 32) : 0 ≤ w32 x ∧ w32 x < 4294967296 := by have := x.isLt; unfold w32; omega
/-- A text with its sum behind it. -/
def sealF (s : List UInt8) : List UInt8 := s ++ be4 (w32 (crcF s))
/-- What is wrong with a sealed text of so many bytes. -/
def openF (s : List UInt8) (n : Nat) : Int := if s.length < n + 4 then 5 else if s.length > n + 4 then 3 else if w32 (crcF (s.take n)) ≠ num4 (s.drop n) then 4 else 0
theorem open_is {s : List UInt8} {n : Nat} (h : openF s n = 0) : s.length = n + 4 ∧ sealF (s.take n) = s := by
  unfold openF at h
  split at h
  · cases h
  · split at h
    · cases h
    · split at h
      · cases h
      · rename_i h1 h2 h3
        have hl : s.length = n + 4 := by omega
        refine ⟨hl, ?_⟩
        have h3 : w32 (crcF (s.take n)) = num4 (s.drop n) := Decidable.not_not.mp h3
        unfold sealF
        rw [h3, be4_num4 (by simp; omega), List.take_append_drop]
theorem open_iff {s : List UInt8} {n : Nat} (h : s.length = n + 4) : (sealF (s.take n) = s) ↔ w32 (crcF (s.take n)) = num4 (s.drop n) := by
  constructor
  · intro e
    have h2 := congrArg (List.drop n) e
    have hl : (s.take n).length = n := by simp; omega
    unfold sealF at h2
    rw [List.drop_left' hl] at h2
    exact (be4_eq (w32_bd _).1 (w32_bd _).2 (by simp; omega)).mp h2
  · intro e
    unfold sealF
    rw [e, be4_num4 (by simp; omega), List.take_append_drop]
theorem or_byte {x : Int} {b : UInt8} (h : 0 ≤ x) (h' : x < 16777216) : Go.bits .or .u32 (IntKind.wrap .u32 (x * (2 ^ (min (Int.toNat 8) 32)))) (IntKind.wrap .u32 (b.toNat : Int)) = x * 256 + (b.toNat : Int) := by
  obtain ⟨n, rfl⟩ := Int.eq_ofNat_of_zero_le h
  have hb := b.toNat_lt
  rw [u32w, u32w, show (2 ^ (min (Int.toNat 8) 32) : Int) = 256 from rfl, show ((n : Int) * 256) % 4294967296 = ((n * 256 : Nat) : Int) by omega, show (b.toNat : Int) % 4294967296 = ((b.toNat : Nat) : Int) by omega]
  show IntKind.u32.wrap ((BitVec.ofInt 32 ((n * 256 : Nat) : Int) ||| BitVec.ofInt 32 ((b.toNat : Nat) : Int)).toNat : Int) = _
  rw [BitVec.ofInt_natCast, BitVec.ofInt_natCast, BitVec.toNat_or, BitVec.toNat_ofNat, BitVec.toNat_ofNat, Nat.mod_eq_of_lt (by omega), Nat.mod_eq_of_lt (by omega)]
  have := Nat.two_pow_add_eq_or_of_lt (i := 8) (b := b.toNat) (by omega) n
  rw [show 2 ^ 8 * n = n * 256 by omega] at this
  rw [← this, u32w]
  omega
end Go.Proofs.Ytoceckjagfhfmaa.AE

namespace Go.Proofs.Ytoceckjagfhfmaa.AE
set_option linter.unusedVariables false
set_option linter.unusedSimpArgs false
set_option linter.constructorNameAsVariable false
open Go
set_option maxRecDepth 100000
/-- apogee/peer.PrintWord -/
theorem r9 (C : Cb) (d : Nat) (a0 a1 a2 a3 : Int) : xcall C M unr d 9 [(.agg [(iz a0), (iz a1), (iz a2), (iz a3)])] =
 C.bool (pcall M d 25 [(.agg [(iz a0), (iz a1), (iz a2), (iz a3)])]) fun b0 =>
 cnd (!b0)
 (some (.str []))
 (C.int .u32 (pcall M d 38 [(.str [(UInt8.ofNat (Int.toNat (IntKind.wrap .u8 (Int.fdiv (IntKind.wrap .u32 a0) (2 ^ (min (Int.toNat 24) 32)))))), (UInt8.ofNat (Int.toNat (IntKind.wrap .u8 (Int.fdiv (IntKind.wrap .u32 a0) (2 ^ (min (Int.toNat 16) 32)))))), (UInt8.ofNat (Int.toNat (IntKind.wrap .u8 (Int.fdiv (IntKind.wrap .u32 a0) (2 ^ (min (Int.toNat 8) 32)))))), (UInt8.ofNat (Int.toNat (IntKind.wrap .u8 (IntKind.wrap .u32 a0)))), (UInt8.ofNat (Int.toNat (IntKind.wrap .u8 (IntKind.wrap .i64 (a1 + (IntKind.wrap .i64 (16 * a2))))))), (UInt8.ofNat (Int.toNat (IntKind.wrap .u8 a3)))])]) fun x1 =>
 some (.str [(UInt8.ofNat (Int.toNat (IntKind.wrap .u8 (Int.fdiv (IntKind.wrap .u32 a0) (2 ^ (min (Int.toNat 24) 32)))))), (UInt8.ofNat (Int.toNat (IntKind.wrap .u8 (Int.fdiv (IntKind.wrap .u32 a0) (2 ^ (min (Int.toNat 16) 32)))))), (UInt8.ofNat (Int.toNat (IntKind.wrap .u8 (Int.fdiv (IntKind.wrap .u32 a0) (2 ^ (min (Int.toNat 8) 32)))))), (UInt8.ofNat (Int.toNat (IntKind.wrap .u8 (IntKind.wrap .u32 a0)))), (UInt8.ofNat (Int.toNat (IntKind.wrap .u8 (IntKind.wrap .i64 (a1 + (IntKind.wrap .i64 (16 * a2))))))), (UInt8.ofNat (Int.toNat (IntKind.wrap .u8 a3))), (UInt8.ofNat (Int.toNat (IntKind.wrap .u8 (Int.fdiv x1 (2 ^ (min (Int.toNat 24) 32)))))), (UInt8.ofNat (Int.toNat (IntKind.wrap .u8 (Int.fdiv x1 (2 ^ (min (Int.toNat 16) 32)))))), (UInt8.ofNat (Int.toNat (IntKind.wrap .u8 (Int.fdiv x1 (2 ^ (min (Int.toNat 8) 32)))))), (UInt8.ofNat (Int.toNat (IntKind.wrap .u8 x1)))])) := by kernel_rfl
/-- apogee/apogeeref07.RightReport -/
theorem r24 (C : Cb) (d : Nat) (a0 a1 a2 a3 a4 a5 a6 a7 a8 : Int) : xcall C M unr d 24 [(.agg [(iz a0), (iz a1), (iz a2), (iz a3), (iz a4), (iz a5), (iz a6), (iz a7), (iz a8)])] =
 C.bool (pcall M d 35 [(iz a0), (iz 1000000)]) fun b0 =>
 cnd b0
 (C.bool (pcall M d 35 [(iz a1), (iz 3)]) fun b1 =>
 cnd b1
 (C.bool (pcall M d 35 [(iz a2), (iz 2)]) fun b2 =>
 cnd b2
 (C.bool (pcall M d 35 [(iz a3), (iz 255)]) fun b3 =>
 cnd b3
 (C.bool (pcall M d 35 [(iz a4), (iz 255)]) fun b4 =>
 cnd b4
 (C.bool (pcall M d 35 [(iz a5), (iz 255)]) fun b5 =>
 cnd b5
 (C.bool (pcall M d 35 [(iz a6), (iz 4)]) fun b6 =>
 cnd b6
 (C.bool (pcall M d 35 [(iz a7), (iz 4)]) fun b7 =>
 cnd b7
 (C.bool (pcall M d 35 [(iz a8), (iz 255)]) fun b8 =>
 some (.bool b8))
 (some bf))
 (some bf))
 (some bf))
 (some bf))
 (some bf))
 (some bf))
 (some bf))
 (some bf) := by kernel_rfl
/-- (apogee/peer.Word).right -/
theorem r25 (C : Cb) (d : Nat) (a0 a1 a2 a3 : Int) : xcall C M unr d 25 [(.agg [(iz a0), (iz a1), (iz a2), (iz a3)])] =
 C.bool (pcall M d 36 [(iz a0), (iz a1), (iz a2)]) fun b0 =>
 cnd b0
 (C.bool (pcall M d 37 [(iz a3), (iz 15)]) fun b1 =>
 some (.bool b1))
 (some bf) := by kernel_rfl
/-- apogee/peer.open -/
theorem r28 (C : Cb) (d : Nat) (a0 : List UInt8) (a1 : Int) : xcall C M unr d 28 [(.str a0), (iz a1)] =
 cnd (decide ((((List.length a0) : Nat) : Int) < (IntKind.wrap .i64 (a1 + 4))))
 (some (iz 5))
 (cnd (decide ((((List.length a0) : Nat) : Int) > (IntKind.wrap .i64 (a1 + 4))))
 (some (iz 3))
 (cnd (decide (((0 : Int) ≤ a1) ∧ (a1 ≤ (((List.length a0) : Nat) : Int))))
 (C.int .u32 (pcall M d 38 [(.str (List.drop 0 (List.take (Int.toNat a1) a0)))]) fun x0 =>
 cnd (decide (((0 : Int) ≤ a1) ∧ (a1 ≤ (((List.length a0) : Nat) : Int))))
 (C.int .u32 (pcall M d 29 [(.str (List.drop (Int.toNat a1) (List.take (List.length a0) a0)))]) fun x1 =>
 cnd (x0 != x1)
 (some (iz 4))
 (some (iz 0)))
 (none))
 (none))) := by kernel_rfl
def r29R0 (C : Cb) (d : Nat) (a0 : List UInt8) (v0 : AV) (x4 : Int) : St → (Ex → St → Ans) → Ans := fun s5 k6 =>
 cnd ((List.length s5.env) == 21)
 (C.same s5.env[0]? (.str a0) <|
 C.same s5.env[1]? tz <|
 C.same s5.env[2]? (.int .u32 0) <|
 C.int .u32 s5.env[3]? fun x8 =>
 C.same s5.env[4]? tz <|
 C.any s5.env[5]? fun v9 =>
 C.same s5.env[6]? (.str a0) <|
 C.same s5.env[7]? (.str (List.drop 0 (List.take (Int.toNat 4) a0))) <|
 C.same s5.env[8]? v0 <|
 C.same s5.env[9]? (iz x4) <|
 C.int .i64 s5.env[10]? fun x10 =>
 C.any s5.env[11]? fun v11 =>
 C.any s5.env[12]? fun v12 =>
 C.any s5.env[13]? fun v13 =>
 C.any s5.env[14]? fun v14 =>
 C.any s5.env[15]? fun v15 =>
 C.any s5.env[16]? fun v16 =>
 C.any s5.env[17]? fun v17 =>
 C.any s5.env[18]? fun v18 =>
 C.any s5.env[19]? fun v19 =>
 C.same s5.env[20]? tz <|
 cnd (decide (x10 < x4))
 (C.hop (St.H s5) (.ixAS .any 1 (.v v0) (.v (iz x10))) fun v20 h21 =>
 C.hop h21 (.load false 1 (.v v20)) fun v22 h23 =>
 C.int .u8 (some v22) fun x24 =>
 k6 .normal ⟨[(.str a0), tz, (.int .u32 0), (.int .u32 (bits .or .u32 (IntKind.wrap .u32 (x8 * (2 ^ (min (Int.toNat 8) 32)))) (IntKind.wrap .u32 x24))), tz, (.int .u8 x24), (.str a0), (.str (List.drop 0 (List.take (Int.toNat 4) a0))), v0, (iz x4), (iz (IntKind.wrap .i64 (x10 + 1))), bt, v20, (.int .u8 x24), (.int .u32 x8), (.int .u32 (IntKind.wrap .u32 (x8 * (2 ^ (min (Int.toNat 8) 32))))), (.int .u8 x24), (.int .u32 (IntKind.wrap .u32 x24)), (.int .u32 (bits .or .u32 (IntKind.wrap .u32 (x8 * (2 ^ (min (Int.toNat 8) 32)))) (IntKind.wrap .u32 x24))), (iz (IntKind.wrap .i64 (x10 + 1))), tz], h23⟩)
 (k6 (.exit 0) ⟨[(.str a0), tz, (.int .u32 0), (.int .u32 x8), tz, v9, (.str a0), (.str (List.drop 0 (List.take (Int.toNat 4) a0))), v0, (iz x4), (iz x10), bf, v12, v13, v14, v15, v16, v17, v18, v19, tz], (St.H s5)⟩))
 (none)
def r29X0_0 (C : Cb) (d : Nat) (a0 : List UInt8) (v0 : AV) (x4 : Int) : St → Ans := fun s25 =>
 cnd ((List.length s25.env) == 21)
 (C.same s25.env[0]? (.str a0) <|
 C.same s25.env[1]? tz <|
 C.same s25.env[2]? (.int .u32 0) <|
 C.int .u32 s25.env[3]? fun x26 =>
 C.same s25.env[4]? tz <|
 C.any s25.env[5]? fun v27 =>
 C.same s25.env[6]? (.str a0) <|
 C.same s25.env[7]? (.str (List.drop 0 (List.take (Int.toNat 4) a0))) <|
 C.same s25.env[8]? v0 <|
 C.same s25.env[9]? (iz x4) <|
 C.int .i64 s25.env[10]? fun x28 =>
 C.any s25.env[11]? fun v29 =>
 C.any s25.env[12]? fun v30 =>
 C.any s25.env[13]? fun v31 =>
 C.any s25.env[14]? fun v32 =>
 C.any s25.env[15]? fun v33 =>
 C.any s25.env[16]? fun v34 =>
 C.any s25.env[17]? fun v35 =>
 C.any s25.env[18]? fun v36 =>
 C.any s25.env[19]? fun v37 =>
 C.same s25.env[20]? tz <|
 C.fin (St.H s25) (.int .u32 x26))
 (none)
def r29E0 (C : Cb) (d : Nat) (a0 : List UInt8) (v0 : AV) (x4 : Int) : St → Ans := fun s7 =>
 cnd ((List.length s7.env) == 21)
 (C.same s7.env[0]? (.str a0) <|
 C.same s7.env[1]? tz <|
 C.same s7.env[2]? (.int .u32 0) <|
 C.int .u32 s7.env[3]? fun x38 =>
 C.same s7.env[4]? tz <|
 C.any s7.env[5]? fun v39 =>
 C.same s7.env[6]? (.str a0) <|
 C.same s7.env[7]? (.str (List.drop 0 (List.take (Int.toNat 4) a0))) <|
 C.same s7.env[8]? v0 <|
 C.same s7.env[9]? (iz x4) <|
 C.int .i64 s7.env[10]? fun x40 =>
 C.any s7.env[11]? fun v41 =>
 C.any s7.env[12]? fun v42 =>
 C.any s7.env[13]? fun v43 =>
 C.any s7.env[14]? fun v44 =>
 C.any s7.env[15]? fun v45 =>
 C.any s7.env[16]? fun v46 =>
 C.any s7.env[17]? fun v47 =>
 C.any s7.env[18]? fun v48 =>
 C.any s7.env[19]? fun v49 =>
 C.same s7.env[20]? tz <|
 C.fin (St.H s7) (.int .u32 0))
 (none)
/-- apogee/peer.get -/
theorem r29 (C : Cb) (d : Nat) (a0 : List UInt8) : xcall C M unr d 29 [(.str a0)] =
 cnd (decide (((0 : Int) ≤ 4) ∧ ((4 : Int) ≤ (((List.length a0) : Nat) : Int))))
 (C.hop [] (.s2b E5 (.v (.str (List.drop 0 (List.take (Int.toNat 4) a0))))) fun v0 h1 =>
 C.hop h1 (.bk .lenV [(.v v0)]) fun v2 h3 =>
 C.int .i64 (some v2) fun x4 =>
 C.iter (r29R0 C d a0 v0 x4) 1000000000000000000 ⟨[(.str a0), tz, (.int .u32 0), (.int .u32 0), tz, tz, (.str a0), (.str (List.drop 0 (List.take (Int.toNat 4) a0))), v0, (iz x4), (iz 0), tz, tz, tz, tz, tz, tz, tz, tz, tz, tz], h3⟩ [0] [r29X0_0 C d a0 v0 x4] (r29E0 C d a0 v0 x4))
 (none) := by kernel_rfl
/-- apogee/apogeeref07.open -/
theorem r30 (C : Cb) (d : Nat) (a0 : List UInt8) (a1 : Int) : xcall C M unr d 30 [(.str a0), (iz a1)] =
 cnd (decide ((((List.length a0) : Nat) : Int) < (IntKind.wrap .i64 (a1 + 4))))
 (some (iz 5))
 (cnd (decide ((((List.length a0) : Nat) : Int) > (IntKind.wrap .i64 (a1 + 4))))
 (some (iz 3))
 (cnd (decide (((0 : Int) ≤ a1) ∧ (a1 ≤ (((List.length a0) : Nat) : Int))))
 (C.str (pcall M d 32 [(.str (List.drop 0 (List.take (Int.toNat a1) a0)))]) fun s0 =>
 cnd (!(s0 == a0))
 (some (iz 4))
 (some (iz 0)))
 (none))) := by kernel_rfl
/-- apogee/apogeeref07.number -/
theorem r31 (C : Cb) (d : Nat) (a0 : List UInt8) : xcall C M unr d 31 [(.str a0)] =
 C.int .u8 (Option.map (fun b : UInt8 => AV.int .u8 (b.toNat : Int)) a0[0]?) fun x0 =>
 C.int .u8 (Option.map (fun b : UInt8 => AV.int .u8 (b.toNat : Int)) a0[1]?) fun x1 =>
 C.int .u8 (Option.map (fun b : UInt8 => AV.int .u8 (b.toNat : Int)) a0[2]?) fun x2 =>
 C.int .u8 (Option.map (fun b : UInt8 => AV.int .u8 (b.toNat : Int)) a0[3]?) fun x3 =>
 some (iz (IntKind.wrap .i64 ((IntKind.wrap .i64 ((IntKind.wrap .i64 ((IntKind.wrap .i64 ((IntKind.wrap .i64 x0) * 16777216)) + (IntKind.wrap .i64 ((IntKind.wrap .i64 x1) * 65536)))) + (IntKind.wrap .i64 ((IntKind.wrap .i64 x2) * 256)))) + (IntKind.wrap .i64 x3)))) := by kernel_rfl
/-- apogee/apogeeref07.sealed -/
theorem r32 (C : Cb) (d : Nat) (a0 : List UInt8) : xcall C M unr d 32 [(.str a0)] =
 C.int .u32 (pcall M d 39 [(.str a0)]) fun x0 =>
 C.str (pcall M d 33 [(.int .u32 x0)]) fun s1 =>
 cnd (decide (((List.length a0) + (List.length s1)) ≤ 9223372036854775807))
 (some (.str (a0 ++ s1)))
 (none) := by kernel_rfl
/-- apogee/apogeeref07.four -/
theorem r33 (C : Cb) (d : Nat) (a0 : Int) : xcall C M unr d 33 [(.int .u32 a0)] =
 some (.str [(UInt8.ofNat (Int.toNat (IntKind.wrap .u8 (Int.fdiv a0 (2 ^ (min (Int.toNat 24) 32)))))), (UInt8.ofNat (Int.toNat (IntKind.wrap .u8 (Int.fdiv a0 (2 ^ (min (Int.toNat 16) 32)))))), (UInt8.ofNat (Int.toNat (IntKind.wrap .u8 (Int.fdiv a0 (2 ^ (min (Int.toNat 8) 32)))))), (UInt8.ofNat (Int.toNat (IntKind.wrap .u8 a0)))]) := by kernel_rfl
/-- apogee/apogeeref07.within -/
theorem r35 (C : Cb) (d : Nat) (a0 a1 : Int) : xcall C M unr d 35 [(iz a0), (iz a1)] =
 cnd (decide (a0 ≥ 0))
 (some (.bool (decide (a0 ≤ a1))))
 (some bf) := by kernel_rfl
/-- apogee/peer.where -/
theorem r36 (C : Cb) (d : Nat) (a0 a1 a2 : Int) : xcall C M unr d 36 [(iz a0), (iz a1), (iz a2)] =
 C.bool (pcall M d 37 [(iz a0), (iz 1000000)]) fun b0 =>
 cnd b0
 (C.bool (pcall M d 37 [(iz a1), (iz 3)]) fun b1 =>
 cnd b1
 (C.bool (pcall M d 37 [(iz a2), (iz 2)]) fun b2 =>
 some (.bool b2))
 (some bf))
 (some bf) := by kernel_rfl
/-- apogee/peer.within -/
theorem r37 (C : Cb) (d : Nat) (a0 a1 : Int) : xcall C M unr d 37 [(iz a0), (iz a1)] =
 cnd (decide (a0 ≥ 0))
 (some (.bool (decide (a0 ≤ a1))))
 (some bf) := by kernel_rfl
end Go.Proofs.Ytoceckjagfhfmaa.AE

namespace Go.Proofs.Ytoceckjagfhfmaa.AE
set_option linter.unusedVariables false
set_option linter.unusedSimpArgs false
set_option linter.constructorNameAsVariable false
open Go
set_option maxRecDepth 100000
set_option maxHeartbeats 0
noncomputable def X29_0_0 (d : Nat) (v0 : AV) (x4 x26 : Int) (H : Heap) : Ans :=
  C0.fin H (.int .u32 x26)
theorem X29_0_0_ok (d : Nat) (a0 : List UInt8) (v0 : AV) (x4 x26 : Int) (v27 : AV) (x28 : Int) (v29 v30 v31 v32 v33 v34 v35 v36 v37 : AV) (H : Heap) : r29X0_0 C0 d a0 v0 x4 ⟨[(.str a0), tz, (.int .u32 0), (.int .u32 x26), tz, v27, (.str a0), (.str (List.drop 0 (List.take (Int.toNat 4) a0))), v0, (iz x4), (iz x28), v29, v30, v31, v32, v33, v34, v35, v36, v37, tz], H⟩ = X29_0_0 d v0 x4 x26 H := by
  unfold r29X0_0; refine Eq.trans (pl_len (by rfl)) ?_; (iterate 3 (refine yt yS ?_)); refine yt yI ?_; refine yt yS ?_; refine yt yA ?_; (iterate 4 (refine yt yS ?_)); refine yt yI ?_; (iterate 9 (refine yt yA ?_)); refine yt yS ?_
  rfl
noncomputable def E29_0 (d : Nat) (v0 : AV) (x4 : Int) (H : Heap) : Ans :=
  C0.fin H (.int .u32 0)
theorem E29_0_ok (d : Nat) (a0 : List UInt8) (v0 : AV) (x4 x38 : Int) (v39 : AV) (x40 : Int) (v41 v42 v43 v44 v45 v46 v47 v48 v49 : AV) (H : Heap) : r29E0 C0 d a0 v0 x4 ⟨[(.str a0), tz, (.int .u32 0), (.int .u32 x38), tz, v39, (.str a0), (.str (List.drop 0 (List.take (Int.toNat 4) a0))), v0, (iz x4), (iz x40), v41, v42, v43, v44, v45, v46, v47, v48, v49, tz], H⟩ = E29_0 d v0 x4 H := by
  unfold r29E0; refine Eq.trans (pl_len (by rfl)) ?_; (iterate 3 (refine yt yS ?_)); refine yt yI ?_; refine yt yS ?_; refine yt yA ?_; (iterate 4 (refine yt yS ?_)); refine yt yI ?_; (iterate 9 (refine yt yA ?_)); refine yt yS ?_
  rfl
noncomputable def L29_0 (d : Nat) (v0 : AV) (x4 : Int) : Nat → Int → Int → Heap → Ans
  | 0, _, _, _ => none
  | n + 1, x8, x10, H =>
  cnd (decide (x10 < x4))
   (C0.hop H (.ixAS .any 1 (.v v0) (.v (iz x10))) fun v20 h21 =>
   C0.hop h21 (.load false 1 (.v v20)) fun v22 h23 =>
   C0.int .u8 (some v22) fun x24 =>
   L29_0 d v0 x4 n (bits .or .u32 (IntKind.wrap .u32 (x8 * (2 ^ (min (Int.toNat 8) 32)))) (IntKind.wrap .u32 x24)) (IntKind.wrap .i64 (x10 + 1)) h23)
   (X29_0_0 d v0 x4 x8 H)
theorem it29_0 (d : Nat) (a0 : List UInt8) (v0 : AV) (x4 : Int)   : ∀ (n : Nat) (x8 : Int) (v9 : AV) (x10 : Int) (v11 v12 v13 v14 v15 v16 v17 v18 v19 : AV) (H : Heap), C0.iter (r29R0 C0 d a0 v0 x4) n ⟨[(.str a0), tz, (.int .u32 0), (.int .u32 x8), tz, v9, (.str a0), (.str (List.drop 0 (List.take (Int.toNat 4) a0))), v0, (iz x4), (iz x10), v11, v12, v13, v14, v15, v16, v17, v18, v19, tz], H⟩ [0] [r29X0_0 C0 d a0 v0 x4] (r29E0 C0 d a0 v0 x4) = L29_0 d v0 x4 n x8 x10 H := by
  generalize hR : r29R0 C0 d a0 v0 x4 = R
  intro n
  induction n with
  | zero => intros; rfl
  | succ n ih =>
    intro x8 v9 x10 v11 v12 v13 v14 v15 v16 v17 v18 v19 H
    simp only [it_ret] at ih
    rw [it_ret, xiter_s]
    refine Eq.trans (congrFun (congrFun hR.symm _) _) ?_
    unfold r29R0
    refine Eq.trans (pl_len (by rfl)) ?_; (iterate 3 (refine yt yS ?_)); refine yt yI ?_; refine yt yS ?_; refine yt yA ?_; (iterate 4 (refine yt yS ?_)); refine yt yI ?_; (iterate 9 (refine yt yA ?_)); refine yt yS ?_
    simp only [L29_0, kIter_n, kIter_x, kIter_r, kOut_x, kOut_r, xgo_hit, xgo_miss, ih, X29_0_0_ok d a0 v0 x4  , E29_0_ok d a0 v0 x4  ]
/-- apogee/peer.get -/
theorem q29 (d : Nat) (a0 : List UInt8) : xcall C0 M unr d 29 [(.str a0)] =
  cnd (decide (((0 : Int) ≤ 4) ∧ ((4 : Int) ≤ (((List.length a0) : Nat) : Int))))
   (C0.hop [] (.s2b E5 (.v (.str (List.drop 0 (List.take (Int.toNat 4) a0))))) fun v0 h1 =>
   C0.hop h1 (.bk .lenV [(.v v0)]) fun v2 h3 =>
   C0.int .i64 (some v2) fun x4 =>
   L29_0 d v0 x4 1000000000000000000 0 0 h3)
   (none) := (r29 C0 d a0).trans (by simp only [it29_0])
end Go.Proofs.Ytoceckjagfhfmaa.AE

namespace Go.Proofs.Ytoceckjagfhfmaa.AE
set_option linter.unusedVariables false
set_option linter.unusedSimpArgs false
set_option linter.constructorNameAsVariable false
open Go Go.Proofs.Ytoceckjagfhfmaa.Geo
attribute [local irreducible] pcall C0
set_option maxRecDepth 100000
theorem get_step (d f : Nat) (l : List UInt8) (i : Nat) (hi : i < l.length) (hl : l.length = 4) (x : Int) (h : 0 ≤ x) (h' : x < 16777216) : L29_0 d (.slc 0 0 4) 4 (f + 1) x (i : Nat) [some ⟨E5, bytesAV l⟩] = L29_0 d (.slc 0 0 4) 4 f (x * 256 + (l[i].toNat : Int)) ((i + 1 : Nat) : Int) [some ⟨E5, bytesAV l⟩] := by
  rw [L29_0, decide_eq_true (by omega), cnd_t]
  refine Eq.trans (ix_slc (b := ⟨E5, bytesAV l⟩) rfl (by omega) (by omega) rfl) ?_
  refine Eq.trans (ld_ptr (b := ⟨E5, bytesAV l⟩) (v := .int .u8 (l[i].toNat : Int)) rfl (show (bytesAV l)[0 + ((i : Nat) : Int).toNat]? = _ by rw [show 0 + ((i : Nat) : Int).toNat = i by omega]; exact bytes_at hi) rfl) ?_
  refine Eq.trans (pl_int rfl) ?_
  rw [or_byte h h', i64_up (by omega)]
theorem get_go (d f : Nat) (a b c e : UInt8) : L29_0 d (.slc 0 0 4) 4 (f + 5) 0 0 [some ⟨E5, bytesAV [a, b, c, e]⟩] = some (.int .u32 (num4 [a, b, c, e])) := by
  have ha := u8lt a; have hb := u8lt b; have hc := u8lt c; have he := u8lt e
  refine Eq.trans (get_step d (f + 4) [a, b, c, e] 0 (by simp) rfl 0 (by decide) (by decide)) ?_
  refine Eq.trans (get_step d (f + 3) [a, b, c, e] 1 (by simp) rfl _ (by simp only [List.getElem_cons_zero]; omega) (by simp only [List.getElem_cons_zero]; omega)) ?_
  refine Eq.trans (get_step d (f + 2) [a, b, c, e] 2 (by simp) rfl _ (by simp only [List.getElem_cons_zero, List.getElem_cons_succ]; omega) (by simp only [List.getElem_cons_zero, List.getElem_cons_succ]; omega)) ?_
  refine Eq.trans (get_step d (f + 1) [a, b, c, e] 3 (by simp) rfl _ (by simp only [List.getElem_cons_zero, List.getElem_cons_succ]; omega) (by simp only [List.getElem_cons_zero, List.getElem_cons_succ]; omega)) ?_
  rw [L29_0, decide_eq_false (by decide), cnd_f]
  unfold X29_0_0
  refine (f_free rfl).trans ?_
  congr 2
  unfold num4
  simp only [List.getElem_cons_zero, List.getElem_cons_succ, List.getD_cons_zero, List.getD_cons_succ]
  omega
theorem num4_take (s : List UInt8) (h : 4 ≤ s.length) : ∃ a b c e t, s = a :: b :: c :: e :: t := by
  match s, h with
  | a :: b :: c :: e :: t, _ => exact ⟨a, b, c, e, t, rfl⟩
theorem s29 (d : Nat) (s : List UInt8) (h : 4 ≤ s.length) : pcall M (d + 1) 29 [.str s] = some (.int .u32 (num4 s)) := told (q29 d _) (by
  obtain ⟨a, b, c, e, t, rfl⟩ := num4_take s h
  refine Eq.trans (pl_len (by rw [decide_eq_true_iff]; simp only [List.length_cons]; omega)) ?_
  refine Eq.trans s2b_h ?_
  refine Eq.trans (len_slc (b := ⟨E5, bytesAV [a, b, c, e]⟩) rfl) ?_
  refine Eq.trans (pl_int rfl) ?_
  obtain ⟨f, hf⟩ : ∃ f : Nat, 1000000000000000000 = f + 5 := ⟨999999999999999995, rfl⟩
  rw [hf]
  exact get_go d f a b c e)
theorem str_ge {s : List UInt8} {i : Nat} (h : i < s.length) : Option.map (fun b : UInt8 => AV.int .u8 (b.toNat : Int)) s[i]? = some (.int .u8 ((s.getD i 0).toNat : Int)) := by rw [List.getElem?_eq_getElem h, List.getD_eq_getElem?_getD, List.getElem?_eq_getElem h]; rfl
theorem s31 (d : Nat) (s : List UInt8) (h : 4 ≤ s.length) : pcall M (d + 1) 31 [.str s] = some (.int .i64 (num4 s)) := told (r31 C0 d _) (by
  refine Eq.trans (pl_int (str_ge (by omega))) ?_
  refine Eq.trans (pl_int (str_ge (by omega))) ?_
  refine Eq.trans (pl_int (str_ge (by omega))) ?_
  refine Eq.trans (pl_int (str_ge (by omega))) ?_
  have h0 := u8lt (s.getD 0 0); have h1 := u8lt (s.getD 1 0); have h2 := u8lt (s.getD 2 0); have h3 := u8lt (s.getD 3 0)
  have p0 : (0 : Int) ≤ ((s.getD 0 0).toNat : Int) := Int.natCast_nonneg _
  have p1 : (0 : Int) ≤ ((s.getD 1 0).toNat : Int) := Int.natCast_nonneg _
  have p2 : (0 : Int) ≤ ((s.getD 2 0).toNat : Int) := Int.natCast_nonneg _
  have p3 : (0 : Int) ≤ ((s.getD 3 0).toNat : Int) := Int.natCast_nonneg _
  refine congrArg (fun z => some (AV.int .i64 z)) ?_
  unfold num4
  generalize ((s.getD 0 0).toNat : Int) = y0 at *; generalize ((s.getD 1 0).toNat : Int) = y1 at *; generalize ((s.getD 2 0).toNat : Int) = y2 at *; generalize ((s.getD 3 0).toNat : Int) = y3 at *
  rw [i64_small (n := y0) (by omega) (by omega), i64_small (n := y1) (by omega) (by omega), i64_small (n := y2) (by omega) (by omega), i64_small (n := y3) (by omega) (by omega), i64_small (n := y0 * 16777216) (by omega) (by omega), i64_small (n := y1 * 65536) (by omega) (by omega), i64_small (n := y2 * 256) (by omega) (by omega),
    i64_small (n := y0 * 16777216 + y1 * 65536) (by omega) (by omega), i64_small (n := y0 * 16777216 + y1 * 65536 + y2 * 256) (by omega) (by omega), i64_small (by omega) (by omega)])
theorem s33 (d : Nat) (n : Int) : pcall M (d + 1) 33 [.int .u32 n] = some (.str (be4 n)) := told (r33 C0 d _) (by
  simp only [by8e, fd24, fd16, fd8]; rfl)
theorem s32 (d : Nat) (s : List UInt8) (hl : s.length < 1000000000000000000) : pcall M (d + 3) 32 [.str s] = some (.str (sealF s)) := told (r32 C0 (d + 2) _) (by
  refine Eq.trans (pl_int (s39 d s hl)) ?_
  refine Eq.trans (pl_str (s33 (d + 1) _)) ?_
  rw [decide_eq_true (by rw [be4_len]; omega), cnd_t]; rfl)
theorem s28 (d : Nat) (s : List UInt8) (n : Nat) (hl : s.length < 1000000000000000000) (hn : n < 1000000000000000000) : pcall M (d + 3) 28 [.str s, .int .i64 (n : Nat)] = some (.int .i64 (openF s n)) := told (r28 C0 (d + 2) _ _) (by
  rw [i64_small (by omega) (by omega)]
  unfold openF
  by_cases h1 : s.length < n + 4
  · rw [decide_eq_true (by omega), cnd_t, if_pos h1]
  · rw [decide_eq_false (by omega), cnd_f, if_neg h1]
    by_cases h2 : s.length > n + 4
    · rw [decide_eq_true (by omega), cnd_t, if_pos h2]
    · rw [decide_eq_false (by omega), cnd_f, if_neg h2, decide_eq_true (by omega), cnd_t, show ((n : Nat) : Int).toNat = n by omega, List.drop_zero, List.take_length]
      refine Eq.trans (pl_int (s38 d (s.take n) (by simp; omega))) ?_
      rw [cnd_t]
      refine Eq.trans (pl_int (s29 (d + 1) (s.drop n) (by simp; omega))) ?_
      by_cases h3 : w32 (crcF (s.take n)) = num4 (s.drop n)
      · rw [if_neg (by rw [h3]; simp), h3, bne_self_eq_false]; rfl
      · rw [if_pos h3, bne_iff_ne.mpr h3]; rfl)
theorem s30 (d : Nat) (s : List UInt8) (n : Nat) (hl : s.length < 1000000000000000000) (hn : n < 1000000000000000000) : pcall M (d + 4) 30 [.str s, .int .i64 (n : Nat)] = some (.int .i64 (openF s n)) := told (r30 C0 (d + 3) _ _) (by
  rw [i64_small (by omega) (by omega)]
  unfold openF
  by_cases h1 : s.length < n + 4
  · rw [decide_eq_true (by omega), cnd_t, if_pos h1]
  · rw [decide_eq_false (by omega), cnd_f, if_neg h1]
    by_cases h2 : s.length > n + 4
    · rw [decide_eq_true (by omega), cnd_t, if_pos h2]
    · rw [decide_eq_false (by omega), cnd_f, if_neg h2, decide_eq_true (by omega), cnd_t, show ((n : Nat) : Int).toNat = n by omega, List.drop_zero]
      refine Eq.trans (pl_str (s32 d (s.take n) (by simp; omega))) ?_
      by_cases h3 : w32 (crcF (s.take n)) = num4 (s.drop n)
      · rw [if_neg (by rw [h3]; simp), beq_iff_eq.mpr ((open_iff (by omega)).mpr h3)]; rfl
      · rw [if_pos h3, beq_eq_false_iff_ne.mpr (fun e => h3 ((open_iff (by omega)).mp e))]; rfl)
theorem s35 (d : Nat) (n b : Int) : pcall M (d + 1) 35 [.int .i64 n, .int .i64 b] = some (.bool (decide (0 ≤ n ∧ n ≤ b))) := told (r35 C0 d _ _) (by
  by_cases h : n ≥ 0
  · rw [decide_eq_true h, cnd_t]; congr 2; rw [decide_eq_decide]; omega
  · rw [decide_eq_false h, cnd_f, decide_eq_false (by omega)])
theorem s37 (d : Nat) (n b : Int) : pcall M (d + 1) 37 [.int .i64 n, .int .i64 b] = some (.bool (decide (0 ≤ n ∧ n ≤ b))) := told (r37 C0 d _ _) (by
  by_cases h : n ≥ 0
  · rw [decide_eq_true h, cnd_t]; congr 2; rw [decide_eq_decide]; omega
  · rw [decide_eq_false h, cnd_f, decide_eq_false (by omega)])
theorem cnd_dec {p q : Prop} [Decidable p] [Decidable q] [Decidable (p ∧ q)] {x : Ans} (hx : x = some (.bool (decide q))) : cnd (decide p) x (some (.bool false)) = some (.bool (decide (p ∧ q))) := by
  by_cases h : p
  · rw [decide_eq_true h, cnd_t, hx]; congr 2; rw [decide_eq_decide]; simp [h]
  · rw [decide_eq_false h, cnd_f, decide_eq_false (fun k => h k.1)]
abbrev in0 (n b : Int) : Prop := 0 ≤ n ∧ n ≤ b
def WhereOk (c p s : Int) : Prop := in0 c 1000000 ∧ in0 p 3 ∧ in0 s 2
instance (c p s : Int) : Decidable (WhereOk c p s) := by unfold WhereOk; infer_instance
theorem s36 (d : Nat) (c p s : Int) : pcall M (d + 2) 36 [.int .i64 c, .int .i64 p, .int .i64 s] = some (.bool (decide (WhereOk c p s))) := told (r36 C0 (d + 1) _ _ _) (by
  refine Eq.trans (pl_bool (s37 d _ _)) ?_
  refine cnd_dec (q := in0 p 3 ∧ in0 s 2) ?_
  refine Eq.trans (pl_bool (s37 d _ _)) ?_
  refine cnd_dec (q := in0 s 2) ?_
  exact Eq.trans (pl_bool (s37 d _ _)) rfl)
structure Wrd where
  c : Int
  p : Int
  s : Int
  w : Int
abbrev wr (x : Wrd) : AV := .agg [.int .i64 x.c, .int .i64 x.p, .int .i64 x.s, .int .i64 x.w]
def WordOk (x : Wrd) : Prop := WhereOk x.c x.p x.s ∧ in0 x.w 15
instance (x : Wrd) : Decidable (WordOk x) := by unfold WordOk; infer_instance
theorem s25 (d : Nat) (x : Wrd) : pcall M (d + 3) 25 [wr x] = some (.bool (decide (WordOk x))) := told (r25 C0 (d + 2) _ _ _ _) (by
  refine Eq.trans (pl_bool (s36 d _ _ _)) ?_
  refine cnd_dec (q := in0 x.w 15) ?_
  exact Eq.trans (pl_bool (s37 (d + 1) _ _)) rfl)
structure Rep7 where
  c : Int
  p : Int
  s : Int
  v : Int
  d : Int
  i : Int
  x : Int
  y : Int
  f : Int
abbrev rp (r : Rep7) : AV := .agg [.int .i64 r.c, .int .i64 r.p, .int .i64 r.s, .int .i64 r.v, .int .i64 r.d, .int .i64 r.i, .int .i64 r.x, .int .i64 r.y, .int .i64 r.f]
def RepOk (r : Rep7) : Prop := in0 r.v 255 ∧ in0 r.d 255 ∧ in0 r.i 255 ∧ in0 r.f 255 ∧ WhereOk r.c r.p r.s ∧ in0 r.x 4 ∧ in0 r.y 4
instance (r : Rep7) : Decidable (RepOk r) := by unfold RepOk; infer_instance
theorem s24 (d : Nat) (x : Rep7) : pcall M (d + 2) 24 [rp x] = some (.bool (decide (RepOk x))) := told (r24 C0 (d + 1) _ _ _ _ _ _ _ _ _) (by
  have e : decide (RepOk x) = decide (in0 x.c 1000000 ∧ in0 x.p 3 ∧ in0 x.s 2 ∧ in0 x.v 255 ∧ in0 x.d 255 ∧ in0 x.i 255 ∧ in0 x.x 4 ∧ in0 x.y 4 ∧ in0 x.f 255) := by
    rw [decide_eq_decide]; unfold RepOk WhereOk
    constructor
    · rintro ⟨h1, h2, h3, h4, ⟨h5, h6, h7⟩, h8, h9⟩; exact ⟨h5, h6, h7, h1, h2, h3, h8, h9, h4⟩
    · rintro ⟨h5, h6, h7, h1, h2, h3, h8, h9, h4⟩; exact ⟨h1, h2, h3, h4, ⟨h5, h6, h7⟩, h8, h9⟩
  rw [e]
  refine Eq.trans (pl_bool (s35 d _ _)) ?_
  refine cnd_dec (q := in0 x.p 3 ∧ in0 x.s 2 ∧ in0 x.v 255 ∧ in0 x.d 255 ∧ in0 x.i 255 ∧ in0 x.x 4 ∧ in0 x.y 4 ∧ in0 x.f 255) ?_
  refine Eq.trans (pl_bool (s35 d _ _)) ?_
  refine cnd_dec (q := in0 x.s 2 ∧ in0 x.v 255 ∧ in0 x.d 255 ∧ in0 x.i 255 ∧ in0 x.x 4 ∧ in0 x.y 4 ∧ in0 x.f 255) ?_
  refine Eq.trans (pl_bool (s35 d _ _)) ?_
  refine cnd_dec (q := in0 x.v 255 ∧ in0 x.d 255 ∧ in0 x.i 255 ∧ in0 x.x 4 ∧ in0 x.y 4 ∧ in0 x.f 255) ?_
  refine Eq.trans (pl_bool (s35 d _ _)) ?_
  refine cnd_dec (q := in0 x.d 255 ∧ in0 x.i 255 ∧ in0 x.x 4 ∧ in0 x.y 4 ∧ in0 x.f 255) ?_
  refine Eq.trans (pl_bool (s35 d _ _)) ?_
  refine cnd_dec (q := in0 x.i 255 ∧ in0 x.x 4 ∧ in0 x.y 4 ∧ in0 x.f 255) ?_
  refine Eq.trans (pl_bool (s35 d _ _)) ?_
  refine cnd_dec (q := in0 x.x 4 ∧ in0 x.y 4 ∧ in0 x.f 255) ?_
  refine Eq.trans (pl_bool (s35 d _ _)) ?_
  refine cnd_dec (q := in0 x.y 4 ∧ in0 x.f 255) ?_
  refine Eq.trans (pl_bool (s35 d _ _)) ?_
  refine cnd_dec (q := in0 x.f 255) ?_
  exact Eq.trans (pl_bool (s35 d _ _)) rfl)
end Go.Proofs.Ytoceckjagfhfmaa.AE

namespace Go.Proofs.Ytoceckjagfhfmaa.AE
set_option linter.unusedVariables false
set_option linter.unusedSimpArgs false
set_option linter.constructorNameAsVariable false
open Go Go.Proofs.Ytoceckjagfhfmaa.Geo
attribute [local irreducible] pcall C0
set_option maxRecDepth 100000
theorem u32_small {n : Int} (h : 0 ≤ n) (h' : n < 4294967296) : IntKind.wrap .u32 n = n := by rw [u32w]; omega
theorem where_bd {c p s : Int} (h : WhereOk c p s) : 0 ≤ c ∧ c ≤ 1000000 ∧ 0 ≤ p ∧ p ≤ 3 ∧ 0 ≤ s ∧ s ≤ 2 := by
  obtain ⟨⟨h1, h2⟩, ⟨h3, h4⟩, h5, h6⟩ := h; exact ⟨h1, h2, h3, h4, h5, h6⟩
def bt8 (s : List UInt8) (i : Nat) : Int := ((s.getD i 0).toNat : Int)
theorem bt8_bd (s : List UInt8) (i : Nat) : 0 ≤ bt8 s i ∧ bt8 s i < 256 := ⟨Int.natCast_nonneg _, u8lt _⟩
theorem tdiv16 {n : Int} (h : 0 ≤ n) (h' : n < 256) : IntKind.wrap .i64 (IntKind.wrap .u8 (Int.tdiv n 16)) = n / 16 := by
  rw [Int.tdiv_eq_ediv_of_nonneg h, u8w, i64_small (by omega) (by omega)]; omega
theorem tdiv16' {n : Int} (h : 0 ≤ n) (h' : n < 256) : IntKind.wrap .i64 (Int.tdiv (IntKind.wrap .i64 n) 16) = n / 16 := by
  rw [i64_small (n := n) (by omega) (by omega), Int.tdiv_eq_ediv_of_nonneg h, i64_small (by omega) (by omega)]
theorem tmod16 {n : Int} (h : 0 ≤ n) (h' : n < 256) : IntKind.wrap .i64 (Int.tmod n 16) = n % 16 := by
  rw [Int.tmod_eq_emod_of_nonneg h, i64_small (by omega) (by omega)]
theorem tmod16' {n : Int} (h : 0 ≤ n) (h' : n < 256) : Int.tmod (IntKind.wrap .i64 n) 16 = n % 16 := by
  rw [i64_small (n := n) (by omega) (by omega), Int.tmod_eq_emod_of_nonneg h]
theorem i64_b {n : Int} (h : 0 ≤ n) (h' : n < 256) : IntKind.wrap .i64 n = n := i64_small (by omega) (by omega)
end Go.Proofs.Ytoceckjagfhfmaa.AE

namespace Go.Proofs.Ytoceckjagfhfmaa.AE
set_option linter.unusedVariables false
set_option linter.unusedSimpArgs false
set_option linter.constructorNameAsVariable false
open Go

noncomputable section
variable {α : Type}
def foN (m : Nat) (K : Nat → α) : α := Nat.rec (motive := fun _ => α) (K 0) (fun p _ => K (Nat.succ p)) m
theorem foN_eq (m : Nat) (K : Nat → α) : foN m K = K m := by cases m <;> rfl
def foI (n : Int) (K : Int → α) : α := match n with
  | .ofNat m => foN m fun m => K (.ofNat m)
  | .negSucc m => foN m fun m => K (.negSucc m)
theorem foI_eq (n : Int) (K : Int → α) : foI n K = K n := by cases n <;> simp only [foI, foN_eq]
def foB (b : Bool) (K : Bool → α) : α := match b with
  | true => K true
  | false => K false
theorem foB_eq (b : Bool) (K : Bool → α) : foB b K = K b := by cases b <;> rfl
def foY (b : UInt8) (K : UInt8 → α) : α := foN b.toNat fun n => K (UInt8.ofNat n)
theorem foY_eq (b : UInt8) (K : UInt8 → α) : foY b K = K b := by unfold foY; rw [foN_eq]; congr 1; simp
/-- A list's elements, one by one. -/
def foL {β : Type} (f : β → (β → α) → α) : List β → (List β → α) → α
  | [], K => K []
  | x :: l, K => f x fun x => foL f l fun l => K (x :: l)
theorem foL_eq {β : Type} {f : β → (β → α) → α} (h : ∀ x K, f x K = K x) : ∀ (l : List β) (K : List β → α), foL f l K = K l
  | [], K => rfl
  | x :: l, K => by simp only [foL, h, foL_eq h l]
def foS {β : Type} : List β → (List β → α) → α
  | [], K => K []
  | x :: l, K => foS l fun l => K (x :: l)
theorem foS_eq {β : Type} : ∀ (l : List β) (K : List β → α), foS l K = K l
  | [], K => rfl
  | x :: l, K => by simp only [foS, foS_eq l]
def foV : Nat → AV → (AV → α) → α
  | 0, v, K => K v
  | d + 1, v, K => match v with
    | .int k n => foI n fun n => K (.int k n)
    | .bool b => foB b fun b => K (.bool b)
    | .str s => foL foY s fun s => K (.str s)
    | .zsl b => foB b fun b => K (.zsl b)
    | .ptr a b c => foN a fun a => foN b fun b => foN c fun c => K (.ptr a b c)
    | .slc a b c => foN a fun a => foN b fun b => foN c fun c => K (.slc a b c)
    | .lst l => foL (foV d) l fun l => K (.lst l)
    | .fptr v j => foV d v fun v => foN j fun j => K (.fptr v j)
    | .agg l => foL (foV d) l fun l => K (.agg l)
    | .tup l => foL (foV d) l fun l => K (.tup l)
    | .fn g a b => foN g fun g => foL (foV d) a fun a => foL (foV d) b fun b => K (.fn g a b)
    | v => K v
theorem foV_eq : ∀ (d : Nat) (v : AV) (K : AV → α), foV d v K = K v
  | 0, v, K => rfl
  | d + 1, v, K => by
    have ih : ∀ (v : AV) (K : AV → α), foV d v K = K v := foV_eq d
    cases v <;> simp only [foV, foI_eq, foB_eq, foN_eq, foL_eq foY_eq, foL_eq ih, ih]
def foBlk (b : Option Blk) (K : Option Blk → α) : α := match b with
  | none => K none
  | some ⟨e, els⟩ => foL (foV 2) els fun els => K (some ⟨e, els⟩)
theorem foBlk_eq (b : Option Blk) (K : Option Blk → α) : foBlk b K = K b := by
  match b with
  | none => rfl
  | some ⟨e, els⟩ => simp only [foBlk, foL_eq (foV_eq 2)]
def foH (H : Heap) (K : Heap → α) : α := foL foBlk H K
theorem foH_eq (H : Heap) (K : Heap → α) : foH H K = K H := foL_eq foBlk_eq H K

/-- Operations that may change memory. -/
def wrH : IOp → Bool
  | .box .. | .alloc .. | .mkrow .. | .store .. | .s2b .. | .mkslice .. | .app .. => true
  | _ => false
def foW (o : IOp) (H : Heap) (K : Heap → α) : α := match wrH o with
  | true => foH H K
  | false => K H
theorem foW_eq (o : IOp) (H : Heap) (K : Heap → α) : foW o H K = K H := by unfold foW; cases wrH o <;> simp only [foH_eq]

/-- How deep a value is told after an operation. -/
def depV : IOp → Nat
  | .call .. => 2
  | _ => 1
/-- A list with another element. -/
def foP : List AV → Nat → AV → (List AV → α) → α
  | [], _, _, K => K []
  | x :: l, 0, v, K => K (v :: l)
  | x :: l, n + 1, v, K => foP l n v fun l => K (x :: l)
theorem foP_eq : ∀ (l : List AV) (n : Nat) (v : AV) (K : List AV → α), foP l n v K = K (l.set n v)
  | [], n, v, K => by cases n <;> rfl
  | x :: l, 0, v, K => rfl
  | x :: l, n + 1, v, K => by simp only [foP, foP_eq l, List.set_cons_succ]
def foO (env : List AV) (d : Option Nat) (v : AV) (K : List AV → α) : α := match d with
  | some d => foP env d v K
  | none => K env
theorem foO_eq (env : List AV) (d : Option Nat) (v : AV) (K : List AV → α) : foO env d v K = K (put env d v) := by cases d <;> simp only [foO, put, foP_eq]
def runOpsF (call : CallF) : List IOper → List AV → Heap → Option St
  | [], env, H => some ⟨env, H⟩
  | o :: l, env, H => match want env o.guard with
    | some true => match aop call (evO env) H o.op with
      | some (v, H) => foV (depV o.op) v fun v => foW o.op H fun H => foO env o.dst v fun env => runOpsF call l env H
      | none => none
    | some false => foO env o.dst (.tup []) fun env => runOpsF call l env H
    | none => none
theorem runOpsF_eq (call : CallF) : ∀ (l : List IOper) (env : List AV) (H : Heap), runOpsF call l env H = runOps call l ⟨env, H⟩
  | [], env, H => rfl
  | o :: l, env, H => by
    simp only [runOpsF, runOps, foV_eq, foW_eq, foO_eq, runOpsF_eq call l]
    rfl
def runOpsDF (call callP : CallF) : List (IOper × List Nat) → Nat → List (Nat × Nat) → List AV → Heap → Option St
  | [], _, _, env, H => some ⟨env, H⟩
  | (o, chk) :: l, i, log, env, H => match want env o.guard with
    | some true =>
      foS (touch (evO env) H o.op) fun tc =>
      if log.all (fun p => !(chk.contains p.1) || !(tc.contains p.2)) then
        match aop (bif isFull chk then call else callP) (evO env) H o.op with
        | some (v, H) => foV (depV o.op) v fun v => foW o.op H fun H => foO env o.dst v fun env => foN i fun i => foS (log ++ tc.map fun id => (i, id)) fun log => runOpsDF call callP l (i + 1) log env H
        | none => none
      else none
    | some false => foO env o.dst (.tup []) fun env => runOpsDF call callP l (i + 1) log env H
    | none => none
theorem runOpsDF_eq (call callP : CallF) : ∀ (l : List (IOper × List Nat)) (i : Nat) (log : List (Nat × Nat)) (env : List AV) (H : Heap), runOpsDF call callP l i log env H = runOpsD call callP l i log ⟨env, H⟩
  | [], _, _, env, H => rfl
  | (o, chk) :: l, i, log, env, H => by
    simp only [runOpsDF, runOpsD, foV_eq, foW_eq, foS_eq, foO_eq, foN_eq, runOpsDF_eq call callP l]
    rfl
def execF (call callP : CallF) (fu : Nat) : IC → St → Option (Ex × St)
  | .skip, s => some (.normal, s)
  | .regD ops, s => match s with
    | ⟨env, H⟩ => match runOpsDF call callP ops 0 [] env H with
      | some s' => some (.normal, s')
      | none => none
  | .reg ops, s => match s with
    | ⟨env, H⟩ => match runOpsF call ops env H with
      | some s' => some (.normal, s')
      | none => none
  | .seq a b, s => match execF call callP fu a s with
    | some (.normal, s') => execF call callP fu b s'
    | r => r
  | .cond c a b, s => match evO s.env c with
    | .bool t => bif t then execF call callP fu a s else execF call callP fu b s
    | _ => none
  | .block id a, s => match execF call callP fu a s with
    | some (.exit i, s') => if i = id then some (.normal, s') else some (.exit i, s')
    | r => r
  | .loop a, s => iter (execF call callP fu a) fu s
  | .exit id, s => some (.exit id, s)
  | .ret, s => some (.ret, s)
theorem execF_eq (call callP : CallF) (fu : Nat) : ∀ c, execF call callP fu c = exec call callP fu c
  | .skip => by funext s; rfl
  | .regD ops => by funext ⟨env, H⟩; simp only [execF, exec, runOpsDF_eq]; rfl
  | .reg ops => by funext ⟨env, H⟩; simp only [execF, exec, runOpsF_eq]; rfl
  | .seq a b => by funext s; simp only [execF, exec, execF_eq call callP fu a, execF_eq call callP fu b]; rfl
  | .cond c a b => by funext s; simp only [execF, exec, execF_eq call callP fu a, execF_eq call callP fu b]; rfl
  | .block id a => by funext s; simp only [execF, exec, execF_eq call callP fu a]; rfl
  | .loop a => by funext s; simp only [execF, exec, execF_eq call callP fu a]
  | .exit id => by funext s; rfl
  | .ret => by funext s; rfl
def runFnF (call callP : CallF) (fu : Nat) (fn : AFn) (args : List AV) (H : Heap) : Option (AV × Heap) :=
  foL (foV 12) args fun args => foS (args ++ List.replicate (fn.ntmps - args.length) (.tup [])) fun env => match execF call callP fu fn.body ⟨env, H⟩ with
  | some (.normal, s) | some (.ret, s) => match resAll s fn.results with
    | some vs => some (packRes vs, s.H)
    | none => none
  | _ => none
theorem runFnF_eq : runFnF = runFn := by
  funext call callP fu fn args H
  simp only [runFnF, runFn, foL_eq (foV_eq 12), foS_eq, execF_eq]
  rfl
def freshF (rf : List AV → Heap → Option (AV × Heap)) (args : List AV) (H : Heap) : Option (AV × Heap) :=
  match rf args (padH H.length) with
  | some (v, H1) => match padOk H.length H1 with
    | true => some (v, H ++ H1.drop H.length)
    | false => none
  | none => none
def callBF (M : Mod) (pc : FuncId → List AV → Option AV) : Nat → Bool → CallF
  | 0, _ => callZ M pc
  | n + 1, b => fun g args H =>
    match M.ext g with
    | some e => extCall e g args H
    | none => if M.inl g then (match emptyR M pc g args with
      | some v => some (v, H)
      | none => match b with
        | true => match M.code g with
          | some fn => runFnF (callBF M pc n true) (callBF M pc n false) M.fu fn args H
          | none => none
        | false => match M.fr g && args.all (noId DEPTH) with
          | true => match M.code g with
            | some fn => freshF (runFnF (callBF M pc n true) (callBF M pc n false) M.fu fn) args H
            | none => none
          | false => pureCall pc g args H) else pureCall pc g args H
theorem callBF_eq (M : Mod) (pc : FuncId → List AV → Option AV) : ∀ n b, callBF M pc n b = callB M pc n b
  | 0, _ => rfl
  | n + 1, b => by funext g args H; simp only [callBF, callB, callBF_eq M pc n, runFnF_eq]; rfl
def pcallF (M : Mod) : Nat → FuncId → List AV → Option AV
  | 0 => fun _ _ => none
  | d + 1 => fun g args => match M.code g with
    | none => none
    | some fn => match runFnF (callBF M (pcallF M d) IDEPTH true) (callBF M (pcallF M d) IDEPTH false) M.fu fn args [] with
      | some (v, H') => foV 12 (snap DEPTH H' v) some
      | none => none
theorem pcallF_eq (M : Mod) : ∀ d, pcallF M d = pcall M d
  | 0 => rfl
  | d + 1 => by funext g args; simp only [pcallF, pcall, pcallF_eq M d, runFnF_eq, callBF_eq, foV_eq]; rfl
theorem ran {M : Mod} {d : Nat} {g : FuncId} {args : List AV} {r : AV} (h : pcallF M d g args = some r) : pcall M d g args = some r := by rw [← pcallF_eq]; exact h
end
end Go.Proofs.Ytoceckjagfhfmaa.AE

namespace Go.Proofs.Ytoceckjagfhfmaa.AE
set_option maxRecDepth 100000
theorem awake : pcall M 40 8 [] = some (.bool true) := ran (by kernel_rfl)
end Go.Proofs.Ytoceckjagfhfmaa.AE

namespace Go.Proofs.Ytoceckjagfhfmaa.AE
set_option linter.unusedVariables false
set_option linter.unusedSimpArgs false
set_option linter.constructorNameAsVariable false
open Go Go.WideShapes

/-- The form of a cell. -/
inductive CT where
  | i (k : IntKind)
  | b
  | s
  | sl (ag : Bool) (es : List CT)
mutual
def CTok : CT → AV → Prop
  | .i k, v => ∃ n, v = .int k n ∧ (Lit.int k n).wf = true
  | .b, v => ∃ x, v = .bool x
  | .s, v => ∃ x, v = .str x ∧ x.length ≤ maxLen
  | .sl ag es, v => ∃ l, v = .lst l ∧ l.length ≤ maxLen ∧ ∀ x ∈ l, ∃ cs, (match ag with
    | true => x = .agg cs
    | false => cs = [x]) ∧ CTall es cs
def CTall : List CT → List AV → Prop
  | [], l => l = []
  | c :: cs, l => ∃ x t, l = x :: t ∧ CTok c x ∧ CTall cs t
end
/-- An argument of a form: is it a struct or an array; its cells. -/
def TyOK (ag : Bool) (cs : List CT) (v : AV) : Prop := ∃ l, (match ag with
  | true => v = .agg l
  | false => l = [v]) ∧ CTall cs l
theorem CTall_len : ∀ {cs : List CT} {l : List AV}, CTall cs l → l.length = cs.length
  | [], l, h => by simp only [CTall] at h; subst h; rfl
  | c :: cs, l, h => by
    simp only [CTall] at h
    obtain ⟨x, t, rfl, _, h⟩ := h
    simp [CTall_len h]
theorem CTall_app : ∀ {a b : List CT} {l m : List AV}, CTall a l → CTall b m → CTall (a ++ b) (l ++ m)
  | [], b, l, m, h, h' => by simp only [CTall] at h; subst h; exact h'
  | c :: cs, b, l, m, h, h' => by
    simp only [CTall] at h
    obtain ⟨x, t, rfl, h1, h⟩ := h
    simp only [List.cons_append, CTall]
    exact ⟨x, t ++ m, rfl, h1, CTall_app h h'⟩

section
variable (P : Program)
def ctFs (g : TypeId → Option (List CT)) : List Field → Nat → Option (List CT)
  | [], _ => some []
  | f :: fs, off => if f.offset = off then match g f.type with
      | some l => if P.cellsOf f.type = l.length then match ctFs g fs (off + l.length) with
          | some m => some (l ++ m)
          | none => none
        else none
      | none => none
    else none
def ctOf : Nat → TypeId → Option (List CT)
  | 0, _ => none
  | d + 1, t => match P.underlying t with
    | some (.int k) => some [.i k]
    | some .bool => some [.b]
    | some .string => some [.s]
    | some (.slice e) => match ctOf d e, agB P e with
      | some l, some ag => if P.cellsOf e = l.length ∧ 0 < l.length ∧ (ag || l.length == 1) = true then some [.sl ag l] else none
      | _, _ => none
    | some (.struct fs) => match ctFs P (ctOf d) fs.toList 0 with
      | some l => if P.cellsOf t = l.length then some l else none
      | none => none
    | some (.array n e) => match ctOf d e with
      | some l => if P.cellsOf e = l.length ∧ P.cellsOf t = n * l.length then some (List.replicate n l).flatten else none
      | none => none
    | _ => none
end

section
variable {H : Type} {enc : TypeId × Value → H} {P : Program} {w : World} {base : Nat} {spare : Nat → Bool} {held : Bool}
abbrev noBad : Nat → Prop := fun _ => False

/-- Each cell is told. -/
def Cells (w : World) (avs : List AV) (cs : List Value) : Prop := ∀ (i : Nat) (c : AV) (u : Value), avs[i]? = some c → cs[i]? = some u → FRep w noBad c u

theorem cells_one {c : AV} {u : Value} (h : FRep w noBad c u) : Cells w [c] [u] := by
  intro i a b ha hb
  match i with
  | 0 => cases ha; cases hb; exact h
  | i + 1 => cases ha

theorem ctFs_open {g : TypeId → Option (List CT)} {cs : List Value} (hg : ∀ t l (ds : List Value) fuel x, g t = some l → DataW.trod enc P w base spare held fuel t ds = some x → ∃ avs, avs.length = ds.length ∧ CTall l avs ∧ Cells w avs ds) :
    ∀ (fs : List Field) (off : Nat) (l : List CT), ctFs P g fs off = some l → (∀ f ∈ fs, ∃ fuel y, DataW.trod enc P w base spare held fuel f.type ((cs.drop f.offset).take (P.cellsOf f.type)) = some y) →
      ∃ avs, CTall l avs ∧ Cells w avs (cs.drop off)
  | [], off, l, h, _ => by
    simp only [ctFs] at h; cases h
    exact ⟨[], rfl, fun i c u hc _ => by cases hc⟩
  | f :: fs, off, l, h, ht => by
    simp only [ctFs] at h
    split at h
    · rename_i ho
      split at h <;> (try (cases h; done))
      rename_i l1 h1
      split at h
      · rename_i hn
        split at h <;> (try (cases h; done))
        rename_i m hm
        cases h
        obtain ⟨fuel, y, hy⟩ := ht f (List.mem_cons_self ..)
        obtain ⟨a1, e1, e2, e3⟩ := hg _ _ _ _ _ h1 hy
        obtain ⟨a2, q1, q2⟩ := ctFs_open hg fs (off + l1.length) m hm (fun f hf => ht f (List.mem_cons_of_mem _ hf))
        refine ⟨a1 ++ a2, CTall_app e2 q1, ?_⟩
        have hl : a1.length = l1.length := CTall_len e2
        intro i c u hc hu
        by_cases hi : i < a1.length
        · rw [List.getElem?_append_left hi] at hc
          refine e3 i c u hc ?_
          rw [ho, hn, List.getElem?_take, if_pos (by omega)]; exact hu
        · rw [List.getElem?_append_right (by omega)] at hc
          refine q2 (i - a1.length) c u hc ?_
          rw [List.getElem?_drop] at hu ⊢
          rw [← hu]; congr 1; omega
      · cases h
    · cases h

theorem cells?_at {a : Addr} {n : Nat} {cs : List Value} (h : w.cells? base a n = some cs) : cs.length = n ∧ ∀ j u, cs[j]? = some u → w.cell? (a.add j) = some u := by
  unfold World.cells? at h
  split at h
  · have hl : cs.length = n := by simpa using mapM_some_length h
    refine ⟨hl, fun j u hu => ?_⟩
    have hj : j < n := by
      rcases Nat.lt_or_ge j n with h1 | h1
      · exact h1
      · rw [List.getElem?_eq_none (by omega)] at hu; cases hu
    have := mapM_some_get h j j (by simp [hj])
    rw [hu] at this
    exact this
  · cases h

theorem rng_at {n i j : Nat} (h : (List.range n)[i]? = some j) : i < n ∧ i = j := by
  rcases Nat.lt_or_ge i n with h1 | h1
  · rw [List.getElem?_range h1] at h; exact ⟨h1, Option.some.inj h⟩
  · rw [List.getElem?_eq_none (by simpa using h1)] at h; cases h
theorem add_pl (b o n : Nat) : (⟨b, o, none⟩ : Addr).add n = ⟨b, o + n, none⟩ := by
  unfold Addr.add; split <;> simp_all

theorem open_cells : ∀ (d : Nat) (t : TypeId) (l : List CT) (cs : List Value) (fuel : Nat) (x : DataW H × List MemPlace), ctOf P d t = some l → DataW.trod enc P w base spare held fuel t cs = some x →
    ∃ avs, avs.length = cs.length ∧ CTall l avs ∧ Cells w avs cs
  | 0, t, l, cs, fuel, x, h, _ => by cases h
  | d + 1, t, l, cs, fuel, x, h, ht => by
    simp only [ctOf] at h
    split at h <;> (try (cases h; done))
    · rename_i k hu
      cases h
      obtain ⟨n, rfl, _, hw⟩ := DataW.trod_int hu ht
      exact ⟨[.int k n], rfl, ⟨_, _, rfl, ⟨n, rfl, hw⟩, rfl⟩, cells_one (.int k n)⟩
    · rename_i hu
      cases h
      obtain ⟨b, rfl, _⟩ := DataW.trod_bool hu ht
      exact ⟨[.bool b], rfl, ⟨_, _, rfl, ⟨b, rfl⟩, rfl⟩, cells_one (.bool b)⟩
    · rename_i hu
      cases h
      obtain ⟨s, rfl, _, hs⟩ := DataW.trod_string hu ht
      refine ⟨[.str s.data.toList], rfl, ⟨_, _, rfl, ⟨_, rfl, by simpa using hs⟩, rfl⟩, cells_one ?_⟩
      have := FRep.str (w := w) (bad := noBad) s.data.toList
      simpa using this
    · rename_i e hu
      split at h <;> (try (cases h; done))
      rename_i le ag hle hag
      split at h
      · rename_i hc
        obtain ⟨hc1, hc2, hc3⟩ := hc
        cases h
        rcases DataW.trod_slice hu ht with ⟨rfl, _⟩ | ⟨a, len, cap, elems, rest, n, _, rfl, _, hb, hl, hm, hel, hat, _, _⟩
        · exact ⟨[.lst []], rfl, ⟨_, _, rfl, ⟨[], rfl, by simp, fun x hx => by cases hx⟩, rfl⟩, cells_one (.lst0 none 0 fun _ => rfl)⟩
        · have each : ∀ i, i < len → ∃ ex : List AV × List Value, w.cells? base (a.add (i * P.cellsOf e)) (P.cellsOf e) = some ex.2 ∧ CTall le ex.1 ∧ Cells w ex.1 ex.2 := by
            intro i hi
            have h1 := hat i hi
            rw [List.getElem?_eq_getElem (by omega)] at h1
            obtain ⟨ds, h2, h3⟩ := Option.bind_eq_some_iff.mp h1
            obtain ⟨avs, _, q2, q3⟩ := open_cells d e le ds n _ hle h3
            exact ⟨(avs, ds), h2, q2, q3⟩
          obtain ⟨f, hf⟩ := Go.Deep.choose_lt each
          let el : List AV → AV := fun cs => match ag with
            | true => .agg cs
            | false => cs.headD .undef
          have elc : ∀ cs, CTall le cs → (el cs).cells = cs ∨ (ag = false ∧ ∃ v, cs = [v] ∧ el cs = v) := by
            intro cs hcs
            cases ag with
            | true => exact .inl rfl
            | false =>
              have hl1 : le.length = 1 := by simpa using hc3
              have := CTall_len hcs
              match cs, this.trans hl1 with
              | [v], _ => exact .inr ⟨rfl, v, rfl, rfl⟩
          have scal : ∀ cs, CTall le cs → (el cs).cells = cs := by
            intro cs hcs
            rcases elc cs hcs with h1 | ⟨hag', v, rfl, h2⟩
            · exact h1
            · rw [h2]
              match v, hcs with
              | .agg l', hcs =>
                exfalso
                cases le with
                | nil => simp only [CTall] at hcs; cases hcs
                | cons c cs' =>
                  simp only [CTall] at hcs
                  obtain ⟨x', t', hx', hok, _⟩ := hcs
                  injection hx' with hx1 _
                  subst hx1
                  cases c <;> simp [CTok] at hok
              | .int .., _ | .bool _, _ | .str _, _ | .nilp, _ | .zsl _, _ | .ptr .., _ | .slc .., _ | .lst _, _ | .fptr .., _ | .tup _, _ | .fn .., _ | .nilf, _ | .undef, _ | .emp, _ => rfl
          have hlen : ∀ i, i < len → ((f i).1).length = P.cellsOf e := fun i hi => by rw [CTall_len (hf i hi).2.1, hc1]
          refine ⟨[.lst ((List.range len).map fun i => el (f i).1)], rfl, ⟨_, _, rfl, ⟨_, rfl, by simp; omega, ?_⟩, rfl⟩, cells_one ?_⟩
          · intro y hy
            obtain ⟨i, hi, rfl⟩ := List.mem_map.mp hy
            have hi := List.mem_range.mp hi
            refine ⟨(f i).1, ?_, (hf i hi).2.1⟩
            cases ag with
            | true => rfl
            | false =>
              rcases elc _ (hf i hi).2.1 with h1 | ⟨_, v, h1, h2⟩
              · have h3 := scal _ (hf i hi).2.1
                have hl1 : le.length = 1 := by simpa using hc3
                have h4 := (CTall_len (hf i hi).2.1).trans hl1
                show (f i).1 = [(f i).1.headD .undef]
                match (f i).1, h4 with
                | [v], _ => rfl
              · show (f i).1 = [(f i).1.headD .undef]
                rw [h1]; rfl
          · by_cases h0 : len = 0
            · subst h0; exact .lst0 (some a) cap (fun h => by cases h)
            · have hsp : a.spot = none ∧ a.block < w.heap.size := by
                obtain ⟨g1, g2, g3⟩ := hf 0 (by omega)
                obtain ⟨g4, g5⟩ := cells?_at g1
                have h6 : ∃ u, (f 0).2[0]? = some u := ⟨_, List.getElem?_eq_getElem (by omega)⟩
                obtain ⟨u, hu0⟩ := h6
                have := g5 0 u hu0
                rw [Nat.zero_mul, show (a.add 0).add 0 = a by simp [Addr.add]] at this
                unfold World.cell? at this
                split at this
                · rename_i c _ _ hh
                  split at this
                  · cases this
                  · rename_i hs
                    refine ⟨by simpa using hs, ?_⟩
                    rcases Nat.lt_or_ge a.block w.heap.size with h7 | h7
                    · exact h7
                    · rw [Array.getElem?_eq_none h7] at hh; cases hh
                · cases this
              obtain ⟨b, o, sp⟩ := a
              obtain ⟨hsp1, hsp2⟩ := hsp
              simp only at hsp1 hsp2
              subst hsp1
              have hlm : ((List.range len).map fun i => el (f i).1).length = len := by simp
              have key := FRep.lst (w := w) (bad := noBad) ((List.range len).map fun i => el (f i).1) b o (P.cellsOf e) cap (fun i j => (f i).2.getD j (.bool false)) (by rw [hlm]; exact hl) (by omega) (fun h => h) hsp2 ?_ ?_ ?_
              · rw [hlm] at key; exact key
              · intro i y hy
                rw [List.getElem?_map] at hy
                obtain ⟨i', h1, rfl⟩ := Option.map_eq_some_iff.mp hy
                obtain ⟨h2, rfl⟩ := rng_at h1
                rw [scal _ (hf _ h2).2.1, hlen _ h2]
              · intro i y j c hy hc
                rw [List.getElem?_map] at hy
                obtain ⟨i', h1, rfl⟩ := Option.map_eq_some_iff.mp hy
                obtain ⟨h2, rfl⟩ := rng_at h1
                rw [scal _ (hf _ h2).2.1] at hc
                obtain ⟨g4, g5⟩ := cells?_at (hf _ h2).1
                have hj : j < (f i).2.length := by
                  rw [g4, ← hlen _ h2]
                  rcases Nat.lt_or_ge j (f i).1.length with h7 | h7
                  · exact h7
                  · rw [List.getElem?_eq_none h7] at hc; cases hc
                have := g5 j _ (List.getElem?_eq_getElem hj)
                rw [add_pl, add_pl] at this
                rw [List.getD_eq_getElem?_getD, List.getElem?_eq_getElem hj]
                simp only [Option.getD_some]
                rw [← Nat.add_assoc]; exact this
              · intro i y j c hy hc
                rw [List.getElem?_map] at hy
                obtain ⟨i', h1, rfl⟩ := Option.map_eq_some_iff.mp hy
                obtain ⟨h2, rfl⟩ := rng_at h1
                rw [scal _ (hf _ h2).2.1] at hc
                obtain ⟨g4, g5⟩ := cells?_at (hf _ h2).1
                have hj : j < (f i).2.length := by
                  rw [g4, ← hlen _ h2]
                  rcases Nat.lt_or_ge j (f i).1.length with h7 | h7
                  · exact h7
                  · rw [List.getElem?_eq_none h7] at hc; cases hc
                refine (hf _ h2).2.2 j c _ hc ?_
                rw [List.getD_eq_getElem?_getD, List.getElem?_eq_getElem hj]; rfl
      · cases h
    · rename_i fs hu
      split at h <;> (try (cases h; done))
      rename_i l' hl'
      split at h
      · rename_i hc
        cases h
        obtain ⟨xs, n, _, _, hlen, hxs, hf⟩ := DataW.trod_struct hu ht
        obtain ⟨avs, q1, q2⟩ := ctFs_open (cs := cs) (enc := enc) (base := base) (spare := spare) (held := held) (fun t l ds fuel x => open_cells d t l ds fuel x) fs.toList 0 l hl' (fun f hfm => by
          obtain ⟨i, hi⟩ := List.getElem?_of_mem hfm
          have h1 := hf i f (by simpa using hi)
          have hi' : i < xs.length := by
            rw [hxs]
            rcases Nat.lt_or_ge i fs.size with h7 | h7
            · exact h7
            · rw [List.getElem?_eq_none (by simpa using h7)] at hi; cases hi
          exact ⟨n, _, h1.trans (List.getElem?_eq_getElem hi')⟩)
        exact ⟨avs, by rw [CTall_len q1, hlen, hc], q1, by simpa using q2⟩
      · cases h
    · rename_i n e hu
      split at h <;> (try (cases h; done))
      rename_i le hle
      split at h
      · rename_i hc
        obtain ⟨hc1, hc2⟩ := hc
        cases h
        obtain ⟨xs, m, _, _, hlen, hxs, hf⟩ := DataW.trod_array hu ht
        have key : ∀ k, k ≤ n → ∃ avs, CTall (List.replicate k le).flatten avs ∧ Cells w avs (cs.drop ((n - k) * le.length)) := by
          intro k
          induction k with
          | zero => intro _; exact ⟨[], rfl, fun i c u hc _ => by cases hc⟩
          | succ k ih =>
            intro hk
            obtain ⟨a2, q1, q2⟩ := ih (by omega)
            have h1 := hf (n - (k + 1)) (by omega)
            rw [List.getElem?_eq_getElem (by omega)] at h1
            obtain ⟨a1, e1, e2, e3⟩ := open_cells d e le _ m _ hle h1
            refine ⟨a1 ++ a2, by rw [List.replicate_succ, List.flatten_cons]; exact CTall_app e2 q1, ?_⟩
            have hl : a1.length = le.length := CTall_len e2
            intro i c u hc hu
            by_cases hi : i < a1.length
            · rw [List.getElem?_append_left hi] at hc
              refine e3 i c u hc ?_
              rw [hc1, List.getElem?_take, if_pos (by omega)]; exact hu
            · rw [List.getElem?_append_right (by omega)] at hc
              refine q2 (i - a1.length) c u hc ?_
              rw [List.getElem?_drop] at hu ⊢
              rw [← hu]; congr 1
              have : n - k = n - (k + 1) + 1 := by omega
              rw [this, Nat.add_mul]; omega
        obtain ⟨avs, q1, q2⟩ := key n (Nat.le_refl _)
        refine ⟨avs, ?_, q1, by simpa using q2⟩
        rw [CTall_len q1, hlen, hc2]; simp
      · cases h

theorem okWide_array {r : Reach} {n : Nat} {t e : TypeId} {v : Value} (ht : P.underlying t = some (.array n e)) (h : Value.okWide P w r base t v) : ∃ cs, v = .agg cs ∧ cs.size = P.cellsOf t := by
  simp only [Value.okWide, ht] at h
  obtain ⟨cs, h1, h2, _⟩ := h
  exact ⟨cs, h1, h2⟩
/-- A scalar argument. -/
theorem open_sc {t : TypeId} {v : Value} {d : DataW H} {ps : List MemPlace} {l : List CT} (hv : v.cells.toList = [v]) (hl : ctOf P 9 t = some l) (h : DataW.Trod enc P w base spare held t v d ps) :
    ∃ a, TyOK false l a ∧ FRep w noBad a v := by
  obtain ⟨fuel, h⟩ := h
  obtain ⟨avs, h1, h2, h3⟩ := open_cells 9 t l _ fuel _ hl h
  rw [hv] at h1 h3
  match avs, h1 with
  | [a], _ => exact ⟨a, ⟨_, rfl, h2⟩, h3 0 a v rfl rfl⟩
/-- A struct, or an array. -/
theorem open_ag {t : TypeId} {cs : Array Value} {d : DataW H} {ps : List MemPlace} {l : List CT} (hl : ctOf P 9 t = some l) (h : DataW.Trod enc P w base spare held t (.agg cs) d ps) :
    ∃ a, TyOK true l a ∧ FRep w noBad a (.agg cs) := by
  obtain ⟨fuel, h⟩ := h
  obtain ⟨avs, h1, h2, h3⟩ := open_cells 9 t l _ fuel _ hl h
  refine ⟨.agg avs, ⟨_, rfl, h2⟩, ?_⟩
  have := FRep.agg (w := w) (bad := noBad) avs cs.toList h1 h3
  simpa using this
end
end Go.Proofs.Ytoceckjagfhfmaa.AE

namespace Go.Proofs.Ytoceckjagfhfmaa.AE
set_option linter.unusedVariables false
set_option linter.unusedSimpArgs false
set_option linter.constructorNameAsVariable false
open Go Go.RowKit

theorem frl_nil {w : World} {bad : Nat → Prop} : ∀ (i : Nat) (c : AV) (u : Value), ([] : List AV)[i]? = some c → ([] : List Value)[i]? = some u → FRep w bad c u := fun _ _ _ h => by cases h
theorem frl_cons {w : World} {bad : Nat → Prop} {c0 : AV} {u0 : Value} {cs : List AV} {us : List Value} (h0 : FRep w bad c0 u0) (h : ∀ (i : Nat) (c : AV) (u : Value), cs[i]? = some c → us[i]? = some u → FRep w bad c u) :
    ∀ (i : Nat) (c : AV) (u : Value), (c0 :: cs)[i]? = some c → (u0 :: us)[i]? = some u → FRep w bad c u
  | 0, c, u, hc, hu => by cases hc; cases hu; exact h0
  | i + 1, c, u, hc, hu => h i c u hc hu
theorem law_calls {d : Nat} {g : FuncId} {args : List AV} {vs : List Value} (h : pcall M d g args = some (.bool true)) (W : World) (hl : args.length = vs.length)
    (hr : ∀ (i : Nat) (c : AV) (u : Value), args[i]? = some c → vs[i]? = some u → FRep W (fun _ => False) c u) (hc : (cFn Try.prog g).isSome = true := by kernel_rfl) : Calls Try.prog g vs.toArray W fun e W' => e = .returned (.bool true) ∧ Below W.heap.size W W' := by
  obtain ⟨fn, hfn⟩ := Option.isSome_iff_exists.mp hc
  rcases pcall_law modOK d g args _ h W (fun _ => False) vs (fun _ h => h.elim) hl hr with ⟨cv, w', h1, _⟩ | ⟨_, h2⟩
  · rw [enter_run hfn] at h1; cases h1
  · refine h2.mono ?_
    rintro e W' ⟨cv, rfl, hf, hb⟩
    cases hf
    exact ⟨rfl, hb⟩
end Go.Proofs.Ytoceckjagfhfmaa.AE
