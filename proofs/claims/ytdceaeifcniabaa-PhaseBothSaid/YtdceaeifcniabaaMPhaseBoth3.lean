/- The texts that the law PhaseBoth needs, part 3. No conditions. -/
import Derived.Test.YtdceaeifcniabaaMPhaseBoth2
namespace Go.Proofs.Ytdceaeifcniabaa.AE
set_option linter.unusedVariables false
set_option linter.unusedSimpArgs false
set_option linter.constructorNameAsVariable false
open Go

theorem aop_call_irr {call call' : CallF} {ev : Opd → AV} {H : Heap} {io : IOp} (h : ∀ sh f args, io ≠ .call sh f args) : aop call ev H io = aop call' ev H io := by
  cases io <;> first | rfl | exact absurd rfl (h _ _ _) | skip
  all_goals (rename_i b _; cases b <;> rfl)

theorem xop0_ok {u : XU} {x : XCall} {call : CallF} (hx : XOK x call) {ev : Opd → AV} {H : Heap} {io : IOp} {K : AV → Heap → Ans} {r : AV} (h : xop0 C0 u x ev H io K = some r) : ∃ v H', aop call ev H io = some (v, H') ∧ K v H' = some r := by
  unfold xop0 at h
  split at h
  · obtain ⟨t, h1, h2⟩ := xpick_ok h
    exact ⟨_, H, by simp [aop, h1], h2⟩
  · obtain ⟨v, h1, h2⟩ := xbin_ok h
    exact ⟨v, H, by simp [aop, h1], h2⟩
  · split at h <;> (try (cases h; done))
    rename_i b hb
    exact ⟨_, H, by simp only [aop, hb], h⟩
  · split at h <;> (try (cases h; done))
    rename_i b hb
    exact ⟨_, H, by simp only [aop, hb], h⟩
  · split at h
    · rename_i l h1 h2
      rcases cnd_some h with ⟨_, h⟩ | ⟨h0, h⟩
      · cases h
      · cases l with
        | nil => simp at h0
        | cons a l => exact ⟨_, H, by simp only [aop, h1, h2, eqV, eqS], h⟩
    · split at h <;> (try (cases h; done))
      rename_i b hb
      exact ⟨_, H, by simp only [aop, hb], h⟩
  · split at h <;> (try (cases h; done))
    rename_i g a b hf
    split at h
    · obtain ⟨v, H', h1, h2⟩ := hx _ _ _ _ _ _ _ h
      exact ⟨v, H', by simp only [aop, hf, h1], h2⟩
    · obtain ⟨v, H', h1, h2⟩ := hx _ _ _ _ _ _ _ h
      exact ⟨v, H', by simp only [aop, hf, h1], h2⟩
  · split at h <;> (try (cases h; done))
    rename_i s hs
    obtain ⟨hh, h1, h2⟩ := xbound_ok h
    obtain ⟨l, h3, h4⟩ := xbound_ok h2
    exact ⟨_, H, by simp only [aop, aSubS, hs, h1, h3], h4⟩
  · split at h <;> (try (cases h; done))
    rename_i s q hs hq
    rcases cnd_some h with ⟨h0, h⟩ | ⟨_, h⟩
    · have h0 := of_decide_eq_true h0
      simp only [C0] at h
      obtain ⟨n, h1, h2⟩ := Option.bind_eq_some_iff.mp h
      cases hb : s[q.toNat]? with
      | none => simp [hb, isInt] at h1
      | some b =>
        simp [hb, isInt] at h1
        subst h1
        exact ⟨_, H, by simp [aop, hs, hq, h0, hb], h2⟩
    · cases h
  · split at h <;> (try (cases h; done))
    rename_i q hq
    split at h <;> (try (cases h; done))
    · rename_i l hl
      unfold xat at h
      rcases cnd_some h with ⟨h0, h⟩ | ⟨_, h⟩
      · have h0 := of_decide_eq_true h0
        obtain ⟨v, h1, h2⟩ := destr_sound _ _ _ _ h
        split at h2 <;> (try (cases h2; done))
        rename_i hc
        have hc := of_decide_eq_true hc
        exact ⟨_, H, by simp [aop, hq, hl, aIx, h0, h1, hc], h2⟩
      · cases h
    · rename_i id o n hl
      split at h <;> (try (cases h; done))
      rename_i b hb
      split at h <;> (try (cases h; done))
      rename_i he
      have he := of_decide_eq_true he
      rcases cnd_some h with ⟨h0, h⟩ | ⟨_, h⟩
      · have h0 := of_decide_eq_true h0
        exact ⟨_, H, by simp [aop, hq, hl, aIx, hb, h0, he], h⟩
      · cases h
  · rename_i hne
    split at h <;> (try (cases h; done))
    rename_i v H' hv
    exact ⟨v, H', by rw [← hv]; exact aop_call_irr (fun sh f args he => by subst he; simp_all), h⟩

theorem xop_ok {u : XU} {sh : Sh} {x : XCall} {call : CallF} (hx : XOK x call) {ev : Opd → AV} {H : Heap} {io : IOp} {K : AV → Heap → Ans} {r : AV} (h : xop C0 u sh x ev H io K = some r) : ∃ v H', aop call ev H io = some (v, H') ∧ K v H' = some r := by
  unfold xop at h
  split at h
  · split at h
    · rename_i hi
      rw [close_okB hi]
      simp only [C0] at h
      split at h
      · rename_i v H' hv
        split at h
        · exact ⟨v, H', hv, h⟩
        · obtain ⟨w, h1, h2⟩ := destr_sound _ _ _ _ h
          cases h1
          exact ⟨v, H', hv, h2⟩
      · cases h
    · exact xop0_ok hx h
  · exact xop0_ok hx h

theorem set_same {env : List AV} {t : Nat} {v : AV} (h : env.getD t .undef = v) (hv : v ≠ .undef) : env.set t v = env := by
  apply List.ext_getElem?
  intro i
  by_cases hi : t = i
  · subst hi
    rcases Nat.lt_or_ge t env.length with hlt | hge
    · rw [List.getElem?_set_self hlt, List.getElem?_eq_getElem hlt, ← h]
      simp [List.getD_eq_getElem?_getD, hlt]
    · exact absurd (by rw [← h]; simp [List.getD_eq_getElem?_getD, List.getElem?_eq_none hge]) hv
  · rw [List.getElem?_set_ne hi]

theorem xwant_ok {env : List AV} {g : Option (Option Nat × Bool)} {A B : List AV → Ans} {r : AV} (h : xwant env g A B = some r) : (want env g = some true ∧ A env = some r) ∨ (want env g = some false ∧ B env = some r) := by
  unfold xwant at h
  split at h
  · exact .inl ⟨rfl, h⟩
  · rename_i t b
    split at h <;> (try (cases h; done))
    · rename_i c hc
      split at h
      · rcases cnd_some h with ⟨h0, h⟩ | ⟨h0, h⟩
        · subst h0; rw [set_same hc (by simp)] at h; exact .inl ⟨by simp only [want, hc]; rfl, h⟩
        · subst h0; rw [set_same hc (by simp)] at h; exact .inr ⟨by simp only [want, hc]; rfl, h⟩
      · rcases cnd_some h with ⟨h0, h⟩ | ⟨h0, h⟩
        · subst h0; rw [set_same hc (by simp)] at h; exact .inr ⟨by simp only [want, hc]; rfl, h⟩
        · subst h0; rw [set_same hc (by simp)] at h; exact .inl ⟨by simp only [want, hc]; rfl, h⟩
    · rename_i hc
      exact .inr ⟨by simp only [want, hc], h⟩
  · exact .inr ⟨rfl, h⟩

theorem xrunOps_ok {u : XU} {x : XCall} {call : CallF} (hx : XOK x call) : ∀ (l : List IOper) (s : St) (K : St → Ans) (r : AV), xrunOps C0 u x l s K = some r → ∃ s', runOps call l s = some s' ∧ K s' = some r
  | [], s, K, r, h => ⟨s, rfl, h⟩
  | o :: l, s, K, r, h => by
    simp only [xrunOps] at h
    rcases xwant_ok h with ⟨hw, h⟩ | ⟨hw, h⟩
    · obtain ⟨v, H', h1, h2⟩ := xop_ok hx h
      obtain ⟨s', h3, h4⟩ := xrunOps_ok hx l _ K r h2
      exact ⟨s', by simp only [runOps, hw, h1, h3], h4⟩
    · obtain ⟨s', h3, h4⟩ := xrunOps_ok hx l _ K r h
      exact ⟨s', by simp only [runOps, hw, h3], h4⟩

theorem XOK.sel {x y : XCall} {call callP : CallF} (hx : XOK x call) (hy : XOK y callP) (b : Bool) : XOK (match b with | true => x | false => y) (bif b then call else callP) := by cases b <;> assumption
theorem xrunOpsD_ok {u : XU} {x y : XCall} {call callP : CallF} (hx : XOK x call) (hy : XOK y callP) : ∀ (l : List (IOper × List Nat)) (i : Nat) (log : List (Nat × Nat)) (s : St) (K : St → Ans) (r : AV), xrunOpsD C0 u x y l i log s K = some r → ∃ s', runOpsD call callP l i log s = some s' ∧ K s' = some r
  | [], i, log, s, K, r, h => ⟨s, rfl, h⟩
  | (o, chk) :: l, i, log, s, K, r, h => by
    simp only [xrunOpsD] at h
    rcases xwant_ok h with ⟨hw, h⟩ | ⟨hw, h⟩
    · split at h <;> (try (cases h; done))
      rename_i hl
      obtain ⟨v, H', h1, h2⟩ := xop_ok (hx.sel hy (isFull chk)) h
      obtain ⟨s', h3, h4⟩ := xrunOpsD_ok hx hy l _ _ _ K r h2
      refine ⟨s', ?_, h4⟩
      simp only [runOpsD, hw]
      split
      · simp only [h1, h3]
      · rename_i hn
        rw [Bool.or_eq_true] at hl
        rcases hl with hl | hl
        · exact absurd (by rw [List.isEmpty_iff] at hl; subst hl; simp) hn
        · exact absurd hl hn
    · obtain ⟨s', h3, h4⟩ := xrunOpsD_ok hx hy l _ _ _ K r h
      exact ⟨s', by simp only [runOpsD, hw, h3], h4⟩

theorem xdisj_ok {chk : List Nat} {t : TV} {K : Ans} {r : AV} : ∀ {l : List (Nat × TV)}, xdisj C0 chk t l K = some r → K = some r ∧ ∀ e ∈ l, chk.contains e.1 = true → disjB e.2 t = true
  | [], h => ⟨h, fun e he => by cases he⟩
  | (i, s) :: l, h => by
    simp only [xdisj] at h
    split at h
    · rename_i hc
      split at h
      · obtain ⟨h1, h2⟩ := xdisj_ok h
        refine ⟨h1, fun e he hk => ?_⟩
        rcases List.mem_cons.mp he with rfl | he
        · rfl
        · exact h2 e he hk
      · obtain ⟨h1, h2⟩ := xdisj_ok h
        refine ⟨h1, fun e he hk => ?_⟩
        rcases List.mem_cons.mp he with rfl | he
        · cases s <;> rfl
        · exact h2 e he hk
      · simp only [C0] at h
        split at h
        · rename_i hd
          obtain ⟨h1, h2⟩ := xdisj_ok h
          refine ⟨h1, fun e he hk => ?_⟩
          rcases List.mem_cons.mp he with rfl | he
          · exact hd
          · exact h2 e he hk
        · cases h
    · rename_i hc
      obtain ⟨h1, h2⟩ := xdisj_ok h
      refine ⟨h1, fun e he hk => ?_⟩
      rcases List.mem_cons.mp he with rfl | he
      · rw [hc] at hk; cases hk
      · exact h2 e he hk

/-- It may name that memory. -/
def tmem (id : Nat) : TV → Prop
  | .no => False
  | .addr v => id ∈ idsOf v
  | .all l => l.all (noId DEPTH) = false
theorem touch_tv {ev : Opd → AV} {H : Heap} {io : IOp} {id : Nat} (h : id ∈ touch ev H io) : tmem id (tvOf ev io) := by
  cases io <;> first | (cases h; done) | skip
  case load ag n a =>
    simp only [touch] at h
    simp only [tvOf, tmem]
    split at h
    · rename_i he; rw [he]; exact h
    · cases h
  case store n a v =>
    simp only [touch] at h
    simp only [tvOf, tmem]
    split at h
    · rename_i he; rw [he]; exact h
    · cases h
  case b2s x =>
    simp only [touch] at h
    simp only [tvOf, tmem]
    split at h
    · rename_i he; rw [he]; exact h
    · cases h
  case call sh f args =>
    simp only [touch] at h
    simp only [tvOf]
    split at h
    · rename_i he
      rw [he]
      simp only [tmem]
      split at h
      · cases h
      · rename_i hn; simpa using hn
    · cases h
theorem disj_no {id : Nat} {a b : TV} (h : disjB a b = true) (ha : tmem id a) (hb : tmem id b) : False := by
  cases a <;> cases b <;> simp only [tmem] at ha hb <;> try exact ha.elim
  all_goals (try exact hb.elim)
  · rename_i v w
    simp only [disjB, List.all_eq_true] at h
    have := h id ha
    simp [hb] at this
  · simp only [disjB] at h; rw [hb] at h; cases h
  · simp only [disjB] at h; rw [ha] at h; cases h
  · simp only [disjB] at h; rw [ha] at h; cases h
theorem xrunOpsH_ok {u : XU} {x y : XCall} {call callP : CallF} (hx : XOK x call) (hy : XOK y callP) : ∀ (l : List (IOper × List Nat)) (i : Nat) (lg : List (Nat × TV)) (log : List (Nat × Nat)) (s : St) (K : St → Ans) (r : AV), (∀ p ∈ log, ∃ e ∈ lg, e.1 = p.1 ∧ tmem p.2 e.2) →
    xrunOpsH C0 u x y l i lg s K = some r → ∃ s', runOpsD call callP l i log s = some s' ∧ K s' = some r
  | [], i, lg, log, s, K, r, _, h => ⟨s, rfl, h⟩
  | (o, chk) :: l, i, lg, log, s, K, r, hl, h => by
    simp only [xrunOpsH] at h
    rcases xwant_ok h with ⟨hw, h⟩ | ⟨hw, h⟩
    · obtain ⟨h, hd⟩ := xdisj_ok h
      obtain ⟨v, H', h1, h2⟩ := xop_ok (hx.sel hy (isFull chk)) h
      have hok : log.all (fun p => !(chk.contains p.1) || !((touch (evO s.env) s.H o.op).contains p.2)) = true := by
        rw [List.all_eq_true]
        intro p hp
        obtain ⟨e, he, h3, h4⟩ := hl p hp
        cases hc : chk.contains p.1 with
        | false => rfl
        | true =>
          cases ht : (touch (evO s.env) s.H o.op).contains p.2 with
          | false => rfl
          | true => exact (disj_no (hd e he (by rw [h3]; exact hc)) h4 (touch_tv (by simpa using ht))).elim
      obtain ⟨s', h3, h4⟩ := xrunOpsH_ok hx hy l _ _ (log ++ (touch (evO s.env) s.H o.op).map fun id => (i, id)) _ K r (by
        intro p hp
        rcases List.mem_append.mp hp with hp | hp
        · obtain ⟨e, he, h3, h4⟩ := hl p hp
          exact ⟨e, List.mem_cons_of_mem _ he, h3, h4⟩
        · obtain ⟨id, hid, rfl⟩ := List.mem_map.mp hp
          exact ⟨_, List.mem_cons_self .., rfl, touch_tv hid⟩) h2
      refine ⟨s', ?_, h4⟩
      simp only [runOpsD, hw]
      rw [if_pos hok]
      simp only [h1, h3]
    · obtain ⟨s', h3, h4⟩ := xrunOpsH_ok hx hy l _ _ log _ K r hl h
      exact ⟨s', by simp only [runOpsD, hw, h3], h4⟩

theorem xkeep_ok {A B : Heap} {l : List AV} {K : Ans} {r : AV} (h : xkeep C0 A B l K = some r) : keepL A B l = true ∧ K = some r := by
  unfold xkeep at h
  split at h
  · exact ⟨rfl, h⟩
  · simp only [C0] at h
    split at h
    · rename_i hk; exact ⟨hk, h⟩
    · cases h
theorem xlogS_ok {o : SOp} {ev : Opd → AV} {H H' : Heap} {K : Ans} {r : AV} : ∀ {log : List LogE}, xlogS C0 o (namesOf ev o.op.op) H H' log K = some r → (log.all fun e => !(o.chk.contains e.idx) || logC e o ev H H') = true ∧ K = some r
  | [], h => ⟨rfl, h⟩
  | e :: l, h => by
    simp only [xlogS] at h
    cases hc : o.chk.contains e.idx with
    | false =>
      rw [hc] at h
      obtain ⟨q1, q2⟩ := xlogS_ok (log := l) h
      exact ⟨by rw [List.all_cons, q1, hc]; rfl, q2⟩
    | true =>
      rw [hc] at h
      simp only at h
      have fin : ∀ {K' : Ans}, (match chgS o with
          | true => xkeep C0 H H' e.nm (xlogS C0 o (namesOf ev o.op.op) H H' l K)
          | false => xlogS C0 o (namesOf ev o.op.op) H H' l K) = some r → (match chgS o with
          | true => keepL H H' e.nm
          | false => true) = true ∧ (l.all fun e => !(o.chk.contains e.idx) || logC e o ev H H') = true ∧ K = some r := by
        intro K' h
        cases hg : chgS o with
        | true =>
          rw [hg] at h
          obtain ⟨q1, q2⟩ := xkeep_ok h
          obtain ⟨q3, q4⟩ := xlogS_ok (log := l) q2
          exact ⟨q1, q3, q4⟩
        | false =>
          rw [hg] at h
          obtain ⟨q3, q4⟩ := xlogS_ok (log := l) h
          exact ⟨rfl, q3, q4⟩
      have all : logC e o ev H H' = true → (l.all fun e => !(o.chk.contains e.idx) || logC e o ev H H') = true → ((e :: l).all fun e => !(o.chk.contains e.idx) || logC e o ev H H') = true := fun h1 h2 => by rw [List.all_cons, h2, h1]; simp
      cases hch : e.chg with
      | none =>
        rw [hch] at h
        obtain ⟨q1, q2, q3⟩ := fin (K' := none) h
        exact ⟨all (by unfold logC; rw [hch]; simp only [Bool.true_and]; exact q1) q2, q3⟩
      | some p =>
        obtain ⟨A, B⟩ := p
        rw [hch] at h
        obtain ⟨q0, h⟩ := xkeep_ok h
        obtain ⟨q1, q2, q3⟩ := fin (K' := none) h
        exact ⟨all (by unfold logC; rw [hch]; simp only [q0, Bool.true_and]; exact q1) q2, q3⟩
theorem makeAt_close {ev : Opd → AV} {id : Nat} {io : IOp} : makeAt (evO []) id (close ev io) = makeAt ev id io := by
  cases io <;> try rfl
  case mkrow e n ps => simp only [close, makeAt, List.map_map]; rfl
theorem xstepS_ok {u : XU} {x : XCall} {call : CallF} (hx : XOK x call) {base : Nat} {o : SOp} {env : List AV} {H : Heap} {K : AV → Heap → Ans} {r : AV} (h : xstepS C0 u x base o env H K = some r) : ∃ v H', stepS call base o ⟨env, H⟩ = some (v, H') ∧ K v H' = some r := by
  unfold xstepS at h
  unfold stepS
  cases hs : o.slot with
  | none =>
    rw [hs] at h
    exact xop_ok hx h
  | some j =>
    rw [hs] at h
    simp only at h ⊢
    cases ha : allocOp o.op.op with
    | true => rw [ha] at h; exact ⟨_, _, rfl, h⟩
    | false =>
      rw [ha] at h
      simp only [C0, makeAt_close] at h
      split at h
      · rename_i v k hk
        exact ⟨v, _, by simp only [hk], h⟩
      · cases h
theorem xrunOpsS_ok {u : XU} {x : XCall} {call : CallF} (hx : XOK x call) {base : Nat} : ∀ (l : List SOp) (i : Nat) (log : List LogE) (s : St) (K : St → Ans) (r : AV), xrunOpsS C0 u x base l i log s K = some r → ∃ s', runOpsS call base l i log s = some s' ∧ K s' = some r
  | [], i, log, s, K, r, h => ⟨s, rfl, h⟩
  | o :: l, i, log, s, K, r, h => by
    simp only [xrunOpsS] at h
    rcases xwant_ok h with ⟨hw, h⟩ | ⟨hw, h⟩
    · obtain ⟨v, H', h1, h2⟩ := xstepS_ok hx h
      obtain ⟨h3, h4⟩ := xlogS_ok h2
      obtain ⟨h5, h6⟩ := xkeep_ok h4
      obtain ⟨s', h7, h8⟩ := xrunOpsS_ok hx l _ _ _ K r h6
      refine ⟨s', ?_, h8⟩
      have hkp : (o.kp.all fun j => keepB s.H H' (base + j)) = true := by
        rw [List.all_eq_true]
        intro j hj
        have := List.all_eq_true.mp (List.all_eq_true.mp h5 (.ptr (base + j) 0 0) (List.mem_map.mpr ⟨j, hj, rfl⟩)) (base + j) (by simp [idsOf])
        exact this
      simp only [runOpsS, hw]
      have hs : stepS call base o s = some (v, H') := h1
      simp only [hs, h3, hkp, Bool.and_self]
      exact h7
    · obtain ⟨s', h3, h4⟩ := xrunOpsS_ok hx l _ _ _ K r h
      exact ⟨s', by simp only [runOpsS, hw, h3], h4⟩

theorem xexec_ok {x y : XCall} {call callP : CallF} (hx : XOK x call) (hy : XOK y callP) (u : XU) (fu : Nat) : ∀ (c : IC) (da : List Nat) (s : St) (K : Ex → St → Ans) (r : AV), xexec C0 u x y fu c da s K = some r → ∃ e s', exec call callP fu c s = some (e, s') ∧ K e s' = some r := by
  intro c
  induction c with
  | skip => intro da s K r h; exact ⟨_, _, rfl, h⟩
  | reg ops =>
    intro da s K r h
    obtain ⟨s', h1, h2⟩ := xrunOps_ok hx ops s _ r h
    exact ⟨.normal, s', by simp only [exec, h1], h2⟩
  | regD ops =>
    intro da s K r h
    simp only [xexec] at h
    split at h
    · obtain ⟨s', h1, h2⟩ := xrunOpsH_ok hx hy ops 0 [] [] s _ r (fun p hp => by cases hp) h
      exact ⟨.normal, s', by simp only [exec, h1], h2⟩
    · obtain ⟨s', h1, h2⟩ := xrunOpsD_ok hx hy ops 0 [] s _ r h
      exact ⟨.normal, s', by simp only [exec, h1], h2⟩
  | regS ops =>
    intro da s K r h
    simp only [xexec] at h
    split at h
    · simp only [C0] at h
      obtain ⟨s', h1, h2⟩ := xrunOpsS_ok hx ops 0 [] _ _ r h
      exact ⟨.normal, s', by simp only [exec, h1], h2⟩
    · cases h
  | seq a b iha ihb =>
    intro da s K r h
    simp only [xexec] at h
    split at h
    case h_2 =>
      simp only [C0, xiter] at h
      obtain ⟨e, s1, h1, h2⟩ := iha _ s _ r (destrE_sound h)
      cases e with
      | normal =>
        simp only [xgo, if_true] at h2
        obtain ⟨e, s', h3, h4⟩ := ihb _ s1 K r (destrE_sound h2)
        exact ⟨e, s', by simp only [exec, h1, h3], h4⟩
      | exit i =>
        simp only at h2
        split at h2
        · cases h2
        · rename_i hi
          have hi := of_decide_eq_false hi
          simp only [xgo, if_neg hi] at h2
          exact ⟨_, s1, by simp only [exec, h1], destrE_sound (xgo_ok (f := fun i s1 => destrE C0 u da (daX a da i) a s s1 fun s2 => K (.exit i) s2) _ h2)⟩
      | ret =>
        have h3 := destrE_sound h2
        split at h3
        · exact ⟨_, s1, by simp only [exec, h1], h3⟩
        · cases h3
    obtain ⟨e, s1, h1, h2⟩ := iha _ s _ r h
    cases e with
    | normal =>
      obtain ⟨e, s', h3, h4⟩ := ihb _ s1 K r h2
      exact ⟨e, s', by simp only [exec, h1, h3], h4⟩
    | exit i => exact ⟨.exit i, s1, by simp only [exec, h1], h2⟩
    | ret => exact ⟨.ret, s1, by simp only [exec, h1], h2⟩
  | cond c a b iha ihb =>
    intro da s K r h
    cases c with
    | t n =>
      simp only [xexec] at h
      split at h <;> (try (cases h; done))
      rename_i t ht
      rcases cnd_some h with ⟨h0, h⟩ | ⟨h0, h⟩
      · subst h0; rw [set_same ht (by simp)] at h
        obtain ⟨e, s', h1, h2⟩ := iha _ s K r h
        exact ⟨e, s', by simp only [exec, evO, ht, cond_true, h1], h2⟩
      · subst h0; rw [set_same ht (by simp)] at h
        obtain ⟨e, s', h1, h2⟩ := ihb _ s K r h
        exact ⟨e, s', by simp only [exec, evO, ht, cond_false, h1], h2⟩
    | v c =>
      simp only [xexec] at h
      split at h <;> (try (cases h; done))
      rename_i t
      rcases cnd_some h with ⟨h0, h⟩ | ⟨h0, h⟩
      · subst h0
        obtain ⟨e, s', h1, h2⟩ := iha _ s K r h
        exact ⟨e, s', by simp only [exec, evO, cond_true, h1], h2⟩
      · subst h0
        obtain ⟨e, s', h1, h2⟩ := ihb _ s K r h
        exact ⟨e, s', by simp only [exec, evO, cond_false, h1], h2⟩
  | block id a iha =>
    intro da s K r h
    obtain ⟨e, s1, h1, h2⟩ := iha _ s _ r h
    cases e with
    | normal => exact ⟨.normal, s1, by simp only [exec, h1], h2⟩
    | ret => exact ⟨.ret, s1, by simp only [exec, h1], h2⟩
    | exit i =>
      simp only at h2
      split at h2
      · rename_i hi
        have hi := of_decide_eq_true hi
        exact ⟨.normal, s1, by simp only [exec, h1, hi, if_true], h2⟩
      · rename_i hi
        have hi := of_decide_eq_false hi
        exact ⟨.exit i, s1, by simp only [exec, h1, hi, if_false], h2⟩
  | loop a iha =>
    intro da s K r h
    have key2 : ∀ (n : Nat) (s0 : St) (K' : Ex → St → Ans), xiter (fun s1 Kn => xexec C0 u x y fu a da s1 Kn) n s0 K' = some r → ∃ e s', iter (exec call callP fu a) n s0 = some (e, s') ∧ K' e s' = some r := by
      intro n
      induction n with
      | zero => intro s0 K' h; simp [xiter] at h
      | succ n ih =>
        intro s0 K' h
        simp only [xiter] at h
        obtain ⟨e, s1, h1, h2⟩ := iha _ s0 _ r h
        cases e with
        | normal =>
          obtain ⟨e, s', h3, h4⟩ := ih s1 K' h2
          exact ⟨e, s', by simp only [iter, h1, h3], h4⟩
        | exit i => exact ⟨.exit i, s1, by simp only [iter, h1], h2⟩
        | ret => exact ⟨.ret, s1, by simp only [iter, h1], h2⟩
    have key : ∀ (n : Nat) (s0 : St) (K' : Ex → St → Ans), xiter (fun s1 Kn => destrE C0 u da [] a s s1 fun s2 => xexec C0 u x y fu a da s2 Kn) n s0 K' = some r → ∃ e s', iter (exec call callP fu a) n s0 = some (e, s') ∧ K' e s' = some r := by
      intro n
      induction n with
      | zero => intro s0 K' h; simp [xiter] at h
      | succ n ih =>
        intro s0 K' h
        simp only [xiter] at h
        obtain ⟨e, s1, h1, h2⟩ := iha _ s0 _ r (destrE_sound h)
        cases e with
        | normal =>
          obtain ⟨e, s', h3, h4⟩ := ih s1 K' h2
          exact ⟨e, s', by simp only [iter, h1, h3], h4⟩
        | exit i => exact ⟨.exit i, s1, by simp only [iter, h1], h2⟩
        | ret => exact ⟨.ret, s1, by simp only [iter, h1], h2⟩
    simp only [xexec] at h
    cases hun : u.un with
    | true => rw [hun] at h; exact key2 fu s K h
    | false =>
      rw [hun] at h
      obtain ⟨e, s', h1, h2⟩ := key fu s _ h
      cases e with
      | normal => cases h2
      | exit i => exact ⟨_, s', h1, destrE_sound (xgo_ok (f := fun i s1 => destrE C0 u da (daX a da i) a s s1 fun s2 => K (.exit i) s2) _ h2)⟩
      | ret => exact ⟨_, s', h1, destrE_sound h2⟩
  | exit id => intro da s K r h; exact ⟨_, _, rfl, h⟩
  | ret => intro da s K r h; exact ⟨_, _, rfl, h⟩

theorem xresAll_ok {s : St} : ∀ {l : List RV} {K : List AV → Ans} {r : AV}, xresAll C0 s l K = some r → ∃ vs, resAll s l = some vs ∧ K vs = some r
  | [], K, r, h => ⟨[], rfl, h⟩
  | .tmp t :: l, K, r, h => by
    obtain ⟨vs, h1, h2⟩ := xresAll_ok (l := l) h
    exact ⟨_, by simp only [resAll, resOf, h1], h2⟩
  | .cell ag n t :: l, K, r, h => by
    have h : (match (match aLoad s.H ag n (s.env.getD t .undef) with
        | some v => some (v, s.H)
        | none => none : Option (AV × Heap)) with
      | some (v, _) => xresAll C0 s l fun vs => K (v :: vs)
      | none => none) = some r := h
    cases ha : aLoad s.H ag n (s.env.getD t .undef) with
    | none => rw [ha] at h; cases h
    | some v =>
      rw [ha] at h
      obtain ⟨vs, h1, h2⟩ := xresAll_ok (l := l) h
      exact ⟨_, by simp only [resAll, resOf, ha, h1], h2⟩

theorem xrunFn_ok {un : XU} {x y : XCall} {call callP : CallF} (hx : XOK x call) (hy : XOK y callP) {fu : Nat} {fn : AFn} {args : List AV} {H : Heap} {K : AV → Heap → Ans} {r : AV} (h : xrunFn C0 un x y fu fn args H K = some r) :
    ∃ v H', runFn call callP fu fn args H = some (v, H') ∧ K v H' = some r := by
  unfold xrunFn at h
  obtain ⟨e, s', h1, h2⟩ := xexec_ok hx hy un fu _ _ _ _ r h
  unfold runFn
  rw [h1]
  cases e with
  | exit i => cases h2
  | normal =>
    simp only at h2 ⊢
    cases hm : un.hm <;> simp only [hm] at h2
    · cases hr : resAll s' fn.results with
      | none => simp [hr] at h2
      | some vs => simp only [hr] at h2; exact ⟨_, _, rfl, h2⟩
    · obtain ⟨vs, h3, h4⟩ := xresAll_ok h2
      simp only [h3]; exact ⟨_, _, rfl, h4⟩
  | ret =>
    simp only at h2 ⊢
    cases hm : un.hm <;> simp only [hm] at h2
    · cases hr : resAll s' fn.results with
      | none => simp [hr] at h2
      | some vs => simp only [hr] at h2; exact ⟨_, _, rfl, h2⟩
    · obtain ⟨vs, h3, h4⟩ := xresAll_ok h2
      simp only [h3]; exact ⟨_, _, rfl, h4⟩

theorem xempty_ok {M : Mod} {pc : PC} {g : FuncId} {args : List AV} {H : Heap} {K : AV → Heap → Ans} {rest : Ans} {r : AV} (h : xempty C0 M pc g args H K rest = some r) :
    (∃ v, emptyR M pc g args = some v ∧ K v H = some r) ∨ (emptyR M pc g args = none ∧ rest = some r) := by
  unfold xempty at h
  unfold emptyR
  cases hc : M.cl g with
  | false => simp only [hc] at h; exact .inr ⟨rfl, h⟩
  | true =>
    simp only [hc] at h
    match args, h with
    | [], h => exact .inr ⟨rfl, h⟩
    | [x], h =>
      simp only [C0] at h
      obtain ⟨b, hb, h⟩ := Option.bind_eq_some_iff.mp h
      have hx : clr x = some (.bool b) := by
        unfold isBool at hb
        split at hb <;> (try (cases hb; done))
        cases hb; assumption
      simp only [hx]
      cases b with
      | false => exact .inr ⟨rfl, h⟩
      | true =>
        simp only [cnd] at h
        split at h
        · rename_i he
          exact .inl ⟨_, he, h⟩
        · cases h
    | _ :: _ :: _, h => exact .inr ⟨rfl, h⟩

theorem xcallZ_ok (M : Mod) (pc : PC) : XOK (xcallZ C0 M pc) (callZ M pc) := by
  intro sn sh g args H K r h
  unfold xcallZ at h
  unfold callZ
  cases he : M.ext g with
  | some e =>
    simp only [he, xext] at h
    obtain ⟨v, h1, h2⟩ := destr_sound _ _ _ _ h
    exact ⟨v, H, by simp [extCall, h1], h2⟩
  | none =>
    simp only [he] at h
    cases hi : M.inl g <;> simp only [hi] at h
    · obtain ⟨v, H', h1, h2⟩ := xpure_ok pc _ _ _ _ _ _ _ h
      exact ⟨v, H', by simp [h1], h2⟩
    · rcases xempty_ok h with ⟨v, h1, h2⟩ | ⟨h1, h⟩
      · exact ⟨v, H, by simp [h1], h2⟩
      · obtain ⟨v, H', h2, h3⟩ := xpure_ok pc _ _ _ _ _ _ _ h
        exact ⟨v, H', by simp [h1, h2], h3⟩

theorem xfresh_ok {un : XU} {x y : XCall} {call callP : CallF} (hx : XOK x call) (hy : XOK y callP) {fu : Nat} {fn : AFn} {args : List AV} {H : Heap} {K : AV → Heap → Ans} {r : AV} (h : xfresh C0 un x y fu fn args H K = some r) :
    ∃ v H', freshRun (runFn call callP fu fn) args H = some (v, H') ∧ K v H' = some r := by
  unfold xfresh at h
  obtain ⟨v, H1, h1, h2⟩ := xrunFn_ok hx hy h
  unfold freshRun
  rw [h1]
  simp only
  cases hp : padOk H.length H1 with
  | false => simp [hp] at h2
  | true => simp only [hp] at h2 ⊢; exact ⟨_, _, rfl, h2⟩

theorem xcallB_ok (M : Mod) (U : FuncId → XU) (pc : PC) : ∀ n b, XOK (xcallB C0 M U pc n b) (callB M pc n b)
  | 0, _ => xcallZ_ok M pc
  | n + 1, b => by
    intro sn sh g args H K r h
    simp only [xcallB] at h
    cases he : M.ext g with
    | some e =>
      simp only [he, xext] at h
      obtain ⟨v, h1, h2⟩ := destr_sound _ _ _ _ h
      exact ⟨v, H, by simp [callB, he, extCall, h1], h2⟩
    | none =>
      simp only [he] at h
      cases hi : M.inl g <;> simp only [hi] at h
      · obtain ⟨v, H', h1, h2⟩ := xpure_ok pc _ _ _ _ _ _ _ h
        exact ⟨v, H', by simp [callB, he, hi, h1], h2⟩
      · split at h
        · change (match callB M pc (n + 1) b g args H with
            | some (v, H') => destr C0 sh (some v) fun v' => K v' H'
            | none => none) = some r at h
          cases hc : callB M pc (n + 1) b g args H with
          | none => rw [hc] at h; cases h
          | some p =>
            rw [hc] at h
            obtain ⟨v', h1, h2⟩ := destr_sound _ _ _ _ h
            cases h1
            exact ⟨p.1, p.2, rfl, h2⟩
        · rcases xempty_ok h with ⟨v, hv, h2⟩ | ⟨hn, h⟩
          · exact ⟨v, H, by simp [callB, he, hi, hv], h2⟩
          · cases b with
            | true =>
              cases hc : M.code g args.length with
              | none => simp [hc] at h
              | some fn =>
                simp only [hc] at h
                obtain ⟨v, H', h1, h2⟩ := xrunFn_ok (xcallB_ok M U pc n true) (xcallB_ok M U pc n false) h
                exact ⟨v, H', by simp [callB, he, hi, hn, hc, h1], h2⟩
            | false =>
              simp only at h
              cases hf : (M.fr g && args.all (noId DEPTH)) with
              | false =>
                simp only [hf] at h
                obtain ⟨v, H', h1, h2⟩ := xpure_ok pc _ _ _ _ _ _ _ h
                exact ⟨v, H', by simp only [callB, he, hi, hn, hf, h1]; rfl, h2⟩
              | true =>
                simp only [hf] at h
                cases hc : M.code g args.length with
                | none => simp [hc] at h
                | some fn =>
                  simp only [hc] at h
                  obtain ⟨v, H', h1, h2⟩ := xfresh_ok (xcallB_ok M U pc n true) (xcallB_ok M U pc n false) h
                  exact ⟨v, H', by simp only [callB, he, hi, hn, hf, hc, h1]; rfl, h2⟩

/-- WHAT IS TOLD FORWARDS HOLDS. -/
theorem xcall_ok {M : Mod} {U : FuncId → XU} {d : Nat} {g : FuncId} {args : List AV} {r : AV} (h : xcall C0 M U d g args = some r) : pcall M (d + 1) g args = some r := by
  unfold xcall at h
  simp only [pcall]
  cases hc : M.code g args.length with
  | none => simp [hc] at h
  | some fn =>
    simp only [hc] at h
    obtain ⟨v, H', h1, h2⟩ := xrunFn_ok (xcallB_ok M U (pcall M d) IDEPTH true) (xcallB_ok M U (pcall M d) IDEPTH false) h
    simp only [h1]
    split at h2
    · exact h2
    · exact h2
/-- Of a call in the caller's own memory. -/
theorem xmeth_ok {M : Mod} {U : FuncId → XU} {d n : Nat} {g : FuncId} {args : List AV} {H H' : Heap} {v : AV} (he : M.ext g = none) (hi : M.inl g = true) (hn : M.cl g = false) (h : ∀ K, xmeth C0 M U d n g args H K = K v H') : callB M (pcall M d) (n + 1) true g args H = some (v, H') := by
  classical
  have hk := h fun v' H1 => if v' = v ∧ H1 = H' then some .undef else none
  rw [if_pos ⟨rfl, rfl⟩] at hk
  unfold xmeth at hk
  have hem : emptyR M (pcall M d) g args = none := by simp [emptyR, hn]
  simp only [callB, he, hi, hem, if_true]
  cases hc : M.code g args.length with
  | none => simp [hc] at hk
  | some fn =>
    simp only [hc] at hk ⊢
    obtain ⟨v', H1, h1, h2⟩ := xrunFn_ok (xcallB_ok M U (pcall M d) n true) (xcallB_ok M U (pcall M d) n false) hk
    split at h2
    · rename_i hh
      obtain ⟨rfl, rfl⟩ := hh
      exact h1
    · cases h2
end Go.Proofs.Ytdceaeifcniabaa.AE

namespace Go.Proofs.Ytdceaeifcniabaa.AE
set_option linter.unusedVariables false
set_option linter.unusedSimpArgs false
set_option linter.constructorNameAsVariable false
open Go Go.RowKit
set_option maxRecDepth 100000
theorem szT : ∃ i, Try.prog.info? 2 = some i ∧ i.size = 1 := ⟨_, rfl, rfl⟩
def codes : FuncId → Nat → Option AFn
  | 5, _ => some c5
  | 7, _ => some c7
  | 8, _ => some c8
  | 9, _ => some c9
  | 10, _ => some c10
  | 11, _ => some c11
  | 13, _ => some c13
  | 15, _ => some c15
  | 16, _ => some c16
  | 17, _ => some c17
  | 18, _ => some c18
  | 20, _ => some c20
  | 21, _ => some c21
  | 22, _ => some c22
  | 23, _ => some c23
  | 24, _ => some c24
  | 25, _ => some c25
  | 26, _ => some c26
  | 27, _ => some c27
  | 28, _ => some c28
  | 29, _ => some c29
  | 30, _ => some c30
  | 32, _ => some c32
  | 33, _ => some c33
  | 34, _ => some c34
  | 35, _ => some c35
  | 36, _ => some c36
  | 37, _ => some c37
  | 38, _ => some c38
  | 39, _ => some c39
  | 40, _ => some c40
  | 41, _ => some c41
  | 42, _ => some c42
  | 43, _ => some c43
  | 44, _ => some c44
  | 45, _ => some c45
  | 46, _ => some c46
  | 47, _ => some c47
  | 50, _ => some c50
  | 51, _ => some c51
  | 52, _ => some c52
  | 53, _ => some c53
  | 54, _ => some c54
  | 55, _ => some c55
  | 57, _ => some c57
  | 58, _ => some c58
  | 59, _ => some c59
  | 60, _ => some c60
  | 61, _ => some c61
  | 62, _ => some c62
  | 63, _ => some c63
  | 64, _ => some c64
  | 65, _ => some c65
  | 66, _ => some c66
  | 67, _ => some c67
  | 68, _ => some c68
  | 69, _ => some c69
  | 70, _ => some c70
  | 71, _ => some c71
  | 72, _ => some c72
  | 73, _ => some c73
  | 74, _ => some c74
  | 75, _ => some c75
  | 76, _ => some c76
  | 77, _ => some c77
  | 78, _ => some c78
  | 79, _ => some c79
  | 80, _ => some c80
  | 81, _ => some c81
  | 82, _ => some c82
  | 83, _ => some c83
  | 84, _ => some c84
  | 85, _ => some c85
  | 86, _ => some c86
  | 87, _ => some c87
  | 48, 2 => some (storeC .i64)
  | 49, 1 => some (loadC .i64)
  | 56, 3 => some (casC .i64)
  | _, _ => none
def exts : FuncId → Option (List AV → Option AV)
  | _ => none
def clF (g : FuncId) : Bool := [34, 35].contains g
def frF (g : FuncId) : Bool := [23, 35, 24, 9].contains g
def M : Mod := { code := codes, inl := inlF, ext := exts, fu := 10000000000000000000, cl := clF, fr := frF }
def hm34 : List (Nat × Sh) := [(0, .any), (2, .any), (3, .any), (4, .b), (2, .any), (5, .any), (6, .any), (7, .any), (2, .any)]
def hm5 : List (Nat × Sh) := [(0, (.agg [.any, (.i .i64), (.i .i64), (.i .i64), (.i .i64), (.i .i64), (.i .i64), (.i .i64), (.i .i64)])), (1, .any), (4, .b), (9, .b), (10, .b), (11, .b), (12, (.agg [.any, (.i .i64), (.i .i64), (.i .i64), (.i .i64), (.i .i64), (.i .i64), (.i .i64), (.i .i64)])), (13, .b), (14, .b), (15, .b), (16, .b), (17, (.agg [.any, (.i .i64), (.i .i64), (.i .i64), (.i .i64), (.i .i64), (.i .i64), (.i .i64), (.i .i64)])), (18, (.i .i64)), (19, .b), (20, .b), (21, .b), (22, .any), (23, (.i .i64)), (24, .b), (25, .b), (26, .b), (4, .b), (27, (.agg [.any, (.i .i64), (.i .i64), (.i .i64), (.i .i64), (.i .i64), (.i .i64), (.i .i64), (.i .i64)])), (29, (.agg [.any, (.i .i64), (.i .i64), (.i .i64), (.i .i64), (.i .i64), (.i .i64), (.i .i64), (.i .i64)])), (33, .any), (34, (.i .i64)), (35, (.i .i64)), (36, .b), (37, .b), (4, .b), (38, .any), (39, (.i .i64)), (40, (.i .i64)), (43, .b), (8, .b), (45, .b), (46, .b), (47, .b), (48, .b), (49, .b), (51, (.i .i64)), (52, .b), (53, .b), (54, .b), (56, .b), (57, .b), (58, .b), (60, (.i .i64)), (62, .any), (63, (.i .i64)), (64, (.i .i64)), (65, .b), (66, .b), (67, .b), (69, .b), (70, .b), (4, .b), (71, (.i .i64)), (40, (.i .i64)), (73, (.i .i64)), (74, .any), (75, (.i .i64)), (76, .b), (77, .b), (79, (.i .i64)), (80, .any), (81, (.i .i64)), (82, (.i .i64)), (83, .b), (84, .b), (4, .b)]
def hm7 : List (Nat × Sh) := [(0, .b), (8, (.agg [.any, (.i .i64), (.i .i64), (.i .i64), (.i .i64), (.i .i64), (.i .i64), (.i .i64), (.i .i64)])), (11, .b), (12, .b), (13, (.agg [.any, (.i .i64), (.i .i64), (.i .i64), (.i .i64), (.i .i64), (.i .i64), (.i .i64), (.i .i64)])), (15, .b), (16, .b), (0, .b), (17, (.i .i64)), (18, .b), (20, .b), (21, .b), (24, .b), (25, .b), (26, .b), (0, .b), (27, (.i .i64)), (17, (.i .i64)), (29, .b), (31, .b), (33, .b), (2, .b), (3, .b), (4, .b), (35, .b), (5, .b), (37, .b), (6, .b), (39, .b), (7, .b), (40, .b), (41, .b), (42, .b), (43, .b), (44, .b), (45, .b), (46, .b), (47, .b), (48, .b), (49, .b), (50, .b), (51, .b), (52, .b), (53, .b), (54, .b), (55, .b), (56, .b), (58, (.i .i64)), (59, .b), (60, .b), (61, .b), (63, (.i .i64)), (64, .b), (65, .b), (66, .b), (68, .b), (69, .b), (70, .b), (71, .b), (72, .b), (73, .b), (74, .b), (76, .b), (77, .b), (78, .b), (80, (.i .i64)), (81, .b), (82, .b), (83, .b), (85, (.agg [.any, (.i .i64), (.i .i64), (.i .i64), (.i .i64)])), (86, (.i .i64)), (87, .b), (88, .b), (0, .b)]
def hm38 : List (Nat × Sh) := [(1, (.i .i64)), (7, (.i .i64))]
def hm39 : List (Nat × Sh) := [(2, (.i .i64)), (6, (.i .i64)), (2, (.i .i64))]
def hm47 : List (Nat × Sh) := [(1, (.i .i64)), (2, (.i .i64)), (6, .b), (10, (.i .i64)), (11, (.i .i64)), (12, .b), (6, .b)]
def hm9 : List (Nat × Sh) := [(0, (.agg [.any, (.i .i64), (.i .i64), (.i .i64), (.i .i64), (.i .i64), (.i .i64), (.i .i64), (.i .i64)])), (3, (.agg [.any, (.i .i64), (.i .i64), (.i .i64), (.i .i64), (.i .i64), (.i .i64), (.i .i64), (.i .i64)])), (4, .b), (5, .b), (6, (.agg [.any, (.i .i64), (.i .i64), (.i .i64), (.i .i64), (.i .i64), (.i .i64), (.i .i64), (.i .i64)])), (7, (.agg [.any, (.i .i64), (.i .i64), (.i .i64), (.i .i64), (.i .i64), (.i .i64), (.i .i64), (.i .i64)])), (9, (.agg [.any, (.i .i64), (.i .i64), (.i .i64), (.i .i64), (.i .i64), (.i .i64), (.i .i64), (.i .i64), (.i .i64), .any]))]
def hm11 : List (Nat × Sh) := [(1, (.i .i64)), (2, .b), (6, .b), (9, (.agg [.any, (.i .i64), (.i .i64), (.i .i64), (.i .i64)])), (10, .b), (11, .b), (13, .b), (14, .b), (15, .b), (16, .b), (18, (.i .i64)), (20, (.i .i64)), (21, .b), (22, .b), (23, .b), (24, (.i .i64)), (26, (.i .i64)), (27, .b), (28, .b), (6, .b)]
def hm13 : List (Nat × Sh) := [(1, .b), (2, .b), (6, .b), (8, .b), (6, .b), (9, .b), (10, .b), (11, .b), (12, .b), (13, .b), (14, .b), (15, .b), (17, .b), (18, .b), (23, (.i .i64)), (6, .b), (27, (.i .i64)), (28, (.i .i64)), (6, .b)]
def hm15 : List (Nat × Sh) := [(1, (.i .i64)), (2, (.i .i64)), (6, .b), (8, .b), (9, .b), (10, (.i .i64)), (11, .b), (12, .b), (13, .b), (14, (.i .i64)), (19, .any), (20, (.i .i64)), (21, .b), (22, .b), (23, .b), (24, (.i .i64)), (25, .b), (26, .b), (27, .b), (28, (.i .i64)), (29, .b), (30, .b), (6, .b), (32, (.i .i64)), (39, (.i .i64)), (6, .b)]
def hm16 : List (Nat × Sh) := [(2, (.i .i64)), (4, .b), (2, (.i .i64)), (8, (.i .i64)), (2, (.i .i64))]
def hm17 : List (Nat × Sh) := [(2, (.i .i64)), (4, .b), (2, (.i .i64)), (9, (.i .i64)), (2, (.i .i64))]
def hm18 : List (Nat × Sh) := [(2, .b), (4, .b), (5, .b), (9, (.i .i64)), (10, (.i .i64)), (15, .any), (16, (.i .i64)), (17, .b), (18, .b), (2, .b)]
def hm20 : List (Nat × Sh) := [(6, .b), (7, (.agg [.any, (.i .i64), (.i .i64), (.i .i64), (.i .i64)])), (12, (.agg [.any, (.i .i64), (.i .i64), (.i .i64), (.i .i64), (.i .i64), (.i .i64), (.i .i64), (.i .i64)])), (16, (.i .i64)), (17, (.tup [(.agg [.any, (.i .i64), (.i .i64), (.i .i64), (.i .i64)]), .b])), (8, (.tup [(.agg [.any, (.i .i64), (.i .i64), (.i .i64), (.i .i64)]), .b])), (18, (.agg [.any, (.i .i64), (.i .i64), (.i .i64), (.i .i64)])), (19, .b), (4, .b), (20, (.agg [.any, (.i .i64), (.i .i64), (.i .i64), (.i .i64)]))]
def hm23 : List (Nat × Sh) := [(0, (.agg [.any, (.i .i64), (.i .i64), (.i .i64), (.i .i64), (.i .i64), (.i .i64), (.i .i64), (.i .i64)])), (5, .any), (6, .any), (9, .any), (10, (.i .i64)), (11, (.i .i64)), (13, (.i .i64)), (3, (.i .i64)), (15, .any), (16, (.i .i64)), (18, .any), (19, (.i .i64)), (22, .any), (23, .any), (26, (.i .i64)), (11, (.i .i64)), (27, (.agg [.any, (.i .i64), (.i .i64), (.i .i64), (.i .i64), (.i .i64), (.i .i64), (.i .i64), (.i .i64)]))]
def hm32 : List (Nat × Sh) := [(0, (.agg [.any, (.i .i64), (.i .i64), (.i .i64), (.i .i64), (.i .i64), (.i .i64), (.i .i64), (.i .i64)])), (1, (.i .i64)), (5, .b), (6, (.i .i64)), (7, .b), (8, .b), (9, (.i .i64)), (11, .any), (12, (.i .i64)), (13, .b), (14, .b), (15, (.agg [.any, (.i .i64), (.i .i64), (.i .i64), (.i .i64)])), (5, .b), (17, .any), (18, (.i .i64)), (20, (.agg [.any, (.i .i64), (.i .i64), (.i .i64), (.i .i64)])), (22, .any), (23, .any), (25, (.agg [.any, (.i .i64), (.i .i64), (.i .i64), (.i .i64)])), (5, .b)]
def hm35 : List (Nat × Sh) := [(0, .any), (2, .any), (3, .any), (4, .b), (2, .any), (5, .any), (6, .any), (7, .any), (2, .any)]
def hm24 : List (Nat × Sh) := [(0, (.i .i64)), (3, (.i .i64)), (4, (.i .i64)), (5, (.i .i64)), (6, (.agg [(.i .i64), (.i .i64)]))]
def hm27 : List (Nat × Sh) := [(2, (.i .i64)), (4, (.i .i64)), (2, (.i .i64))]
def hm28 : List (Nat × Sh) := []
def hm29 : List (Nat × Sh) := [(1, (.i .i64)), (5, .b), (9, (.i .i64)), (10, (.i .i64)), (14, (.i .i64)), (15, (.i .i64))]
def hm30 : List (Nat × Sh) := [(2, (.i .i64)), (4, .b), (2, (.i .i64)), (8, (.i .i64)), (2, (.i .i64))]
def hm37 : List (Nat × Sh) := [(1, (.i .i64)), (4, (.i .i64)), (8, .b), (4, (.i .i64)), (12, (.i .i64)), (5, (.i .i64)), (13, (.i .i64)), (14, (.i .i64)), (15, (.i .i64)), (19, (.i .i64)), (20, (.i .i64)), (21, (.i .i64)), (22, (.i .i64)), (23, (.i .i64)), (6, (.i .i64)), (27, (.i .i64)), (28, (.i .i64)), (29, .b), (30, (.i .i64)), (4, (.i .i64))]
def hm21 : List (Nat × Sh) := [(0, (.i .i64)), (4, (.i .i64)), (5, (.agg [.any, (.i .i64), (.i .i64), (.i .i64), (.i .i64), (.i .i64), (.i .i64), (.i .i64), (.i .i64)])), (6, (.i .i64)), (7, (.i .i64)), (8, .b), (10, .any), (11, (.agg [(.i .i64), (.i .i64)])), (12, (.agg [(.i .i64), (.i .i64)])), (13, (.agg [(.i .i64), (.i .i64)])), (14, (.agg [(.i .i64), (.i .i64)])), (15, .any), (16, (.agg [.any, (.i .i64), (.i .i64), (.i .i64), (.i .i64)])), (17, .any), (18, .any), (20, (.i .i64)), (7, (.i .i64)), (21, (.agg [.any, (.i .i64), (.i .i64), (.i .i64), (.i .i64), (.i .i64), (.i .i64), (.i .i64), (.i .i64)]))]
def hm46 : List (Nat × Sh) := [(0, .any), (2, .b), (11, .any), (12, (.i .i64)), (3, (.i .i64)), (13, (.i .i64)), (14, .b), (15, .b), (16, (.i .i64)), (17, .b), (18, .b), (2, .b), (4, (.i .i64)), (19, (.i .i64)), (20, (.i .i64)), (21, .b), (24, .any), (25, (.i .i64)), (27, (.agg [(.i .i64), (.i .i64)])), (28, .b), (29, .b), (2, .b), (22, (.i .i64)), (23, (.i .i64)), (4, (.i .i64)), (5, (.i .i64)), (30, (.i .i64)), (31, (.i .i64)), (32, .b), (35, (.i .i64)), (36, (.i .i64)), (6, (.i .i64)), (37, (.i .i64)), (38, (.i .i64)), (39, .b), (42, .any), (43, (.i .i64)), (45, (.agg [(.i .i64), (.i .i64)])), (46, .any), (47, (.i .i64)), (48, (.agg [(.i .i64), (.i .i64)])), (49, .any), (50, (.i .i64)), (52, (.agg [(.i .i64), (.i .i64)])), (53, .any), (54, (.i .i64)), (55, (.agg [(.i .i64), (.i .i64)])), (57, (.agg [(.i .i64), (.i .i64)])), (58, (.agg [(.i .i64), (.i .i64)])), (59, .b), (56, .b), (2, .b), (61, (.i .i64)), (62, (.i .i64)), (63, (.i .i64)), (64, .b), (60, .b), (65, (.agg [(.i .i64), (.i .i64)])), (66, (.agg [(.i .i64), (.i .i64)])), (67, (.agg [(.i .i64), (.i .i64)])), (68, .b), (69, .b), (70, (.agg [(.i .i64), (.i .i64)])), (71, (.agg [(.i .i64), (.i .i64)])), (72, (.agg [(.i .i64), (.i .i64)])), (73, .b), (74, .b), (2, .b), (76, (.i .i64)), (77, .b), (78, .b), (79, (.i .i64)), (80, (.i .i64)), (81, (.i .i64)), (82, .b), (83, .b), (75, .b), (84, (.agg [(.i .i64), (.i .i64)])), (85, (.agg [(.i .i64), (.i .i64)])), (86, (.agg [(.i .i64), (.i .i64)])), (87, .b), (88, .b), (89, (.agg [(.i .i64), (.i .i64)])), (90, (.agg [(.i .i64), (.i .i64)])), (91, (.agg [(.i .i64), (.i .i64)])), (92, .b), (93, .b), (2, .b), (95, (.agg [(.i .i64), (.i .i64)])), (96, (.agg [(.i .i64), (.i .i64)])), (97, (.agg [(.i .i64), (.i .i64)])), (98, (.agg [(.i .i64), (.i .i64)])), (99, .b), (94, .b), (2, .b), (40, (.i .i64)), (41, (.i .i64)), (6, (.i .i64)), (33, (.i .i64)), (34, (.i .i64)), (5, (.i .i64)), (2, .b)]
def hm66 : List (Nat × Sh) := [(0, (.i .i64)), (1, (.i .i64)), (9, (.i .i64)), (10, (.agg [(.i .i64), (.i .u64)])), (11, (.agg [(.i .i64), (.i .u64)])), (12, (.i .i64)), (13, (.i .u64)), (7, (.i .u64)), (8, (.i .i64)), (14, (.i .i64)), (15, .b), (18, (.i .u64)), (19, (.i .i64)), (20, (.i .u64)), (21, (.i .u64)), (22, .b), (23, (.agg [(.i .i64), (.i .u64)])), (24, (.agg [(.i .i64), (.i .u64)])), (25, (.agg [(.i .i64), (.i .u64)])), (26, (.agg [(.i .i64), (.i .u64)])), (27, (.agg [(.i .i64), (.i .u64)])), (28, (.agg [(.i .i64), (.i .u64)])), (16, (.i .i64)), (17, (.i .i64)), (8, (.i .i64)), (29, (.i .i64)), (30, .b), (31, (.agg [(.i .i64), (.i .u64)])), (32, (.agg [(.i .i64), (.i .u64)])), (33, (.agg [(.i .i64), (.i .u64)])), (34, (.agg [(.i .i64), (.i .u64)])), (35, (.agg [(.i .i64), (.i .u64)]))]
def hm72 : List (Nat × Sh) := [(0, (.agg [(.i .i64), (.i .u64)])), (1, (.agg [(.i .i64), (.i .u64)])), (11, (.agg [(.i .i64), (.i .u64)])), (12, .any), (13, (.agg [(.i .i64), (.i .u64)])), (14, .any), (5, .any), (6, .any), (7, .any), (8, (.i .i64)), (9, (.i .i64)), (15, (.i .i64)), (16, .b), (19, .any), (20, (.i .i64)), (22, (.i .i64)), (23, .any), (24, (.i .i64)), (26, (.i .i64)), (27, (.i .i64)), (28, (.i .i64)), (29, (.i .i64)), (10, (.i .i64)), (30, .any), (31, (.i .i64)), (32, (.i .i64)), (33, .any), (34, .any), (7, .any), (35, (.i .i64)), (36, (.i .i64)), (8, (.i .i64)), (17, (.i .i64)), (18, (.i .i64)), (9, (.i .i64)), (37, .any), (38, (.agg [(.i .i64), (.i .u64)]))]
def hm77 : List (Nat × Sh) := [(0, (.agg [(.i .i64), (.i .u64)])), (2, .any), (3, .any), (4, (.i .i64)), (6, (.i .i64)), (7, .b), (10, .any), (12, (.i .u64)), (13, (.i .i64)), (14, (.i .u64)), (15, (.i .u64)), (16, (.i .i64)), (17, .any), (18, .any), (3, .any), (8, (.i .i64)), (9, (.i .i64)), (4, (.i .i64)), (5, (.i .i64)), (19, (.i .i64)), (20, .b), (23, .any), (25, (.i .i64)), (26, (.i .u64)), (27, (.i .i64)), (28, (.i .u64)), (29, (.i .u64)), (30, (.i .i64)), (31, .any), (32, .any), (3, .any), (21, (.i .i64)), (22, (.i .i64)), (5, (.i .i64)), (33, .any), (2, .any)]
def hm78 : List (Nat × Sh) := [(0, .any), (6, (.agg [(.i .i64), (.i .u64)])), (4, (.i .u64)), (5, (.i .i64)), (7, (.i .i64)), (8, .b), (11, .any), (12, (.i .i64)), (14, (.i .i64)), (15, .b), (17, (.i .u64)), (18, (.i .i64)), (19, (.i .u64)), (20, (.i .u64)), (22, .any), (23, (.i .i64)), (24, (.i .i64)), (26, (.i .i64)), (27, .b), (28, (.i .u64)), (29, (.i .i64)), (30, (.i .u64)), (31, (.i .u64)), (4, (.i .u64)), (9, (.i .i64)), (10, (.i .i64)), (5, (.i .i64)), (32, (.i .u64)), (33, (.i .i64)), (35, (.agg [(.i .i64), (.i .u64)]))]
def unr : FuncId → XU
  | 5 => ⟨false, true, hm5, false, false⟩
  | 7 => ⟨false, true, hm7, false, false⟩
  | 8 => ⟨false, false, h8, false, false⟩
  | 9 => ⟨false, true, hm9, false, true⟩
  | 10 => ⟨false, false, h10, false, false⟩
  | 11 => ⟨false, true, hm11, false, true⟩
  | 13 => ⟨false, true, hm13, false, true⟩
  | 15 => ⟨false, true, hm15, false, true⟩
  | 16 => ⟨false, true, hm16, false, true⟩
  | 17 => ⟨false, true, hm17, false, true⟩
  | 18 => ⟨false, true, hm18, false, true⟩
  | 20 => ⟨false, true, hm20, false, true⟩
  | 21 => ⟨false, true, hm21, false, false⟩
  | 22 => ⟨false, false, h22, false, false⟩
  | 23 => ⟨false, true, hm23, false, true⟩
  | 24 => ⟨false, true, hm24, false, true⟩
  | 25 => ⟨false, false, h25, false, false⟩
  | 26 => ⟨false, false, h26, false, false⟩
  | 27 => ⟨false, true, hm27, false, true⟩
  | 28 => ⟨false, true, hm28, false, true⟩
  | 29 => ⟨false, true, hm29, false, true⟩
  | 30 => ⟨false, true, hm30, false, true⟩
  | 32 => ⟨false, true, hm32, false, true⟩
  | 33 => ⟨false, false, h33, false, false⟩
  | 34 => ⟨false, true, hm34, false, false⟩
  | 35 => ⟨false, true, hm35, false, true⟩
  | 36 => ⟨false, false, h36, false, false⟩
  | 37 => ⟨false, true, hm37, false, true⟩
  | 38 => ⟨false, true, hm38, false, false⟩
  | 39 => ⟨false, true, hm39, false, false⟩
  | 40 => ⟨false, false, h40, false, false⟩
  | 41 => ⟨false, false, h41, false, false⟩
  | 42 => ⟨false, false, h42, false, false⟩
  | 43 => ⟨false, false, h43, false, false⟩
  | 44 => ⟨false, false, h44, false, false⟩
  | 45 => ⟨false, false, h45, false, false⟩
  | 46 => ⟨false, true, hm46, false, false⟩
  | 47 => ⟨false, true, hm47, false, false⟩
  | 50 => ⟨false, false, h50, false, false⟩
  | 51 => ⟨false, false, h51, false, false⟩
  | 52 => ⟨false, false, h52, false, false⟩
  | 53 => ⟨false, false, h53, false, false⟩
  | 54 => ⟨false, false, h54, false, false⟩
  | 55 => ⟨false, false, h55, false, false⟩
  | 57 => ⟨false, false, h57, false, false⟩
  | 58 => ⟨false, false, h58, false, false⟩
  | 59 => ⟨false, false, h59, false, false⟩
  | 60 => ⟨false, false, h60, false, false⟩
  | 61 => ⟨false, false, h61, false, false⟩
  | 62 => ⟨false, false, h62, false, false⟩
  | 63 => ⟨false, false, h63, false, false⟩
  | 64 => ⟨false, false, h64, false, false⟩
  | 65 => ⟨false, false, h65, false, false⟩
  | 66 => ⟨false, true, hm66, false, false⟩
  | 67 => ⟨false, false, h67, false, false⟩
  | 68 => ⟨false, false, h68, false, false⟩
  | 69 => ⟨false, false, h69, false, false⟩
  | 70 => ⟨false, false, h70, false, false⟩
  | 71 => ⟨false, false, h71, false, false⟩
  | 72 => ⟨false, true, hm72, false, false⟩
  | 73 => ⟨false, false, h73, false, false⟩
  | 74 => ⟨false, false, h74, false, false⟩
  | 75 => ⟨false, false, h75, false, false⟩
  | 76 => ⟨false, false, h76, false, false⟩
  | 77 => ⟨false, true, hm77, false, false⟩
  | 78 => ⟨false, true, hm78, false, false⟩
  | 79 => ⟨false, false, h79, false, false⟩
  | 80 => ⟨false, false, h80, false, false⟩
  | 81 => ⟨false, false, h81, false, false⟩
  | 82 => ⟨false, false, h82, false, false⟩
  | 83 => ⟨false, false, h83, false, false⟩
  | 84 => ⟨false, false, h84, false, false⟩
  | 85 => ⟨false, false, h85, false, false⟩
  | 86 => ⟨false, false, h86, false, false⟩
  | 87 => ⟨false, false, h87, false, false⟩
  | 48 => ⟨false, true, [], false, false⟩
  | 49 => ⟨false, true, [(1, .i .i64)], false, false⟩
  | 56 => ⟨false, true, [(3, .i .i64)], false, false⟩
  | _ => ⟨false, false, [], false, false⟩
theorem modOK : ModOK Try.prog M := by
  constructor
  · intro g n fn h
    change codes g n = some fn at h
    unfold codes at h
    split at h <;> (try (cases h; done))
    · cases h; exact fnOK_of c5_ok
    · cases h; exact fnOK_of c7_ok
    · cases h; exact fnOK_of c8_ok
    · cases h; exact fnOK_of c9_ok
    · cases h; exact fnOK_of c10_ok
    · cases h; exact fnOK_of c11_ok
    · cases h; exact fnOK_of c13_ok
    · cases h; exact fnOK_of c15_ok
    · cases h; exact fnOK_of c16_ok
    · cases h; exact fnOK_of c17_ok
    · cases h; exact fnOK_of c18_ok
    · cases h; exact fnOK_of c20_ok
    · cases h; exact fnOK_of c21_ok
    · cases h; exact fnOK_of c22_ok
    · cases h; exact fnOK_of c23_ok
    · cases h; exact fnOK_of c24_ok
    · cases h; exact fnOK_of c25_ok
    · cases h; exact fnOK_of c26_ok
    · cases h; exact fnOK_of c27_ok
    · cases h; exact fnOK_of c28_ok
    · cases h; exact fnOK_of c29_ok
    · cases h; exact fnOK_of c30_ok
    · cases h; exact fnOK_of c32_ok
    · cases h; exact fnOK_of c33_ok
    · cases h; exact fnOK_of c34_ok
    · cases h; exact fnOK_of c35_ok
    · cases h; exact fnOK_of c36_ok
    · cases h; exact fnOK_of c37_ok
    · cases h; exact fnOK_of c38_ok
    · cases h; exact fnOK_of c39_ok
    · cases h; exact fnOK_of c40_ok
    · cases h; exact fnOK_of c41_ok
    · cases h; exact fnOK_of c42_ok
    · cases h; exact fnOK_of c43_ok
    · cases h; exact fnOK_of c44_ok
    · cases h; exact fnOK_of c45_ok
    · cases h; exact fnOK_of c46_ok
    · cases h; exact fnOK_of c47_ok
    · cases h; exact fnOK_of c50_ok
    · cases h; exact fnOK_of c51_ok
    · cases h; exact fnOK_of c52_ok
    · cases h; exact fnOK_of c53_ok
    · cases h; exact fnOK_of c54_ok
    · cases h; exact fnOK_of c55_ok
    · cases h; exact fnOK_of c57_ok
    · cases h; exact fnOK_of c58_ok
    · cases h; exact fnOK_of c59_ok
    · cases h; exact fnOK_of c60_ok
    · cases h; exact fnOK_of c61_ok
    · cases h; exact fnOK_of c62_ok
    · cases h; exact fnOK_of c63_ok
    · cases h; exact fnOK_of c64_ok
    · cases h; exact fnOK_of c65_ok
    · cases h; exact fnOK_of c66_ok
    · cases h; exact fnOK_of c67_ok
    · cases h; exact fnOK_of c68_ok
    · cases h; exact fnOK_of c69_ok
    · cases h; exact fnOK_of c70_ok
    · cases h; exact fnOK_of c71_ok
    · cases h; exact fnOK_of c72_ok
    · cases h; exact fnOK_of c73_ok
    · cases h; exact fnOK_of c74_ok
    · cases h; exact fnOK_of c75_ok
    · cases h; exact fnOK_of c76_ok
    · cases h; exact fnOK_of c77_ok
    · cases h; exact fnOK_of c78_ok
    · cases h; exact fnOK_of c79_ok
    · cases h; exact fnOK_of c80_ok
    · cases h; exact fnOK_of c81_ok
    · cases h; exact fnOK_of c82_ok
    · cases h; exact fnOK_of c83_ok
    · cases h; exact fnOK_of c84_ok
    · cases h; exact fnOK_of c85_ok
    · cases h; exact fnOK_of c86_ok
    · cases h; exact fnOK_of c87_ok
    · cases h; exact store_fnOK Try.func48 (by kernel_rfl) (by kernel_rfl) (by kernel_rfl) szT (by kernel_rfl)
    · cases h; exact load_fnOK Try.func49 (by kernel_rfl) (by kernel_rfl) (by kernel_rfl) (by kernel_rfl)
    · cases h; exact cas_fnOK Try.func56 (by kernel_rfl) (by kernel_rfl) (by kernel_rfl) szT (by kernel_rfl)
  · intro g e h
    change exts g = some e at h
    unfold exts at h
    split at h <;> (try (cases h; done))
end Go.Proofs.Ytdceaeifcniabaa.AE

namespace Go.Proofs.Ytdceaeifcniabaa.AE
set_option linter.unusedVariables false
set_option linter.unusedSimpArgs false
set_option linter.constructorNameAsVariable false
open Go

theorem C0_int (k : IntKind) (n : Int) (K : Int → Ans) : C0.int k (some (.int k n)) K = K n := by simp [C0, isInt]
theorem C0_bool (b : Bool) (K : Bool → Ans) : C0.bool (some (.bool b)) K = K b := by simp [C0, isBool]
theorem C0_str (b : List UInt8) (K : List UInt8 → Ans) : C0.str (some (.str b)) K = K b := by simp [C0, isStr]
theorem C0_lst (l : List AV) (K : List AV → Ans) (Z : Bool → Ans) : C0.lst (some (.lst l)) K Z = K l := rfl
theorem C0_lstz (b : Bool) (K : List AV → Ans) (Z : Bool → Ans) : C0.lst (some (.zsl b)) K Z = Z b := rfl
theorem C0_agg (n : Nat) (l : List AV) (h : l.length = n) (K : List AV → Ans) : C0.agg n (some (.agg l)) K = K l := by simp [C0, isAgg, h]
theorem C0_tup (n : Nat) (l : List AV) (h : l.length = n) (K : List AV → Ans) : C0.tup n (some (.tup l)) K = K l := by simp [C0, isTup, h]
theorem C0_agg2 (a b : AV) (K : List AV → Ans) : C0.agg 2 (some (.agg [a, b])) K = K [a, b] := C0_agg 2 _ rfl K
theorem C0_tup2 (a b : AV) (K : List AV → Ans) : C0.tup 2 (some (.tup [a, b])) K = K [a, b] := C0_tup 2 _ rfl K
theorem C0_any (v : AV) (K : AV → Ans) : C0.any (some v) K = K v := by simp [C0]
theorem C0_same (v : AV) (K : Ans) : C0.same (some v) v K = K := by simp [C0]
theorem C0_sameH (H : Heap) (K : Ans) : C0.sameH H H K = K := by simp [C0]
theorem cnd_t (a b : Ans) : cnd true a b = a := rfl
theorem cnd_f (a b : Ans) : cnd false a b = b := rfl
theorem pl_len {t : Bool} {a b : Ans} (h : t = true) : cnd t a b = a := by subst h; rfl
theorem pl_f {t : Bool} {a b : Ans} (h : t = false) : cnd t a b = b := by subst h; rfl
theorem pl_same {o : Option AV} {v : AV} {K : Ans} (h : o = some v) : C0.same o v K = K := by subst h; simp [C0]
theorem pl_sameH {H : Heap} {K : Ans} : C0.sameH H H K = K := by simp [C0]
theorem pl_int {k : IntKind} {o : Option AV} {n : Int} {K : Int → Ans} (h : o = some (.int k n)) : C0.int k o K = K n := by subst h; simp [C0, isInt]
theorem pl_bool {o : Option AV} {n : Bool} {K : Bool → Ans} (h : o = some (.bool n)) : C0.bool o K = K n := by subst h; simp [C0, isBool]
theorem pl_str {o : Option AV} {n : List UInt8} {K : List UInt8 → Ans} (h : o = some (.str n)) : C0.str o K = K n := by subst h; simp [C0, isStr]
theorem pl_any {o : Option AV} {v : AV} {K : AV → Ans} (h : o = some v) : C0.any o K = K v := by subst h; simp [C0]
theorem pl_agg {n : Nat} {o : Option AV} {l : List AV} {K : List AV → Ans} (h : o = some (.agg l)) (h2 : l.length = n) : C0.agg n o K = K l := by subst h; simp [C0, isAgg, h2]
theorem pl_tup {n : Nat} {o : Option AV} {l : List AV} {K : List AV → Ans} (h : o = some (.tup l)) (h2 : l.length = n) : C0.tup n o K = K l := by subst h; simp [C0, isTup, h2]
theorem pl_lst {o : Option AV} {l : List AV} {K : List AV → Ans} {Z : Bool → Ans} (h : o = some (.lst l)) : C0.lst o K Z = K l := by subst h; rfl
/-- What comes behind a round; what comes behind a loop. -/
def kIter (R : St → (Ex → St → Ans) → Ans) (n : Nat) (K : Ex → St → Ans) : Ex → St → Ans := fun e s' => match e with
  | .normal => xiter R n s' K
  | .exit i => K (.exit i) s'
  | .ret => K .ret s'
def kOut (ids : List Nat) (ks : List (St → Ans)) (kr : St → Ans) : Ex → St → Ans := fun e s' => match e with
  | .ret => kr s'
  | .exit i => xgo i ids ks s'
  | .normal => none
theorem kIter_n (R : St → (Ex → St → Ans) → Ans) (n : Nat) (K : Ex → St → Ans) (s : St) : kIter R n K .normal s = xiter R n s K := rfl
theorem kIter_x (R : St → (Ex → St → Ans) → Ans) (n : Nat) (K : Ex → St → Ans) (i : Nat) (s : St) : kIter R n K (.exit i) s = K (.exit i) s := rfl
theorem kIter_r (R : St → (Ex → St → Ans) → Ans) (n : Nat) (K : Ex → St → Ans) (s : St) : kIter R n K .ret s = K .ret s := rfl
theorem kOut_x (ids : List Nat) (ks : List (St → Ans)) (kr : St → Ans) (i : Nat) (s : St) : kOut ids ks kr (.exit i) s = xgo i ids ks s := rfl
theorem kOut_r (ids : List Nat) (ks : List (St → Ans)) (kr : St → Ans) (s : St) : kOut ids ks kr .ret s = kr s := rfl
theorem it_ret (R : St → (Ex → St → Ans) → Ans) (n : Nat) (s : St) (ids : List Nat) (ks : List (St → Ans)) (kr : St → Ans) : C0.iter R n s ids ks kr = xiter R n s (kOut ids ks kr) := rfl
theorem xiter_s (R : St → (Ex → St → Ans) → Ans) (n : Nat) (s : St) (K : Ex → St → Ans) : xiter R (n + 1) s K = R s (kIter R n K) := rfl
theorem xgo_hit (i : Nat) (ids : List Nat) (k : St → Ans) (ks : List (St → Ans)) (s : St) : xgo i (i :: ids) (k :: ks) s = k s := by simp [xgo]
theorem xgo_miss {i j : Nat} (ids : List Nat) (k : St → Ans) (ks : List (St → Ans)) (s : St) (h : (i == j) = false) : xgo i (j :: ids) (k :: ks) s = xgo i ids ks s := by
  simp only [xgo]; rw [if_neg]; intro he; subst he; simp at h
theorem C0_hop (H : Heap) (io : IOp) (K : AV → Heap → Ans) : C0.hop H io K = match aop noCall (evO []) H io with
    | some (v, H') => K v H'
    | none => none := rfl
theorem hop_eq {H H' : Heap} {io : IOp} {v : AV} {K : AV → Heap → Ans} (h : aop noCall (evO []) H io = some (v, H')) : C0.hop H io K = K v H' := by rw [C0_hop, h]
theorem cal_eq {M : Mod} {pc : FuncId → List AV → Option AV} {n : Nat} {b : Bool} {g : FuncId} {args : List AV} {H H' : Heap} {v : AV} {K : AV → Heap → Ans} (h : callB M pc n b g args H = some (v, H')) : C0.cal M pc n b g args H K = K v H' := by
  change (match callB M pc n b g args H with
    | some (v, H') => K v H'
    | none => none) = _
  rw [h]
theorem C0_fin (H : Heap) (v : AV) : C0.fin H v = some (snap 12 H v) := rfl
theorem C0_disj {a b : TV} {K : Ans} (h : disjB a b = true) : C0.disj a b K = K := by simp only [C0, h]
theorem snp_free {H : Heap} {args : List AV} {K : List AV → Bool → Ans} (h : args.all (noId DEPTH) = true) : C0.snp H args K = K args true := by simp [C0, h]
theorem snp_id {H : Heap} {args : List AV} {K : List AV → Bool → Ans} (h : args.all (noId DEPTH) = false) : C0.snp H args K = K (args.map (snap DEPTH H)) false := by simp [C0, h]
theorem at0 (a : AV) (l : List AV) : (a :: l)[0]? = some a := rfl
theorem at1 (a b : AV) (l : List AV) : (a :: b :: l)[1]? = some b := rfl
theorem at2 (a b c : AV) (l : List AV) : (a :: b :: c :: l)[2]? = some c := rfl
theorem at3 (a b c d : AV) (l : List AV) : (a :: b :: c :: d :: l)[3]? = some d := rfl
theorem at4 (a b c d e : AV) (l : List AV) : (a :: b :: c :: d :: e :: l)[4]? = some e := rfl
theorem at5 (a b c d e f : AV) (l : List AV) : (a :: b :: c :: d :: e :: f :: l)[5]? = some f := rfl
theorem at6 (a b c d e f g : AV) (l : List AV) : (a :: b :: c :: d :: e :: f :: g :: l)[6]? = some g := rfl
theorem at7 (a b c d e f g h : AV) (l : List AV) : (a :: b :: c :: d :: e :: f :: g :: h :: l)[7]? = some h := rfl
/-- From what is told forwards. -/
theorem told {d g : Nat} {args : List AV} {r : AV} {t : Ans} (h : xcall C0 M unr d g args = t) (h2 : t = some r) : pcall M (d + 1) g args = some r := xcall_ok (h.trans h2)
theorem up {k d : Nat} {p : Nat → Prop} (h : ∀ d, p (d + k)) (hd : k ≤ d) : p d := by
  have := h (d - k)
  rwa [Nat.sub_add_cancel hd] at this
theorem yt {a b c : Ans} (h : a = b) (k : b = c) : a = c := h.trans k
theorem yS {o : Option AV} {v : AV} {K : Ans} (h : o = some v := by rfl) : C0.same o v K = K := pl_same h
theorem yA {o : Option AV} {v : AV} {K : AV → Ans} (h : o = some v := by rfl) : C0.any o K = K v := pl_any h
theorem yI {k : IntKind} {o : Option AV} {n : Int} {K : Int → Ans} (h : o = some (.int k n) := by rfl) : C0.int k o K = K n := pl_int h
theorem yB {o : Option AV} {n : Bool} {K : Bool → Ans} (h : o = some (.bool n) := by rfl) : C0.bool o K = K n := pl_bool h
theorem yG {n : Nat} {o : Option AV} {l : List AV} {K : List AV → Ans} (h : o = some (.agg l) := by rfl) (h2 : l.length = n := by rfl) : C0.agg n o K = K l := pl_agg h h2
theorem yT {n : Nat} {o : Option AV} {l : List AV} {K : List AV → Ans} (h : o = some (.tup l) := by rfl) (h2 : l.length = n := by rfl) : C0.tup n o K = K l := pl_tup h h2
end Go.Proofs.Ytdceaeifcniabaa.AE

namespace Go.Proofs.Ytdceaeifcniabaa.AE
set_option linter.unusedVariables false
set_option linter.unusedSimpArgs false
set_option linter.constructorNameAsVariable false
open Go
set_option maxRecDepth 100000
set_option maxHeartbeats 0
/-- slices.Clone[[]apogee/api.Point,apogee/api.Point] -/
theorem r35 (C : Cb) (d : Nat) (a0 : AV) (n0 : Nat) (H0 : Heap) (K0 : AV → Heap → Ans) : xmeth C M unr d (n0 + 8) 35 [a0] H0 K0 =
 C.hop H0 (.eqv false 2 [] (.v a0) (.v (.zsl true))) fun v0 h1 =>
 C.bool (some v0) fun b2 =>
 cnd b2
 (K0 (.zsl true) h1)
 (C.hop h1 (.mkrow E62 0 []) fun v3 h4 =>
 C.hop h4 (.app E62 (.v v3) (.v a0)) fun v5 h6 =>
 K0 v5 h6) := by kernel_rfl
/-- apogee/apogeeref10.Right -/
theorem r52 (C : Cb) (d : Nat) (a0 a1 : Int) : xcall C M unr d 52 [(.agg [(iz a0), (iz a1)])] =
 cnd (decide (a0 ≥ (-1099511627776)))
 (cnd (decide (a0 ≤ 1099511627776))
 (cnd (decide (a1 ≥ (-1099511627776)))
 (some (.bool (decide (a1 ≤ 1099511627776))))
 (some bf))
 (some bf))
 (some bf) := by kernel_rfl
/-- apogee/apogeeref10.On -/
theorem r54 (C : Cb) (d : Nat) (a0 a1 a2 a3 a4 a5 : Int) : xcall C M unr d 54 [(.agg [(iz a0), (iz a1)]), (.agg [(iz a2), (iz a3)]), (.agg [(iz a4), (iz a5)])] =
 C.bool (pcall M d 52 [(.agg [(iz a2), (iz a3)])]) fun b0 =>
 cnd (!b0)
 (some bf)
 (C.bool (pcall M d 52 [(.agg [(iz a4), (iz a5)])]) fun b1 =>
 cnd (!b1)
 (some bf)
 (C.bool (pcall M d 52 [(.agg [(iz a0), (iz a1)])]) fun b2 =>
 cnd (!b2)
 (some bf)
 (C.int .i64 (pcall M d 60 [(.agg [(iz a2), (iz a3)]), (.agg [(iz a4), (iz a5)]), (.agg [(iz a0), (iz a1)])]) fun x3 =>
 cnd (x3 != 0)
 (some bf)
 (cnd (decide (a0 ≥ (if (a4 < a2) then a4 else a2)))
 (cnd (decide (a0 ≤ (if (a4 > a2) then a4 else a2)))
 (cnd (decide (a1 ≥ (if (a5 < a3) then a5 else a3)))
 (some (.bool (decide (a1 ≤ (if (a5 > a3) then a5 else a3)))))
 (some bf))
 (some bf))
 (some bf))))) := by kernel_rfl
/-- apogee/apogeeref10.Meet -/
theorem r55 (C : Cb) (d : Nat) (a0 a1 a2 a3 a4 a5 a6 a7 : Int) : xcall C M unr d 55 [(.agg [(iz a0), (iz a1)]), (.agg [(iz a2), (iz a3)]), (.agg [(iz a4), (iz a5)]), (.agg [(iz a6), (iz a7)])] =
 C.bool (pcall M d 52 [(.agg [(iz a0), (iz a1)])]) fun b0 =>
 cnd (!b0)
 (some bf)
 (C.bool (pcall M d 52 [(.agg [(iz a2), (iz a3)])]) fun b1 =>
 cnd (!b1)
 (some bf)
 (C.bool (pcall M d 52 [(.agg [(iz a4), (iz a5)])]) fun b2 =>
 cnd (!b2)
 (some bf)
 (C.bool (pcall M d 52 [(.agg [(iz a6), (iz a7)])]) fun b3 =>
 cnd (!b3)
 (some bf)
 (C.bool (pcall M d 54 [(.agg [(iz a0), (iz a1)]), (.agg [(iz a4), (iz a5)]), (.agg [(iz a6), (iz a7)])]) fun b4 =>
 cnd b4
 (some bt)
 (C.bool (pcall M d 54 [(.agg [(iz a2), (iz a3)]), (.agg [(iz a4), (iz a5)]), (.agg [(iz a6), (iz a7)])]) fun b5 =>
 cnd b5
 (some bt)
 (C.bool (pcall M d 54 [(.agg [(iz a4), (iz a5)]), (.agg [(iz a0), (iz a1)]), (.agg [(iz a2), (iz a3)])]) fun b6 =>
 cnd b6
 (some bt)
 (C.bool (pcall M d 54 [(.agg [(iz a6), (iz a7)]), (.agg [(iz a0), (iz a1)]), (.agg [(iz a2), (iz a3)])]) fun b7 =>
 cnd b7
 (some bt)
 (C.int .i64 (pcall M d 60 [(.agg [(iz a0), (iz a1)]), (.agg [(iz a2), (iz a3)]), (.agg [(iz a4), (iz a5)])]) fun x8 =>
 C.int .i64 (pcall M d 60 [(.agg [(iz a0), (iz a1)]), (.agg [(iz a2), (iz a3)]), (.agg [(iz a6), (iz a7)])]) fun x9 =>
 cnd (decide ((IntKind.wrap .i64 (x8 * x9)) < 0))
 (C.int .i64 (pcall M d 60 [(.agg [(iz a4), (iz a5)]), (.agg [(iz a6), (iz a7)]), (.agg [(iz a0), (iz a1)])]) fun x10 =>
 C.int .i64 (pcall M d 60 [(.agg [(iz a4), (iz a5)]), (.agg [(iz a6), (iz a7)]), (.agg [(iz a2), (iz a3)])]) fun x11 =>
 some (.bool (decide ((IntKind.wrap .i64 (x10 * x11)) < 0))))
 (some bf))))))))) := by kernel_rfl
/-- slices.ContainsFunc[[]apogee/api.Point,apogee/api.Point] -/
theorem r58f79 (C : Cb) (d : Nat) (a0 : List AV) (a1 : AV) : xcall C M unr d 58 [(.lst a0), (.fn 79 [] [])] =
 C.int .i64 (pcall M d 64 [(.lst a0), (.fn 79 [] [])]) fun x0 =>
 some (.bool (decide (x0 ≥ 0))) := by kernel_rfl
/-- apogee/apogeeref10.Turn -/
theorem r60 (C : Cb) (d : Nat) (a0 a1 a2 a3 a4 a5 : Int) : xcall C M unr d 60 [(.agg [(iz a0), (iz a1)]), (.agg [(iz a2), (iz a3)]), (.agg [(iz a4), (iz a5)])] =
 C.bool (pcall M d 52 [(.agg [(iz a0), (iz a1)])]) fun b0 =>
 cnd (!b0)
 (some (iz 0))
 (C.bool (pcall M d 52 [(.agg [(iz a2), (iz a3)])]) fun b1 =>
 cnd (!b1)
 (some (iz 0))
 (C.bool (pcall M d 52 [(.agg [(iz a4), (iz a5)])]) fun b2 =>
 cnd (!b2)
 (some (iz 0))
 (C.agg 2 (pcall M d 66 [(iz (IntKind.wrap .i64 (a2 - a0))), (iz (IntKind.wrap .i64 (a5 - a1)))]) fun l3 =>
 C.int .i64 l3[0]? fun x4 =>
 C.int .u64 l3[1]? fun x5 =>
 C.agg 2 (pcall M d 66 [(iz (IntKind.wrap .i64 (a3 - a1))), (iz (IntKind.wrap .i64 (a4 - a0)))]) fun l6 =>
 C.int .i64 l6[0]? fun x7 =>
 C.int .u64 l6[1]? fun x8 =>
 C.int .i64 (pcall M d 65 [(.agg [(iz x4), (.int .u64 x5)]), (.agg [(iz x7), (.int .u64 x8)])]) fun x9 =>
 some (iz x9)))) := by kernel_rfl
/-- apogee/point.Right -/
theorem r62 (C : Cb) (d : Nat) (a0 a1 : Int) : xcall C M unr d 62 [(.agg [(iz a0), (iz a1)])] =
 C.bool (pcall M d 67 [(iz a0)]) fun b0 =>
 cnd b0
 (C.bool (pcall M d 67 [(iz a1)]) fun b1 =>
 some (.bool b1))
 (some bf) := by kernel_rfl
def r64f79R0 (C : Cb) (d : Nat) (a0 : List AV) : St → (Ex → St → Ans) → Ans := fun s0 k1 =>
 cnd ((List.length s0.env) == 19)
 (C.same s0.env[0]? (.lst a0) <|
 C.same s0.env[1]? (.fn 79 [] []) <|
 C.same s0.env[2]? tz <|
 C.same s0.env[3]? tz <|
 C.int .i64 s0.env[4]? fun x3 =>
 C.any s0.env[5]? fun v4 =>
 C.same s0.env[6]? (.lst a0) <|
 C.same s0.env[7]? (iz (((List.length a0) : Nat) : Int)) <|
 C.int .i64 s0.env[8]? fun x5 =>
 C.any s0.env[9]? fun v6 =>
 C.any s0.env[10]? fun v7 =>
 C.any s0.env[11]? fun v8 =>
 C.any s0.env[12]? fun v9 =>
 C.any s0.env[13]? fun v10 =>
 C.any s0.env[14]? fun v11 =>
 C.any s0.env[15]? fun v12 =>
 C.any s0.env[16]? fun v13 =>
 C.any s0.env[17]? fun v14 =>
 C.any s0.env[18]? fun v15 =>
 C.sameH (St.H s0) [] <|
 cnd (decide (x5 < (((List.length a0) : Nat) : Int)))
 (cnd (decide ((0 : Int) ≤ x5))
 (C.agg 2 a0[(Int.toNat x5)]? fun l16 =>
 C.int .i64 l16[0]? fun x17 =>
 C.int .i64 l16[1]? fun x18 =>
 C.bool (pcall M d 79 [(.agg [(iz x17), (iz x18)])]) fun b19 =>
 cnd b19
 (k1 .ret ⟨[(.lst a0), (.fn 79 [] []), tz, tz, (iz x5), (iz x5), (.lst a0), (iz (((List.length a0) : Nat) : Int)), (iz x5), bt, (iz x5), (.fn 79 [] []), (.lst a0), (iz x5), (.fptr (.agg [(iz x17), (iz x18)]) 0), (.agg [(iz x17), (iz x18)]), bt, (iz x5), v15], []⟩)
 (k1 .normal ⟨[(.lst a0), (.fn 79 [] []), tz, tz, (iz x3), (iz x5), (.lst a0), (iz (((List.length a0) : Nat) : Int)), (iz (IntKind.wrap .i64 (x5 + 1))), bt, (iz x5), (.fn 79 [] []), (.lst a0), (iz x5), (.fptr (.agg [(iz x17), (iz x18)]) 0), (.agg [(iz x17), (iz x18)]), bf, v14, (iz (IntKind.wrap .i64 (x5 + 1)))], []⟩))
 (none))
 (k1 (.exit 0) ⟨[(.lst a0), (.fn 79 [] []), tz, tz, (iz x3), v4, (.lst a0), (iz (((List.length a0) : Nat) : Int)), (iz x5), bf, v7, v8, v9, v10, v11, v12, v13, v14, v15], []⟩))
 (none)
def r64f79X0_0 (C : Cb) (d : Nat) (a0 : List AV) : St → Ans := fun s20 =>
 cnd ((List.length s20.env) == 19)
 (C.same s20.env[0]? (.lst a0) <|
 C.same s20.env[1]? (.fn 79 [] []) <|
 C.same s20.env[2]? tz <|
 C.same s20.env[3]? tz <|
 C.int .i64 s20.env[4]? fun x21 =>
 C.any s20.env[5]? fun v22 =>
 C.same s20.env[6]? (.lst a0) <|
 C.same s20.env[7]? (iz (((List.length a0) : Nat) : Int)) <|
 C.int .i64 s20.env[8]? fun x23 =>
 C.any s20.env[9]? fun v24 =>
 C.any s20.env[10]? fun v25 =>
 C.any s20.env[11]? fun v26 =>
 C.any s20.env[12]? fun v27 =>
 C.any s20.env[13]? fun v28 =>
 C.any s20.env[14]? fun v29 =>
 C.any s20.env[15]? fun v30 =>
 C.any s20.env[16]? fun v31 =>
 C.any s20.env[17]? fun v32 =>
 C.any s20.env[18]? fun v33 =>
 C.sameH (St.H s20) [] <|
 some (iz (-1)))
 (none)
def r64f79E0 (C : Cb) (d : Nat) (a0 : List AV) : St → Ans := fun s2 =>
 cnd ((List.length s2.env) == 19)
 (C.same s2.env[0]? (.lst a0) <|
 C.same s2.env[1]? (.fn 79 [] []) <|
 C.same s2.env[2]? tz <|
 C.same s2.env[3]? tz <|
 C.int .i64 s2.env[4]? fun x34 =>
 C.int .i64 s2.env[5]? fun x35 =>
 C.same s2.env[6]? (.lst a0) <|
 C.same s2.env[7]? (iz (((List.length a0) : Nat) : Int)) <|
 C.int .i64 s2.env[8]? fun x36 =>
 C.any s2.env[9]? fun v37 =>
 C.int .i64 s2.env[10]? fun x38 =>
 C.any s2.env[11]? fun v39 =>
 C.any s2.env[12]? fun v40 =>
 C.int .i64 s2.env[13]? fun x41 =>
 C.any s2.env[14]? fun v42 =>
 C.agg 2 s2.env[15]? fun l43 =>
 C.int .i64 l43[0]? fun x44 =>
 C.int .i64 l43[1]? fun x45 =>
 C.bool s2.env[16]? fun b46 =>
 C.int .i64 s2.env[17]? fun x47 =>
 C.any s2.env[18]? fun v48 =>
 C.sameH (St.H s2) [] <|
 some (iz x34))
 (none)
/-- slices.IndexFunc[[]apogee/api.Point,apogee/api.Point] -/
theorem r64f79 (C : Cb) (d : Nat) (a0 : List AV) (a1 : AV) : xcall C M unr d 64 [(.lst a0), (.fn 79 [] [])] =
 C.iter (r64f79R0 C d a0) 10000000000000000000 ⟨[(.lst a0), (.fn 79 [] []), tz, tz, (iz 0), tz, (.lst a0), (iz (((List.length a0) : Nat) : Int)), (iz 0), tz, tz, tz, tz, tz, tz, tz, tz, tz, tz], []⟩ [0] [r64f79X0_0 C d a0] (r64f79E0 C d a0) := by kernel_rfl
/-- apogee/apogeeref01.Cmp -/
theorem r65 (C : Cb) (d : Nat) (a0 a1 a2 a3 : Int) : xcall C M unr d 65 [(.agg [(iz a0), (.int .u64 a1)]), (.agg [(iz a2), (.int .u64 a3)])] =
 cnd (decide (a0 < a2))
 (some (iz (-1)))
 (cnd (a0 == a2)
 (cnd (decide (a1 < a3))
 (some (iz (-1)))
 (cnd (xor false ((a0 == a2) && ((a1 == a3) && true)))
 (some (iz 0))
 (some (iz 1))))
 (cnd (xor false ((a0 == a2) && ((a1 == a3) && true)))
 (some (iz 0))
 (some (iz 1)))) := by kernel_rfl
def r66R0 (C : Cb) (d : Nat) (a0 a1 : Int) (v0 : AV) (x3 x4 : Int) (v5 v9 : AV) : St → (Ex → St → Ans) → Ans := fun s13 k14 =>
 cnd ((List.length s13.env) == 36)
 (C.same s13.env[0]? (iz a0) <|
 C.same s13.env[1]? (iz a1) <|
 C.same s13.env[2]? tz <|
 C.same s13.env[3]? tz <|
 C.same s13.env[4]? v0 <|
 C.same s13.env[5]? v5 <|
 C.same s13.env[6]? v9 <|
 C.same s13.env[7]? (.int .u64 (IntKind.wrap .u64 a1)) <|
 C.int .i64 s13.env[8]? fun x16 =>
 C.same s13.env[9]? (iz a0) <|
 C.same s13.env[10]? (.agg [(iz x3), (.int .u64 x4)]) <|
 C.same s13.env[11]? (.agg [(iz 0), (.int .u64 0)]) <|
 C.same s13.env[12]? (iz a1) <|
 C.same s13.env[13]? (.int .u64 (IntKind.wrap .u64 a1)) <|
 C.any s13.env[14]? fun v17 =>
 C.any s13.env[15]? fun v18 =>
 C.any s13.env[16]? fun v19 =>
 C.any s13.env[17]? fun v20 =>
 C.any s13.env[18]? fun v21 =>
 C.any s13.env[19]? fun v22 =>
 C.any s13.env[20]? fun v23 =>
 C.any s13.env[21]? fun v24 =>
 C.any s13.env[22]? fun v25 =>
 C.any s13.env[23]? fun v26 =>
 C.any s13.env[24]? fun v27 =>
 C.any s13.env[25]? fun v28 =>
 C.any s13.env[26]? fun v29 =>
 C.any s13.env[27]? fun v30 =>
 C.any s13.env[28]? fun v31 =>
 C.same s13.env[29]? tz <|
 C.same s13.env[30]? tz <|
 C.same s13.env[31]? tz <|
 C.same s13.env[32]? tz <|
 C.same s13.env[33]? tz <|
 C.same s13.env[34]? tz <|
 C.same s13.env[35]? tz <|
 cnd (decide (x16 < 64))
 (cnd (decide (x16 < 0))
 (none)
 (cnd ((bits .and .u64 (Int.fdiv (IntKind.wrap .u64 a1) (2 ^ (min (Int.toNat x16) 64))) 1) == 1)
 (C.hop (St.H s13) (.load true 2 (.v v9)) fun v32 h33 =>
 C.agg 2 (some v32) fun l34 =>
 C.int .i64 l34[0]? fun x35 =>
 C.int .u64 l34[1]? fun x36 =>
 C.hop h33 (.load true 2 (.v v5)) fun v37 h38 =>
 C.agg 2 (some v37) fun l39 =>
 C.int .i64 l39[0]? fun x40 =>
 C.int .u64 l39[1]? fun x41 =>
 C.agg 2 (pcall M d 72 [(.agg [(iz x35), (.int .u64 x36)]), (.agg [(iz x40), (.int .u64 x41)])]) fun l42 =>
 C.int .i64 l42[0]? fun x43 =>
 C.int .u64 l42[1]? fun x44 =>
 C.hop h38 (.store 2 (.v v9) (.v (.agg [(iz x43), (.int .u64 x44)]))) fun v45 h46 =>
 C.hop h46 (.load true 2 (.v v5)) fun v47 h48 =>
 C.agg 2 (some v47) fun l49 =>
 C.int .i64 l49[0]? fun x50 =>
 C.int .u64 l49[1]? fun x51 =>
 C.hop h48 (.load true 2 (.v v5)) fun v52 h53 =>
 C.agg 2 (some v52) fun l54 =>
 C.int .i64 l54[0]? fun x55 =>
 C.int .u64 l54[1]? fun x56 =>
 C.agg 2 (pcall M d 72 [(.agg [(iz x50), (.int .u64 x51)]), (.agg [(iz x55), (.int .u64 x56)])]) fun l57 =>
 C.int .i64 l57[0]? fun x58 =>
 C.int .u64 l57[1]? fun x59 =>
 C.hop h53 (.store 2 (.v v5) (.v (.agg [(iz x58), (.int .u64 x59)]))) fun v60 h61 =>
 k14 .normal ⟨[(iz a0), (iz a1), tz, tz, v0, v5, v9, (.int .u64 (IntKind.wrap .u64 a1)), (iz (IntKind.wrap .i64 (x16 + 1))), (iz a0), (.agg [(iz x3), (.int .u64 x4)]), (.agg [(iz 0), (.int .u64 0)]), (iz a1), (.int .u64 (IntKind.wrap .u64 a1)), (iz x16), bt, (iz x16), (iz (IntKind.wrap .i64 (x16 + 1))), (.int .u64 (IntKind.wrap .u64 a1)), (iz x16), (.int .u64 (Int.fdiv (IntKind.wrap .u64 a1) (2 ^ (min (Int.toNat x16) 64)))), (.int .u64 (bits .and .u64 (Int.fdiv (IntKind.wrap .u64 a1) (2 ^ (min (Int.toNat x16) 64))) 1)), bt, (.agg [(iz x35), (.int .u64 x36)]), (.agg [(iz x40), (.int .u64 x41)]), (.agg [(iz x43), (.int .u64 x44)]), (.agg [(iz x50), (.int .u64 x51)]), (.agg [(iz x55), (.int .u64 x56)]), (.agg [(iz x58), (.int .u64 x59)]), tz, tz, tz, tz, tz, tz, tz], h61⟩)
 (C.hop (St.H s13) (.load true 2 (.v v5)) fun v62 h63 =>
 C.agg 2 (some v62) fun l64 =>
 C.int .i64 l64[0]? fun x65 =>
 C.int .u64 l64[1]? fun x66 =>
 C.hop h63 (.load true 2 (.v v5)) fun v67 h68 =>
 C.agg 2 (some v67) fun l69 =>
 C.int .i64 l69[0]? fun x70 =>
 C.int .u64 l69[1]? fun x71 =>
 C.agg 2 (pcall M d 72 [(.agg [(iz x65), (.int .u64 x66)]), (.agg [(iz x70), (.int .u64 x71)])]) fun l72 =>
 C.int .i64 l72[0]? fun x73 =>
 C.int .u64 l72[1]? fun x74 =>
 C.hop h68 (.store 2 (.v v5) (.v (.agg [(iz x73), (.int .u64 x74)]))) fun v75 h76 =>
 k14 .normal ⟨[(iz a0), (iz a1), tz, tz, v0, v5, v9, (.int .u64 (IntKind.wrap .u64 a1)), (iz (IntKind.wrap .i64 (x16 + 1))), (iz a0), (.agg [(iz x3), (.int .u64 x4)]), (.agg [(iz 0), (.int .u64 0)]), (iz a1), (.int .u64 (IntKind.wrap .u64 a1)), (iz x16), bt, (iz x16), (iz (IntKind.wrap .i64 (x16 + 1))), (.int .u64 (IntKind.wrap .u64 a1)), (iz x16), (.int .u64 (Int.fdiv (IntKind.wrap .u64 a1) (2 ^ (min (Int.toNat x16) 64)))), (.int .u64 (bits .and .u64 (Int.fdiv (IntKind.wrap .u64 a1) (2 ^ (min (Int.toNat x16) 64))) 1)), bf, v26, v27, v28, (.agg [(iz x65), (.int .u64 x66)]), (.agg [(iz x70), (.int .u64 x71)]), (.agg [(iz x73), (.int .u64 x74)]), tz, tz, tz, tz, tz, tz, tz], h76⟩)))
 (k14 (.exit 0) ⟨[(iz a0), (iz a1), tz, tz, v0, v5, v9, (.int .u64 (IntKind.wrap .u64 a1)), (iz x16), (iz a0), (.agg [(iz x3), (.int .u64 x4)]), (.agg [(iz 0), (.int .u64 0)]), (iz a1), (.int .u64 (IntKind.wrap .u64 a1)), (iz x16), bf, v19, v20, v21, v22, v23, v24, v25, v26, v27, v28, v29, v30, v31, tz, tz, tz, tz, tz, tz, tz], (St.H s13)⟩))
 (none)
def r66X0_0 (C : Cb) (d : Nat) (a0 a1 : Int) (v0 : AV) (x3 x4 : Int) (v5 v9 : AV) : St → Ans := fun s77 =>
 cnd ((List.length s77.env) == 36)
 (C.same s77.env[0]? (iz a0) <|
 C.same s77.env[1]? (iz a1) <|
 C.same s77.env[2]? tz <|
 C.same s77.env[3]? tz <|
 C.same s77.env[4]? v0 <|
 C.same s77.env[5]? v5 <|
 C.same s77.env[6]? v9 <|
 C.same s77.env[7]? (.int .u64 (IntKind.wrap .u64 a1)) <|
 C.int .i64 s77.env[8]? fun x78 =>
 C.same s77.env[9]? (iz a0) <|
 C.same s77.env[10]? (.agg [(iz x3), (.int .u64 x4)]) <|
 C.same s77.env[11]? (.agg [(iz 0), (.int .u64 0)]) <|
 C.same s77.env[12]? (iz a1) <|
 C.same s77.env[13]? (.int .u64 (IntKind.wrap .u64 a1)) <|
 C.int .i64 s77.env[14]? fun x79 =>
 C.bool s77.env[15]? fun b80 =>
 C.any s77.env[16]? fun v81 =>
 C.any s77.env[17]? fun v82 =>
 C.any s77.env[18]? fun v83 =>
 C.any s77.env[19]? fun v84 =>
 C.any s77.env[20]? fun v85 =>
 C.any s77.env[21]? fun v86 =>
 C.any s77.env[22]? fun v87 =>
 C.any s77.env[23]? fun v88 =>
 C.any s77.env[24]? fun v89 =>
 C.any s77.env[25]? fun v90 =>
 C.any s77.env[26]? fun v91 =>
 C.any s77.env[27]? fun v92 =>
 C.any s77.env[28]? fun v93 =>
 C.same s77.env[29]? tz <|
 C.same s77.env[30]? tz <|
 C.same s77.env[31]? tz <|
 C.same s77.env[32]? tz <|
 C.same s77.env[33]? tz <|
 C.same s77.env[34]? tz <|
 C.same s77.env[35]? tz <|
 cnd (decide (a1 < 0))
 (C.hop (St.H s77) (.load true 2 (.v v9)) fun v94 h95 =>
 C.agg 2 (some v94) fun l96 =>
 C.int .i64 l96[0]? fun x97 =>
 C.int .u64 l96[1]? fun x98 =>
 C.hop h95 (.load true 2 (.v v5)) fun v99 h100 =>
 C.agg 2 (some v99) fun l101 =>
 C.int .i64 l101[0]? fun x102 =>
 C.int .u64 l101[1]? fun x103 =>
 C.agg 2 (pcall M d 73 [(.agg [(iz x102), (.int .u64 x103)])]) fun l104 =>
 C.int .i64 l104[0]? fun x105 =>
 C.int .u64 l104[1]? fun x106 =>
 C.agg 2 (pcall M d 72 [(.agg [(iz x97), (.int .u64 x98)]), (.agg [(iz x105), (.int .u64 x106)])]) fun l107 =>
 C.int .i64 l107[0]? fun x108 =>
 C.int .u64 l107[1]? fun x109 =>
 C.hop h100 (.store 2 (.v v9) (.v (.agg [(iz x108), (.int .u64 x109)]))) fun v110 h111 =>
 C.hop h111 (.load true 2 (.v v9)) fun v112 h113 =>
 C.agg 2 (some v112) fun l114 =>
 C.int .i64 l114[0]? fun x115 =>
 C.int .u64 l114[1]? fun x116 =>
 C.hop h113 (.store 2 (.v v0) (.v (.agg [(iz x115), (.int .u64 x116)]))) fun v117 h118 =>
 C.hop h118 (.load true 2 (.v v0)) fun v119 h120 =>
 C.fin h118 v119)
 (C.hop (St.H s77) (.load true 2 (.v v9)) fun v121 h122 =>
 C.agg 2 (some v121) fun l123 =>
 C.int .i64 l123[0]? fun x124 =>
 C.int .u64 l123[1]? fun x125 =>
 C.hop h122 (.store 2 (.v v0) (.v (.agg [(iz x124), (.int .u64 x125)]))) fun v126 h127 =>
 C.hop h127 (.load true 2 (.v v0)) fun v128 h129 =>
 C.fin h127 v128))
 (none)
def r66E0 (C : Cb) (d : Nat) (a0 a1 : Int) (v0 : AV) (x3 x4 : Int) (v5 v9 : AV) : St → Ans := fun s15 =>
 cnd ((List.length s15.env) == 36)
 (C.same s15.env[0]? (iz a0) <|
 C.same s15.env[1]? (iz a1) <|
 C.same s15.env[2]? tz <|
 C.same s15.env[3]? tz <|
 C.same s15.env[4]? v0 <|
 C.same s15.env[5]? v5 <|
 C.same s15.env[6]? v9 <|
 C.same s15.env[7]? (.int .u64 (IntKind.wrap .u64 a1)) <|
 C.int .i64 s15.env[8]? fun x130 =>
 C.same s15.env[9]? (iz a0) <|
 C.same s15.env[10]? (.agg [(iz x3), (.int .u64 x4)]) <|
 C.same s15.env[11]? (.agg [(iz 0), (.int .u64 0)]) <|
 C.same s15.env[12]? (iz a1) <|
 C.same s15.env[13]? (.int .u64 (IntKind.wrap .u64 a1)) <|
 C.any s15.env[14]? fun v131 =>
 C.any s15.env[15]? fun v132 =>
 C.any s15.env[16]? fun v133 =>
 C.any s15.env[17]? fun v134 =>
 C.any s15.env[18]? fun v135 =>
 C.any s15.env[19]? fun v136 =>
 C.any s15.env[20]? fun v137 =>
 C.any s15.env[21]? fun v138 =>
 C.any s15.env[22]? fun v139 =>
 C.any s15.env[23]? fun v140 =>
 C.any s15.env[24]? fun v141 =>
 C.any s15.env[25]? fun v142 =>
 C.any s15.env[26]? fun v143 =>
 C.any s15.env[27]? fun v144 =>
 C.any s15.env[28]? fun v145 =>
 C.same s15.env[29]? tz <|
 C.same s15.env[30]? tz <|
 C.same s15.env[31]? tz <|
 C.same s15.env[32]? tz <|
 C.same s15.env[33]? tz <|
 C.same s15.env[34]? tz <|
 C.same s15.env[35]? tz <|
 C.hop (St.H s15) (.load true 2 (.v v0)) fun v146 h147 =>
 C.fin (St.H s15) v146)
 (none)
/-- apogee/apogeeref01.Mul -/
theorem r66 (C : Cb) (d : Nat) (a0 a1 : Int) : xcall C M unr d 66 [(iz a0), (iz a1)] =
 C.hop [] (.alloc E98) fun v0 h1 =>
 C.agg 2 (pcall M d 71 [(iz a0)]) fun l2 =>
 C.int .i64 l2[0]? fun x3 =>
 C.int .u64 l2[1]? fun x4 =>
 C.hop h1 (.alloc E98) fun v5 h6 =>
 C.hop h6 (.store 2 (.v v5) (.v (.agg [(iz x3), (.int .u64 x4)]))) fun v7 h8 =>
 C.hop h8 (.alloc E98) fun v9 h10 =>
 C.hop h10 (.store 2 (.v v9) (.v (.agg [(iz 0), (.int .u64 0)]))) fun v11 h12 =>
 C.iter (r66R0 C d a0 a1 v0 x3 x4 v5 v9) 10000000000000000000 ⟨[(iz a0), (iz a1), tz, tz, v0, v5, v9, (.int .u64 (IntKind.wrap .u64 a1)), (iz 0), (iz a0), (.agg [(iz x3), (.int .u64 x4)]), (.agg [(iz 0), (.int .u64 0)]), (iz a1), (.int .u64 (IntKind.wrap .u64 a1)), tz, tz, tz, tz, tz, tz, tz, tz, tz, tz, tz, tz, tz, tz, tz, tz, tz, tz, tz, tz, tz, tz], h12⟩ [0] [r66X0_0 C d a0 a1 v0 x3 x4 v5 v9] (r66E0 C d a0 a1 v0 x3 x4 v5 v9) := by kernel_rfl
/-- apogee/point.within -/
theorem r67 (C : Cb) (d : Nat) (a0 : Int) : xcall C M unr d 67 [(iz a0)] =
 cnd (decide (a0 ≥ (-1099511627776)))
 (some (.bool (decide (a0 ≤ 1099511627776))))
 (some bf) := by kernel_rfl
/-- apogee/point.On -/
theorem r69 (C : Cb) (d : Nat) (a0 a1 a2 a3 a4 a5 : Int) : xcall C M unr d 69 [(.agg [(iz a0), (iz a1)]), (.agg [(iz a2), (iz a3)]), (.agg [(iz a4), (iz a5)])] =
 C.bool (pcall M d 74 [(.lst [(.agg [(iz a0), (iz a1)]), (.agg [(iz a2), (iz a3)]), (.agg [(iz a4), (iz a5)])])]) fun b0 =>
 cnd b0
 (C.int .i64 (pcall M d 75 [(.agg [(iz a2), (iz a3)]), (.agg [(iz a4), (iz a5)]), (.agg [(iz a0), (iz a1)])]) fun x1 =>
 cnd (x1 == 0)
 (C.bool (pcall M d 76 [(iz a0), (iz a2), (iz a4)]) fun b2 =>
 cnd b2
 (C.bool (pcall M d 76 [(iz a1), (iz a3), (iz a5)]) fun b3 =>
 some (.bool b3))
 (some bf))
 (some bf))
 (some bf) := by kernel_rfl
/-- apogee/point.Meet -/
theorem r70 (C : Cb) (d : Nat) (a0 a1 a2 a3 a4 a5 a6 a7 : Int) : xcall C M unr d 70 [(.agg [(iz a0), (iz a1)]), (.agg [(iz a2), (iz a3)]), (.agg [(iz a4), (iz a5)]), (.agg [(iz a6), (iz a7)])] =
 C.bool (pcall M d 74 [(.lst [(.agg [(iz a0), (iz a1)]), (.agg [(iz a2), (iz a3)]), (.agg [(iz a4), (iz a5)]), (.agg [(iz a6), (iz a7)])])]) fun b0 =>
 cnd (!b0)
 (some bf)
 (C.bool (pcall M d 69 [(.agg [(iz a0), (iz a1)]), (.agg [(iz a4), (iz a5)]), (.agg [(iz a6), (iz a7)])]) fun b1 =>
 cnd b1
 (some bt)
 (C.bool (pcall M d 69 [(.agg [(iz a2), (iz a3)]), (.agg [(iz a4), (iz a5)]), (.agg [(iz a6), (iz a7)])]) fun b2 =>
 cnd b2
 (some bt)
 (C.bool (pcall M d 69 [(.agg [(iz a4), (iz a5)]), (.agg [(iz a0), (iz a1)]), (.agg [(iz a2), (iz a3)])]) fun b3 =>
 cnd b3
 (some bt)
 (C.bool (pcall M d 69 [(.agg [(iz a6), (iz a7)]), (.agg [(iz a0), (iz a1)]), (.agg [(iz a2), (iz a3)])]) fun b4 =>
 cnd b4
 (some bt)
 (C.int .i64 (pcall M d 75 [(.agg [(iz a0), (iz a1)]), (.agg [(iz a2), (iz a3)]), (.agg [(iz a4), (iz a5)])]) fun x5 =>
 C.int .i64 (pcall M d 75 [(.agg [(iz a0), (iz a1)]), (.agg [(iz a2), (iz a3)]), (.agg [(iz a6), (iz a7)])]) fun x6 =>
 cnd (decide ((IntKind.wrap .i64 (x5 * x6)) < 0))
 (C.int .i64 (pcall M d 75 [(.agg [(iz a4), (iz a5)]), (.agg [(iz a6), (iz a7)]), (.agg [(iz a0), (iz a1)])]) fun x7 =>
 C.int .i64 (pcall M d 75 [(.agg [(iz a4), (iz a5)]), (.agg [(iz a6), (iz a7)]), (.agg [(iz a2), (iz a3)])]) fun x8 =>
 some (.bool (decide ((IntKind.wrap .i64 (x7 * x8)) < 0))))
 (some bf)))))) := by kernel_rfl
/-- apogee/apogeeref01.Of -/
theorem r71 (C : Cb) (d : Nat) (a0 : Int) : xcall C M unr d 71 [(iz a0)] =
 cnd (decide (a0 < 0))
 (some (.agg [(iz (-1)), (.int .u64 (IntKind.wrap .u64 a0))]))
 (some (.agg [(iz 0), (.int .u64 (IntKind.wrap .u64 a0))])) := by kernel_rfl
def r72R0 (C : Cb) (d : Nat) (a0 a1 a2 a3 : Int) (v0 v2 v4 : AV) (x9 x10 : Int) (v11 : AV) (x15 x16 : Int) (v17 : AV) : St → (Ex → St → Ans) → Ans := fun s18 k19 =>
 cnd ((List.length s18.env) == 39)
 (C.same s18.env[0]? (.agg [(iz a0), (.int .u64 a1)]) <|
 C.same s18.env[1]? (.agg [(iz a2), (.int .u64 a3)]) <|
 C.same s18.env[2]? v0 <|
 C.same s18.env[3]? v2 <|
 C.same s18.env[4]? v4 <|
 C.same s18.env[5]? v11 <|
 C.same s18.env[6]? v17 <|
 C.any s18.env[7]? fun v21 =>
 C.int .i64 s18.env[8]? fun x22 =>
 C.int .i64 s18.env[9]? fun x23 =>
 C.any s18.env[10]? fun v24 =>
 C.same s18.env[11]? (.agg [(iz x9), (.int .u64 x10)]) <|
 C.same s18.env[12]? v11 <|
 C.same s18.env[13]? (.agg [(iz x15), (.int .u64 x16)]) <|
 C.same s18.env[14]? v17 <|
 C.any s18.env[15]? fun v25 =>
 C.any s18.env[16]? fun v26 =>
 C.any s18.env[17]? fun v27 =>
 C.any s18.env[18]? fun v28 =>
 C.any s18.env[19]? fun v29 =>
 C.any s18.env[20]? fun v30 =>
 C.any s18.env[21]? fun v31 =>
 C.any s18.env[22]? fun v32 =>
 C.any s18.env[23]? fun v33 =>
 C.any s18.env[24]? fun v34 =>
 C.any s18.env[25]? fun v35 =>
 C.any s18.env[26]? fun v36 =>
 C.any s18.env[27]? fun v37 =>
 C.any s18.env[28]? fun v38 =>
 C.any s18.env[29]? fun v39 =>
 C.any s18.env[30]? fun v40 =>
 C.any s18.env[31]? fun v41 =>
 C.any s18.env[32]? fun v42 =>
 C.any s18.env[33]? fun v43 =>
 C.any s18.env[34]? fun v44 =>
 C.any s18.env[35]? fun v45 =>
 C.any s18.env[36]? fun v46 =>
 C.same s18.env[37]? tz <|
 C.same s18.env[38]? tz <|
 cnd (decide (x23 < 128))
 (C.hop (St.H s18) (.ixAS .any 1 (.v v11) (.v (iz x23))) fun v47 h48 =>
 C.hop h48 (.load false 1 (.v v47)) fun v49 h50 =>
 C.int .i64 (some v49) fun x51 =>
 C.hop h50 (.ixAS .any 1 (.v v17) (.v (iz x23))) fun v52 h53 =>
 C.hop h53 (.load false 1 (.v v52)) fun v54 h55 =>
 C.int .i64 (some v54) fun x56 =>
 C.hop h55 (.mkrow E3 1 [(0, (.v (iz (Int.tmod (IntKind.wrap .i64 ((IntKind.wrap .i64 (x51 + x56)) + x22)) 2))))]) fun v57 h58 =>
 C.hop h58 (.app E3 (.v v21) (.v v57)) fun v59 h60 =>
 k19 .normal ⟨[(.agg [(iz a0), (.int .u64 a1)]), (.agg [(iz a2), (.int .u64 a3)]), v0, v2, v4, v11, v17, v59, (iz (IntKind.wrap .i64 (Int.tdiv (IntKind.wrap .i64 ((IntKind.wrap .i64 (x51 + x56)) + x22)) 2))), (iz (IntKind.wrap .i64 (x23 + 1))), (iz (IntKind.wrap .i64 ((IntKind.wrap .i64 (x51 + x56)) + x22))), (.agg [(iz x9), (.int .u64 x10)]), v11, (.agg [(iz x15), (.int .u64 x16)]), v17, (iz x23), bt, (iz x23), (iz (IntKind.wrap .i64 (x23 + 1))), v11, (iz x23), v47, (iz x51), v17, (iz x23), v52, (iz x56), (iz (IntKind.wrap .i64 (x51 + x56))), (iz x22), (iz (IntKind.wrap .i64 ((IntKind.wrap .i64 (x51 + x56)) + x22))), v21, (iz (IntKind.wrap .i64 ((IntKind.wrap .i64 (x51 + x56)) + x22))), (iz (Int.tmod (IntKind.wrap .i64 ((IntKind.wrap .i64 (x51 + x56)) + x22)) 2)), v57, v59, (iz (IntKind.wrap .i64 ((IntKind.wrap .i64 (x51 + x56)) + x22))), (iz (IntKind.wrap .i64 (Int.tdiv (IntKind.wrap .i64 ((IntKind.wrap .i64 (x51 + x56)) + x22)) 2))), tz, tz], h60⟩)
 (k19 (.exit 0) ⟨[(.agg [(iz a0), (.int .u64 a1)]), (.agg [(iz a2), (.int .u64 a3)]), v0, v2, v4, v11, v17, v21, (iz x22), (iz x23), v24, (.agg [(iz x9), (.int .u64 x10)]), v11, (.agg [(iz x15), (.int .u64 x16)]), v17, (iz x23), bf, v27, v28, v29, v30, v31, v32, v33, v34, v35, v36, v37, v38, v39, v40, v41, v42, v43, v44, v45, v46, tz, tz], (St.H s18)⟩))
 (none)
def r72X0_0 (C : Cb) (d : Nat) (a0 a1 a2 a3 : Int) (v0 v2 v4 : AV) (x9 x10 : Int) (v11 : AV) (x15 x16 : Int) (v17 : AV) : St → Ans := fun s61 =>
 cnd ((List.length s61.env) == 39)
 (C.same s61.env[0]? (.agg [(iz a0), (.int .u64 a1)]) <|
 C.same s61.env[1]? (.agg [(iz a2), (.int .u64 a3)]) <|
 C.same s61.env[2]? v0 <|
 C.same s61.env[3]? v2 <|
 C.same s61.env[4]? v4 <|
 C.same s61.env[5]? v11 <|
 C.same s61.env[6]? v17 <|
 C.any s61.env[7]? fun v62 =>
 C.int .i64 s61.env[8]? fun x63 =>
 C.int .i64 s61.env[9]? fun x64 =>
 C.any s61.env[10]? fun v65 =>
 C.same s61.env[11]? (.agg [(iz x9), (.int .u64 x10)]) <|
 C.same s61.env[12]? v11 <|
 C.same s61.env[13]? (.agg [(iz x15), (.int .u64 x16)]) <|
 C.same s61.env[14]? v17 <|
 C.int .i64 s61.env[15]? fun x66 =>
 C.bool s61.env[16]? fun b67 =>
 C.any s61.env[17]? fun v68 =>
 C.any s61.env[18]? fun v69 =>
 C.any s61.env[19]? fun v70 =>
 C.any s61.env[20]? fun v71 =>
 C.any s61.env[21]? fun v72 =>
 C.any s61.env[22]? fun v73 =>
 C.any s61.env[23]? fun v74 =>
 C.any s61.env[24]? fun v75 =>
 C.any s61.env[25]? fun v76 =>
 C.any s61.env[26]? fun v77 =>
 C.any s61.env[27]? fun v78 =>
 C.any s61.env[28]? fun v79 =>
 C.any s61.env[29]? fun v80 =>
 C.any s61.env[30]? fun v81 =>
 C.any s61.env[31]? fun v82 =>
 C.any s61.env[32]? fun v83 =>
 C.any s61.env[33]? fun v84 =>
 C.any s61.env[34]? fun v85 =>
 C.any s61.env[35]? fun v86 =>
 C.any s61.env[36]? fun v87 =>
 C.same s61.env[37]? tz <|
 C.same s61.env[38]? tz <|
 C.snp (St.H s61) [v62] fun l88 b89 =>
 C.agg 2 (pcall M d 78 l88) fun l90 =>
 C.int .i64 l90[0]? fun x91 =>
 C.int .u64 l90[1]? fun x92 =>
 cnd (b89 || true)
 (C.hop (St.H s61) (.store 2 (.v v4) (.v (.agg [(iz x91), (.int .u64 x92)]))) fun v93 h94 =>
 C.hop h94 (.load true 2 (.v v4)) fun v95 h96 =>
 C.fin h94 v95)
 (none))
 (none)
def r72E0 (C : Cb) (d : Nat) (a0 a1 a2 a3 : Int) (v0 v2 v4 : AV) (x9 x10 : Int) (v11 : AV) (x15 x16 : Int) (v17 : AV) : St → Ans := fun s20 =>
 cnd ((List.length s20.env) == 39)
 (C.same s20.env[0]? (.agg [(iz a0), (.int .u64 a1)]) <|
 C.same s20.env[1]? (.agg [(iz a2), (.int .u64 a3)]) <|
 C.same s20.env[2]? v0 <|
 C.same s20.env[3]? v2 <|
 C.same s20.env[4]? v4 <|
 C.same s20.env[5]? v11 <|
 C.same s20.env[6]? v17 <|
 C.any s20.env[7]? fun v97 =>
 C.int .i64 s20.env[8]? fun x98 =>
 C.int .i64 s20.env[9]? fun x99 =>
 C.any s20.env[10]? fun v100 =>
 C.same s20.env[11]? (.agg [(iz x9), (.int .u64 x10)]) <|
 C.same s20.env[12]? v11 <|
 C.same s20.env[13]? (.agg [(iz x15), (.int .u64 x16)]) <|
 C.same s20.env[14]? v17 <|
 C.any s20.env[15]? fun v101 =>
 C.any s20.env[16]? fun v102 =>
 C.any s20.env[17]? fun v103 =>
 C.any s20.env[18]? fun v104 =>
 C.any s20.env[19]? fun v105 =>
 C.any s20.env[20]? fun v106 =>
 C.any s20.env[21]? fun v107 =>
 C.any s20.env[22]? fun v108 =>
 C.any s20.env[23]? fun v109 =>
 C.any s20.env[24]? fun v110 =>
 C.any s20.env[25]? fun v111 =>
 C.any s20.env[26]? fun v112 =>
 C.any s20.env[27]? fun v113 =>
 C.any s20.env[28]? fun v114 =>
 C.any s20.env[29]? fun v115 =>
 C.any s20.env[30]? fun v116 =>
 C.any s20.env[31]? fun v117 =>
 C.any s20.env[32]? fun v118 =>
 C.any s20.env[33]? fun v119 =>
 C.any s20.env[34]? fun v120 =>
 C.any s20.env[35]? fun v121 =>
 C.any s20.env[36]? fun v122 =>
 C.same s20.env[37]? tz <|
 C.same s20.env[38]? tz <|
 C.hop (St.H s20) (.load true 2 (.v v4)) fun v123 h124 =>
 C.fin (St.H s20) v123)
 (none)
/-- apogee/apogeeref01.plus -/
theorem r72 (C : Cb) (d : Nat) (a0 a1 a2 a3 : Int) : xcall C M unr d 72 [(.agg [(iz a0), (.int .u64 a1)]), (.agg [(iz a2), (.int .u64 a3)])] =
 C.hop [] (.box E98 (.v (.agg [(iz a0), (.int .u64 a1)]))) fun v0 h1 =>
 C.hop h1 (.box E98 (.v (.agg [(iz a2), (.int .u64 a3)]))) fun v2 h3 =>
 C.hop h3 (.alloc E98) fun v4 h5 =>
 C.hop h5 (.load true 2 (.v v0)) fun v6 h7 =>
 C.agg 2 (some v6) fun l8 =>
 C.int .i64 l8[0]? fun x9 =>
 C.int .u64 l8[1]? fun x10 =>
 C.any (pcall M d 77 [(.agg [(iz x9), (.int .u64 x10)])]) fun v11 =>
 C.hop h7 (.load true 2 (.v v2)) fun v12 h13 =>
 C.agg 2 (some v12) fun l14 =>
 C.int .i64 l14[0]? fun x15 =>
 C.int .u64 l14[1]? fun x16 =>
 C.any (pcall M d 77 [(.agg [(iz x15), (.int .u64 x16)])]) fun v17 =>
 C.iter (r72R0 C d a0 a1 a2 a3 v0 v2 v4 x9 x10 v11 x15 x16 v17) 10000000000000000000 ⟨[(.agg [(iz a0), (.int .u64 a1)]), (.agg [(iz a2), (.int .u64 a3)]), v0, v2, v4, v11, v17, (.zsl true), (iz 0), (iz 0), tz, (.agg [(iz x9), (.int .u64 x10)]), v11, (.agg [(iz x15), (.int .u64 x16)]), v17, tz, tz, tz, tz, tz, tz, tz, tz, tz, tz, tz, tz, tz, tz, tz, tz, tz, tz, tz, tz, tz, tz, tz, tz], h13⟩ [0] [r72X0_0 C d a0 a1 a2 a3 v0 v2 v4 x9 x10 v11 x15 x16 v17] (r72E0 C d a0 a1 a2 a3 v0 v2 v4 x9 x10 v11 x15 x16 v17) := by kernel_rfl
/-- apogee/apogeeref01.Flip -/
theorem r73 (C : Cb) (d : Nat) (a0 a1 : Int) : xcall C M unr d 73 [(.agg [(iz a0), (.int .u64 a1)])] =
 C.agg 2 (pcall M d 72 [(.agg [(iz (bits .xor .i64 (if (true = true) then (-1) else (IntKind.max .i64)) a0)), (.int .u64 (bits .xor .u64 (if (false = true) then (-1) else (IntKind.max .u64)) a1))]), (.agg [(iz 0), (.int .u64 1)])]) fun l0 =>
 C.int .i64 l0[0]? fun x1 =>
 C.int .u64 l0[1]? fun x2 =>
 some (.agg [(iz x1), (.int .u64 x2)]) := by kernel_rfl
/-- apogee/point.right -/
theorem r74 (C : Cb) (d : Nat) (a0 : List AV) : xcall C M unr d 74 [(.lst a0)] =
 C.bool (pcall M d 58 [(.lst a0), (.fn 79 [] [])]) fun b0 =>
 some (.bool (!b0)) := by kernel_rfl
/-- apogee/point.Turn -/
theorem r75 (C : Cb) (d : Nat) (a0 a1 a2 a3 a4 a5 : Int) : xcall C M unr d 75 [(.agg [(iz a0), (iz a1)]), (.agg [(iz a2), (iz a3)]), (.agg [(iz a4), (iz a5)])] =
 C.bool (pcall M d 74 [(.lst [(.agg [(iz a0), (iz a1)]), (.agg [(iz a2), (iz a3)]), (.agg [(iz a4), (iz a5)])])]) fun b0 =>
 cnd (!b0)
 (some (iz 0))
 (C.agg 2 (pcall M d 80 [(iz (IntKind.wrap .i64 (a2 - a0))), (iz (IntKind.wrap .i64 (a5 - a1)))]) fun l1 =>
 C.int .i64 l1[0]? fun x2 =>
 C.int .u64 l1[1]? fun x3 =>
 C.agg 2 (pcall M d 80 [(iz (IntKind.wrap .i64 (a3 - a1))), (iz (IntKind.wrap .i64 (a4 - a0)))]) fun l4 =>
 C.int .i64 l4[0]? fun x5 =>
 C.int .u64 l4[1]? fun x6 =>
 C.int .i64 (pcall M d 81 [(.agg [(iz x2), (.int .u64 x3)]), (.agg [(iz x5), (.int .u64 x6)])]) fun x7 =>
 some (iz x7)) := by kernel_rfl
/-- apogee/point.between -/
theorem r76 (C : Cb) (d : Nat) (a0 a1 a2 : Int) : xcall C M unr d 76 [(iz a0), (iz a1), (iz a2)] =
 cnd (decide ((if (a2 < a1) then a2 else a1) ≤ a0))
 (some (.bool (decide (a0 ≤ (if (a2 > a1) then a2 else a1)))))
 (some bf) := by kernel_rfl
def r77R1 (C : Cb) (d : Nat) (a0 a1 : Int) (v0 : AV) (x31 x32 : Int) (b33 : Bool) (v34 v35 v36 v37 v38 v39 v40 v41 v42 v43 v44 : AV) : St → (Ex → St → Ans) → Ans := fun s45 k46 =>
 cnd ((List.length s45.env) == 34)
 (C.same s45.env[0]? (.agg [(iz a0), (.int .u64 a1)]) <|
 C.same s45.env[1]? v0 <|
 C.same s45.env[2]? (.zsl true) <|
 C.any s45.env[3]? fun v48 =>
 C.same s45.env[4]? (iz x31) <|
 C.int .i64 s45.env[5]? fun x49 =>
 C.same s45.env[6]? (iz x32) <|
 C.same s45.env[7]? (.bool b33) <|
 C.same s45.env[8]? v34 <|
 C.same s45.env[9]? v35 <|
 C.same s45.env[10]? v36 <|
 C.same s45.env[11]? v37 <|
 C.same s45.env[12]? v38 <|
 C.same s45.env[13]? v39 <|
 C.same s45.env[14]? v40 <|
 C.same s45.env[15]? v41 <|
 C.same s45.env[16]? v42 <|
 C.same s45.env[17]? v43 <|
 C.same s45.env[18]? v44 <|
 C.any s45.env[19]? fun v50 =>
 C.any s45.env[20]? fun v51 =>
 C.any s45.env[21]? fun v52 =>
 C.any s45.env[22]? fun v53 =>
 C.any s45.env[23]? fun v54 =>
 C.any s45.env[24]? fun v55 =>
 C.any s45.env[25]? fun v56 =>
 C.any s45.env[26]? fun v57 =>
 C.any s45.env[27]? fun v58 =>
 C.any s45.env[28]? fun v59 =>
 C.any s45.env[29]? fun v60 =>
 C.any s45.env[30]? fun v61 =>
 C.any s45.env[31]? fun v62 =>
 C.any s45.env[32]? fun v63 =>
 C.same s45.env[33]? tz <|
 cnd (decide (x49 < 64))
 (C.hop (St.H s45) (.fldA 0 (.v v0)) fun v64 h65 =>
 C.hop h65 (.load false 1 (.v v64)) fun v66 h67 =>
 C.int .i64 (some v66) fun x68 =>
 cnd (decide (x49 < 0))
 (none)
 (C.hop h67 (.mkrow E3 1 [(0, (.v (iz (IntKind.wrap .i64 (bits .and .u64 (Int.fdiv (IntKind.wrap .u64 x68) (2 ^ (min (Int.toNat x49) 64))) 1)))))]) fun v69 h70 =>
 C.hop h70 (.app E3 (.v v48) (.v v69)) fun v71 h72 =>
 k46 .normal ⟨[(.agg [(iz a0), (.int .u64 a1)]), v0, (.zsl true), v71, (iz x31), (iz (IntKind.wrap .i64 (x49 + 1))), (iz x32), (.bool b33), v34, v35, v36, v37, v38, v39, v40, v41, v42, v43, v44, (iz x49), bt, (iz x49), (iz (IntKind.wrap .i64 (x49 + 1))), v48, v64, (iz x68), (.int .u64 (IntKind.wrap .u64 x68)), (iz x49), (.int .u64 (Int.fdiv (IntKind.wrap .u64 x68) (2 ^ (min (Int.toNat x49) 64)))), (.int .u64 (bits .and .u64 (Int.fdiv (IntKind.wrap .u64 x68) (2 ^ (min (Int.toNat x49) 64))) 1)), (iz (IntKind.wrap .i64 (bits .and .u64 (Int.fdiv (IntKind.wrap .u64 x68) (2 ^ (min (Int.toNat x49) 64))) 1))), v69, v71, tz], h72⟩))
 (k46 (.exit 2) ⟨[(.agg [(iz a0), (.int .u64 a1)]), v0, (.zsl true), v48, (iz x31), (iz x49), (iz x32), (.bool b33), v34, v35, v36, v37, v38, v39, v40, v41, v42, v43, v44, (iz x49), bf, v52, v53, v54, v55, v56, v57, v58, v59, v60, v61, v62, v63, tz], (St.H s45)⟩))
 (none)
def r77X1_0 (C : Cb) (d : Nat) (a0 a1 : Int) (v0 : AV) (x31 x32 : Int) (b33 : Bool) (v34 v35 v36 v37 v38 v39 v40 v41 v42 v43 v44 : AV) : St → Ans := fun s73 =>
 cnd ((List.length s73.env) == 34)
 (C.same s73.env[0]? (.agg [(iz a0), (.int .u64 a1)]) <|
 C.same s73.env[1]? v0 <|
 C.same s73.env[2]? (.zsl true) <|
 C.any s73.env[3]? fun v74 =>
 C.same s73.env[4]? (iz x31) <|
 C.int .i64 s73.env[5]? fun x75 =>
 C.same s73.env[6]? (iz x32) <|
 C.same s73.env[7]? (.bool b33) <|
 C.same s73.env[8]? v34 <|
 C.same s73.env[9]? v35 <|
 C.same s73.env[10]? v36 <|
 C.same s73.env[11]? v37 <|
 C.same s73.env[12]? v38 <|
 C.same s73.env[13]? v39 <|
 C.same s73.env[14]? v40 <|
 C.same s73.env[15]? v41 <|
 C.same s73.env[16]? v42 <|
 C.same s73.env[17]? v43 <|
 C.same s73.env[18]? v44 <|
 C.int .i64 s73.env[19]? fun x76 =>
 C.bool s73.env[20]? fun b77 =>
 C.any s73.env[21]? fun v78 =>
 C.any s73.env[22]? fun v79 =>
 C.any s73.env[23]? fun v80 =>
 C.any s73.env[24]? fun v81 =>
 C.any s73.env[25]? fun v82 =>
 C.any s73.env[26]? fun v83 =>
 C.any s73.env[27]? fun v84 =>
 C.any s73.env[28]? fun v85 =>
 C.any s73.env[29]? fun v86 =>
 C.any s73.env[30]? fun v87 =>
 C.any s73.env[31]? fun v88 =>
 C.any s73.env[32]? fun v89 =>
 C.same s73.env[33]? tz <|
 C.fin (St.H s73) v74)
 (none)
def r77E1 (C : Cb) (d : Nat) (a0 a1 : Int) (v0 : AV) (x31 x32 : Int) (b33 : Bool) (v34 v35 v36 v37 v38 v39 v40 v41 v42 v43 v44 : AV) : St → Ans := fun s47 =>
 cnd ((List.length s47.env) == 34)
 (C.same s47.env[0]? (.agg [(iz a0), (.int .u64 a1)]) <|
 C.same s47.env[1]? v0 <|
 C.same s47.env[2]? (.zsl true) <|
 C.any s47.env[3]? fun v90 =>
 C.same s47.env[4]? (iz x31) <|
 C.int .i64 s47.env[5]? fun x91 =>
 C.same s47.env[6]? (iz x32) <|
 C.same s47.env[7]? (.bool b33) <|
 C.same s47.env[8]? v34 <|
 C.same s47.env[9]? v35 <|
 C.same s47.env[10]? v36 <|
 C.same s47.env[11]? v37 <|
 C.same s47.env[12]? v38 <|
 C.same s47.env[13]? v39 <|
 C.same s47.env[14]? v40 <|
 C.same s47.env[15]? v41 <|
 C.same s47.env[16]? v42 <|
 C.same s47.env[17]? v43 <|
 C.same s47.env[18]? v44 <|
 C.any s47.env[19]? fun v92 =>
 C.any s47.env[20]? fun v93 =>
 C.any s47.env[21]? fun v94 =>
 C.any s47.env[22]? fun v95 =>
 C.any s47.env[23]? fun v96 =>
 C.any s47.env[24]? fun v97 =>
 C.any s47.env[25]? fun v98 =>
 C.any s47.env[26]? fun v99 =>
 C.any s47.env[27]? fun v100 =>
 C.any s47.env[28]? fun v101 =>
 C.any s47.env[29]? fun v102 =>
 C.any s47.env[30]? fun v103 =>
 C.any s47.env[31]? fun v104 =>
 C.any s47.env[32]? fun v105 =>
 C.same s47.env[33]? tz <|
 C.fin (St.H s47) (.zsl true))
 (none)
def r77R0 (C : Cb) (d : Nat) (a0 a1 : Int) (v0 : AV) : St → (Ex → St → Ans) → Ans := fun s2 k3 =>
 cnd ((List.length s2.env) == 34)
 (C.same s2.env[0]? (.agg [(iz a0), (.int .u64 a1)]) <|
 C.same s2.env[1]? v0 <|
 C.same s2.env[2]? (.zsl true) <|
 C.any s2.env[3]? fun v5 =>
 C.int .i64 s2.env[4]? fun x6 =>
 C.same s2.env[5]? tz <|
 C.any s2.env[6]? fun v7 =>
 C.any s2.env[7]? fun v8 =>
 C.any s2.env[8]? fun v9 =>
 C.any s2.env[9]? fun v10 =>
 C.any s2.env[10]? fun v11 =>
 C.any s2.env[11]? fun v12 =>
 C.any s2.env[12]? fun v13 =>
 C.any s2.env[13]? fun v14 =>
 C.any s2.env[14]? fun v15 =>
 C.any s2.env[15]? fun v16 =>
 C.any s2.env[16]? fun v17 =>
 C.any s2.env[17]? fun v18 =>
 C.any s2.env[18]? fun v19 =>
 C.same s2.env[19]? tz <|
 C.same s2.env[20]? tz <|
 C.same s2.env[21]? tz <|
 C.same s2.env[22]? tz <|
 C.same s2.env[23]? tz <|
 C.same s2.env[24]? tz <|
 C.same s2.env[25]? tz <|
 C.same s2.env[26]? tz <|
 C.same s2.env[27]? tz <|
 C.same s2.env[28]? tz <|
 C.same s2.env[29]? tz <|
 C.same s2.env[30]? tz <|
 C.same s2.env[31]? tz <|
 C.same s2.env[32]? tz <|
 C.same s2.env[33]? tz <|
 cnd (decide (x6 < 64))
 (C.hop (St.H s2) (.fldA 1 (.v v0)) fun v20 h21 =>
 C.hop h21 (.load false 1 (.v v20)) fun v22 h23 =>
 C.int .u64 (some v22) fun x24 =>
 cnd (decide (x6 < 0))
 (none)
 (C.hop h23 (.mkrow E3 1 [(0, (.v (iz (IntKind.wrap .i64 (bits .and .u64 (Int.fdiv x24 (2 ^ (min (Int.toNat x6) 64))) 1)))))]) fun v25 h26 =>
 C.hop h26 (.app E3 (.v v5) (.v v25)) fun v27 h28 =>
 k3 .normal ⟨[(.agg [(iz a0), (.int .u64 a1)]), v0, (.zsl true), v27, (iz (IntKind.wrap .i64 (x6 + 1))), tz, (iz x6), bt, (iz x6), (iz (IntKind.wrap .i64 (x6 + 1))), v5, v20, (.int .u64 x24), (iz x6), (.int .u64 (Int.fdiv x24 (2 ^ (min (Int.toNat x6) 64)))), (.int .u64 (bits .and .u64 (Int.fdiv x24 (2 ^ (min (Int.toNat x6) 64))) 1)), (iz (IntKind.wrap .i64 (bits .and .u64 (Int.fdiv x24 (2 ^ (min (Int.toNat x6) 64))) 1))), v25, v27, tz, tz, tz, tz, tz, tz, tz, tz, tz, tz, tz, tz, tz, tz, tz], h28⟩))
 (k3 (.exit 0) ⟨[(.agg [(iz a0), (.int .u64 a1)]), v0, (.zsl true), v5, (iz x6), tz, (iz x6), bf, v9, v10, v11, v12, v13, v14, v15, v16, v17, v18, v19, tz, tz, tz, tz, tz, tz, tz, tz, tz, tz, tz, tz, tz, tz, tz], (St.H s2)⟩))
 (none)
def r77X0_0 (C : Cb) (d : Nat) (a0 a1 : Int) (v0 : AV) : St → Ans := fun s29 =>
 cnd ((List.length s29.env) == 34)
 (C.same s29.env[0]? (.agg [(iz a0), (.int .u64 a1)]) <|
 C.same s29.env[1]? v0 <|
 C.same s29.env[2]? (.zsl true) <|
 C.any s29.env[3]? fun v30 =>
 C.int .i64 s29.env[4]? fun x31 =>
 C.same s29.env[5]? tz <|
 C.int .i64 s29.env[6]? fun x32 =>
 C.bool s29.env[7]? fun b33 =>
 C.any s29.env[8]? fun v34 =>
 C.any s29.env[9]? fun v35 =>
 C.any s29.env[10]? fun v36 =>
 C.any s29.env[11]? fun v37 =>
 C.any s29.env[12]? fun v38 =>
 C.any s29.env[13]? fun v39 =>
 C.any s29.env[14]? fun v40 =>
 C.any s29.env[15]? fun v41 =>
 C.any s29.env[16]? fun v42 =>
 C.any s29.env[17]? fun v43 =>
 C.any s29.env[18]? fun v44 =>
 C.same s29.env[19]? tz <|
 C.same s29.env[20]? tz <|
 C.same s29.env[21]? tz <|
 C.same s29.env[22]? tz <|
 C.same s29.env[23]? tz <|
 C.same s29.env[24]? tz <|
 C.same s29.env[25]? tz <|
 C.same s29.env[26]? tz <|
 C.same s29.env[27]? tz <|
 C.same s29.env[28]? tz <|
 C.same s29.env[29]? tz <|
 C.same s29.env[30]? tz <|
 C.same s29.env[31]? tz <|
 C.same s29.env[32]? tz <|
 C.same s29.env[33]? tz <|
 C.iter (r77R1 C d a0 a1 v0 x31 x32 b33 v34 v35 v36 v37 v38 v39 v40 v41 v42 v43 v44) 10000000000000000000 ⟨[(.agg [(iz a0), (.int .u64 a1)]), v0, (.zsl true), v30, (iz x31), (iz 0), (iz x32), (.bool b33), v34, v35, v36, v37, v38, v39, v40, v41, v42, v43, v44, tz, tz, tz, tz, tz, tz, tz, tz, tz, tz, tz, tz, tz, tz, tz], (St.H s29)⟩ [2] [r77X1_0 C d a0 a1 v0 x31 x32 b33 v34 v35 v36 v37 v38 v39 v40 v41 v42 v43 v44] (r77E1 C d a0 a1 v0 x31 x32 b33 v34 v35 v36 v37 v38 v39 v40 v41 v42 v43 v44))
 (none)
def r77E0 (C : Cb) (d : Nat) (a0 a1 : Int) (v0 : AV) : St → Ans := fun s4 =>
 cnd ((List.length s4.env) == 34)
 (C.same s4.env[0]? (.agg [(iz a0), (.int .u64 a1)]) <|
 C.same s4.env[1]? v0 <|
 C.same s4.env[2]? (.zsl true) <|
 C.any s4.env[3]? fun v106 =>
 C.int .i64 s4.env[4]? fun x107 =>
 C.same s4.env[5]? tz <|
 C.any s4.env[6]? fun v108 =>
 C.any s4.env[7]? fun v109 =>
 C.any s4.env[8]? fun v110 =>
 C.any s4.env[9]? fun v111 =>
 C.any s4.env[10]? fun v112 =>
 C.any s4.env[11]? fun v113 =>
 C.any s4.env[12]? fun v114 =>
 C.any s4.env[13]? fun v115 =>
 C.any s4.env[14]? fun v116 =>
 C.any s4.env[15]? fun v117 =>
 C.any s4.env[16]? fun v118 =>
 C.any s4.env[17]? fun v119 =>
 C.any s4.env[18]? fun v120 =>
 C.same s4.env[19]? tz <|
 C.same s4.env[20]? tz <|
 C.same s4.env[21]? tz <|
 C.same s4.env[22]? tz <|
 C.same s4.env[23]? tz <|
 C.same s4.env[24]? tz <|
 C.same s4.env[25]? tz <|
 C.same s4.env[26]? tz <|
 C.same s4.env[27]? tz <|
 C.same s4.env[28]? tz <|
 C.same s4.env[29]? tz <|
 C.same s4.env[30]? tz <|
 C.same s4.env[31]? tz <|
 C.same s4.env[32]? tz <|
 C.same s4.env[33]? tz <|
 C.fin (St.H s4) (.zsl true))
 (none)
/-- apogee/apogeeref01.bits -/
theorem r77 (C : Cb) (d : Nat) (a0 a1 : Int) : xcall C M unr d 77 [(.agg [(iz a0), (.int .u64 a1)])] =
 C.hop [] (.box E98 (.v (.agg [(iz a0), (.int .u64 a1)]))) fun v0 h1 =>
 C.iter (r77R0 C d a0 a1 v0) 10000000000000000000 ⟨[(.agg [(iz a0), (.int .u64 a1)]), v0, (.zsl true), (.zsl true), (iz 0), tz, tz, tz, tz, tz, tz, tz, tz, tz, tz, tz, tz, tz, tz, tz, tz, tz, tz, tz, tz, tz, tz, tz, tz, tz, tz, tz, tz, tz], h1⟩ [0] [r77X0_0 C d a0 a1 v0] (r77E0 C d a0 a1 v0) := by kernel_rfl
def r78R0 (C : Cb) (d : Nat) (a0 : List AV) (v0 v2 : AV) : St → (Ex → St → Ans) → Ans := fun s6 k7 =>
 cnd ((List.length s6.env) == 36)
 (C.same s6.env[0]? (.lst a0) <|
 C.same s6.env[1]? tz <|
 C.same s6.env[2]? v0 <|
 C.same s6.env[3]? v2 <|
 C.int .u64 s6.env[4]? fun x9 =>
 C.int .i64 s6.env[5]? fun x10 =>
 C.same s6.env[6]? (.agg [(iz 0), (.int .u64 0)]) <|
 C.any s6.env[7]? fun v11 =>
 C.any s6.env[8]? fun v12 =>
 C.any s6.env[9]? fun v13 =>
 C.any s6.env[10]? fun v14 =>
 C.any s6.env[11]? fun v15 =>
 C.any s6.env[12]? fun v16 =>
 C.any s6.env[13]? fun v17 =>
 C.any s6.env[14]? fun v18 =>
 C.any s6.env[15]? fun v19 =>
 C.any s6.env[16]? fun v20 =>
 C.any s6.env[17]? fun v21 =>
 C.any s6.env[18]? fun v22 =>
 C.any s6.env[19]? fun v23 =>
 C.any s6.env[20]? fun v24 =>
 C.any s6.env[21]? fun v25 =>
 C.any s6.env[22]? fun v26 =>
 C.any s6.env[23]? fun v27 =>
 C.any s6.env[24]? fun v28 =>
 C.any s6.env[25]? fun v29 =>
 C.any s6.env[26]? fun v30 =>
 C.any s6.env[27]? fun v31 =>
 C.any s6.env[28]? fun v32 =>
 C.any s6.env[29]? fun v33 =>
 C.any s6.env[30]? fun v34 =>
 C.any s6.env[31]? fun v35 =>
 C.same s6.env[32]? tz <|
 C.same s6.env[33]? tz <|
 C.same s6.env[34]? tz <|
 C.same s6.env[35]? tz <|
 cnd (decide (x10 < 64))
 (C.hop (St.H s6) (.ixAS .any 1 (.v (.lst a0)) (.v (iz x10))) fun v36 h37 =>
 C.hop h37 (.load false 1 (.v v36)) fun v38 h39 =>
 C.int .i64 (some v38) fun x40 =>
 cnd (x40 == 1)
 (C.hop h39 (.fldA 1 (.v v2)) fun v41 h42 =>
 C.hop h42 (.load false 1 (.v v41)) fun v43 h44 =>
 C.int .u64 (some v43) fun x45 =>
 cnd (decide (x10 < 0))
 (none)
 (C.hop h44 (.fldA 1 (.v v2)) fun v46 h47 =>
 C.hop h47 (.store 1 (.v v46) (.v (.int .u64 (bits .or .u64 x45 (IntKind.wrap .u64 (1 * (2 ^ (min (Int.toNat x10) 64)))))))) fun v48 h49 =>
 C.hop h49 (.ixAS .any 1 (.v (.lst a0)) (.v (iz (IntKind.wrap .i64 (64 + x10))))) fun v50 h51 =>
 C.hop h51 (.load false 1 (.v v50)) fun v52 h53 =>
 C.int .i64 (some v52) fun x54 =>
 cnd (x54 == 1)
 (cnd (decide (x10 < 0))
 (none)
 (k7 .normal ⟨[(.lst a0), tz, v0, v2, (.int .u64 (bits .or .u64 x9 (IntKind.wrap .u64 (1 * (2 ^ (min (Int.toNat x10) 64)))))), (iz (IntKind.wrap .i64 (x10 + 1))), (.agg [(iz 0), (.int .u64 0)]), (iz x10), bt, (iz x10), (iz (IntKind.wrap .i64 (x10 + 1))), (.lst a0), (iz x10), v36, (iz x40), bt, v41, (.int .u64 x45), (iz x10), (.int .u64 (IntKind.wrap .u64 (1 * (2 ^ (min (Int.toNat x10) 64))))), (.int .u64 (bits .or .u64 x45 (IntKind.wrap .u64 (1 * (2 ^ (min (Int.toNat x10) 64)))))), v46, (.lst a0), (iz x10), (iz (IntKind.wrap .i64 (64 + x10))), v50, (iz x54), bt, (.int .u64 x9), (iz x10), (.int .u64 (IntKind.wrap .u64 (1 * (2 ^ (min (Int.toNat x10) 64))))), (.int .u64 (bits .or .u64 x9 (IntKind.wrap .u64 (1 * (2 ^ (min (Int.toNat x10) 64)))))), tz, tz, tz, tz], h53⟩))
 (k7 .normal ⟨[(.lst a0), tz, v0, v2, (.int .u64 x9), (iz (IntKind.wrap .i64 (x10 + 1))), (.agg [(iz 0), (.int .u64 0)]), (iz x10), bt, (iz x10), (iz (IntKind.wrap .i64 (x10 + 1))), (.lst a0), (iz x10), v36, (iz x40), bt, v41, (.int .u64 x45), (iz x10), (.int .u64 (IntKind.wrap .u64 (1 * (2 ^ (min (Int.toNat x10) 64))))), (.int .u64 (bits .or .u64 x45 (IntKind.wrap .u64 (1 * (2 ^ (min (Int.toNat x10) 64)))))), v46, (.lst a0), (iz x10), (iz (IntKind.wrap .i64 (64 + x10))), v50, (iz x54), bf, v32, v33, v34, v35, tz, tz, tz, tz], h53⟩)))
 (C.hop h39 (.ixAS .any 1 (.v (.lst a0)) (.v (iz (IntKind.wrap .i64 (64 + x10))))) fun v55 h56 =>
 C.hop h56 (.load false 1 (.v v55)) fun v57 h58 =>
 C.int .i64 (some v57) fun x59 =>
 cnd (x59 == 1)
 (cnd (decide (x10 < 0))
 (none)
 (k7 .normal ⟨[(.lst a0), tz, v0, v2, (.int .u64 (bits .or .u64 x9 (IntKind.wrap .u64 (1 * (2 ^ (min (Int.toNat x10) 64)))))), (iz (IntKind.wrap .i64 (x10 + 1))), (.agg [(iz 0), (.int .u64 0)]), (iz x10), bt, (iz x10), (iz (IntKind.wrap .i64 (x10 + 1))), (.lst a0), (iz x10), v36, (iz x40), bf, v20, v21, v22, v23, v24, v25, (.lst a0), (iz x10), (iz (IntKind.wrap .i64 (64 + x10))), v55, (iz x59), bt, (.int .u64 x9), (iz x10), (.int .u64 (IntKind.wrap .u64 (1 * (2 ^ (min (Int.toNat x10) 64))))), (.int .u64 (bits .or .u64 x9 (IntKind.wrap .u64 (1 * (2 ^ (min (Int.toNat x10) 64)))))), tz, tz, tz, tz], h58⟩))
 (k7 .normal ⟨[(.lst a0), tz, v0, v2, (.int .u64 x9), (iz (IntKind.wrap .i64 (x10 + 1))), (.agg [(iz 0), (.int .u64 0)]), (iz x10), bt, (iz x10), (iz (IntKind.wrap .i64 (x10 + 1))), (.lst a0), (iz x10), v36, (iz x40), bf, v20, v21, v22, v23, v24, v25, (.lst a0), (iz x10), (iz (IntKind.wrap .i64 (64 + x10))), v55, (iz x59), bf, v32, v33, v34, v35, tz, tz, tz, tz], h58⟩)))
 (k7 (.exit 0) ⟨[(.lst a0), tz, v0, v2, (.int .u64 x9), (iz x10), (.agg [(iz 0), (.int .u64 0)]), (iz x10), bf, v13, v14, v15, v16, v17, v18, v19, v20, v21, v22, v23, v24, v25, v26, v27, v28, v29, v30, v31, v32, v33, v34, v35, tz, tz, tz, tz], (St.H s6)⟩))
 (none)
def r78X0_0 (C : Cb) (d : Nat) (a0 : List AV) (v0 v2 : AV) : St → Ans := fun s60 =>
 cnd ((List.length s60.env) == 36)
 (C.same s60.env[0]? (.lst a0) <|
 C.same s60.env[1]? tz <|
 C.same s60.env[2]? v0 <|
 C.same s60.env[3]? v2 <|
 C.int .u64 s60.env[4]? fun x61 =>
 C.int .i64 s60.env[5]? fun x62 =>
 C.same s60.env[6]? (.agg [(iz 0), (.int .u64 0)]) <|
 C.int .i64 s60.env[7]? fun x63 =>
 C.bool s60.env[8]? fun b64 =>
 C.any s60.env[9]? fun v65 =>
 C.any s60.env[10]? fun v66 =>
 C.any s60.env[11]? fun v67 =>
 C.any s60.env[12]? fun v68 =>
 C.any s60.env[13]? fun v69 =>
 C.any s60.env[14]? fun v70 =>
 C.any s60.env[15]? fun v71 =>
 C.any s60.env[16]? fun v72 =>
 C.any s60.env[17]? fun v73 =>
 C.any s60.env[18]? fun v74 =>
 C.any s60.env[19]? fun v75 =>
 C.any s60.env[20]? fun v76 =>
 C.any s60.env[21]? fun v77 =>
 C.any s60.env[22]? fun v78 =>
 C.any s60.env[23]? fun v79 =>
 C.any s60.env[24]? fun v80 =>
 C.any s60.env[25]? fun v81 =>
 C.any s60.env[26]? fun v82 =>
 C.any s60.env[27]? fun v83 =>
 C.any s60.env[28]? fun v84 =>
 C.any s60.env[29]? fun v85 =>
 C.any s60.env[30]? fun v86 =>
 C.any s60.env[31]? fun v87 =>
 C.same s60.env[32]? tz <|
 C.same s60.env[33]? tz <|
 C.same s60.env[34]? tz <|
 C.same s60.env[35]? tz <|
 C.hop (St.H s60) (.fldA 0 (.v v2)) fun v88 h89 =>
 C.hop h89 (.store 1 (.v v88) (.v (iz (IntKind.wrap .i64 x61)))) fun v90 h91 =>
 C.hop h91 (.load true 2 (.v v2)) fun v92 h93 =>
 C.agg 2 (some v92) fun l94 =>
 C.int .i64 l94[0]? fun x95 =>
 C.int .u64 l94[1]? fun x96 =>
 C.hop h93 (.store 2 (.v v0) (.v (.agg [(iz x95), (.int .u64 x96)]))) fun v97 h98 =>
 C.hop h98 (.load true 2 (.v v0)) fun v99 h100 =>
 C.fin h98 v99)
 (none)
def r78E0 (C : Cb) (d : Nat) (a0 : List AV) (v0 v2 : AV) : St → Ans := fun s8 =>
 cnd ((List.length s8.env) == 36)
 (C.same s8.env[0]? (.lst a0) <|
 C.same s8.env[1]? tz <|
 C.same s8.env[2]? v0 <|
 C.same s8.env[3]? v2 <|
 C.int .u64 s8.env[4]? fun x101 =>
 C.int .i64 s8.env[5]? fun x102 =>
 C.same s8.env[6]? (.agg [(iz 0), (.int .u64 0)]) <|
 C.any s8.env[7]? fun v103 =>
 C.any s8.env[8]? fun v104 =>
 C.any s8.env[9]? fun v105 =>
 C.any s8.env[10]? fun v106 =>
 C.any s8.env[11]? fun v107 =>
 C.any s8.env[12]? fun v108 =>
 C.any s8.env[13]? fun v109 =>
 C.any s8.env[14]? fun v110 =>
 C.any s8.env[15]? fun v111 =>
 C.any s8.env[16]? fun v112 =>
 C.any s8.env[17]? fun v113 =>
 C.any s8.env[18]? fun v114 =>
 C.any s8.env[19]? fun v115 =>
 C.any s8.env[20]? fun v116 =>
 C.any s8.env[21]? fun v117 =>
 C.any s8.env[22]? fun v118 =>
 C.any s8.env[23]? fun v119 =>
 C.any s8.env[24]? fun v120 =>
 C.any s8.env[25]? fun v121 =>
 C.any s8.env[26]? fun v122 =>
 C.any s8.env[27]? fun v123 =>
 C.any s8.env[28]? fun v124 =>
 C.any s8.env[29]? fun v125 =>
 C.any s8.env[30]? fun v126 =>
 C.any s8.env[31]? fun v127 =>
 C.same s8.env[32]? tz <|
 C.same s8.env[33]? tz <|
 C.same s8.env[34]? tz <|
 C.same s8.env[35]? tz <|
 C.hop (St.H s8) (.load true 2 (.v v0)) fun v128 h129 =>
 C.fin (St.H s8) v128)
 (none)
/-- apogee/apogeeref01.value -/
theorem r78 (C : Cb) (d : Nat) (a0 : List AV) : xcall C M unr d 78 [(.lst a0)] =
 C.hop [] (.alloc E98) fun v0 h1 =>
 C.hop h1 (.alloc E98) fun v2 h3 =>
 C.hop h3 (.store 2 (.v v2) (.v (.agg [(iz 0), (.int .u64 0)]))) fun v4 h5 =>
 C.iter (r78R0 C d a0 v0 v2) 10000000000000000000 ⟨[(.lst a0), tz, v0, v2, (.int .u64 0), (iz 0), (.agg [(iz 0), (.int .u64 0)]), tz, tz, tz, tz, tz, tz, tz, tz, tz, tz, tz, tz, tz, tz, tz, tz, tz, tz, tz, tz, tz, tz, tz, tz, tz, tz, tz, tz, tz], h5⟩ [0] [r78X0_0 C d a0 v0 v2] (r78E0 C d a0 v0 v2) := by kernel_rfl
/-- apogee/point.right$1 -/
theorem r79 (C : Cb) (d : Nat) (a0 a1 : Int) : xcall C M unr d 79 [(.agg [(iz a0), (iz a1)])] =
 C.bool (pcall M d 62 [(.agg [(iz a0), (iz a1)])]) fun b0 =>
 some (.bool (!b0)) := by kernel_rfl
/-- apogee/wide.Mul -/
theorem r80 (C : Cb) (d : Nat) (a0 a1 : Int) : xcall C M unr d 80 [(iz a0), (iz a1)] =
 C.tup 2 (pcall M d 82 [(.int .u64 (IntKind.wrap .u64 a0)), (.int .u64 (IntKind.wrap .u64 a1))]) fun l0 =>
 C.int .u64 l0[0]? fun x1 =>
 C.int .u64 l0[1]? fun x2 =>
 cnd (decide (a0 < 0))
 (cnd (decide (a1 < 0))
 (some (.agg [(iz (IntKind.wrap .i64 (IntKind.wrap .u64 ((IntKind.wrap .u64 (x1 - (IntKind.wrap .u64 a1))) - (IntKind.wrap .u64 a0))))), (.int .u64 x2)]))
 (some (.agg [(iz (IntKind.wrap .i64 (IntKind.wrap .u64 (x1 - (IntKind.wrap .u64 a1))))), (.int .u64 x2)])))
 (cnd (decide (a1 < 0))
 (some (.agg [(iz (IntKind.wrap .i64 (IntKind.wrap .u64 (x1 - (IntKind.wrap .u64 a0))))), (.int .u64 x2)]))
 (some (.agg [(iz (IntKind.wrap .i64 x1)), (.int .u64 x2)]))) := by kernel_rfl
/-- (apogee/wide.Wide).Cmp -/
theorem r81 (C : Cb) (d : Nat) (a0 a1 a2 a3 : Int) : xcall C M unr d 81 [(.agg [(iz a0), (.int .u64 a1)]), (.agg [(iz a2), (.int .u64 a3)])] =
 C.int .i64 (pcall M d 84 [(iz a0), (iz a2)]) fun x0 =>
 C.int .i64 (pcall M d 85 [(.int .u64 a1), (.int .u64 a3)]) fun x1 =>
 C.int .i64 (pcall M d 83 [(.lst [(iz x0), (iz x1)])]) fun x2 =>
 some (iz x2) := by kernel_rfl
/-- math/bits.Mul64 -/
theorem r82 (C : Cb) (d : Nat) (a0 a1 : Int) : xcall C M unr d 82 [(.int .u64 a0), (.int .u64 a1)] =
 some (.tup [(.int .u64 (IntKind.wrap .u64 ((IntKind.wrap .u64 ((IntKind.wrap .u64 ((Int.fdiv a0 (2 ^ (min (Int.toNat 32) 64))) * (Int.fdiv a1 (2 ^ (min (Int.toNat 32) 64))))) + (Int.fdiv (IntKind.wrap .u64 ((IntKind.wrap .u64 ((Int.fdiv a0 (2 ^ (min (Int.toNat 32) 64))) * (bits .and .u64 a1 4294967295))) + (Int.fdiv (IntKind.wrap .u64 ((bits .and .u64 a0 4294967295) * (bits .and .u64 a1 4294967295))) (2 ^ (min (Int.toNat 32) 64))))) (2 ^ (min (Int.toNat 32) 64))))) + (Int.fdiv (IntKind.wrap .u64 ((bits .and .u64 (IntKind.wrap .u64 ((IntKind.wrap .u64 ((Int.fdiv a0 (2 ^ (min (Int.toNat 32) 64))) * (bits .and .u64 a1 4294967295))) + (Int.fdiv (IntKind.wrap .u64 ((bits .and .u64 a0 4294967295) * (bits .and .u64 a1 4294967295))) (2 ^ (min (Int.toNat 32) 64))))) 4294967295) + (IntKind.wrap .u64 ((bits .and .u64 a0 4294967295) * (Int.fdiv a1 (2 ^ (min (Int.toNat 32) 64))))))) (2 ^ (min (Int.toNat 32) 64)))))), (.int .u64 (IntKind.wrap .u64 (a0 * a1)))]) := by kernel_rfl
def r83R0 (C : Cb) (d : Nat) (a0 : List AV) : St → (Ex → St → Ans) → Ans := fun s0 k1 =>
 cnd ((List.length s0.env) == 18)
 (C.same s0.env[0]? (.lst a0) <|
 C.same s0.env[1]? tz <|
 C.int .i64 s0.env[2]? fun x3 =>
 C.same s0.env[3]? (iz 0) <|
 C.same s0.env[4]? tz <|
 C.any s0.env[5]? fun v4 =>
 C.same s0.env[6]? (.lst a0) <|
 C.same s0.env[7]? (iz (((List.length a0) : Nat) : Int)) <|
 C.int .i64 s0.env[8]? fun x5 =>
 C.any s0.env[9]? fun v6 =>
 C.any s0.env[10]? fun v7 =>
 C.any s0.env[11]? fun v8 =>
 C.any s0.env[12]? fun v9 =>
 C.any s0.env[13]? fun v10 =>
 C.any s0.env[14]? fun v11 =>
 C.any s0.env[15]? fun v12 =>
 C.any s0.env[16]? fun v13 =>
 C.same s0.env[17]? tz <|
 C.sameH (St.H s0) [] <|
 cnd (decide (x5 < (((List.length a0) : Nat) : Int)))
 (cnd (decide ((0 : Int) ≤ x5))
 (C.int .i64 a0[(Int.toNat x5)]? fun x14 =>
 cnd (x14 != 0)
 (k1 .ret ⟨[(.lst a0), tz, (iz x14), (iz 0), tz, (iz x14), (.lst a0), (iz (((List.length a0) : Nat) : Int)), (iz x5), bt, (.fptr (iz x14) 0), (iz x14), (iz x14), (iz 0), bt, (iz x14), v13, tz], []⟩)
 (k1 .normal ⟨[(.lst a0), tz, (iz x3), (iz 0), tz, (iz x14), (.lst a0), (iz (((List.length a0) : Nat) : Int)), (iz (IntKind.wrap .i64 (x5 + 1))), bt, (.fptr (iz x14) 0), (iz x14), (iz x14), (iz 0), bf, v12, (iz (IntKind.wrap .i64 (x5 + 1))), tz], []⟩))
 (none))
 (k1 (.exit 0) ⟨[(.lst a0), tz, (iz x3), (iz 0), tz, v4, (.lst a0), (iz (((List.length a0) : Nat) : Int)), (iz x5), bf, v7, v8, v9, v10, v11, v12, v13, tz], []⟩))
 (none)
def r83X0_0 (C : Cb) (d : Nat) (a0 : List AV) : St → Ans := fun s15 =>
 cnd ((List.length s15.env) == 18)
 (C.same s15.env[0]? (.lst a0) <|
 C.same s15.env[1]? tz <|
 C.int .i64 s15.env[2]? fun x16 =>
 C.same s15.env[3]? (iz 0) <|
 C.same s15.env[4]? tz <|
 C.any s15.env[5]? fun v17 =>
 C.same s15.env[6]? (.lst a0) <|
 C.same s15.env[7]? (iz (((List.length a0) : Nat) : Int)) <|
 C.int .i64 s15.env[8]? fun x18 =>
 C.any s15.env[9]? fun v19 =>
 C.any s15.env[10]? fun v20 =>
 C.any s15.env[11]? fun v21 =>
 C.any s15.env[12]? fun v22 =>
 C.any s15.env[13]? fun v23 =>
 C.any s15.env[14]? fun v24 =>
 C.any s15.env[15]? fun v25 =>
 C.any s15.env[16]? fun v26 =>
 C.same s15.env[17]? tz <|
 C.sameH (St.H s15) [] <|
 some (iz 0))
 (none)
def r83E0 (C : Cb) (d : Nat) (a0 : List AV) : St → Ans := fun s2 =>
 cnd ((List.length s2.env) == 18)
 (C.same s2.env[0]? (.lst a0) <|
 C.same s2.env[1]? tz <|
 C.int .i64 s2.env[2]? fun x27 =>
 C.same s2.env[3]? (iz 0) <|
 C.same s2.env[4]? tz <|
 C.int .i64 s2.env[5]? fun x28 =>
 C.same s2.env[6]? (.lst a0) <|
 C.same s2.env[7]? (iz (((List.length a0) : Nat) : Int)) <|
 C.int .i64 s2.env[8]? fun x29 =>
 C.any s2.env[9]? fun v30 =>
 C.any s2.env[10]? fun v31 =>
 C.int .i64 s2.env[11]? fun x32 =>
 C.int .i64 s2.env[12]? fun x33 =>
 C.int .i64 s2.env[13]? fun x34 =>
 C.bool s2.env[14]? fun b35 =>
 C.int .i64 s2.env[15]? fun x36 =>
 C.any s2.env[16]? fun v37 =>
 C.same s2.env[17]? tz <|
 C.sameH (St.H s2) [] <|
 some (iz x27))
 (none)
/-- cmp.Or[int] -/
theorem r83 (C : Cb) (d : Nat) (a0 : List AV) : xcall C M unr d 83 [(.lst a0)] =
 C.iter (r83R0 C d a0) 10000000000000000000 ⟨[(.lst a0), tz, (iz 0), (iz 0), tz, tz, (.lst a0), (iz (((List.length a0) : Nat) : Int)), (iz 0), tz, tz, tz, tz, tz, tz, tz, tz, tz], []⟩ [0] [r83X0_0 C d a0] (r83E0 C d a0) := by kernel_rfl
/-- cmp.Compare[int64] -/
theorem r84 (C : Cb) (d : Nat) (a0 a1 : Int) : xcall C M unr d 84 [(iz a0), (iz a1)] =
 C.bool (pcall M d 86 [(iz a0)]) fun b0 =>
 C.bool (pcall M d 86 [(iz a1)]) fun b1 =>
 cnd b0
 (cnd b1
 (some (iz 0))
 (some (iz (-1))))
 (cnd b1
 (some (iz 1))
 (cnd (decide (a0 < a1))
 (some (iz (-1)))
 (cnd (decide (a0 > a1))
 (some (iz 1))
 (some (iz 0))))) := by kernel_rfl
/-- cmp.Compare[uint64] -/
theorem r85 (C : Cb) (d : Nat) (a0 a1 : Int) : xcall C M unr d 85 [(.int .u64 a0), (.int .u64 a1)] =
 C.bool (pcall M d 87 [(.int .u64 a0)]) fun b0 =>
 C.bool (pcall M d 87 [(.int .u64 a1)]) fun b1 =>
 cnd b0
 (cnd b1
 (some (iz 0))
 (some (iz (-1))))
 (cnd b1
 (some (iz 1))
 (cnd (decide (a0 < a1))
 (some (iz (-1)))
 (cnd (decide (a0 > a1))
 (some (iz 1))
 (some (iz 0))))) := by kernel_rfl
/-- cmp.isNaN[int64] -/
theorem r86 (C : Cb) (d : Nat) (a0 : Int) : xcall C M unr d 86 [(iz a0)] =
 some (.bool (a0 != a0)) := by kernel_rfl
/-- cmp.isNaN[uint64] -/
theorem r87 (C : Cb) (d : Nat) (a0 : Int) : xcall C M unr d 87 [(.int .u64 a0)] =
 some (.bool (a0 != a0)) := by kernel_rfl
end Go.Proofs.Ytdceaeifcniabaa.AE

namespace Go.Proofs.Ytdceaeifcniabaa.AE
set_option linter.unusedVariables false
set_option linter.unusedSimpArgs false
set_option linter.constructorNameAsVariable false
open Go
set_option maxRecDepth 100000
set_option maxHeartbeats 0
noncomputable def X64f79_0_0 (d : Nat) (a0 : List AV)  : Ans :=
  some (iz (-1))
theorem X64f79_0_0_ok (d : Nat) (a0 : List AV) (x21 : Int) (v22 : AV) (x23 : Int) (v24 v25 v26 v27 v28 v29 v30 v31 v32 v33 : AV) : r64f79X0_0 C0 d a0 ⟨[(.lst a0), (.fn 79 [] []), tz, tz, (iz x21), v22, (.lst a0), (iz (((List.length a0) : Nat) : Int)), (iz x23), v24, v25, v26, v27, v28, v29, v30, v31, v32, v33], []⟩ = X64f79_0_0 d a0  := by
  unfold r64f79X0_0; refine Eq.trans (pl_len (by rfl)) ?_; (iterate 4 (refine yt yS ?_)); refine yt yI ?_; refine yt yA ?_; (iterate 2 (refine yt yS ?_)); refine yt yI ?_; (iterate 10 (refine yt yA ?_)); refine Eq.trans (pl_sameH) ?_
  rfl
noncomputable def E64f79_0 (d : Nat) (a0 : List AV) (x34 : Int) : Ans :=
  some (iz x34)
theorem E64f79_0_ok (d : Nat) (a0 : List AV) (x34 x35 x36 : Int) (v37 : AV) (x38 : Int) (v39 v40 : AV) (x41 : Int) (v42 : AV) (x44 x45 : Int) (b46 : Bool) (x47 : Int) (v48 : AV) : r64f79E0 C0 d a0 ⟨[(.lst a0), (.fn 79 [] []), tz, tz, (iz x34), (iz x35), (.lst a0), (iz (((List.length a0) : Nat) : Int)), (iz x36), v37, (iz x38), v39, v40, (iz x41), v42, (.agg [(iz x44), (iz x45)]), (.bool b46), (iz x47), v48], []⟩ = E64f79_0 d a0 x34 := by
  unfold r64f79E0; refine Eq.trans (pl_len (by rfl)) ?_; (iterate 4 (refine yt yS ?_)); (iterate 2 (refine yt yI ?_)); (iterate 2 (refine yt yS ?_)); refine yt yI ?_; refine yt yA ?_; refine yt yI ?_; (iterate 2 (refine yt yA ?_)); refine yt yI ?_; refine yt yA ?_; refine yt yG ?_; (iterate 2 (refine yt yI ?_)); refine yt yB ?_; refine yt yI ?_; refine yt yA ?_; refine Eq.trans (pl_sameH) ?_
  rfl
noncomputable def L64f79_0 (d : Nat) (a0 : List AV) : Nat → Int → Ans
  | 0, _ => none
  | n + 1, x5 =>
  cnd (decide (x5 < (((List.length a0) : Nat) : Int)))
   (cnd (decide ((0 : Int) ≤ x5))
   (C0.agg 2 a0[(Int.toNat x5)]? fun l16 =>
   C0.int .i64 l16[0]? fun x17 =>
   C0.int .i64 l16[1]? fun x18 =>
   C0.bool (pcall M d 79 [(.agg [(iz x17), (iz x18)])]) fun b19 =>
   cnd b19
   (E64f79_0 d a0 x5)
   (L64f79_0 d a0 n (IntKind.wrap .i64 (x5 + 1))))
   (none))
   (X64f79_0_0 d a0)
theorem L64f79_0_s (d : Nat) (a0 : List AV) (n : Nat) (x5 : Int) : L64f79_0 d a0 (n + 1) x5 = (cnd (decide (x5 < (((List.length a0) : Nat) : Int)))
   (cnd (decide ((0 : Int) ≤ x5))
   (C0.agg 2 a0[(Int.toNat x5)]? fun l16 =>
   C0.int .i64 l16[0]? fun x17 =>
   C0.int .i64 l16[1]? fun x18 =>
   C0.bool (pcall M d 79 [(.agg [(iz x17), (iz x18)])]) fun b19 =>
   cnd b19
   (E64f79_0 d a0 x5)
   (L64f79_0 d a0 n (IntKind.wrap .i64 (x5 + 1))))
   (none))
   (X64f79_0_0 d a0)) := by kernel_rfl
theorem it64f79_0 (d : Nat) (a0 : List AV)   : ∀ (n : Nat) (x3 : Int) (v4 : AV) (x5 : Int) (v6 v7 v8 v9 v10 v11 v12 v13 v14 v15 : AV), C0.iter (r64f79R0 C0 d a0) n ⟨[(.lst a0), (.fn 79 [] []), tz, tz, (iz x3), v4, (.lst a0), (iz (((List.length a0) : Nat) : Int)), (iz x5), v6, v7, v8, v9, v10, v11, v12, v13, v14, v15], []⟩ [0] [r64f79X0_0 C0 d a0] (r64f79E0 C0 d a0) = L64f79_0 d a0 n x5 := by
  generalize hR : r64f79R0 C0 d a0 = R
  intro n
  induction n with
  | zero => intros; rfl
  | succ n ih =>
    intro x3 v4 x5 v6 v7 v8 v9 v10 v11 v12 v13 v14 v15
    simp only [it_ret] at ih
    rw [it_ret, xiter_s]
    refine Eq.trans (congrFun (congrFun hR.symm _) _) ?_
    unfold r64f79R0
    refine Eq.trans (pl_len (by rfl)) ?_; (iterate 4 (refine yt yS ?_)); refine yt yI ?_; refine yt yA ?_; (iterate 2 (refine yt yS ?_)); refine yt yI ?_; (iterate 10 (refine yt yA ?_)); refine Eq.trans (pl_sameH) ?_
    simp only [kIter_n, kIter_x, kIter_r, kOut_x, kOut_r, xgo_hit, xgo_miss, ih, X64f79_0_0_ok d a0  , E64f79_0_ok d a0  ]
    exact (L64f79_0_s d a0 n x5).symm
/-- slices.IndexFunc[[]apogee/api.Point,apogee/api.Point] -/
theorem q64f79 (d : Nat) (a0 : List AV) (a1 : AV) : xcall C0 M unr d 64 [(.lst a0), (.fn 79 [] [])] =
  L64f79_0 d a0 10000000000000000000 0 := (r64f79 C0 d a0 a1).trans (by simp only [it64f79_0])
noncomputable def X66_0_0 (d : Nat) (a1 : Int) (v0 v5 v9 : AV) (H : Heap) : Ans :=
  cnd (decide (a1 < 0))
   (C0.hop H (.load true 2 (.v v9)) fun v94 h95 =>
   C0.agg 2 (some v94) fun l96 =>
   C0.int .i64 l96[0]? fun x97 =>
   C0.int .u64 l96[1]? fun x98 =>
   C0.hop h95 (.load true 2 (.v v5)) fun v99 h100 =>
   C0.agg 2 (some v99) fun l101 =>
   C0.int .i64 l101[0]? fun x102 =>
   C0.int .u64 l101[1]? fun x103 =>
   C0.agg 2 (pcall M d 73 [(.agg [(iz x102), (.int .u64 x103)])]) fun l104 =>
   C0.int .i64 l104[0]? fun x105 =>
   C0.int .u64 l104[1]? fun x106 =>
   C0.agg 2 (pcall M d 72 [(.agg [(iz x97), (.int .u64 x98)]), (.agg [(iz x105), (.int .u64 x106)])]) fun l107 =>
   C0.int .i64 l107[0]? fun x108 =>
   C0.int .u64 l107[1]? fun x109 =>
   C0.hop h100 (.store 2 (.v v9) (.v (.agg [(iz x108), (.int .u64 x109)]))) fun v110 h111 =>
   C0.hop h111 (.load true 2 (.v v9)) fun v112 h113 =>
   C0.agg 2 (some v112) fun l114 =>
   C0.int .i64 l114[0]? fun x115 =>
   C0.int .u64 l114[1]? fun x116 =>
   C0.hop h113 (.store 2 (.v v0) (.v (.agg [(iz x115), (.int .u64 x116)]))) fun v117 h118 =>
   C0.hop h118 (.load true 2 (.v v0)) fun v119 h120 =>
   C0.fin h118 v119)
   (C0.hop H (.load true 2 (.v v9)) fun v121 h122 =>
   C0.agg 2 (some v121) fun l123 =>
   C0.int .i64 l123[0]? fun x124 =>
   C0.int .u64 l123[1]? fun x125 =>
   C0.hop h122 (.store 2 (.v v0) (.v (.agg [(iz x124), (.int .u64 x125)]))) fun v126 h127 =>
   C0.hop h127 (.load true 2 (.v v0)) fun v128 h129 =>
   C0.fin h127 v128)
theorem X66_0_0_ok (d : Nat) (a0 a1 : Int) (v0 : AV) (x3 x4 : Int) (v5 v9 : AV) (x78 x79 : Int) (b80 : Bool) (v81 v82 v83 v84 v85 v86 v87 v88 v89 v90 v91 v92 v93 : AV) (H : Heap) : r66X0_0 C0 d a0 a1 v0 x3 x4 v5 v9 ⟨[(iz a0), (iz a1), tz, tz, v0, v5, v9, (.int .u64 (IntKind.wrap .u64 a1)), (iz x78), (iz a0), (.agg [(iz x3), (.int .u64 x4)]), (.agg [(iz 0), (.int .u64 0)]), (iz a1), (.int .u64 (IntKind.wrap .u64 a1)), (iz x79), (.bool b80), v81, v82, v83, v84, v85, v86, v87, v88, v89, v90, v91, v92, v93, tz, tz, tz, tz, tz, tz, tz], H⟩ = X66_0_0 d a1 v0 v5 v9 H := by
  unfold r66X0_0; refine Eq.trans (pl_len (by rfl)) ?_; (iterate 8 (refine yt yS ?_)); refine yt yI ?_; (iterate 5 (refine yt yS ?_)); refine yt yI ?_; refine yt yB ?_; (iterate 13 (refine yt yA ?_)); (iterate 7 (refine yt yS ?_))
  rfl
noncomputable def L66_0 (d : Nat) (a1 : Int) (v0 v5 v9 : AV) : Nat → Int → Heap → Ans
  | 0, _, _ => none
  | n + 1, x16, H =>
  cnd (decide (x16 < 64))
   (cnd (decide (x16 < 0))
   (none)
   (cnd ((bits .and .u64 (Int.fdiv (IntKind.wrap .u64 a1) (2 ^ (min (Int.toNat x16) 64))) 1) == 1)
   (C0.hop H (.load true 2 (.v v9)) fun v32 h33 =>
   C0.agg 2 (some v32) fun l34 =>
   C0.int .i64 l34[0]? fun x35 =>
   C0.int .u64 l34[1]? fun x36 =>
   C0.hop h33 (.load true 2 (.v v5)) fun v37 h38 =>
   C0.agg 2 (some v37) fun l39 =>
   C0.int .i64 l39[0]? fun x40 =>
   C0.int .u64 l39[1]? fun x41 =>
   C0.agg 2 (pcall M d 72 [(.agg [(iz x35), (.int .u64 x36)]), (.agg [(iz x40), (.int .u64 x41)])]) fun l42 =>
   C0.int .i64 l42[0]? fun x43 =>
   C0.int .u64 l42[1]? fun x44 =>
   C0.hop h38 (.store 2 (.v v9) (.v (.agg [(iz x43), (.int .u64 x44)]))) fun v45 h46 =>
   C0.hop h46 (.load true 2 (.v v5)) fun v47 h48 =>
   C0.agg 2 (some v47) fun l49 =>
   C0.int .i64 l49[0]? fun x50 =>
   C0.int .u64 l49[1]? fun x51 =>
   C0.hop h48 (.load true 2 (.v v5)) fun v52 h53 =>
   C0.agg 2 (some v52) fun l54 =>
   C0.int .i64 l54[0]? fun x55 =>
   C0.int .u64 l54[1]? fun x56 =>
   C0.agg 2 (pcall M d 72 [(.agg [(iz x50), (.int .u64 x51)]), (.agg [(iz x55), (.int .u64 x56)])]) fun l57 =>
   C0.int .i64 l57[0]? fun x58 =>
   C0.int .u64 l57[1]? fun x59 =>
   C0.hop h53 (.store 2 (.v v5) (.v (.agg [(iz x58), (.int .u64 x59)]))) fun v60 h61 =>
   L66_0 d a1 v0 v5 v9 n (IntKind.wrap .i64 (x16 + 1)) h61)
   (C0.hop H (.load true 2 (.v v5)) fun v62 h63 =>
   C0.agg 2 (some v62) fun l64 =>
   C0.int .i64 l64[0]? fun x65 =>
   C0.int .u64 l64[1]? fun x66 =>
   C0.hop h63 (.load true 2 (.v v5)) fun v67 h68 =>
   C0.agg 2 (some v67) fun l69 =>
   C0.int .i64 l69[0]? fun x70 =>
   C0.int .u64 l69[1]? fun x71 =>
   C0.agg 2 (pcall M d 72 [(.agg [(iz x65), (.int .u64 x66)]), (.agg [(iz x70), (.int .u64 x71)])]) fun l72 =>
   C0.int .i64 l72[0]? fun x73 =>
   C0.int .u64 l72[1]? fun x74 =>
   C0.hop h68 (.store 2 (.v v5) (.v (.agg [(iz x73), (.int .u64 x74)]))) fun v75 h76 =>
   L66_0 d a1 v0 v5 v9 n (IntKind.wrap .i64 (x16 + 1)) h76)))
   (X66_0_0 d a1 v0 v5 v9 H)
theorem L66_0_s (d : Nat) (a1 : Int) (v0 v5 v9 : AV) (n : Nat) (x16 : Int) (H : Heap) : L66_0 d a1 v0 v5 v9 (n + 1) x16 H = (cnd (decide (x16 < 64))
   (cnd (decide (x16 < 0))
   (none)
   (cnd ((bits .and .u64 (Int.fdiv (IntKind.wrap .u64 a1) (2 ^ (min (Int.toNat x16) 64))) 1) == 1)
   (C0.hop H (.load true 2 (.v v9)) fun v32 h33 =>
   C0.agg 2 (some v32) fun l34 =>
   C0.int .i64 l34[0]? fun x35 =>
   C0.int .u64 l34[1]? fun x36 =>
   C0.hop h33 (.load true 2 (.v v5)) fun v37 h38 =>
   C0.agg 2 (some v37) fun l39 =>
   C0.int .i64 l39[0]? fun x40 =>
   C0.int .u64 l39[1]? fun x41 =>
   C0.agg 2 (pcall M d 72 [(.agg [(iz x35), (.int .u64 x36)]), (.agg [(iz x40), (.int .u64 x41)])]) fun l42 =>
   C0.int .i64 l42[0]? fun x43 =>
   C0.int .u64 l42[1]? fun x44 =>
   C0.hop h38 (.store 2 (.v v9) (.v (.agg [(iz x43), (.int .u64 x44)]))) fun v45 h46 =>
   C0.hop h46 (.load true 2 (.v v5)) fun v47 h48 =>
   C0.agg 2 (some v47) fun l49 =>
   C0.int .i64 l49[0]? fun x50 =>
   C0.int .u64 l49[1]? fun x51 =>
   C0.hop h48 (.load true 2 (.v v5)) fun v52 h53 =>
   C0.agg 2 (some v52) fun l54 =>
   C0.int .i64 l54[0]? fun x55 =>
   C0.int .u64 l54[1]? fun x56 =>
   C0.agg 2 (pcall M d 72 [(.agg [(iz x50), (.int .u64 x51)]), (.agg [(iz x55), (.int .u64 x56)])]) fun l57 =>
   C0.int .i64 l57[0]? fun x58 =>
   C0.int .u64 l57[1]? fun x59 =>
   C0.hop h53 (.store 2 (.v v5) (.v (.agg [(iz x58), (.int .u64 x59)]))) fun v60 h61 =>
   L66_0 d a1 v0 v5 v9 n (IntKind.wrap .i64 (x16 + 1)) h61)
   (C0.hop H (.load true 2 (.v v5)) fun v62 h63 =>
   C0.agg 2 (some v62) fun l64 =>
   C0.int .i64 l64[0]? fun x65 =>
   C0.int .u64 l64[1]? fun x66 =>
   C0.hop h63 (.load true 2 (.v v5)) fun v67 h68 =>
   C0.agg 2 (some v67) fun l69 =>
   C0.int .i64 l69[0]? fun x70 =>
   C0.int .u64 l69[1]? fun x71 =>
   C0.agg 2 (pcall M d 72 [(.agg [(iz x65), (.int .u64 x66)]), (.agg [(iz x70), (.int .u64 x71)])]) fun l72 =>
   C0.int .i64 l72[0]? fun x73 =>
   C0.int .u64 l72[1]? fun x74 =>
   C0.hop h68 (.store 2 (.v v5) (.v (.agg [(iz x73), (.int .u64 x74)]))) fun v75 h76 =>
   L66_0 d a1 v0 v5 v9 n (IntKind.wrap .i64 (x16 + 1)) h76)))
   (X66_0_0 d a1 v0 v5 v9 H)) := by kernel_rfl
theorem it66_0 (d : Nat) (a0 a1 : Int) (v0 : AV) (x3 x4 : Int) (v5 v9 : AV)   : ∀ (n : Nat) (x16 : Int) (v17 v18 v19 v20 v21 v22 v23 v24 v25 v26 v27 v28 v29 v30 v31 : AV) (H : Heap), C0.iter (r66R0 C0 d a0 a1 v0 x3 x4 v5 v9) n ⟨[(iz a0), (iz a1), tz, tz, v0, v5, v9, (.int .u64 (IntKind.wrap .u64 a1)), (iz x16), (iz a0), (.agg [(iz x3), (.int .u64 x4)]), (.agg [(iz 0), (.int .u64 0)]), (iz a1), (.int .u64 (IntKind.wrap .u64 a1)), v17, v18, v19, v20, v21, v22, v23, v24, v25, v26, v27, v28, v29, v30, v31, tz, tz, tz, tz, tz, tz, tz], H⟩ [0] [r66X0_0 C0 d a0 a1 v0 x3 x4 v5 v9] (r66E0 C0 d a0 a1 v0 x3 x4 v5 v9) = L66_0 d a1 v0 v5 v9 n x16 H := by
  generalize hR : r66R0 C0 d a0 a1 v0 x3 x4 v5 v9 = R
  intro n
  induction n with
  | zero => intros; rfl
  | succ n ih =>
    intro x16 v17 v18 v19 v20 v21 v22 v23 v24 v25 v26 v27 v28 v29 v30 v31 H
    simp only [it_ret] at ih
    rw [it_ret, xiter_s]
    refine Eq.trans (congrFun (congrFun hR.symm _) _) ?_
    unfold r66R0
    refine Eq.trans (pl_len (by rfl)) ?_; (iterate 8 (refine yt yS ?_)); refine yt yI ?_; (iterate 5 (refine yt yS ?_)); (iterate 15 (refine yt yA ?_)); (iterate 7 (refine yt yS ?_))
    simp only [kIter_n, kIter_x, kIter_r, kOut_x, kOut_r, xgo_hit, xgo_miss, ih, X66_0_0_ok d a0 a1 v0 x3 x4 v5 v9  ]
    exact (L66_0_s d a1 v0 v5 v9 n x16 H).symm
/-- apogee/apogeeref01.Mul -/
theorem q66 (d : Nat) (a0 a1 : Int) : xcall C0 M unr d 66 [(iz a0), (iz a1)] =
  C0.hop [] (.alloc E98) fun v0 h1 =>
  C0.agg 2 (pcall M d 71 [(iz a0)]) fun l2 =>
  C0.int .i64 l2[0]? fun x3 =>
  C0.int .u64 l2[1]? fun x4 =>
  C0.hop h1 (.alloc E98) fun v5 h6 =>
  C0.hop h6 (.store 2 (.v v5) (.v (.agg [(iz x3), (.int .u64 x4)]))) fun v7 h8 =>
  C0.hop h8 (.alloc E98) fun v9 h10 =>
  C0.hop h10 (.store 2 (.v v9) (.v (.agg [(iz 0), (.int .u64 0)]))) fun v11 h12 =>
  L66_0 d a1 v0 v5 v9 10000000000000000000 0 h12 := (r66 C0 d a0 a1).trans (by simp only [it66_0])
noncomputable def X72_0_0 (d : Nat) (v4 v11 v17 v62 : AV) (H : Heap) : Ans :=
  C0.snp H [v62] fun l88 b89 =>
   C0.agg 2 (pcall M d 78 l88) fun l90 =>
   C0.int .i64 l90[0]? fun x91 =>
   C0.int .u64 l90[1]? fun x92 =>
   cnd (b89 || true)
   (C0.hop H (.store 2 (.v v4) (.v (.agg [(iz x91), (.int .u64 x92)]))) fun v93 h94 =>
   C0.hop h94 (.load true 2 (.v v4)) fun v95 h96 =>
   C0.fin h94 v95)
   (none)
theorem X72_0_0_ok (d : Nat) (a0 a1 a2 a3 : Int) (v0 v2 v4 : AV) (x9 x10 : Int) (v11 : AV) (x15 x16 : Int) (v17 v62 : AV) (x63 x64 : Int) (v65 : AV) (x66 : Int) (b67 : Bool) (v68 v69 v70 v71 v72 v73 v74 v75 v76 v77 v78 v79 v80 v81 v82 v83 v84 v85 v86 v87 : AV) (H : Heap) : r72X0_0 C0 d a0 a1 a2 a3 v0 v2 v4 x9 x10 v11 x15 x16 v17 ⟨[(.agg [(iz a0), (.int .u64 a1)]), (.agg [(iz a2), (.int .u64 a3)]), v0, v2, v4, v11, v17, v62, (iz x63), (iz x64), v65, (.agg [(iz x9), (.int .u64 x10)]), v11, (.agg [(iz x15), (.int .u64 x16)]), v17, (iz x66), (.bool b67), v68, v69, v70, v71, v72, v73, v74, v75, v76, v77, v78, v79, v80, v81, v82, v83, v84, v85, v86, v87, tz, tz], H⟩ = X72_0_0 d v4 v11 v17 v62 H := by
  unfold r72X0_0; refine Eq.trans (pl_len (by rfl)) ?_; (iterate 7 (refine yt yS ?_)); refine yt yA ?_; (iterate 2 (refine yt yI ?_)); refine yt yA ?_; (iterate 4 (refine yt yS ?_)); refine yt yI ?_; refine yt yB ?_; (iterate 20 (refine yt yA ?_)); (iterate 2 (refine yt yS ?_))
  rfl
noncomputable def L72_0 (d : Nat) (v4 v11 v17 : AV) : Nat → AV → Int → Int → Heap → Ans
  | 0, _, _, _, _ => none
  | n + 1, v21, x22, x23, H =>
  cnd (decide (x23 < 128))
   (C0.hop H (.ixAS .any 1 (.v v11) (.v (iz x23))) fun v47 h48 =>
   C0.hop h48 (.load false 1 (.v v47)) fun v49 h50 =>
   C0.int .i64 (some v49) fun x51 =>
   C0.hop h50 (.ixAS .any 1 (.v v17) (.v (iz x23))) fun v52 h53 =>
   C0.hop h53 (.load false 1 (.v v52)) fun v54 h55 =>
   C0.int .i64 (some v54) fun x56 =>
   C0.hop h55 (.mkrow E3 1 [(0, (.v (iz (Int.tmod (IntKind.wrap .i64 ((IntKind.wrap .i64 (x51 + x56)) + x22)) 2))))]) fun v57 h58 =>
   C0.hop h58 (.app E3 (.v v21) (.v v57)) fun v59 h60 =>
   L72_0 d v4 v11 v17 n v59 (IntKind.wrap .i64 (Int.tdiv (IntKind.wrap .i64 ((IntKind.wrap .i64 (x51 + x56)) + x22)) 2)) (IntKind.wrap .i64 (x23 + 1)) h60)
   (X72_0_0 d v4 v11 v17 v21 H)
theorem L72_0_s (d : Nat) (v4 v11 v17 : AV) (n : Nat) (v21 : AV) (x22 x23 : Int) (H : Heap) : L72_0 d v4 v11 v17 (n + 1) v21 x22 x23 H = (cnd (decide (x23 < 128))
   (C0.hop H (.ixAS .any 1 (.v v11) (.v (iz x23))) fun v47 h48 =>
   C0.hop h48 (.load false 1 (.v v47)) fun v49 h50 =>
   C0.int .i64 (some v49) fun x51 =>
   C0.hop h50 (.ixAS .any 1 (.v v17) (.v (iz x23))) fun v52 h53 =>
   C0.hop h53 (.load false 1 (.v v52)) fun v54 h55 =>
   C0.int .i64 (some v54) fun x56 =>
   C0.hop h55 (.mkrow E3 1 [(0, (.v (iz (Int.tmod (IntKind.wrap .i64 ((IntKind.wrap .i64 (x51 + x56)) + x22)) 2))))]) fun v57 h58 =>
   C0.hop h58 (.app E3 (.v v21) (.v v57)) fun v59 h60 =>
   L72_0 d v4 v11 v17 n v59 (IntKind.wrap .i64 (Int.tdiv (IntKind.wrap .i64 ((IntKind.wrap .i64 (x51 + x56)) + x22)) 2)) (IntKind.wrap .i64 (x23 + 1)) h60)
   (X72_0_0 d v4 v11 v17 v21 H)) := by kernel_rfl
theorem it72_0 (d : Nat) (a0 a1 a2 a3 : Int) (v0 v2 v4 : AV) (x9 x10 : Int) (v11 : AV) (x15 x16 : Int) (v17 : AV)   : ∀ (n : Nat) (v21 : AV) (x22 x23 : Int) (v24 v25 v26 v27 v28 v29 v30 v31 v32 v33 v34 v35 v36 v37 v38 v39 v40 v41 v42 v43 v44 v45 v46 : AV) (H : Heap), C0.iter (r72R0 C0 d a0 a1 a2 a3 v0 v2 v4 x9 x10 v11 x15 x16 v17) n ⟨[(.agg [(iz a0), (.int .u64 a1)]), (.agg [(iz a2), (.int .u64 a3)]), v0, v2, v4, v11, v17, v21, (iz x22), (iz x23), v24, (.agg [(iz x9), (.int .u64 x10)]), v11, (.agg [(iz x15), (.int .u64 x16)]), v17, v25, v26, v27, v28, v29, v30, v31, v32, v33, v34, v35, v36, v37, v38, v39, v40, v41, v42, v43, v44, v45, v46, tz, tz], H⟩ [0] [r72X0_0 C0 d a0 a1 a2 a3 v0 v2 v4 x9 x10 v11 x15 x16 v17] (r72E0 C0 d a0 a1 a2 a3 v0 v2 v4 x9 x10 v11 x15 x16 v17) = L72_0 d v4 v11 v17 n v21 x22 x23 H := by
  generalize hR : r72R0 C0 d a0 a1 a2 a3 v0 v2 v4 x9 x10 v11 x15 x16 v17 = R
  intro n
  induction n with
  | zero => intros; rfl
  | succ n ih =>
    intro v21 x22 x23 v24 v25 v26 v27 v28 v29 v30 v31 v32 v33 v34 v35 v36 v37 v38 v39 v40 v41 v42 v43 v44 v45 v46 H
    simp only [it_ret] at ih
    rw [it_ret, xiter_s]
    refine Eq.trans (congrFun (congrFun hR.symm _) _) ?_
    unfold r72R0
    refine Eq.trans (pl_len (by rfl)) ?_; (iterate 7 (refine yt yS ?_)); refine yt yA ?_; (iterate 2 (refine yt yI ?_)); refine yt yA ?_; (iterate 4 (refine yt yS ?_)); (iterate 22 (refine yt yA ?_)); (iterate 2 (refine yt yS ?_))
    simp only [kIter_n, kIter_x, kIter_r, kOut_x, kOut_r, xgo_hit, xgo_miss, ih, X72_0_0_ok d a0 a1 a2 a3 v0 v2 v4 x9 x10 v11 x15 x16 v17  ]
    exact (L72_0_s d v4 v11 v17 n v21 x22 x23 H).symm
/-- apogee/apogeeref01.plus -/
theorem q72 (d : Nat) (a0 a1 a2 a3 : Int) : xcall C0 M unr d 72 [(.agg [(iz a0), (.int .u64 a1)]), (.agg [(iz a2), (.int .u64 a3)])] =
  C0.hop [] (.box E98 (.v (.agg [(iz a0), (.int .u64 a1)]))) fun v0 h1 =>
  C0.hop h1 (.box E98 (.v (.agg [(iz a2), (.int .u64 a3)]))) fun v2 h3 =>
  C0.hop h3 (.alloc E98) fun v4 h5 =>
  C0.hop h5 (.load true 2 (.v v0)) fun v6 h7 =>
  C0.agg 2 (some v6) fun l8 =>
  C0.int .i64 l8[0]? fun x9 =>
  C0.int .u64 l8[1]? fun x10 =>
  C0.any (pcall M d 77 [(.agg [(iz x9), (.int .u64 x10)])]) fun v11 =>
  C0.hop h7 (.load true 2 (.v v2)) fun v12 h13 =>
  C0.agg 2 (some v12) fun l14 =>
  C0.int .i64 l14[0]? fun x15 =>
  C0.int .u64 l14[1]? fun x16 =>
  C0.any (pcall M d 77 [(.agg [(iz x15), (.int .u64 x16)])]) fun v17 =>
  L72_0 d v4 v11 v17 10000000000000000000 (.zsl true) 0 0 h13 := (r72 C0 d a0 a1 a2 a3).trans (by simp only [it72_0])
noncomputable def X77_1_0 (d : Nat) (v0 v74 : AV) (H : Heap) : Ans :=
  C0.fin H v74
theorem X77_1_0_ok (d : Nat) (a0 a1 : Int) (v0 : AV) (x31 x32 : Int) (b33 : Bool) (v34 v35 v36 v37 v38 v39 v40 v41 v42 v43 v44 v74 : AV) (x75 x76 : Int) (b77 : Bool) (v78 v79 v80 v81 v82 v83 v84 v85 v86 v87 v88 v89 : AV) (H : Heap) : r77X1_0 C0 d a0 a1 v0 x31 x32 b33 v34 v35 v36 v37 v38 v39 v40 v41 v42 v43 v44 ⟨[(.agg [(iz a0), (.int .u64 a1)]), v0, (.zsl true), v74, (iz x31), (iz x75), (iz x32), (.bool b33), v34, v35, v36, v37, v38, v39, v40, v41, v42, v43, v44, (iz x76), (.bool b77), v78, v79, v80, v81, v82, v83, v84, v85, v86, v87, v88, v89, tz], H⟩ = X77_1_0 d v0 v74 H := by
  unfold r77X1_0; refine Eq.trans (pl_len (by rfl)) ?_; (iterate 3 (refine yt yS ?_)); refine yt yA ?_; refine yt yS ?_; refine yt yI ?_; (iterate 13 (refine yt yS ?_)); refine yt yI ?_; refine yt yB ?_; (iterate 12 (refine yt yA ?_)); refine yt yS ?_
  rfl
noncomputable def L77_1 (d : Nat) (v0 : AV) : Nat → AV → Int → Heap → Ans
  | 0, _, _, _ => none
  | n + 1, v48, x49, H =>
  cnd (decide (x49 < 64))
   (C0.hop H (.fldA 0 (.v v0)) fun v64 h65 =>
   C0.hop h65 (.load false 1 (.v v64)) fun v66 h67 =>
   C0.int .i64 (some v66) fun x68 =>
   cnd (decide (x49 < 0))
   (none)
   (C0.hop h67 (.mkrow E3 1 [(0, (.v (iz (IntKind.wrap .i64 (bits .and .u64 (Int.fdiv (IntKind.wrap .u64 x68) (2 ^ (min (Int.toNat x49) 64))) 1)))))]) fun v69 h70 =>
   C0.hop h70 (.app E3 (.v v48) (.v v69)) fun v71 h72 =>
   L77_1 d v0 n v71 (IntKind.wrap .i64 (x49 + 1)) h72))
   (X77_1_0 d v0 v48 H)
theorem L77_1_s (d : Nat) (v0 : AV) (n : Nat) (v48 : AV) (x49 : Int) (H : Heap) : L77_1 d v0 (n + 1) v48 x49 H = (cnd (decide (x49 < 64))
   (C0.hop H (.fldA 0 (.v v0)) fun v64 h65 =>
   C0.hop h65 (.load false 1 (.v v64)) fun v66 h67 =>
   C0.int .i64 (some v66) fun x68 =>
   cnd (decide (x49 < 0))
   (none)
   (C0.hop h67 (.mkrow E3 1 [(0, (.v (iz (IntKind.wrap .i64 (bits .and .u64 (Int.fdiv (IntKind.wrap .u64 x68) (2 ^ (min (Int.toNat x49) 64))) 1)))))]) fun v69 h70 =>
   C0.hop h70 (.app E3 (.v v48) (.v v69)) fun v71 h72 =>
   L77_1 d v0 n v71 (IntKind.wrap .i64 (x49 + 1)) h72))
   (X77_1_0 d v0 v48 H)) := by kernel_rfl
theorem it77_1 (d : Nat) (a0 a1 : Int) (v0 : AV) (x31 x32 : Int) (b33 : Bool) (v34 v35 v36 v37 v38 v39 v40 v41 v42 v43 v44 : AV)   : ∀ (n : Nat) (v48 : AV) (x49 : Int) (v50 v51 v52 v53 v54 v55 v56 v57 v58 v59 v60 v61 v62 v63 : AV) (H : Heap), C0.iter (r77R1 C0 d a0 a1 v0 x31 x32 b33 v34 v35 v36 v37 v38 v39 v40 v41 v42 v43 v44) n ⟨[(.agg [(iz a0), (.int .u64 a1)]), v0, (.zsl true), v48, (iz x31), (iz x49), (iz x32), (.bool b33), v34, v35, v36, v37, v38, v39, v40, v41, v42, v43, v44, v50, v51, v52, v53, v54, v55, v56, v57, v58, v59, v60, v61, v62, v63, tz], H⟩ [2] [r77X1_0 C0 d a0 a1 v0 x31 x32 b33 v34 v35 v36 v37 v38 v39 v40 v41 v42 v43 v44] (r77E1 C0 d a0 a1 v0 x31 x32 b33 v34 v35 v36 v37 v38 v39 v40 v41 v42 v43 v44) = L77_1 d v0 n v48 x49 H := by
  generalize hR : r77R1 C0 d a0 a1 v0 x31 x32 b33 v34 v35 v36 v37 v38 v39 v40 v41 v42 v43 v44 = R
  intro n
  induction n with
  | zero => intros; rfl
  | succ n ih =>
    intro v48 x49 v50 v51 v52 v53 v54 v55 v56 v57 v58 v59 v60 v61 v62 v63 H
    simp only [it_ret] at ih
    rw [it_ret, xiter_s]
    refine Eq.trans (congrFun (congrFun hR.symm _) _) ?_
    unfold r77R1
    refine Eq.trans (pl_len (by rfl)) ?_; (iterate 3 (refine yt yS ?_)); refine yt yA ?_; refine yt yS ?_; refine yt yI ?_; (iterate 13 (refine yt yS ?_)); (iterate 14 (refine yt yA ?_)); refine yt yS ?_
    simp only [kIter_n, kIter_x, kIter_r, kOut_x, kOut_r, xgo_hit, xgo_miss, ih, X77_1_0_ok d a0 a1 v0 x31 x32 b33 v34 v35 v36 v37 v38 v39 v40 v41 v42 v43 v44  ]
    exact (L77_1_s d v0 n v48 x49 H).symm
noncomputable def X77_0_0 (d : Nat) (v0 v30 : AV) (H : Heap) : Ans :=
  L77_1 d v0 10000000000000000000 v30 0 H
theorem X77_0_0_ok (d : Nat) (a0 a1 : Int) (v0 v30 : AV) (x31 x32 : Int) (b33 : Bool) (v34 v35 v36 v37 v38 v39 v40 v41 v42 v43 v44 : AV) (H : Heap) : r77X0_0 C0 d a0 a1 v0 ⟨[(.agg [(iz a0), (.int .u64 a1)]), v0, (.zsl true), v30, (iz x31), tz, (iz x32), (.bool b33), v34, v35, v36, v37, v38, v39, v40, v41, v42, v43, v44, tz, tz, tz, tz, tz, tz, tz, tz, tz, tz, tz, tz, tz, tz, tz], H⟩ = X77_0_0 d v0 v30 H := by
  unfold r77X0_0; refine Eq.trans (pl_len (by rfl)) ?_; (iterate 3 (refine yt yS ?_)); refine yt yA ?_; refine yt yI ?_; refine yt yS ?_; refine yt yI ?_; refine yt yB ?_; (iterate 11 (refine yt yA ?_)); (iterate 15 (refine yt yS ?_))
  first | (simp only [it77_1] <;> rfl) | rfl
noncomputable def L77_0 (d : Nat) (v0 : AV) : Nat → AV → Int → Heap → Ans
  | 0, _, _, _ => none
  | n + 1, v5, x6, H =>
  cnd (decide (x6 < 64))
   (C0.hop H (.fldA 1 (.v v0)) fun v20 h21 =>
   C0.hop h21 (.load false 1 (.v v20)) fun v22 h23 =>
   C0.int .u64 (some v22) fun x24 =>
   cnd (decide (x6 < 0))
   (none)
   (C0.hop h23 (.mkrow E3 1 [(0, (.v (iz (IntKind.wrap .i64 (bits .and .u64 (Int.fdiv x24 (2 ^ (min (Int.toNat x6) 64))) 1)))))]) fun v25 h26 =>
   C0.hop h26 (.app E3 (.v v5) (.v v25)) fun v27 h28 =>
   L77_0 d v0 n v27 (IntKind.wrap .i64 (x6 + 1)) h28))
   (X77_0_0 d v0 v5 H)
theorem L77_0_s (d : Nat) (v0 : AV) (n : Nat) (v5 : AV) (x6 : Int) (H : Heap) : L77_0 d v0 (n + 1) v5 x6 H = (cnd (decide (x6 < 64))
   (C0.hop H (.fldA 1 (.v v0)) fun v20 h21 =>
   C0.hop h21 (.load false 1 (.v v20)) fun v22 h23 =>
   C0.int .u64 (some v22) fun x24 =>
   cnd (decide (x6 < 0))
   (none)
   (C0.hop h23 (.mkrow E3 1 [(0, (.v (iz (IntKind.wrap .i64 (bits .and .u64 (Int.fdiv x24 (2 ^ (min (Int.toNat x6) 64))) 1)))))]) fun v25 h26 =>
   C0.hop h26 (.app E3 (.v v5) (.v v25)) fun v27 h28 =>
   L77_0 d v0 n v27 (IntKind.wrap .i64 (x6 + 1)) h28))
   (X77_0_0 d v0 v5 H)) := by kernel_rfl
theorem it77_0 (d : Nat) (a0 a1 : Int) (v0 : AV)   : ∀ (n : Nat) (v5 : AV) (x6 : Int) (v7 v8 v9 v10 v11 v12 v13 v14 v15 v16 v17 v18 v19 : AV) (H : Heap), C0.iter (r77R0 C0 d a0 a1 v0) n ⟨[(.agg [(iz a0), (.int .u64 a1)]), v0, (.zsl true), v5, (iz x6), tz, v7, v8, v9, v10, v11, v12, v13, v14, v15, v16, v17, v18, v19, tz, tz, tz, tz, tz, tz, tz, tz, tz, tz, tz, tz, tz, tz, tz], H⟩ [0] [r77X0_0 C0 d a0 a1 v0] (r77E0 C0 d a0 a1 v0) = L77_0 d v0 n v5 x6 H := by
  generalize hR : r77R0 C0 d a0 a1 v0 = R
  intro n
  induction n with
  | zero => intros; rfl
  | succ n ih =>
    intro v5 x6 v7 v8 v9 v10 v11 v12 v13 v14 v15 v16 v17 v18 v19 H
    simp only [it_ret] at ih
    rw [it_ret, xiter_s]
    refine Eq.trans (congrFun (congrFun hR.symm _) _) ?_
    unfold r77R0
    refine Eq.trans (pl_len (by rfl)) ?_; (iterate 3 (refine yt yS ?_)); refine yt yA ?_; refine yt yI ?_; refine yt yS ?_; (iterate 13 (refine yt yA ?_)); (iterate 15 (refine yt yS ?_))
    simp only [kIter_n, kIter_x, kIter_r, kOut_x, kOut_r, xgo_hit, xgo_miss, ih, X77_0_0_ok d a0 a1 v0  ]
    exact (L77_0_s d v0 n v5 x6 H).symm
/-- apogee/apogeeref01.bits -/
theorem q77 (d : Nat) (a0 a1 : Int) : xcall C0 M unr d 77 [(.agg [(iz a0), (.int .u64 a1)])] =
  C0.hop [] (.box E98 (.v (.agg [(iz a0), (.int .u64 a1)]))) fun v0 h1 =>
  L77_0 d v0 10000000000000000000 (.zsl true) 0 h1 := (r77 C0 d a0 a1).trans (by simp only [it77_0])
noncomputable def X78_0_0 (d : Nat) (a0 : List AV) (v0 v2 : AV) (x61 : Int) (H : Heap) : Ans :=
  C0.hop H (.fldA 0 (.v v2)) fun v88 h89 =>
   C0.hop h89 (.store 1 (.v v88) (.v (iz (IntKind.wrap .i64 x61)))) fun v90 h91 =>
   C0.hop h91 (.load true 2 (.v v2)) fun v92 h93 =>
   C0.agg 2 (some v92) fun l94 =>
   C0.int .i64 l94[0]? fun x95 =>
   C0.int .u64 l94[1]? fun x96 =>
   C0.hop h93 (.store 2 (.v v0) (.v (.agg [(iz x95), (.int .u64 x96)]))) fun v97 h98 =>
   C0.hop h98 (.load true 2 (.v v0)) fun v99 h100 =>
   C0.fin h98 v99
theorem X78_0_0_ok (d : Nat) (a0 : List AV) (v0 v2 : AV) (x61 x62 x63 : Int) (b64 : Bool) (v65 v66 v67 v68 v69 v70 v71 v72 v73 v74 v75 v76 v77 v78 v79 v80 v81 v82 v83 v84 v85 v86 v87 : AV) (H : Heap) : r78X0_0 C0 d a0 v0 v2 ⟨[(.lst a0), tz, v0, v2, (.int .u64 x61), (iz x62), (.agg [(iz 0), (.int .u64 0)]), (iz x63), (.bool b64), v65, v66, v67, v68, v69, v70, v71, v72, v73, v74, v75, v76, v77, v78, v79, v80, v81, v82, v83, v84, v85, v86, v87, tz, tz, tz, tz], H⟩ = X78_0_0 d a0 v0 v2 x61 H := by
  unfold r78X0_0; refine Eq.trans (pl_len (by rfl)) ?_; (iterate 4 (refine yt yS ?_)); (iterate 2 (refine yt yI ?_)); refine yt yS ?_; refine yt yI ?_; refine yt yB ?_; (iterate 23 (refine yt yA ?_)); (iterate 4 (refine yt yS ?_))
  rfl
noncomputable def L78_0 (d : Nat) (a0 : List AV) (v0 v2 : AV) : Nat → Int → Int → Heap → Ans
  | 0, _, _, _ => none
  | n + 1, x9, x10, H =>
  cnd (decide (x10 < 64))
   (C0.hop H (.ixAS .any 1 (.v (.lst a0)) (.v (iz x10))) fun v36 h37 =>
   C0.hop h37 (.load false 1 (.v v36)) fun v38 h39 =>
   C0.int .i64 (some v38) fun x40 =>
   cnd (x40 == 1)
   (C0.hop h39 (.fldA 1 (.v v2)) fun v41 h42 =>
   C0.hop h42 (.load false 1 (.v v41)) fun v43 h44 =>
   C0.int .u64 (some v43) fun x45 =>
   cnd (decide (x10 < 0))
   (none)
   (C0.hop h44 (.fldA 1 (.v v2)) fun v46 h47 =>
   C0.hop h47 (.store 1 (.v v46) (.v (.int .u64 (bits .or .u64 x45 (IntKind.wrap .u64 (1 * (2 ^ (min (Int.toNat x10) 64)))))))) fun v48 h49 =>
   C0.hop h49 (.ixAS .any 1 (.v (.lst a0)) (.v (iz (IntKind.wrap .i64 (64 + x10))))) fun v50 h51 =>
   C0.hop h51 (.load false 1 (.v v50)) fun v52 h53 =>
   C0.int .i64 (some v52) fun x54 =>
   cnd (x54 == 1)
   (cnd (decide (x10 < 0))
   (none)
   (L78_0 d a0 v0 v2 n (bits .or .u64 x9 (IntKind.wrap .u64 (1 * (2 ^ (min (Int.toNat x10) 64))))) (IntKind.wrap .i64 (x10 + 1)) h53))
   (L78_0 d a0 v0 v2 n x9 (IntKind.wrap .i64 (x10 + 1)) h53)))
   (C0.hop h39 (.ixAS .any 1 (.v (.lst a0)) (.v (iz (IntKind.wrap .i64 (64 + x10))))) fun v55 h56 =>
   C0.hop h56 (.load false 1 (.v v55)) fun v57 h58 =>
   C0.int .i64 (some v57) fun x59 =>
   cnd (x59 == 1)
   (cnd (decide (x10 < 0))
   (none)
   (L78_0 d a0 v0 v2 n (bits .or .u64 x9 (IntKind.wrap .u64 (1 * (2 ^ (min (Int.toNat x10) 64))))) (IntKind.wrap .i64 (x10 + 1)) h58))
   (L78_0 d a0 v0 v2 n x9 (IntKind.wrap .i64 (x10 + 1)) h58)))
   (X78_0_0 d a0 v0 v2 x9 H)
theorem L78_0_s (d : Nat) (a0 : List AV) (v0 v2 : AV) (n : Nat) (x9 x10 : Int) (H : Heap) : L78_0 d a0 v0 v2 (n + 1) x9 x10 H = (cnd (decide (x10 < 64))
   (C0.hop H (.ixAS .any 1 (.v (.lst a0)) (.v (iz x10))) fun v36 h37 =>
   C0.hop h37 (.load false 1 (.v v36)) fun v38 h39 =>
   C0.int .i64 (some v38) fun x40 =>
   cnd (x40 == 1)
   (C0.hop h39 (.fldA 1 (.v v2)) fun v41 h42 =>
   C0.hop h42 (.load false 1 (.v v41)) fun v43 h44 =>
   C0.int .u64 (some v43) fun x45 =>
   cnd (decide (x10 < 0))
   (none)
   (C0.hop h44 (.fldA 1 (.v v2)) fun v46 h47 =>
   C0.hop h47 (.store 1 (.v v46) (.v (.int .u64 (bits .or .u64 x45 (IntKind.wrap .u64 (1 * (2 ^ (min (Int.toNat x10) 64)))))))) fun v48 h49 =>
   C0.hop h49 (.ixAS .any 1 (.v (.lst a0)) (.v (iz (IntKind.wrap .i64 (64 + x10))))) fun v50 h51 =>
   C0.hop h51 (.load false 1 (.v v50)) fun v52 h53 =>
   C0.int .i64 (some v52) fun x54 =>
   cnd (x54 == 1)
   (cnd (decide (x10 < 0))
   (none)
   (L78_0 d a0 v0 v2 n (bits .or .u64 x9 (IntKind.wrap .u64 (1 * (2 ^ (min (Int.toNat x10) 64))))) (IntKind.wrap .i64 (x10 + 1)) h53))
   (L78_0 d a0 v0 v2 n x9 (IntKind.wrap .i64 (x10 + 1)) h53)))
   (C0.hop h39 (.ixAS .any 1 (.v (.lst a0)) (.v (iz (IntKind.wrap .i64 (64 + x10))))) fun v55 h56 =>
   C0.hop h56 (.load false 1 (.v v55)) fun v57 h58 =>
   C0.int .i64 (some v57) fun x59 =>
   cnd (x59 == 1)
   (cnd (decide (x10 < 0))
   (none)
   (L78_0 d a0 v0 v2 n (bits .or .u64 x9 (IntKind.wrap .u64 (1 * (2 ^ (min (Int.toNat x10) 64))))) (IntKind.wrap .i64 (x10 + 1)) h58))
   (L78_0 d a0 v0 v2 n x9 (IntKind.wrap .i64 (x10 + 1)) h58)))
   (X78_0_0 d a0 v0 v2 x9 H)) := by kernel_rfl
theorem it78_0 (d : Nat) (a0 : List AV) (v0 v2 : AV)   : ∀ (n : Nat) (x9 x10 : Int) (v11 v12 v13 v14 v15 v16 v17 v18 v19 v20 v21 v22 v23 v24 v25 v26 v27 v28 v29 v30 v31 v32 v33 v34 v35 : AV) (H : Heap), C0.iter (r78R0 C0 d a0 v0 v2) n ⟨[(.lst a0), tz, v0, v2, (.int .u64 x9), (iz x10), (.agg [(iz 0), (.int .u64 0)]), v11, v12, v13, v14, v15, v16, v17, v18, v19, v20, v21, v22, v23, v24, v25, v26, v27, v28, v29, v30, v31, v32, v33, v34, v35, tz, tz, tz, tz], H⟩ [0] [r78X0_0 C0 d a0 v0 v2] (r78E0 C0 d a0 v0 v2) = L78_0 d a0 v0 v2 n x9 x10 H := by
  generalize hR : r78R0 C0 d a0 v0 v2 = R
  intro n
  induction n with
  | zero => intros; rfl
  | succ n ih =>
    intro x9 x10 v11 v12 v13 v14 v15 v16 v17 v18 v19 v20 v21 v22 v23 v24 v25 v26 v27 v28 v29 v30 v31 v32 v33 v34 v35 H
    simp only [it_ret] at ih
    rw [it_ret, xiter_s]
    refine Eq.trans (congrFun (congrFun hR.symm _) _) ?_
    unfold r78R0
    refine Eq.trans (pl_len (by rfl)) ?_; (iterate 4 (refine yt yS ?_)); (iterate 2 (refine yt yI ?_)); refine yt yS ?_; (iterate 25 (refine yt yA ?_)); (iterate 4 (refine yt yS ?_))
    simp only [kIter_n, kIter_x, kIter_r, kOut_x, kOut_r, xgo_hit, xgo_miss, ih, X78_0_0_ok d a0 v0 v2  ]
    exact (L78_0_s d a0 v0 v2 n x9 x10 H).symm
/-- apogee/apogeeref01.value -/
theorem q78 (d : Nat) (a0 : List AV) : xcall C0 M unr d 78 [(.lst a0)] =
  C0.hop [] (.alloc E98) fun v0 h1 =>
  C0.hop h1 (.alloc E98) fun v2 h3 =>
  C0.hop h3 (.store 2 (.v v2) (.v (.agg [(iz 0), (.int .u64 0)]))) fun v4 h5 =>
  L78_0 d a0 v0 v2 10000000000000000000 0 0 h5 := (r78 C0 d a0).trans (by simp only [it78_0])
noncomputable def X83_0_0 (d : Nat) (a0 : List AV)  : Ans :=
  some (iz 0)
theorem X83_0_0_ok (d : Nat) (a0 : List AV) (x16 : Int) (v17 : AV) (x18 : Int) (v19 v20 v21 v22 v23 v24 v25 v26 : AV) : r83X0_0 C0 d a0 ⟨[(.lst a0), tz, (iz x16), (iz 0), tz, v17, (.lst a0), (iz (((List.length a0) : Nat) : Int)), (iz x18), v19, v20, v21, v22, v23, v24, v25, v26, tz], []⟩ = X83_0_0 d a0  := by
  unfold r83X0_0; refine Eq.trans (pl_len (by rfl)) ?_; (iterate 2 (refine yt yS ?_)); refine yt yI ?_; (iterate 2 (refine yt yS ?_)); refine yt yA ?_; (iterate 2 (refine yt yS ?_)); refine yt yI ?_; (iterate 8 (refine yt yA ?_)); refine yt yS ?_; refine Eq.trans (pl_sameH) ?_
  rfl
noncomputable def E83_0 (d : Nat) (a0 : List AV) (x27 : Int) : Ans :=
  some (iz x27)
theorem E83_0_ok (d : Nat) (a0 : List AV) (x27 x28 x29 : Int) (v30 v31 : AV) (x32 x33 x34 : Int) (b35 : Bool) (x36 : Int) (v37 : AV) : r83E0 C0 d a0 ⟨[(.lst a0), tz, (iz x27), (iz 0), tz, (iz x28), (.lst a0), (iz (((List.length a0) : Nat) : Int)), (iz x29), v30, v31, (iz x32), (iz x33), (iz x34), (.bool b35), (iz x36), v37, tz], []⟩ = E83_0 d a0 x27 := by
  unfold r83E0; refine Eq.trans (pl_len (by rfl)) ?_; (iterate 2 (refine yt yS ?_)); refine yt yI ?_; (iterate 2 (refine yt yS ?_)); refine yt yI ?_; (iterate 2 (refine yt yS ?_)); refine yt yI ?_; (iterate 2 (refine yt yA ?_)); (iterate 3 (refine yt yI ?_)); refine yt yB ?_; refine yt yI ?_; refine yt yA ?_; refine yt yS ?_; refine Eq.trans (pl_sameH) ?_
  rfl
noncomputable def L83_0 (d : Nat) (a0 : List AV) : Nat → Int → Ans
  | 0, _ => none
  | n + 1, x5 =>
  cnd (decide (x5 < (((List.length a0) : Nat) : Int)))
   (cnd (decide ((0 : Int) ≤ x5))
   (C0.int .i64 a0[(Int.toNat x5)]? fun x14 =>
   cnd (x14 != 0)
   (E83_0 d a0 x14)
   (L83_0 d a0 n (IntKind.wrap .i64 (x5 + 1))))
   (none))
   (X83_0_0 d a0)
theorem L83_0_s (d : Nat) (a0 : List AV) (n : Nat) (x5 : Int) : L83_0 d a0 (n + 1) x5 = (cnd (decide (x5 < (((List.length a0) : Nat) : Int)))
   (cnd (decide ((0 : Int) ≤ x5))
   (C0.int .i64 a0[(Int.toNat x5)]? fun x14 =>
   cnd (x14 != 0)
   (E83_0 d a0 x14)
   (L83_0 d a0 n (IntKind.wrap .i64 (x5 + 1))))
   (none))
   (X83_0_0 d a0)) := by kernel_rfl
theorem it83_0 (d : Nat) (a0 : List AV)   : ∀ (n : Nat) (x3 : Int) (v4 : AV) (x5 : Int) (v6 v7 v8 v9 v10 v11 v12 v13 : AV), C0.iter (r83R0 C0 d a0) n ⟨[(.lst a0), tz, (iz x3), (iz 0), tz, v4, (.lst a0), (iz (((List.length a0) : Nat) : Int)), (iz x5), v6, v7, v8, v9, v10, v11, v12, v13, tz], []⟩ [0] [r83X0_0 C0 d a0] (r83E0 C0 d a0) = L83_0 d a0 n x5 := by
  generalize hR : r83R0 C0 d a0 = R
  intro n
  induction n with
  | zero => intros; rfl
  | succ n ih =>
    intro x3 v4 x5 v6 v7 v8 v9 v10 v11 v12 v13
    simp only [it_ret] at ih
    rw [it_ret, xiter_s]
    refine Eq.trans (congrFun (congrFun hR.symm _) _) ?_
    unfold r83R0
    refine Eq.trans (pl_len (by rfl)) ?_; (iterate 2 (refine yt yS ?_)); refine yt yI ?_; (iterate 2 (refine yt yS ?_)); refine yt yA ?_; (iterate 2 (refine yt yS ?_)); refine yt yI ?_; (iterate 8 (refine yt yA ?_)); refine yt yS ?_; refine Eq.trans (pl_sameH) ?_
    simp only [kIter_n, kIter_x, kIter_r, kOut_x, kOut_r, xgo_hit, xgo_miss, ih, X83_0_0_ok d a0  , E83_0_ok d a0  ]
    exact (L83_0_s d a0 n x5).symm
/-- cmp.Or[int] -/
theorem q83 (d : Nat) (a0 : List AV) : xcall C0 M unr d 83 [(.lst a0)] =
  L83_0 d a0 10000000000000000000 0 := (r83 C0 d a0).trans (by simp only [it83_0])
end Go.Proofs.Ytdceaeifcniabaa.AE

namespace Go.Proofs.Ytdceaeifcniabaa.AE
set_option linter.unusedVariables false
set_option linter.unusedSimpArgs false
set_option linter.constructorNameAsVariable false
open Go
theorem hg_lt {H : Heap} {id : Nat} {b : Blk} (h : hget H id = some b) : id < H.length := by
  unfold hget at h
  rcases Nat.lt_or_ge id H.length with h1 | h1
  · exact h1
  · rw [List.getElem?_eq_none h1] at h; cases h
theorem hget_app {H l : Heap} {id : Nat} {b : Blk} (h : hget H id = some b) : hget (H ++ l) id = some b := by
  have := hg_lt h
  unfold hget at *
  rw [List.getElem?_append_left this]; exact h
theorem hget_new {H : Heap} {b : Blk} : hget (H ++ [some b]) H.length = some b := by unfold hget; simp
theorem hget_set {H : Heap} {id : Nat} {b : Blk} (h : id < H.length) : hget (H.set id (some b)) id = some b := by unfold hget; simp [h]
theorem hget_set_ne {H : Heap} {id id' : Nat} {x : Option Blk} (h : id ≠ id') : hget (H.set id x) id' = hget H id' := by unfold hget; rw [List.getElem?_set_ne h]
/-- A slice that may grow: all of a block of its own, or none. -/
def Own (H : Heap) (e : ETy) (v : AV) (l : List AV) : Prop := (l = [] ∧ ∃ b, v = .zsl b) ∨ ∃ id, v = .slc id 0 l.length ∧ hget H id = some ⟨e, l⟩
/-- It names that memory. -/
def names (v : AV) (id : Nat) : Prop := ∃ o n, v = .slc id o n
theorem own_keep {H H' : Heap} {e : ETy} {v : AV} {l : List AV} (h : Own H e v l) (hk : ∀ id b, names v id → hget H id = some b → hget H' id = some b) : Own H' e v l := by
  rcases h with ⟨rfl, b, rfl⟩ | ⟨id, rfl, h⟩
  · exact .inl ⟨rfl, b, rfl⟩
  · exact .inr ⟨id, rfl, hk _ _ ⟨_, _, rfl⟩ h⟩
/-- Onto a slice of one's own. -/
theorem app_own {H : Heap} {e : ETy} {v : AV} {l xs : List AV} {r : AV} (ho : Own H e v l) (hr : elsOf H r = some xs) (hx : xs.all (elOk e) = true) (hs : (l.length + xs.length) * e.bytes ≤ 140737488355328) (hs2 : l.length + xs.length ≤ 9223372036854775807) :
    ∃ v' H', aop noCall (evO []) H (.app e (.v v) (.v r)) = some (v', H') ∧ Own H' e v' (l ++ xs) ∧ v' = .slc H.length 0 (l.length + xs.length) ∧ H'.length = H.length + 1 ∧ ∀ id b, ¬ names v id → hget H id = some b → hget H' id = some b := by
  rcases ho with ⟨rfl, b, rfl⟩ | ⟨id, rfl, h⟩
  · refine ⟨.slc H.length 0 xs.length, H ++ [some ⟨e, xs⟩], ?_, .inr ⟨H.length, by simp, by simp [hget_new]⟩, by simp, by simp, fun id b _ h => hget_app h⟩
    simp only [aop, evO, hr, aApp]
    rw [if_pos ⟨by simpa using hs, by simpa using hs2, hx⟩]
  · have hid := hg_lt h
    have hl : (H.set id none).length = H.length := by simp
    refine ⟨.slc H.length 0 (l.length + xs.length), H.set id none ++ [some ⟨e, l ++ xs⟩], ?_, .inr ⟨H.length, by simp, ?_⟩, rfl, by simp, fun id' b hn h' => ?_⟩
    · simp only [aop, evO, hr, aApp, h]
      rw [if_pos ⟨trivial, hs, hs2, trivial, trivial, hx⟩]
    · rw [← hl]; exact hget_new
    · refine hget_app ?_
      rw [hget_set_ne]; exact h'
      rintro rfl; exact hn ⟨_, _, rfl⟩
/-- One more. -/
theorem app_one {H : Heap} {e : ETy} {v x : AV} {l : List AV} (ho : Own H e v l) (hx : elOk e x = true) (hs : (l.length + 1) * e.bytes ≤ 140737488355328) (hs2 : l.length + 1 ≤ 9223372036854775807) :
    ∃ v' H', (∀ K : AV → Heap → Ans, (C0.hop H (.mkrow e 1 [(0, .v x)]) fun r H1 => C0.hop H1 (.app e (.v v) (.v r)) K) = K v' H') ∧ Own H' e v' (l ++ [x]) ∧ (∀ id, names v' id → H.length < id) ∧ H.length ≤ H'.length ∧ ∀ id b, ¬ names v id → hget H id = some b → hget H' id = some b := by
  have e1 : aop noCall (evO []) H (.mkrow e 1 [(0, .v x)]) = some (.slc H.length 0 1, H ++ [some ⟨e, [x]⟩]) := by
    simp [aop, evO, fillR, hx]
  have ho' : Own (H ++ [some ⟨e, [x]⟩]) e v l := own_keep ho fun id b _ h => hget_app h
  obtain ⟨v', H', h1, h2, h5, h3, h4⟩ := app_own (xs := [x]) (r := .slc H.length 0 1) ho' (by simp [elsOf, hget_new]) (by simp [hx]) (by simpa using hs) (by simpa using hs2)
  refine ⟨v', H', ?_, h2, ?_, by rw [h3]; simp; omega, fun id b hn h => h4 id b hn (hget_app h)⟩
  · intro K; rw [hop_eq e1, hop_eq h1]
  · rintro id ⟨o, n, rfl⟩
    injection h5 with h6
    rw [h6]; simp
/-- An element's place, a look at it, and a store. -/
theorem ix_slc {H : Heap} {id o n es : Nat} {b : Blk} {q : Int} {K : AV → Heap → Ans} (h : hget H id = some b) (h0 : 0 ≤ q) (h1 : q < n) (he : b.e.es = es) :
    C0.hop H (.ixAS .any es (.v (.slc id o n)) (.v (.int .i64 q))) K = K (.ptr id (o + q.toNat) 0) H := hop_eq (by simp [aop, evO, aInt, aIx, h, h0, h1, he])
theorem ix_lst {H : Heap} {l : List AV} {es : Nat} {q : Int} {x : AV} {K : AV → Heap → Ans} (h0 : 0 ≤ q) (hx : l[q.toNat]? = some x) (he : x.cells.length = es) :
    C0.hop H (.ixAS .any es (.v (.lst l)) (.v (.int .i64 q))) K = K (.fptr x 0) H := hop_eq (by simp [aop, evO, aInt, aIx, h0, hx, he])
theorem ld_ptr {H : Heap} {id i j n : Nat} {ag : Bool} {b : Blk} {el v : AV} {K : AV → Heap → Ans} (h : hget H id = some b) (hi : b.els[i]? = some el) (hs : sub ag n j el = some v) :
    C0.hop H (.load ag n (.v (.ptr id i j))) K = K v H := hop_eq (by simp [aop, evO, aLoad, h, hi, hs])
theorem ld_fptr {H : Heap} {x v : AV} {j n : Nat} {ag : Bool} {K : AV → Heap → Ans} (hs : sub ag n j x = some v) :
    C0.hop H (.load ag n (.v (.fptr x j))) K = K v H := hop_eq (by simp [aop, evO, aLoad, hs])
theorem st_ptr {H : Heap} {id i j n : Nat} {b : Blk} {el el' x : AV} {K : AV → Heap → Ans} (h : hget H id = some b) (hi : b.els[i]? = some el) (hs : putSub n j x el = some el') :
    C0.hop H (.store n (.v (.ptr id i j)) (.v x)) K = K .undef (H.set id (some { b with els := b.els.set i el' })) := hop_eq (by simp [aop, evO, aStore, h, hi, hs])
theorem sh_ptr {H : Heap} {id i j d : Nat} {K : AV → Heap → Ans} : C0.hop H (.fldA d (.v (.ptr id i j))) K = K (.ptr id i (j + d)) H := hop_eq rfl
theorem sh_fptr {H : Heap} {x : AV} {j d : Nat} {K : AV → Heap → Ans} : C0.hop H (.fldA d (.v (.fptr x j))) K = K (.fptr x (j + d)) H := hop_eq rfl
theorem len_lst {H : Heap} {l : List AV} {K : AV → Heap → Ans} : C0.hop H (.bk .lenV [.v (.lst l)]) K = K (.int .i64 l.length) H := hop_eq rfl
theorem len_zsl {H : Heap} {b : Bool} {K : AV → Heap → Ans} : C0.hop H (.bk .lenV [.v (.zsl b)]) K = K (.int .i64 0) H := hop_eq rfl
theorem nil_ptr {H : Heap} {id i j : Nat} {K : AV → Heap → Ans} : C0.hop H (.nilck (.v (.ptr id i j))) K = K (.ptr id i j) H := hop_eq rfl
theorem snap_own {H : Heap} {e : ETy} {v : AV} {l : List AV} {k : Nat} (ho : Own H e v l) (hf : ∀ x ∈ l, snap (k + 1) H x = x) : snap (k + 2) H v = .lst l := by
  rcases ho with ⟨rfl, b, rfl⟩ | ⟨id, rfl, h⟩
  · rfl
  · simp only [snap, h]
    rw [if_neg (by omega), if_pos (by simp)]
    congr 1
    simp only [List.drop_zero, List.take_length]
    exact (List.map_congr_left hf).trans (List.map_id _)
def iv (l : List Int) : List AV := l.map fun x => .int .i64 x
theorem iv_len (l : List Int) : (iv l).length = l.length := by simp [iv]
theorem iv_app (l m : List Int) : iv (l ++ m) = iv l ++ iv m := by simp [iv]
theorem iv_at (l : List Int) (i : Nat) : (iv l)[i]? = l[i]?.map fun x => .int .i64 x := by simp [iv]
theorem snap_iv {H : Heap} {e : ETy} {v : AV} {l : List Int} (ho : Own H e v (iv l)) : snap 12 H v = .lst (iv l) :=
  snap_own (k := 10) ho fun x hx => by
    unfold iv at hx
    obtain ⟨n, _, rfl⟩ := List.mem_map.mp hx
    rfl
theorem snp_own {H : Heap} {e : ETy} {v : AV} {l : List Int} {K : List AV → Bool → Ans} (ho : Own H e v (iv l)) (hne : l ≠ []) : C0.snp H [v] K = K [.lst (iv l)] false := by
  have hs := snap_iv ho
  rcases ho with ⟨h, _⟩ | ⟨id, rfl, h⟩
  · exact absurd (by simpa [iv] using h) hne
  · rw [snp_id (by rfl)]
    simp only [List.map_cons, List.map_nil]
    rw [show DEPTH = 12 from rfl, hs]
end Go.Proofs.Ytdceaeifcniabaa.AE

namespace Go.Proofs.Ytdceaeifcniabaa.AE
set_option linter.unusedVariables false
set_option linter.unusedSimpArgs false
set_option linter.constructorNameAsVariable false
open Go
theorem i64w (n : Int) : IntKind.i64.wrap n = (n + 9223372036854775808) % 18446744073709551616 - 9223372036854775808 := IntKind.wrap_i64 n
theorem u64w (n : Int) : IntKind.u64.wrap n = n % 18446744073709551616 := by simp [IntKind.wrap, IntKind.bits, IntKind.signed]
theorem u64_small {n : Int} (h : 0 ≤ n) (h' : n < 18446744073709551616) : IntKind.u64.wrap n = n := by rw [u64w]; omega
theorem i64_small {n : Int} (h : -9223372036854775808 ≤ n) (h' : n < 9223372036854775808) : IntKind.i64.wrap n = n := by rw [i64w]; omega
theorem u64_mask (k : Nat) (hk : k ≤ 64) {x : Int} (h : 0 ≤ x) (h' : x < 18446744073709551616) : Go.bits .and .u64 x (2 ^ k - 1) = x % 2 ^ k := by
  obtain ⟨n, rfl⟩ := Int.eq_ofNat_of_zero_le h
  have hn : n < 18446744073709551616 := by omega
  have hp : 1 ≤ 2 ^ k := Nat.one_le_two_pow
  have hm : ((2 : Int) ^ k - 1) = ((2 ^ k - 1 : Nat) : Int) := by
    rw [Int.natCast_sub hp]; simp
  have hk2 : 2 ^ k ≤ 18446744073709551616 := Nat.le_trans (Nat.pow_le_pow_right (by decide) hk) (by decide)
  show IntKind.u64.wrap ((BitVec.ofInt 64 (n : Int) &&& BitVec.ofInt 64 ((2 : Int) ^ k - 1)).toNat : Int) = _
  rw [hm, BitVec.toNat_and]
  rw [BitVec.ofInt_natCast, BitVec.ofInt_natCast, BitVec.toNat_ofNat, BitVec.toNat_ofNat, Nat.mod_eq_of_lt (by simpa using hn), Nat.mod_eq_of_lt (by simpa using (by omega : 2 ^ k - 1 < 18446744073709551616)), Nat.and_two_pow_sub_one_eq_mod]
  have : n % 2 ^ k ≤ n := Nat.mod_le _ _
  rw [u64_small (by omega) (by omega)]
  simp
theorem u64_and32 {x : Int} (h : 0 ≤ x) (h' : x < 18446744073709551616) : Go.bits .and .u64 x 4294967295 = x % 4294967296 := u64_mask 32 (by decide) h h'
def hiw (v : Int) : Int := IntKind.i64.wrap (v / 18446744073709551616)
def low (v : Int) : Int := v % 18446744073709551616
theorem mul_bd63 (a b : Int) (ha : -9223372036854775808 ≤ a) (ha' : a < 9223372036854775808) (hb : -9223372036854775808 ≤ b) (hb' : b < 9223372036854775808) :
    -85070591730234615865843651857942052864 ≤ a * b ∧ a * b ≤ 85070591730234615865843651857942052864 := by
  have h1 := Int.mul_nonneg (show 0 ≤ 9223372036854775808 - a by omega) (show 0 ≤ 9223372036854775808 + b by omega)
  have h2 := Int.mul_nonneg (show 0 ≤ 9223372036854775808 + a by omega) (show 0 ≤ 9223372036854775808 - b by omega)
  have h3 := Int.mul_nonneg (show 0 ≤ 9223372036854775808 - a by omega) (show 0 ≤ 9223372036854775808 - b by omega)
  have h4 := Int.mul_nonneg (show 0 ≤ 9223372036854775808 + a by omega) (show 0 ≤ 9223372036854775808 + b by omega)
  have e1 : (9223372036854775808 - a) * (9223372036854775808 + b) = 85070591730234615865843651857942052864 + 9223372036854775808 * b - 9223372036854775808 * a - a * b := by grind
  have e2 : (9223372036854775808 + a) * (9223372036854775808 - b) = 85070591730234615865843651857942052864 - 9223372036854775808 * b + 9223372036854775808 * a - a * b := by grind
  have e3 : (9223372036854775808 - a) * (9223372036854775808 - b) = 85070591730234615865843651857942052864 - 9223372036854775808 * b - 9223372036854775808 * a + a * b := by grind
  have e4 : (9223372036854775808 + a) * (9223372036854775808 + b) = 85070591730234615865843651857942052864 + 9223372036854775808 * b + 9223372036854775808 * a + a * b := by grind
  omega
theorem prod_bd {x y m : Int} (hx : -m ≤ x) (hx' : x ≤ m) (hy : -m ≤ y) (hy' : y ≤ m) : -(m * m) ≤ x * y ∧ x * y ≤ m * m := by
  have h1 := Int.mul_nonneg (show 0 ≤ m - x by omega) (show 0 ≤ m + y by omega)
  have h2 := Int.mul_nonneg (show 0 ≤ m + x by omega) (show 0 ≤ m - y by omega)
  have h3 := Int.mul_nonneg (show 0 ≤ m - x by omega) (show 0 ≤ m - y by omega)
  have h4 := Int.mul_nonneg (show 0 ≤ m + x by omega) (show 0 ≤ m + y by omega)
  have e1 : (m - x) * (m + y) = m * m + m * y - x * m - x * y := by grind
  have e2 : (m + x) * (m - y) = m * m - m * y + x * m - x * y := by grind
  have e3 : (m - x) * (m - y) = m * m - m * y - x * m + x * y := by grind
  have e4 : (m + x) * (m + y) = m * m + m * y + x * m + x * y := by grind
  generalize m * m = mm at *; generalize m * y = my at *; generalize x * m = xm at *; generalize x * y = xy at *
  omega
theorem prod_bd41 {x y : Int} (hx : -2199023255552 ≤ x) (hx' : x ≤ 2199023255552) (hy : -2199023255552 ≤ y) (hy' : y ≤ 2199023255552) : -4835703278458516698824704 ≤ x * y ∧ x * y ≤ 4835703278458516698824704 := prod_bd hx hx' hy hy'
def cmp (x y : Int) : Int := if x < y then -1 else if y < x then 1 else 0
end Go.Proofs.Ytdceaeifcniabaa.AE

namespace Go.Proofs.Ytdceaeifcniabaa.Geo
set_option linter.unusedVariables false
set_option linter.unusedSimpArgs false
set_option linter.constructorNameAsVariable false
abbrev Pt := Int × Int
def Okc (x : Int) : Prop := -1099511627776 ≤ x ∧ x ≤ 1099511627776
instance (x : Int) : Decidable (Okc x) := by unfold Okc; infer_instance
def OkP (p : Pt) : Prop := Okc p.1 ∧ Okc p.2
instance (p : Pt) : Decidable (OkP p) := by unfold OkP; infer_instance
/-- Twice the area from a over b to c. -/
def TN (a b c : Pt) : Int := (b.1 - a.1) * (c.2 - a.2) - (b.2 - a.2) * (c.1 - a.1)
def sg (v : Int) : Int := if v < 0 then -1 else if v = 0 then 0 else 1
theorem sg_zero {v : Int} : sg v = 0 ↔ v = 0 := by unfold sg; split <;> (try split) <;> omega
theorem sg_cases (v : Int) : (v < 0 ∧ sg v = -1) ∨ (v = 0 ∧ sg v = 0) ∨ (v > 0 ∧ sg v = 1) := by unfold sg; split <;> (try split) <;> omega
/-- Both numbers are between those of two places. -/
def Btw (p a b : Pt) : Prop := ((a.1 ≤ p.1 ∧ p.1 ≤ b.1) ∨ (b.1 ≤ p.1 ∧ p.1 ≤ a.1)) ∧ ((a.2 ≤ p.2 ∧ p.2 ≤ b.2) ∨ (b.2 ≤ p.2 ∧ p.2 ≤ a.2))
instance (p a b : Pt) : Decidable (Btw p a b) := by unfold Btw; infer_instance
/-- On the way from a to b. -/
def On (p a b : Pt) : Prop := TN a b p = 0 ∧ Btw p a b
instance (p a b : Pt) : Decidable (On p a b) := by unfold On; infer_instance
/-- The one way crosses the other one. -/
def Cross (a b c d : Pt) : Prop := sg (TN a b c) * sg (TN a b d) < 0 ∧ sg (TN c d a) * sg (TN c d b) < 0
instance (a b c d : Pt) : Decidable (Cross a b c d) := by unfold Cross; infer_instance
def Meet (a b c d : Pt) : Prop := On a c d ∨ On b c d ∨ On c a b ∨ On d a b ∨ Cross a b c d
instance (a b c d : Pt) : Decidable (Meet a b c d) := by unfold Meet; infer_instance
end Go.Proofs.Ytdceaeifcniabaa.Geo

namespace Go.Proofs.Ytdceaeifcniabaa.AE
set_option linter.unusedVariables false
set_option linter.unusedSimpArgs false
set_option linter.constructorNameAsVariable false
open Go Go.Proofs.Ytdceaeifcniabaa.Geo
abbrev i64 (n : Int) : AV := .int .i64 n
abbrev u64 (n : Int) : AV := .int .u64 n
abbrev pt (p : Int × Int) : AV := .agg [.int .i64 p.1, .int .i64 p.2]
theorem s86 (d : Nat) (x : Int) : pcall M (d + 1) 86 [.int .i64 x] = some (.bool false) := told (r86 C0 d x) (by simp)
theorem s87 (d : Nat) (x : Int) : pcall M (d + 1) 87 [.int .u64 x] = some (.bool false) := told (r87 C0 d x) (by simp)
theorem s84 (d : Nat) (x y : Int) : pcall M (d + 2) 84 [.int .i64 x, .int .i64 y] = some (.int .i64 (cmp x y)) := told (r84 C0 (d + 1) x y) (by
  rw [s86, s86, C0_bool, C0_bool, cnd_f, cnd_f]
  unfold cmp
  by_cases h : x < y
  · simp [h, cnd_t]
  · by_cases h2 : y < x <;> simp [h, h2, cnd_t, cnd_f])
theorem s85 (d : Nat) (x y : Int) : pcall M (d + 2) 85 [.int .u64 x, .int .u64 y] = some (.int .i64 (cmp x y)) := told (r85 C0 (d + 1) x y) (by
  rw [s87, s87, C0_bool, C0_bool, cnd_f, cnd_f]
  unfold cmp
  by_cases h : x < y
  · simp [h, cnd_t]
  · by_cases h2 : y < x <;> simp [h, h2, cnd_t, cnd_f])
theorem s67 (d : Nat) (x : Int) : pcall M (d + 1) 67 [.int .i64 x] = some (.bool (decide (Okc x))) := told (r67 C0 d x) (by
  unfold Okc
  by_cases h : x ≥ -1099511627776 <;> by_cases h2 : x ≤ 1099511627776 <;> simp [h, h2, cnd_t, cnd_f])
theorem s62 (d : Nat) (p : Int × Int) : pcall M (d + 2) 62 [pt p] = some (.bool (decide (OkP p))) := told (r62 C0 (d + 1) p.1 p.2) (by
  rw [s67, s67, C0_bool, C0_bool]
  unfold OkP
  by_cases h : Okc p.1 <;> by_cases h2 : Okc p.2 <;> simp [h, h2, cnd_t, cnd_f])
theorem s79 (d : Nat) (p : Int × Int) : pcall M (d + 3) 79 [pt p] = some (.bool (!decide (OkP p))) := told (r79 C0 (d + 2) p.1 p.2) (by
  rw [s62, C0_bool])
def fi : List Pt → Int → Int
  | [], _ => -1
  | p :: l, i => if OkP p then fi l (i + 1) else i
theorem pts_at {ps : List Pt} {i : Nat} (h : i < ps.length) : (ps.map pt)[((i : Nat) : Int).toNat]? = some (pt ps[i]) := by simp [h]
theorem s64_0 (d : Nat) (ps : List Pt) (hl : ps.length < 9223372036854775807) : ∀ (l2 : List Pt) (i f : Nat), ps.drop i = l2 → l2.length < f →
    L64f79_0 (d + 3) (ps.map pt) f (i : Nat) = some (.int .i64 (fi l2 (i : Nat))) := by
  intro l2
  induction l2 with
  | nil =>
    intro i f hd hf
    obtain ⟨f, rfl⟩ : ∃ m, f = m + 1 := ⟨f - 1, by omega⟩
    have : ps.length ≤ i := List.drop_eq_nil_iff.mp hd
    rw [L64f79_0, decide_eq_false (by simp; omega), cnd_f]; rfl
  | cons p l2 ih =>
    intro i f hd hf
    obtain ⟨f, rfl⟩ : ∃ m, f = m + 1 := ⟨f - 1, by simp at hf; omega⟩
    have hi : i < ps.length := by
      rcases Nat.lt_or_ge i ps.length with h | h
      · exact h
      · rw [List.drop_eq_nil_of_le h] at hd; cases hd
    have hp : ps[i] = p := by have := List.drop_eq_getElem_cons hi; rw [hd] at this; exact (List.cons.inj this).1.symm
    have hd2 : ps.drop (i + 1) = l2 := by have := List.drop_eq_getElem_cons hi; rw [hd] at this; exact (List.cons.inj this).2.symm
    rw [L64f79_0, decide_eq_true (by simp; omega), cnd_t, decide_eq_true (by omega), cnd_t, pts_at hi]
    refine Eq.trans (pl_agg (by rfl) (by rfl)) ?_; refine Eq.trans (pl_int (by rfl)) ?_; refine Eq.trans (pl_int (by rfl)) ?_
    rw [show pcall M (d + 3) 79 [.agg [.int .i64 ps[i].1, .int .i64 ps[i].2]] = some (.bool (!decide (OkP ps[i]))) from s79 d ps[i], C0_bool, hp]
    simp only [fi]
    by_cases h : OkP p
    · rw [decide_eq_true h, if_pos h, show IntKind.wrap .i64 ((i : Int) + 1) = ((i + 1 : Nat) : Int) by rw [IntKind.wrap_i64]; omega]
      refine (ih (i + 1) f hd2 (by simp at hf; omega)).trans ?_
      simp
    · rw [decide_eq_false h, if_neg h]; rfl
theorem s64 (d : Nat) (ps : List Pt) (hl : ps.length < 140737488355329) : pcall M (d + 4) 64 [.lst (ps.map pt), .fn 79 [] []] = some (.int .i64 (fi ps 0)) :=
  told (q64f79 (d + 3) (ps.map pt) .nilp) (s64_0 d ps (by omega) ps 0 _ rfl (by omega))
end Go.Proofs.Ytdceaeifcniabaa.AE

namespace Go.Proofs.Ytdceaeifcniabaa.AE
set_option linter.unusedVariables false
set_option linter.unusedSimpArgs false
set_option linter.constructorNameAsVariable false
open Go Go.Proofs.Ytdceaeifcniabaa.Geo
theorem s83 (d : Nat) (x y : Int) : pcall M (d + 1) 83 [.lst [.int .i64 x, .int .i64 y]] = some (.int .i64 (if x ≠ 0 then x else y)) := told (q83 d _) (by
  rw [show (10000000000000000000 : Nat) = 9999999999999999997 + 1 + 1 + 1 from rfl, L83_0]
  refine Eq.trans (pl_len (by rfl)) ?_; refine Eq.trans (pl_len (by rfl)) ?_; refine Eq.trans (pl_int (by rfl)) ?_
  by_cases hx : x = 0
  · subst hx
    refine Eq.trans (pl_f (by rfl)) ?_
    rw [L83_0]
    refine Eq.trans (pl_len (by rfl)) ?_; refine Eq.trans (pl_len (by rfl)) ?_; refine Eq.trans (pl_int (by rfl)) ?_
    by_cases hy : y = 0
    · subst hy
      refine Eq.trans (pl_f (by rfl)) ?_
      rw [L83_0]; rfl
    · rw [show (y != 0) = true by simp [hy], cnd_t]; rfl
  · rw [show (x != 0) = true by simp [hx], cnd_t, if_pos hx]; rfl)
theorem s81 (d : Nat) (a b : Int) (ha : -170141183460469231731687303715884105728 ≤ a) (ha' : a < 170141183460469231731687303715884105728) (hb : -170141183460469231731687303715884105728 ≤ b) (hb' : b < 170141183460469231731687303715884105728) :
    pcall M (d + 3) 81 [.agg [.int .i64 (hiw a), .int .u64 (low a)], .agg [.int .i64 (hiw b), .int .u64 (low b)]] = some (.int .i64 (cmp a b)) := told (r81 C0 (d + 2) _ _ _ _) (by
  rw [s84, s85, C0_int, C0_int, s83, C0_int]
  have e1 : hiw a = a / 18446744073709551616 := by unfold hiw; rw [i64_small (by omega) (by omega)]
  have e2 : hiw b = b / 18446744073709551616 := by unfold hiw; rw [i64_small (by omega) (by omega)]
  rw [e1, e2]
  unfold low cmp
  congr 2
  repeat' split
  all_goals omega)
theorem s82 (d : Nat) (a b : Int) (ha : 0 ≤ a) (ha' : a < 18446744073709551616) (hb : 0 ≤ b) (hb' : b < 18446744073709551616) :
    ∃ hi lo, pcall M (d + 1) 82 [.int .u64 a, .int .u64 b] = some (.tup [.int .u64 hi, .int .u64 lo]) ∧ hi * 18446744073709551616 + lo = a * b ∧ 0 ≤ lo ∧ lo < 18446744073709551616 ∧ 0 ≤ hi ∧ hi < 18446744073709551616 := by
  refine ⟨_, _, told (r82 C0 d a b) rfl, ?_⟩
  have h32 : ∀ x : Int, Int.fdiv x (2 ^ (min (Int.toNat 32) 64)) = x / 4294967296 := by
    intro x
    rw [show ((2 : Int) ^ (min (Int.toNat 32) 64)) = 4294967296 from by decide]
    exact Int.fdiv_eq_ediv_of_nonneg x (by decide)
  rw [u64_and32 ha ha', u64_and32 hb hb']
  simp only [h32]
  obtain ⟨a1, a0, e1, e2, e3, e4⟩ : ∃ a1 a0 : Int, a / 4294967296 = a1 ∧ a % 4294967296 = a0 ∧ a = a1 * 4294967296 + a0 ∧ (0 ≤ a0 ∧ a0 < 4294967296 ∧ 0 ≤ a1 ∧ a1 < 4294967296) := ⟨_, _, rfl, rfl, by omega, by omega⟩
  obtain ⟨b1, b0, f1, f2, f3, f4⟩ : ∃ a1 a0 : Int, b / 4294967296 = a1 ∧ b % 4294967296 = a0 ∧ b = a1 * 4294967296 + a0 ∧ (0 ≤ a0 ∧ a0 < 4294967296 ∧ 0 ≤ a1 ∧ a1 < 4294967296) := ⟨_, _, rfl, rfl, by omega, by omega⟩
  rw [e1, e2, f1, f2]
  have hp : a * b = (a1 * b1) * 18446744073709551616 + (a1 * b0 + a0 * b1) * 4294967296 + a0 * b0 := by rw [e3, f3]; grind
  rw [hp]
  have bd : ∀ x y : Int, 0 ≤ x → x < 4294967296 → 0 ≤ y → y < 4294967296 → 0 ≤ x * y ∧ x * y ≤ 18446744065119617025 := by
    intro x y h1 h2 h3 h4
    exact ⟨Int.mul_nonneg h1 h3, Int.le_trans (Int.mul_le_mul (show x ≤ 4294967295 by omega) (show y ≤ 4294967295 by omega) h3 (by omega)) (by decide)⟩
  have B11 := bd a1 b1 (by omega) (by omega) (by omega) (by omega)
  have B10 := bd a1 b0 (by omega) (by omega) (by omega) (by omega)
  have B01 := bd a0 b1 (by omega) (by omega) (by omega) (by omega)
  have B00 := bd a0 b0 (by omega) (by omega) (by omega) (by omega)
  generalize a1 * b1 = p11 at *
  generalize a1 * b0 = p10 at *
  generalize a0 * b1 = p01 at *
  generalize a0 * b0 = p00 at *
  simp only [u64w]
  rw [show ∀ x : Int, Go.bits .and .u64 (x % 18446744073709551616) 4294967295 = (x % 18446744073709551616) % 4294967296 from fun x => u64_and32 (by omega) (by omega)]
  omega
theorem s80 (d : Nat) (a b : Int) (ha : -9223372036854775808 ≤ a) (ha' : a < 9223372036854775808) (hb : -9223372036854775808 ≤ b) (hb' : b < 9223372036854775808) :
    pcall M (d + 2) 80 [.int .i64 a, .int .i64 b] = some (.agg [.int .i64 (hiw (a * b)), .int .u64 (low (a * b))]) := told (r80 C0 (d + 1) a b) (by
  obtain ⟨hi, lo, e, h0, l0, l1, i0, i1⟩ := s82 d (IntKind.u64.wrap a) (IntKind.u64.wrap b) (by rw [u64w]; omega) (by rw [u64w]; omega) (by rw [u64w]; omega) (by rw [u64w]; omega)
  have bd := mul_bd63 a b ha ha' hb hb'
  rw [e, C0_tup2]
  simp only [at0, at1, C0_int, u64w]
  rw [u64w, u64w] at h0
  unfold hiw low
  have fin : ∀ h : Int, (h * 18446744073709551616 + lo - a * b) % 340282366920938463463374607431768211456 = 0 → (some (.agg [.int .i64 (IntKind.i64.wrap h), .int .u64 lo]) : Ans) = some (.agg [.int .i64 (IntKind.i64.wrap (a * b / 18446744073709551616)), .int .u64 (a * b % 18446744073709551616)]) := by
    intro h hh
    generalize a * b = p at *
    have e2 : lo = p % 18446744073709551616 := by omega
    have e1 : IntKind.i64.wrap h = IntKind.i64.wrap (p / 18446744073709551616) := by rw [i64w, i64w]; omega
    rw [e1, e2]
  by_cases ca : a < 0
  · rw [decide_eq_true ca, cnd_t]
    have ua : a % 18446744073709551616 = a + 18446744073709551616 := by omega
    by_cases cb : b < 0
    · rw [decide_eq_true cb, cnd_t]
      have ub : b % 18446744073709551616 = b + 18446744073709551616 := by omega
      have hp : (a + 18446744073709551616) * (b + 18446744073709551616) = a * b + 18446744073709551616 * (a + b) + 340282366920938463463374607431768211456 := by grind
      rw [ua, ub, hp] at h0
      rw [ua, ub]
      refine fin _ ?_
      generalize a * b = p at *
      omega
    · rw [decide_eq_false cb, cnd_f]
      have ub : b % 18446744073709551616 = b := by omega
      have hp : (a + 18446744073709551616) * b = a * b + 18446744073709551616 * b := by grind
      rw [ua, ub, hp] at h0
      rw [ub]
      refine fin _ ?_
      generalize a * b = p at *
      omega
  · rw [decide_eq_false ca, cnd_f]
    have ua : a % 18446744073709551616 = a := by omega
    by_cases cb : b < 0
    · rw [decide_eq_true cb, cnd_t]
      have ub : b % 18446744073709551616 = b + 18446744073709551616 := by omega
      have hp : a * (b + 18446744073709551616) = a * b + 18446744073709551616 * a := by grind
      rw [ua, ub, hp] at h0
      rw [ua]
      refine fin _ ?_
      generalize a * b = p at *
      omega
    · rw [decide_eq_false cb, cnd_f]
      have ub : b % 18446744073709551616 = b := by omega
      rw [ua, ub] at h0
      refine fin _ ?_
      generalize a * b = p at *
      omega)
theorem fi_ge (ps : List Pt) : ∀ i : Int, 0 ≤ i → (fi ps i ≥ 0 ↔ ¬ ∀ p ∈ ps, OkP p) := by
  induction ps with
  | nil => intro i hi; simp [fi]
  | cons p l ih =>
    intro i hi
    simp only [fi]
    by_cases h : OkP p
    · simp only [h, if_true]; rw [ih (i + 1) (by omega)]; simp [h]
    · simp only [h, if_false]
      exact ⟨fun _ hh => h (hh p (by simp)), fun _ => hi⟩
theorem s74 (d : Nat) (ps : List Pt) (hl : ps.length < 140737488355329) : pcall M (d + 6) 74 [.lst (ps.map pt)] = some (.bool (decide (∀ p ∈ ps, OkP p))) := told (r74 C0 (d + 5) _) (by
  have h30 : pcall M (d + 5) 58 [.lst (ps.map pt), .fn 79 [] []] = some (.bool (decide (fi ps 0 ≥ 0))) := told (r58f79 C0 (d + 4) _ .nilp) (by rw [s64 d ps hl, C0_int])
  rw [h30, C0_bool]
  congr 2
  have := fi_ge ps 0 (by decide)
  by_cases h : ∀ p ∈ ps, OkP p
  · have : ¬ fi ps 0 ≥ 0 := fun hh => (this.mp hh) h
    rw [decide_eq_true h, decide_eq_false this]; rfl
  · rw [decide_eq_false h, decide_eq_true (this.mpr h)]; rfl)
def ok3 (a b c : Pt) : Prop := OkP a ∧ OkP b ∧ OkP c
instance (a b c : Pt) : Decidable (ok3 a b c) := by unfold ok3; infer_instance
def tn3 (a b c : Pt) : Int := if ok3 a b c then sg (TN a b c) else 0
def onB (p a b : Pt) : Bool := decide (ok3 p a b ∧ On p a b)
def ok4 (a b c d : Pt) : Prop := OkP a ∧ OkP b ∧ OkP c ∧ OkP d
instance (a b c d : Pt) : Decidable (ok4 a b c d) := by unfold ok4; infer_instance
def meetB (a b c d : Pt) : Bool := decide (ok4 a b c d ∧ Meet a b c d)
theorem cmp_sg (p q : Int) : cmp p q = sg (p - q) := by unfold cmp sg; split <;> split <;> (try split) <;> (try split) <;> omega
theorem s75 (d : Nat) (a b c : Pt) : pcall M (d + 7) 75 [pt a, pt b, pt c] = some (.int .i64 (tn3 a b c)) := told (r75 C0 (d + 6) _ _ _ _ _ _) (by
  have h22 := s74 d [a, b, c] (by simp)
  simp only [List.map_cons, List.map_nil, pt] at h22
  rw [h22, C0_bool]
  unfold tn3
  by_cases h : ok3 a b c
  · rw [if_pos h, decide_eq_true (by simpa [ok3] using h)]
    obtain ⟨⟨⟨ha, ha'⟩, hb, hb'⟩, ⟨⟨hc, hc'⟩, hd, hd'⟩, ⟨he, he'⟩, hf, hf'⟩ := h
    rw [i64_small (n := b.1 - a.1) (by omega) (by omega), i64_small (n := c.2 - a.2) (by omega) (by omega), i64_small (n := b.2 - a.2) (by omega) (by omega), i64_small (n := c.1 - a.1) (by omega) (by omega)]
    rw [s80 (d + 4) _ _ (by omega) (by omega) (by omega) (by omega), s80 (d + 4) _ _ (by omega) (by omega) (by omega) (by omega)]
    have p1 := prod_bd41 (x := b.1 - a.1) (y := c.2 - a.2) (by omega) (by omega) (by omega) (by omega)
    have p2 := prod_bd41 (x := b.2 - a.2) (y := c.1 - a.1) (by omega) (by omega) (by omega) (by omega)
    simp only [Bool.not_true, cnd_f, C0_agg2, at0, at1, C0_int]
    rw [s81 (d + 3) _ _ (by omega) (by omega) (by omega) (by omega), C0_int, cmp_sg]
    rfl
  · rw [if_neg h, decide_eq_false (by simpa [ok3] using h)]
    rfl)
end Go.Proofs.Ytdceaeifcniabaa.AE

namespace Go.Proofs.Ytdceaeifcniabaa.AE
set_option linter.unusedVariables false
set_option linter.unusedSimpArgs false
set_option linter.constructorNameAsVariable false
open Go Go.Proofs.Ytdceaeifcniabaa.Geo
def btw (x y z : Int) : Bool := decide ((y ≤ x ∧ x ≤ z) ∨ (z ≤ x ∧ x ≤ y))
theorem btw_t {x y z : Int} : btw x y z = true ↔ (y ≤ x ∧ x ≤ z) ∨ (z ≤ x ∧ x ≤ y) := decide_eq_true_iff
def okB (l : List Pt) : Bool := decide (∀ p ∈ l, OkP p)
theorem okB_t {l : List Pt} : okB l = true ↔ ∀ p ∈ l, OkP p := decide_eq_true_iff
def zeroB (x : Int) : Bool := x == 0
theorem zeroB_t {x : Int} : zeroB x = true ↔ x = 0 := beq_iff_eq
def negB (x : Int) : Bool := decide (x < 0)
theorem negB_t {x : Int} : negB x = true ↔ x < 0 := decide_eq_true_iff
theorem onB_t {p a b : Pt} : onB p a b = true ↔ ok3 p a b ∧ On p a b := decide_eq_true_iff
theorem meetB_t {a b c d : Pt} : meetB a b c d = true ↔ ok4 a b c d ∧ Meet a b c d := decide_eq_true_iff
theorem s76 (d : Nat) (x y z : Int) : pcall M (d + 1) 76 [.int .i64 x, .int .i64 y, .int .i64 z] = some (.bool (btw x y z)) := told (r76 C0 d x y z) (by
  have e1 : (if z < y then z else y) = min z y := by omega
  have e2 : (if z > y then z else y) = max z y := by omega
  rw [e1, e2]
  unfold btw
  by_cases h : min z y ≤ x
  · rw [decide_eq_true h, cnd_t]; congr 2; rw [decide_eq_decide]; omega
  · rw [decide_eq_false h, cnd_f]; exact congrArg (fun b => some (AV.bool b)) (decide_eq_false (by omega)).symm)
theorem s69 (d : Nat) (p a b : Pt) : pcall M (d + 8) 69 [pt p, pt a, pt b] = some (.bool (onB p a b)) := told (r69 C0 (d + 7) _ _ _ _ _ _) (by
  have h22 := s74 (d + 1) [p, a, b] (by simp)
  simp only [List.map_cons, List.map_nil, pt] at h22
  have h12 := s75 d a b p
  simp only [pt] at h12
  rw [h22, C0_bool, h12, C0_int, s76 (d + 6), s76 (d + 6), C0_bool, C0_bool]
  change cnd (okB [p, a, b]) (cnd (zeroB (tn3 a b p)) (cnd (btw p.1 a.1 b.1) (some (.bool (btw p.2 a.2 b.2))) (some (.bool false))) (some (.bool false))) (some (.bool false)) = _
  have hok : okB [p, a, b] = true ↔ ok3 p a b := by rw [okB_t]; simp [ok3]
  have key : onB p a b = (okB [p, a, b] && (zeroB (tn3 a b p) && (btw p.1 a.1 b.1 && btw p.2 a.2 b.2))) := by
    rw [Bool.eq_iff_iff]
    simp only [Bool.and_eq_true, onB_t, hok, zeroB_t, btw_t]
    constructor
    · rintro ⟨h, hT, hB⟩
      exact ⟨h, by rw [tn3, if_pos ⟨h.2.1, h.2.2, h.1⟩, sg_zero]; exact hT, hB⟩
    · rintro ⟨h, hT, hB⟩
      rw [tn3, if_pos ⟨h.2.1, h.2.2, h.1⟩, sg_zero] at hT
      exact ⟨h, hT, hB⟩
  rw [key]
  cases okB [p, a, b] <;> cases zeroB (tn3 a b p) <;> cases btw p.1 a.1 b.1 <;> rfl)
theorem tn3_sg {a b c : Pt} (h : ok3 a b c) : tn3 a b c = sg (TN a b c) := if_pos h
theorem sg_small (u v : Int) : IntKind.i64.wrap (sg u * sg v) = sg u * sg v := by
  rcases sg_cases u with ⟨_, h⟩ | ⟨_, h⟩ | ⟨_, h⟩ <;> rcases sg_cases v with ⟨_, h'⟩ | ⟨_, h'⟩ | ⟨_, h'⟩ <;> rw [h, h', i64w] <;> decide
theorem s70 (d : Nat) (a b c e : Pt) : pcall M (d + 9) 70 [pt a, pt b, pt c, pt e] = some (.bool (meetB a b c e)) := told (r70 C0 (d + 8) _ _ _ _ _ _ _ _) (by
  have h22 := s74 (d + 2) [a, b, c, e] (by simp)
  simp only [List.map_cons, List.map_nil, pt] at h22
  have o := fun p q r => s69 d p q r
  have t := fun p q r => s75 (d + 1) p q r
  simp only [pt] at o t
  rw [h22, C0_bool, o a c e, o b c e, o c a b, o e a b, t a b c, t a b e, t c e a, t c e b]
  simp only [C0_bool, C0_int]
  change cnd (!okB [a, b, c, e]) (some (.bool false)) (cnd (onB a c e) (some (.bool true)) (cnd (onB b c e) (some (.bool true)) (cnd (onB c a b) (some (.bool true)) (cnd (onB e a b) (some (.bool true))
    (cnd (negB (IntKind.wrap .i64 (tn3 a b c * tn3 a b e))) (some (.bool (negB (IntKind.wrap .i64 (tn3 c e a * tn3 c e b))))) (some (.bool false))))))) = _
  have hok : okB [a, b, c, e] = true ↔ ok4 a b c e := by rw [okB_t]; simp [ok4]
  have key : meetB a b c e = (okB [a, b, c, e] && (onB a c e || (onB b c e || (onB c a b || (onB e a b || (negB (IntKind.wrap .i64 (tn3 a b c * tn3 a b e)) && negB (IntKind.wrap .i64 (tn3 c e a * tn3 c e b)))))))) := by
    rw [Bool.eq_iff_iff]
    simp only [Bool.and_eq_true, Bool.or_eq_true, onB_t, hok, negB_t, meetB_t]
    refine and_congr_right fun h => ?_
    obtain ⟨ha, hb, hc, he⟩ := h
    rw [tn3_sg ⟨ha, hb, hc⟩, tn3_sg ⟨ha, hb, he⟩, tn3_sg ⟨hc, he, ha⟩, tn3_sg ⟨hc, he, hb⟩, sg_small, sg_small]
    simp only [ok3, ha, hb, hc, he, true_and, and_true]
    exact Iff.rfl
  rw [key]
  cases okB [a, b, c, e] <;> cases onB a c e <;> cases onB b c e <;> cases onB c a b <;> cases onB e a b <;> cases negB (IntKind.wrap .i64 (tn3 a b c * tn3 a b e)) <;> rfl)
theorem s52 (d : Nat) (p : Pt) : pcall M (d + 1) 52 [pt p] = some (.bool (decide (OkP p))) := told (r52 C0 d _ _) (by
  unfold OkP Okc
  by_cases h1 : p.1 ≥ -1099511627776 <;> by_cases h2 : p.1 ≤ 1099511627776 <;> by_cases h3 : p.2 ≥ -1099511627776 <;> by_cases h4 : p.2 ≤ 1099511627776 <;> simp [h1, h2, h3, h4, cnd_t, cnd_f])
end Go.Proofs.Ytdceaeifcniabaa.AE

namespace Go.Proofs.Ytdceaeifcniabaa.AE
set_option linter.unusedVariables false
set_option linter.unusedSimpArgs false
open Go
def bin : List Int → Int
  | [] => 0
  | x :: l => x + 2 * bin l
def bitl (n : Int) : Nat → List Int
  | 0 => []
  | k + 1 => n % 2 :: bitl (n / 2) k
theorem bin_app (l m : List Int) : bin (l ++ m) = bin l + 2 ^ l.length * bin m := by
  induction l with
  | nil => simp [bin]
  | cons x l ih => simp only [List.cons_append, bin, ih, List.length_cons, Int.pow_succ]; grind
theorem bitl_len (n : Int) (k : Nat) : (bitl n k).length = k := by
  induction k generalizing n with
  | zero => rfl
  | succ k ih => simp [bitl, ih]
theorem bitl_snoc (n : Int) (k : Nat) : bitl n (k + 1) = bitl n k ++ [n / 2 ^ k % 2] := by
  induction k generalizing n with
  | zero => simp [bitl]
  | succ k ih =>
    rw [bitl, ih (n / 2), bitl]
    simp only [List.cons_append]
    rw [Int.ediv_ediv_of_nonneg (by decide), Int.pow_succ, Int.mul_comm (2 ^ k) 2]
theorem bin_bitl (n : Int) (k : Nat) : bin (bitl n k) = n % 2 ^ k := by
  induction k generalizing n with
  | zero => simp [bitl, bin]
  | succ k ih =>
    simp only [bitl, bin, ih]
    have hp : (0 : Int) < 2 ^ k := Int.pow_pos (by decide)
    have e1 := Int.mul_ediv_add_emod (n / 2) (2 ^ k)
    have e2 := Int.emod_nonneg (n / 2) (show (2 : Int) ^ k ≠ 0 by omega)
    have e3 := Int.emod_lt_of_pos (n / 2) hp
    rw [Int.pow_succ]
    symm
    have e0 : n = n % 2 + 2 * (n / 2 % 2 ^ k) + (2 ^ k * 2) * (n / 2 / 2 ^ k) := by
      rw [Int.mul_assoc (2 ^ k) 2, Int.mul_left_comm (2 ^ k) 2]; omega
    rw [e0]
    rw [Int.add_mul_emod_self_left]
    have h2 : (n % 2 + 2 * (n / 2 % 2 ^ k) + 2 ^ k * 2 * (n / 2 / 2 ^ k)) = n := e0.symm
    rw [h2]
    exact Int.emod_eq_of_lt (by omega) (by omega)
def Bits (l : List Int) : Prop := ∀ x ∈ l, x = 0 ∨ x = 1
theorem bin_nonneg {l : List Int} (h : Bits l) : 0 ≤ bin l ∧ bin l < 2 ^ l.length := by
  induction l with
  | nil => simp [bin]
  | cons x l ih =>
    have := ih fun y hy => h y (List.mem_cons_of_mem _ hy)
    have hx := h x (List.mem_cons_self ..)
    simp only [bin, List.length_cons, Int.pow_succ]
    omega
theorem bitl_bits (n : Int) (k : Nat) : Bits (bitl n k) := by
  induction k generalizing n with
  | zero => intro x hx; cases hx
  | succ k ih =>
    intro x hx
    rcases List.mem_cons.mp hx with rfl | hx
    · omega
    · exact ih _ x hx
theorem bits_app {l m : List Int} : Bits (l ++ m) ↔ Bits l ∧ Bits m := by
  unfold Bits; simp only [List.mem_append]
  exact ⟨fun h => ⟨fun x hx => h x (.inl hx), fun x hx => h x (.inr hx)⟩, fun h x hx => hx.elim (h.1 x) (h.2 x)⟩
theorem u64_or_pow {x : Int} {i : Nat} (hi : i < 64) (h : 0 ≤ x) (h' : x < 2 ^ i) : Go.bits .or .u64 x (2 ^ i) = x + 2 ^ i := by
  obtain ⟨n, rfl⟩ := Int.eq_ofNat_of_zero_le h
  have hn : n < 2 ^ i := by exact_mod_cast h'
  have hp : (2 : Nat) ^ i < 2 ^ 64 := Nat.pow_lt_pow_right (by decide) hi
  have hp2 : (2 : Nat) ^ i + 2 ^ i ≤ 2 ^ 64 := by
    have := Nat.pow_le_pow_right (n := 2) (by decide) (show i + 1 ≤ 64 by omega)
    rw [Nat.pow_succ] at this; omega
  show IntKind.u64.wrap ((BitVec.ofInt 64 (n : Int) ||| BitVec.ofInt 64 ((2 : Int) ^ i)).toNat : Int) = _
  rw [show ((2 : Int) ^ i) = ((2 ^ i : Nat) : Int) by simp, BitVec.toNat_or, BitVec.ofInt_natCast, BitVec.ofInt_natCast, BitVec.toNat_ofNat, BitVec.toNat_ofNat, Nat.mod_eq_of_lt (by omega), Nat.mod_eq_of_lt hp]
  have := Nat.two_pow_add_eq_or_of_lt (i := i) hn 1
  rw [Nat.mul_one] at this
  rw [Nat.or_comm, ← this, u64_small (by omega) (by omega)]
  simp; omega
theorem pow64 (i : Nat) (hi : i < 64) : (0 : Int) < 2 ^ i ∧ (2 : Int) ^ i < 18446744073709551616 := by
  constructor
  · exact Int.pow_pos (by decide)
  · have : (2 : Nat) ^ i < 2 ^ 64 := Nat.pow_lt_pow_right (by decide) hi
    have h2 : ((2 ^ i : Nat) : Int) < ((2 ^ 64 : Nat) : Int) := by exact_mod_cast this
    simpa using h2
end Go.Proofs.Ytdceaeifcniabaa.AE

namespace Go.Proofs.Ytdceaeifcniabaa.AE
set_option linter.unusedVariables false
set_option linter.unusedSimpArgs false
set_option linter.constructorNameAsVariable false
open Go
/-- A number of 128 bits, as a value. -/
abbrev wd (n : Int) : AV := .agg [.int .i64 (hiw n), .int .u64 (low n)]
theorem low_rng (n : Int) : 0 ≤ low n ∧ low n < 18446744073709551616 := by unfold low; omega
theorem u_hiw (n : Int) : IntKind.wrap .u64 (hiw n) = n / 18446744073709551616 % 18446744073709551616 := by unfold hiw; rw [i64w, u64w]; omega
theorem shr1 {x : Int} {i : Nat} (hi : i < 64) (h : 0 ≤ x) (h' : x < 18446744073709551616) : IntKind.wrap .i64 (bits .and .u64 (Int.fdiv x (2 ^ (min (Int.toNat (i : Int)) 64))) 1) = x / 2 ^ i % 2 := by
  rw [show min (Int.toNat (i : Int)) 64 = i by omega, Int.fdiv_eq_ediv_of_nonneg _ (Int.le_of_lt (pow64 i hi).1)]
  have hp := pow64 i hi
  have h1 : 0 ≤ x / 2 ^ i := Int.ediv_nonneg h (by omega)
  have h2 : x / 2 ^ i < 18446744073709551616 := Int.lt_of_le_of_lt (Int.ediv_le_self _ h) h'
  have := u64_mask 1 (by decide) h1 h2
  rw [show ((2 : Int) ^ 1 - 1) = 1 by decide, show ((2 : Int) ^ 1) = 2 by decide] at this
  rw [this, i64w]; omega
theorem wrap_succ (i : Nat) (h : i < 9223372036854775807) : IntKind.wrap .i64 ((i : Int) + 1) = ((i + 1 : Nat) : Int) := by rw [i64w]; omega
theorem bits1 (d : Nat) (n : Int) : ∀ (k i f : Nat) (H : Heap) (v : AV) (l : List Int), i + k = 64 → k < f → l.length = 64 + i → hget H 0 = some ⟨E98, [wd n]⟩ → Own H E3 v (iv l) → ¬ names v 0 →
    L77_1 d (.ptr 0 0 0) f v (i : Nat) H = some (.lst (iv (l ++ ((List.range k).map fun j => n / 18446744073709551616 % 18446744073709551616 / 2 ^ (i + j) % 2)))) := by
  intro k
  induction k with
  | zero =>
    intro i f H v l hi hf hl h0 ho hn
    obtain ⟨f, rfl⟩ : ∃ g, f = g + 1 := ⟨f - 1, by omega⟩
    rw [L77_1, decide_eq_false (by omega), cnd_f, X77_1_0, C0_fin, snap_iv ho]; simp
  | succ k ih =>
    intro i f H v l hi hf hl h0 ho hn
    obtain ⟨f, rfl⟩ : ∃ g, f = g + 1 := ⟨f - 1, by omega⟩
    rw [L77_1, decide_eq_true (by omega), cnd_t, sh_ptr, ld_ptr h0 (by rfl) (by rfl), C0_int, decide_eq_false (by omega), cnd_f, u_hiw, shr1 (by omega) (by omega) (by omega)]
    obtain ⟨v', H', e, ho', hn', _, hk⟩ := app_one (x := .int .i64 (n / 18446744073709551616 % 18446744073709551616 / 2 ^ i % 2)) ho (by rfl) (by rw [iv_len, hl]; change (64 + i + 1) * 8 ≤ _; omega) (by rw [iv_len]; omega)
    rw [e, wrap_succ i (by omega), ih (i + 1) f H' v' (l ++ [n / 18446744073709551616 % 18446744073709551616 / 2 ^ i % 2]) (by omega) (by omega) (by simp; omega) (hk 0 _ hn h0) (by rw [iv_app]; exact ho') (fun hc => by have := hn' 0 hc; omega)]
    rw [List.append_assoc, List.range_succ_eq_map]
    simp [Nat.add_assoc, Nat.add_comm 1, List.map_map, Function.comp_def]
end Go.Proofs.Ytdceaeifcniabaa.AE

namespace Go.Proofs.Ytdceaeifcniabaa.AE
set_option linter.unusedVariables false
set_option linter.unusedSimpArgs false
set_option linter.constructorNameAsVariable false
open Go
theorem bitl_range (m : Int) (k : Nat) : bitl m k = (List.range k).map fun j => m / 2 ^ j % 2 := by
  induction k with
  | zero => rfl
  | succ k ih => rw [bitl_snoc, ih, List.range_succ, List.map_append]; rfl
def wbits (n : Int) : List Int := bitl (low n) 64 ++ bitl (n / 18446744073709551616 % 18446744073709551616) 64
theorem wbits_len (n : Int) : (wbits n).length = 128 := by simp [wbits, bitl_len]
theorem wbits_bits (n : Int) : Bits (wbits n) := bits_app.mpr ⟨bitl_bits _ _, bitl_bits _ _⟩
theorem bin_wbits (n : Int) : bin (wbits n) = n % 340282366920938463463374607431768211456 := by
  unfold wbits; rw [bin_app, bin_bitl, bin_bitl, bitl_len]
  have e : (2 : Int) ^ 64 = 18446744073709551616 := by decide
  rw [e]; unfold low; omega
theorem bits0 (d : Nat) (n : Int) : ∀ (k i f : Nat) (H : Heap) (v : AV), i + k = 64 → k < f → hget H 0 = some ⟨E98, [wd n]⟩ → Own H E3 v (iv (bitl (low n) i)) → ¬ names v 0 →
    L77_0 d (.ptr 0 0 0) f v (i : Nat) H = some (.lst (iv (wbits n))) := by
  intro k
  induction k with
  | zero =>
    intro i f H v hi hf h0 ho hn
    obtain ⟨f, rfl⟩ : ∃ g, f = g + 1 := ⟨f - 1, by omega⟩
    obtain rfl : i = 64 := by omega
    rw [L77_0, decide_eq_false (by omega), cnd_f, X77_0_0]
    have := bits1 d n 64 0 10000000000000000000 H v _ (by omega) (by omega) (by simp [bitl_len]) h0 ho hn
    simp only [Nat.zero_add, ← bitl_range] at this
    exact this
  | succ k ih =>
    intro i f H v hi hf h0 ho hn
    obtain ⟨f, rfl⟩ : ∃ g, f = g + 1 := ⟨f - 1, by omega⟩
    have l0 := low_rng n
    rw [L77_0, decide_eq_true (by omega), cnd_t, sh_ptr, ld_ptr h0 (by rfl) (by rfl), C0_int, decide_eq_false (by omega), cnd_f, shr1 (by omega) l0.1 l0.2]
    obtain ⟨v', H', e, ho', hn', _, hk⟩ := app_one (x := .int .i64 (low n / 2 ^ i % 2)) ho (by rfl) (by rw [iv_len, bitl_len]; change (i + 1) * 8 ≤ _; omega) (by rw [iv_len, bitl_len]; omega)
    rw [e, wrap_succ i (by omega), ih (i + 1) f H' v' (by omega) (by omega) (hk 0 _ hn h0) (by rw [bitl_snoc, iv_app]; exact ho') (fun hc => by have := hn' 0 hc; omega)]
theorem s77 (d : Nat) (n : Int) : pcall M (d + 1) 77 [wd n] = some (.lst (iv (wbits n))) := told (q77 d _ _) (by
  refine Eq.trans (hop_eq (by rfl)) ?_
  exact bits0 d n 64 0 10000000000000000000 _ _ (by omega) (by omega) rfl (.inl ⟨rfl, _, rfl⟩) (by rintro ⟨o, m, h⟩; cases h))
theorem bin_take {l : List Int} {i : Nat} (h : i < l.length) : bin (l.take (i + 1)) = bin (l.take i) + 2 ^ i * l[i] := by
  rw [List.take_succ_eq_append_getElem h, bin_app]
  simp [bin, List.length_take, Nat.min_eq_left (Nat.le_of_lt h)]
theorem wd_congr {a b : Int} (h : a % 340282366920938463463374607431768211456 = b % 340282366920938463463374607431768211456) : wd a = wd b := by
  have e1 : hiw a = hiw b := by unfold hiw; rw [i64w, i64w]; omega
  have e2 : low a = low b := by unfold low; omega
  rw [wd, wd, e1, e2]
theorem take_bits {l : List Int} (h : Bits l) (i : Nat) : Bits (l.take i) := fun x hx => h x (List.mem_of_mem_take hx)
theorem drop_bits {l : List Int} (h : Bits l) (i : Nat) : Bits (l.drop i) := fun x hx => h x (List.mem_of_mem_drop hx)
theorem bin_lt {l : List Int} (h : Bits l) {i : Nat} (hi : i ≤ l.length) : 0 ≤ bin (l.take i) ∧ bin (l.take i) < 2 ^ i := by
  have := bin_nonneg (take_bits h i)
  rwa [List.length_take, Nat.min_eq_left hi] at this
theorem shl1 {i : Nat} (hi : i < 64) : IntKind.wrap .u64 (1 * (2 ^ (min (Int.toNat (i : Int)) 64))) = 2 ^ i := by
  rw [show min (Int.toNat (i : Int)) 64 = i by omega, Int.one_mul]
  exact u64_small (Int.le_of_lt (pow64 i hi).1) (pow64 i hi).2
theorem value1 (d : Nat) (l : List Int) (hb : Bits l) (hl : l.length = 128) : ∀ (k i f : Nat), i + k = 64 → k < f →
    L78_0 d (iv l) (.ptr 0 0 0) (.ptr 1 0 0) f (bin ((l.drop 64).take i)) (i : Nat) [some ⟨E98, [wd 0]⟩, some ⟨E98, [.agg [.int .i64 0, .int .u64 (bin (l.take i))]]⟩] = some (wd (bin l)) := by
  intro k
  induction k with
  | zero =>
    intro i f hi hf
    obtain ⟨f, rfl⟩ : ∃ g, f = g + 1 := ⟨f - 1, by omega⟩
    obtain rfl : i = 64 := by omega
    rw [L78_0, decide_eq_false (by omega), cnd_f, X78_0_0]
    have b1 := bin_lt hb (i := 64) (by omega)
    have e0 : (l.drop 64).take 64 = l.drop 64 := List.take_of_length_le (by simp; omega)
    have e1 : bin l = bin (l.take 64) + 2 ^ 64 * bin (l.drop 64) := by
      have := bin_app (l.take 64) (l.drop 64)
      rw [List.take_append_drop, List.length_take, Nat.min_eq_left (by omega)] at this
      exact this
    have e2 : (2 : Int) ^ 64 = 18446744073709551616 := by decide
    rw [e2] at b1 e1
    have h1 : hiw (bin l) = IntKind.wrap .i64 (bin (l.drop 64)) := by unfold hiw; rw [e1]; congr 1; omega
    have h2 : low (bin l) = bin (l.take 64) := by unfold low; omega
    have hwd : wd (bin l) = .agg [.int .i64 (IntKind.wrap .i64 (bin (l.drop 64))), .int .u64 (bin (l.take 64))] := by rw [wd, h1, h2]
    rw [hwd, e0]
    refine Eq.trans (hop_eq (by rfl)) ?_; refine Eq.trans (hop_eq (by rfl)) ?_; refine Eq.trans (hop_eq (by rfl)) ?_; refine Eq.trans (pl_agg (by rfl) (by rfl)) ?_; refine Eq.trans (pl_int (by rfl)) ?_; refine Eq.trans (pl_int (by rfl)) ?_; refine Eq.trans (hop_eq (by rfl)) ?_; refine Eq.trans (hop_eq (by rfl)) ?_
    rfl
  | succ k ih =>
    intro i f hi hf
    obtain ⟨f, rfl⟩ : ∃ g, f = g + 1 := ⟨f - 1, by omega⟩
    have i1 : i < l.length := by omega
    have i2 : i < (l.drop 64).length := by simp; omega
    have g1 : (iv l)[((i : Nat) : Int).toNat]? = some (.int .i64 l[i]) := by rw [iv_at]; simp [i1]
    have g2 : (iv l)[(IntKind.wrap .i64 (64 + (i : Int))).toNat]? = some (.int .i64 (l.drop 64)[i]) := by
      have : (IntKind.wrap .i64 (64 + (i : Int))).toNat = 64 + i := by rw [i64w]; omega
      rw [this, iv_at]; simp [List.getElem?_eq_getElem (show 64 + i < l.length by omega)]
    have w0 : 0 ≤ IntKind.wrap .i64 (64 + (i : Int)) := by rw [i64w]; omega
    have b1 := bin_lt hb (i := i) (by omega)
    have b2 := bin_lt (drop_bits hb 64) (i := i) (by simp; omega)
    have IH := ih (i + 1) f (by omega) (by omega)
    rw [bin_take i1, bin_take i2] at IH
    rw [L78_0, decide_eq_true (by omega), cnd_t]
    refine Eq.trans (ix_lst (by omega) g1 (by rfl)) ?_
    refine Eq.trans (hop_eq (by rfl)) ?_; refine Eq.trans (pl_int (by rfl)) ?_
    have c0 : ∀ i : Nat, decide ((i : Int) < 0) = false := fun i => decide_eq_false (by omega)
    rcases hb l[i] (List.getElem_mem _) with x0 | x0 <;> rcases drop_bits hb 64 (l.drop 64)[i] (List.getElem_mem _) with y0 | y0
    all_goals rw [x0] ; rw [y0] at g2
    · rw [x0, y0] at IH
      refine Eq.trans (pl_f (by rfl)) ?_
      refine Eq.trans (ix_lst w0 g2 (by rfl)) ?_
      refine Eq.trans (hop_eq (by rfl)) ?_; refine Eq.trans (pl_int (by rfl)) ?_
      refine Eq.trans (pl_f (by rfl)) ?_
      rw [wrap_succ i (by omega)]
      simpa using IH
    · rw [x0, y0] at IH
      refine Eq.trans (pl_f (by rfl)) ?_
      refine Eq.trans (ix_lst w0 g2 (by rfl)) ?_
      refine Eq.trans (hop_eq (by rfl)) ?_; refine Eq.trans (pl_int (by rfl)) ?_; refine Eq.trans (pl_len (by rfl)) ?_
      rw [c0, cnd_f, wrap_succ i (by omega), shl1 (by omega), u64_or_pow (by omega) b2.1 b2.2]
      simpa using IH
    · rw [x0, y0] at IH
      refine Eq.trans (pl_len (by rfl)) ?_; refine Eq.trans (hop_eq (by rfl)) ?_; refine Eq.trans (hop_eq (by rfl)) ?_; refine Eq.trans (pl_int (by rfl)) ?_
      rw [c0, cnd_f, shl1 (by omega), u64_or_pow (by omega) b1.1 b1.2]
      refine Eq.trans (hop_eq (by rfl)) ?_; refine Eq.trans (hop_eq (by rfl)) ?_
      refine Eq.trans (ix_lst w0 g2 (by rfl)) ?_
      refine Eq.trans (hop_eq (by rfl)) ?_; refine Eq.trans (pl_int (by rfl)) ?_
      refine Eq.trans (pl_f (by rfl)) ?_
      rw [wrap_succ i (by omega)]
      simp only [Int.mul_one, Int.mul_zero, Int.add_zero] at IH
      exact IH
    · rw [x0, y0] at IH
      refine Eq.trans (pl_len (by rfl)) ?_; refine Eq.trans (hop_eq (by rfl)) ?_; refine Eq.trans (hop_eq (by rfl)) ?_; refine Eq.trans (pl_int (by rfl)) ?_
      rw [c0, cnd_f, shl1 (by omega), u64_or_pow (by omega) b1.1 b1.2]
      refine Eq.trans (hop_eq (by rfl)) ?_; refine Eq.trans (hop_eq (by rfl)) ?_
      refine Eq.trans (ix_lst w0 g2 (by rfl)) ?_
      refine Eq.trans (hop_eq (by rfl)) ?_; refine Eq.trans (pl_int (by rfl)) ?_; refine Eq.trans (pl_len (by rfl)) ?_
      rw [cnd_f, wrap_succ i (by omega), u64_or_pow (by omega) b2.1 b2.2]
      simp only [Int.mul_one] at IH
      exact IH
theorem s78 (d : Nat) (l : List Int) (hb : Bits l) (hl : l.length = 128) : pcall M (d + 1) 78 [.lst (iv l)] = some (wd (bin l)) := told (q78 d _) (by
  refine Eq.trans (hop_eq (by rfl)) ?_; refine Eq.trans (hop_eq (by rfl)) ?_; refine Eq.trans (hop_eq (by rfl)) ?_
  have := value1 d l hb hl 64 0 10000000000000000000 (by omega) (by omega)
  simp only [List.take_zero, bin] at this
  exact this)
end Go.Proofs.Ytdceaeifcniabaa.AE

namespace Go.Proofs.Ytdceaeifcniabaa.AE
set_option linter.unusedVariables false
set_option linter.unusedSimpArgs false
set_option linter.constructorNameAsVariable false
open Go
theorem plus1 (d : Nat) (x y : List Int) (hx : Bits x) (hy : Bits y) (lx : x.length = 128) (ly : y.length = 128) : ∀ (k i f : Nat) (H : Heap) (v : AV) (out : List Int) (c : Int), i + k = 128 → k < f → out.length = i → Bits out → (c = 0 ∨ c = 1) →
    bin out + 2 ^ i * c = bin (x.take i) + bin (y.take i) → hget H 2 = some ⟨E98, [wd 0]⟩ → Own H E3 v (iv out) → ¬ names v 2 → 2 < H.length →
    L72_0 (d + 1) (.ptr 2 0 0) (.lst (iv x)) (.lst (iv y)) f v c (i : Nat) H = some (wd (bin x + bin y)) := by
  intro k
  induction k with
  | zero =>
    intro i f H v out c hi hf lo ob hc hs h2 ho hn hl
    obtain ⟨f, rfl⟩ : ∃ g, f = g + 1 := ⟨f - 1, by omega⟩
    obtain rfl : i = 128 := by omega
    rw [L72_0, decide_eq_false (by omega), cnd_f, X72_0_0, snp_own ho (by intro h; rw [h] at lo; simp at lo), s78 d out ob lo]
    refine Eq.trans (pl_agg (by rfl) (by rfl)) ?_; refine Eq.trans (pl_int (by rfl)) ?_; refine Eq.trans (pl_int (by rfl)) ?_; refine Eq.trans (pl_len (by rfl)) ?_
    rw [st_ptr h2 (by rfl) (by rfl)]
    refine Eq.trans (ld_ptr (hget_set hl) (by rfl) (by rfl)) ?_
    rw [List.take_of_length_le (by omega), List.take_of_length_le (by omega)] at hs
    have e2 : (2 : Int) ^ 128 = 340282366920938463463374607431768211456 := by decide
    rw [e2] at hs
    rw [wd_congr (a := bin x + bin y) (b := bin out) (by rw [← hs]; omega)]
    rfl
  | succ k ih =>
    intro i f H v out c hi hf lo ob hc hs h2 ho hn hl
    obtain ⟨f, rfl⟩ : ∃ g, f = g + 1 := ⟨f - 1, by omega⟩
    have i1 : i < x.length := by omega
    have i2 : i < y.length := by omega
    have g1 : (iv x)[((i : Nat) : Int).toNat]? = some (.int .i64 x[i]) := by rw [iv_at]; simp [i1]
    have g2 : (iv y)[((i : Nat) : Int).toNat]? = some (.int .i64 y[i]) := by rw [iv_at]; simp [i2]
    have bx := hx x[i] (List.getElem_mem _)
    have by' := hy y[i] (List.getElem_mem _)
    rw [L72_0, decide_eq_true (by omega), cnd_t]
    refine Eq.trans (ix_lst (by omega) g1 (by rfl)) ?_
    refine Eq.trans (hop_eq (by rfl)) ?_; refine Eq.trans (pl_int (by rfl)) ?_
    refine Eq.trans (ix_lst (by omega) g2 (by rfl)) ?_
    refine Eq.trans (hop_eq (by rfl)) ?_; refine Eq.trans (pl_int (by rfl)) ?_
    obtain ⟨t, ht⟩ : ∃ t, t = x[i] + y[i] + c := ⟨_, rfl⟩
    have ew : IntKind.wrap .i64 ((IntKind.wrap .i64 (x[i] + y[i])) + c) = t := by rw [i64w, i64w]; omega
    have e1 : Int.tmod t 2 = t % 2 := Int.tmod_eq_emod_of_nonneg (by omega)
    have e2 : Int.tdiv t 2 = t / 2 := Int.tdiv_eq_ediv_of_nonneg (by omega)
    have e3 : IntKind.wrap .i64 (t / 2) = t / 2 := i64_small (by omega) (by omega)
    rw [ew, e1, e2, e3]
    obtain ⟨v', H', e, ho', hn', hl', hk⟩ := app_one (x := .int .i64 (t % 2)) ho (by rfl) (by rw [iv_len, lo]; change (i + 1) * 8 ≤ _; omega) (by rw [iv_len, lo]; omega)
    rw [e, wrap_succ i (by omega)]
    refine ih (i + 1) f H' v' (out ++ [t % 2]) (t / 2) (by omega) (by omega) (by simp [lo]) (bits_app.mpr ⟨ob, by intro z hz; simp at hz; omega⟩) (by omega) ?_ (hk 2 _ hn h2) (by rw [iv_app]; exact ho') (fun hc => by have := hn' 2 hc; omega) (by omega)
    rw [bin_app, lo, bin_take i1, bin_take i2, Int.pow_succ]
    simp only [bin]
    have e4 : t = t % 2 + 2 * (t / 2) := by omega
    have : bin out + 2 ^ i * (t % 2 + 2 * 0) + 2 ^ i * 2 * (t / 2) = bin out + 2 ^ i * (t % 2 + 2 * (t / 2)) := by grind
    rw [this, ← e4, ht]
    grind
theorem s72 (d : Nat) (a b : Int) : pcall M (d + 2) 72 [wd a, wd b] = some (wd (a + b)) := told (q72 (d + 1) _ _ _ _) (by
  refine Eq.trans (hop_eq (by rfl)) ?_; refine Eq.trans (hop_eq (by rfl)) ?_; refine Eq.trans (hop_eq (by rfl)) ?_; refine Eq.trans (hop_eq (by rfl)) ?_; refine Eq.trans (pl_agg (by rfl) (by rfl)) ?_; refine Eq.trans (pl_int (by rfl)) ?_; refine Eq.trans (pl_int (by rfl)) ?_
  refine Eq.trans (pl_any (s77 d a)) ?_
  refine Eq.trans (hop_eq (by rfl)) ?_; refine Eq.trans (pl_agg (by rfl) (by rfl)) ?_; refine Eq.trans (pl_int (by rfl)) ?_; refine Eq.trans (pl_int (by rfl)) ?_
  refine Eq.trans (pl_any (s77 d b)) ?_
  have := plus1 d (wbits a) (wbits b) (wbits_bits a) (wbits_bits b) (wbits_len a) (wbits_len b) 128 0 10000000000000000000
    [some ⟨E98, [wd a]⟩, some ⟨E98, [wd b]⟩, some ⟨E98, [wd 0]⟩] (.zsl true) [] 0 (by omega) (by omega) rfl (by intro z hz; cases hz) (.inl rfl) (by simp [bin]) rfl (.inl ⟨rfl, _, rfl⟩) (by rintro ⟨o, m, h⟩; cases h) (by simp)
  refine this.trans ?_
  rw [bin_wbits, bin_wbits, wd_congr (a := a + b) (b := a % 340282366920938463463374607431768211456 + b % 340282366920938463463374607431768211456) (by omega)])
theorem s71 (d : Nat) (x : Int) (h : -9223372036854775808 ≤ x) (h' : x < 9223372036854775808) : pcall M (d + 1) 71 [.int .i64 x] = some (wd x) := told (r71 C0 d x) (by
  have e2 : IntKind.wrap .u64 x = low x := by unfold low; rw [u64w]
  rw [e2]
  by_cases hx : x < 0
  · rw [decide_eq_true hx, cnd_t, wd, show hiw x = -1 by unfold hiw; rw [i64w]; omega]
  · rw [decide_eq_false hx, cnd_f, wd, show hiw x = 0 by unfold hiw; rw [i64w]; omega])
theorem bits_not_i64 (x : Int) (h : -9223372036854775808 ≤ x) (h' : x < 9223372036854775808) : Go.bits .xor .i64 (-1) x = -1 - x := by
  show IntKind.i64.wrap ((BitVec.ofInt 64 (-1) ^^^ BitVec.ofInt 64 x).toNat : Int) = _
  rw [show BitVec.ofInt 64 (-1) = BitVec.allOnes 64 by decide, BitVec.allOnes_xor, BitVec.toNat_not, i64w, BitVec.toNat_ofInt]
  have : ((2 ^ 64 : Nat) : Int) = 18446744073709551616 := by decide
  rw [this]
  omega
theorem bits_not_u64 (x : Int) (h : 0 ≤ x) (h' : x < 18446744073709551616) : Go.bits .xor .u64 18446744073709551615 x = 18446744073709551615 - x := by
  show IntKind.u64.wrap ((BitVec.ofInt 64 18446744073709551615 ^^^ BitVec.ofInt 64 x).toNat : Int) = _
  rw [show BitVec.ofInt 64 18446744073709551615 = BitVec.allOnes 64 by decide, BitVec.allOnes_xor, BitVec.toNat_not, u64w, BitVec.toNat_ofInt]
  have : ((2 ^ 64 : Nat) : Int) = 18446744073709551616 := by decide
  rw [this]
  omega
theorem hiw_rng (n : Int) : -9223372036854775808 ≤ hiw n ∧ hiw n < 9223372036854775808 := by unfold hiw; rw [i64w]; omega
theorem s73 (d : Nat) (n : Int) : pcall M (d + 3) 73 [wd n] = some (wd (-n)) := told (r73 C0 (d + 2) _ _) (by
  have r1 := hiw_rng n
  have r2 := low_rng n
  rw [if_pos rfl, if_neg (by decide), bits_not_i64 _ r1.1 r1.2, show IntKind.max .u64 = 18446744073709551615 by decide, bits_not_u64 _ r2.1 r2.2]
  have e : (.agg [.int .i64 (-1 - hiw n), .int .u64 (18446744073709551615 - low n)] : AV) = wd (-1 - n) := by
    rw [wd, show -1 - hiw n = hiw (-1 - n) by unfold hiw; rw [i64w, i64w]; omega, show 18446744073709551615 - low n = low (-1 - n) by unfold low; omega]
  have e1 : (.agg [.int .i64 0, .int .u64 1] : AV) = wd 1 := by rfl
  rw [e, e1, s72]
  refine Eq.trans (pl_agg (by rfl) (by rfl)) ?_; refine Eq.trans (pl_int (by rfl)) ?_; refine Eq.trans (pl_int (by rfl)) ?_
  rw [show -1 - n + 1 = -n by omega])
theorem mod_succ (n : Int) (i : Nat) : n % 2 ^ (i + 1) = n % 2 ^ i + 2 ^ i * (n / 2 ^ i % 2) := by
  have := congrArg bin (bitl_snoc n i)
  rw [bin_app, bin_bitl, bin_bitl, bitl_len] at this
  simpa [bin] using this
theorem and1 {x : Int} {i : Nat} (hi : i < 64) (h : 0 ≤ x) (h' : x < 18446744073709551616) : bits .and .u64 (Int.fdiv x (2 ^ (min (Int.toNat (i : Int)) 64))) 1 = x / 2 ^ i % 2 := by
  rw [show min (Int.toNat (i : Int)) 64 = i by omega, Int.fdiv_eq_ediv_of_nonneg _ (Int.le_of_lt (pow64 i hi).1)]
  have hp := pow64 i hi
  have h1 : 0 ≤ x / 2 ^ i := Int.ediv_nonneg h (by omega)
  have h2 : x / 2 ^ i < 18446744073709551616 := Int.lt_of_le_of_lt (Int.ediv_le_self _ h) h'
  have := u64_mask 1 (by decide) h1 h2
  rwa [show ((2 : Int) ^ 1 - 1) = 1 by decide, show ((2 : Int) ^ 1) = 2 by decide] at this
theorem mul1 (d : Nat) (a b : Int) (hb : -9223372036854775808 ≤ b) (hb' : b < 9223372036854775808) : ∀ (k i f : Nat), i + k = 64 → k < f →
    L66_0 (d + 3) b (.ptr 0 0 0) (.ptr 1 0 0) (.ptr 2 0 0) f (i : Nat) [some ⟨E98, [wd 0]⟩, some ⟨E98, [wd (a * 2 ^ i)]⟩, some ⟨E98, [wd (a * (b % 18446744073709551616 % 2 ^ i))]⟩] = some (wd (a * b)) := by
  intro k
  induction k with
  | zero =>
    intro i f hi hf
    obtain ⟨f, rfl⟩ : ∃ g, f = g + 1 := ⟨f - 1, by omega⟩
    obtain rfl : i = 64 := by omega
    have e2 : (2 : Int) ^ 64 = 18446744073709551616 := by decide
    rw [L66_0, decide_eq_false (by omega), cnd_f, X66_0_0, e2]
    by_cases h : b < 0
    · rw [decide_eq_true h, cnd_t]
      refine Eq.trans (hop_eq (by rfl)) ?_; refine Eq.trans (pl_agg (by rfl) (by rfl)) ?_; refine Eq.trans (pl_int (by rfl)) ?_; refine Eq.trans (pl_int (by rfl)) ?_; refine Eq.trans (hop_eq (by rfl)) ?_; refine Eq.trans (pl_agg (by rfl) (by rfl)) ?_; refine Eq.trans (pl_int (by rfl)) ?_; refine Eq.trans (pl_int (by rfl)) ?_
      refine Eq.trans (pl_agg (s73 d _) (by rfl)) ?_
      refine Eq.trans (pl_int (by rfl)) ?_; refine Eq.trans (pl_int (by rfl)) ?_
      refine Eq.trans (pl_agg (s72 (d + 1) _ _) (by rfl)) ?_
      refine Eq.trans (pl_int (by rfl)) ?_; refine Eq.trans (pl_int (by rfl)) ?_; refine Eq.trans (hop_eq (by rfl)) ?_; refine Eq.trans (hop_eq (by rfl)) ?_; refine Eq.trans (pl_agg (by rfl) (by rfl)) ?_; refine Eq.trans (pl_int (by rfl)) ?_; refine Eq.trans (pl_int (by rfl)) ?_; refine Eq.trans (hop_eq (by rfl)) ?_; refine Eq.trans (hop_eq (by rfl)) ?_
      have e3 : a * (b % 18446744073709551616 % 18446744073709551616) + -(a * 18446744073709551616) = a * b := by
        rw [show b % 18446744073709551616 % 18446744073709551616 = b + 18446744073709551616 by omega]; grind
      rw [← e3]; rfl
    · rw [decide_eq_false h, cnd_f]
      refine Eq.trans (hop_eq (by rfl)) ?_; refine Eq.trans (pl_agg (by rfl) (by rfl)) ?_; refine Eq.trans (pl_int (by rfl)) ?_; refine Eq.trans (pl_int (by rfl)) ?_; refine Eq.trans (hop_eq (by rfl)) ?_; refine Eq.trans (hop_eq (by rfl)) ?_
      have e3 : a * (b % 18446744073709551616 % 18446744073709551616) = a * b := by rw [show b % 18446744073709551616 % 18446744073709551616 = b by omega]
      rw [← e3]; rfl
  | succ k ih =>
    intro i f hi hf
    obtain ⟨f, rfl⟩ : ∃ g, f = g + 1 := ⟨f - 1, by omega⟩
    have IH := ih (i + 1) f (by omega) (by omega)
    rw [mod_succ] at IH
    have px : a * 2 ^ (i + 1) = a * 2 ^ i + a * 2 ^ i := by rw [Int.pow_succ]; grind
    rw [px] at IH
    rw [L66_0, decide_eq_true (by omega), cnd_t, decide_eq_false (by omega), cnd_f, u64w, and1 (by omega) (by omega) (by omega)]
    rcases (show b % 18446744073709551616 / 2 ^ i % 2 = 0 ∨ b % 18446744073709551616 / 2 ^ i % 2 = 1 by omega) with h | h
    · rw [h] at IH ⊢
      refine Eq.trans (pl_f (by rfl)) ?_
      refine Eq.trans (hop_eq (by rfl)) ?_; refine Eq.trans (pl_agg (by rfl) (by rfl)) ?_; refine Eq.trans (pl_int (by rfl)) ?_; refine Eq.trans (pl_int (by rfl)) ?_; refine Eq.trans (hop_eq (by rfl)) ?_; refine Eq.trans (pl_agg (by rfl) (by rfl)) ?_; refine Eq.trans (pl_int (by rfl)) ?_; refine Eq.trans (pl_int (by rfl)) ?_
      refine Eq.trans (pl_agg (s72 (d + 1) _ _) (by rfl)) ?_
      refine Eq.trans (pl_int (by rfl)) ?_; refine Eq.trans (pl_int (by rfl)) ?_; refine Eq.trans (hop_eq (by rfl)) ?_
      rw [wrap_succ i (by omega)]
      rw [Int.mul_zero, Int.add_zero] at IH
      exact IH
    · rw [h] at IH ⊢
      refine Eq.trans (pl_len (by rfl)) ?_; refine Eq.trans (hop_eq (by rfl)) ?_; refine Eq.trans (pl_agg (by rfl) (by rfl)) ?_; refine Eq.trans (pl_int (by rfl)) ?_; refine Eq.trans (pl_int (by rfl)) ?_; refine Eq.trans (hop_eq (by rfl)) ?_; refine Eq.trans (pl_agg (by rfl) (by rfl)) ?_; refine Eq.trans (pl_int (by rfl)) ?_; refine Eq.trans (pl_int (by rfl)) ?_
      refine Eq.trans (pl_agg (s72 (d + 1) _ _) (by rfl)) ?_
      refine Eq.trans (pl_int (by rfl)) ?_; refine Eq.trans (pl_int (by rfl)) ?_; refine Eq.trans (hop_eq (by rfl)) ?_; refine Eq.trans (hop_eq (by rfl)) ?_; refine Eq.trans (pl_agg (by rfl) (by rfl)) ?_; refine Eq.trans (pl_int (by rfl)) ?_; refine Eq.trans (pl_int (by rfl)) ?_; refine Eq.trans (hop_eq (by rfl)) ?_; refine Eq.trans (pl_agg (by rfl) (by rfl)) ?_; refine Eq.trans (pl_int (by rfl)) ?_; refine Eq.trans (pl_int (by rfl)) ?_
      refine Eq.trans (pl_agg (s72 (d + 1) _ _) (by rfl)) ?_
      refine Eq.trans (pl_int (by rfl)) ?_; refine Eq.trans (pl_int (by rfl)) ?_; refine Eq.trans (hop_eq (by rfl)) ?_
      rw [wrap_succ i (by omega)]
      rw [Int.mul_one, Int.mul_add] at IH
      exact IH
theorem s66 (d : Nat) (a b : Int) (ha : -9223372036854775808 ≤ a) (ha' : a < 9223372036854775808) (hb : -9223372036854775808 ≤ b) (hb' : b < 9223372036854775808) :
    pcall M (d + 4) 66 [.int .i64 a, .int .i64 b] = some (wd (a * b)) := told (q66 (d + 3) _ _) (by
  refine Eq.trans (hop_eq (by rfl)) ?_
  refine Eq.trans (pl_agg (s71 (d + 2) a ha ha') (by rfl)) ?_
  refine Eq.trans (pl_int (by rfl)) ?_; refine Eq.trans (pl_int (by rfl)) ?_; refine Eq.trans (hop_eq (by rfl)) ?_; refine Eq.trans (hop_eq (by rfl)) ?_; refine Eq.trans (hop_eq (by rfl)) ?_; refine Eq.trans (hop_eq (by rfl)) ?_
  have := mul1 d a b hb hb' 64 0 10000000000000000000 (by omega) (by omega)
  have e : b % 18446744073709551616 % 2 ^ 0 = 0 := by rw [show (2 : Int) ^ 0 = 1 from rfl, Int.emod_one]
  rw [e, show a * 2 ^ 0 = a by rw [show (2 : Int) ^ 0 = 1 from rfl, Int.mul_one], Int.mul_zero] at this
  exact this)
theorem s65 (d : Nat) (a b : Int) (ha : -170141183460469231731687303715884105728 ≤ a) (ha' : a < 170141183460469231731687303715884105728) (hb : -170141183460469231731687303715884105728 ≤ b) (hb' : b < 170141183460469231731687303715884105728) :
    pcall M (d + 1) 65 [wd a, wd b] = some (.int .i64 (cmp a b)) := told (r65 C0 d _ _ _ _) (by
  have e1 : hiw a = a / 18446744073709551616 := by unfold hiw; rw [i64_small (by omega) (by omega)]
  have e2 : hiw b = b / 18446744073709551616 := by unfold hiw; rw [i64_small (by omega) (by omega)]
  rw [e1, e2]
  unfold low cmp
  by_cases c1 : a / 18446744073709551616 < b / 18446744073709551616
  · rw [decide_eq_true c1, cnd_t, if_pos (by omega)]
  · rw [decide_eq_false c1, cnd_f]
    by_cases c2 : a / 18446744073709551616 = b / 18446744073709551616
    · rw [show (a / 18446744073709551616 == b / 18446744073709551616) = true by simp [c2], cnd_t]
      by_cases c3 : a % 18446744073709551616 < b % 18446744073709551616
      · rw [decide_eq_true c3, cnd_t, if_pos (by omega)]
      · rw [decide_eq_false c3, cnd_f]
        by_cases c4 : a % 18446744073709551616 = b % 18446744073709551616
        · rw [show (a % 18446744073709551616 == b % 18446744073709551616) = true by simp [c4], if_neg (by omega), if_neg (by omega)]; rfl
        · rw [show (a % 18446744073709551616 == b % 18446744073709551616) = false by simp [c4], if_neg (by omega), if_pos (by omega)]; rfl
    · rw [show (a / 18446744073709551616 == b / 18446744073709551616) = false by simp [c2], cnd_f, if_neg (by omega), if_pos (by omega)]; rfl)
end Go.Proofs.Ytdceaeifcniabaa.AE

namespace Go.Proofs.Ytdceaeifcniabaa.AE
set_option linter.unusedVariables false
set_option linter.unusedSimpArgs false
set_option linter.constructorNameAsVariable false
open Go Go.Proofs.Ytdceaeifcniabaa.Geo
theorem s60 (d : Nat) (a b c : Pt) : pcall M (d + 5) 60 [pt a, pt b, pt c] = some (.int .i64 (tn3 a b c)) := told (r60 C0 (d + 4) _ _ _ _ _ _) (by
  have R := fun p => s52 (d + 3) p
  simp only [pt] at R
  rw [R a, R b, R c]
  simp only [C0_bool]
  unfold tn3
  by_cases ha : OkP a
  · by_cases hb : OkP b
    · by_cases hc : OkP c
      · rw [if_pos ⟨ha, hb, hc⟩, decide_eq_true ha, decide_eq_true hb, decide_eq_true hc]
        obtain ⟨⟨ha, ha'⟩, hb1, hb1'⟩ := ha
        obtain ⟨⟨hc1, hc1'⟩, hd, hd'⟩ := hb
        obtain ⟨⟨he, he'⟩, hf, hf'⟩ := hc
        rw [i64_small (n := b.1 - a.1) (by omega) (by omega), i64_small (n := c.2 - a.2) (by omega) (by omega), i64_small (n := b.2 - a.2) (by omega) (by omega), i64_small (n := c.1 - a.1) (by omega) (by omega)]
        rw [s66 d _ _ (by omega) (by omega) (by omega) (by omega), s66 d _ _ (by omega) (by omega) (by omega) (by omega)]
        have p1 := prod_bd41 (x := b.1 - a.1) (y := c.2 - a.2) (by omega) (by omega) (by omega) (by omega)
        have p2 := prod_bd41 (x := b.2 - a.2) (y := c.1 - a.1) (by omega) (by omega) (by omega) (by omega)
        simp only [Bool.not_true, cnd_f, C0_agg2, at0, at1, C0_int]
        rw [s65 (d + 3) _ _ (by omega) (by omega) (by omega) (by omega), C0_int, cmp_sg]
        rfl
      · rw [if_neg fun h => hc h.2.2, decide_eq_true ha, decide_eq_true hb, decide_eq_false hc]; rfl
    · rw [if_neg fun h => hb h.2.1, decide_eq_true ha, decide_eq_false hb]; rfl
  · rw [if_neg fun h => ha h.1, decide_eq_false ha]; rfl)
theorem s54 (d : Nat) (p a b : Pt) : pcall M (d + 6) 54 [pt p, pt a, pt b] = some (.bool (onB p a b)) := told (r54 C0 (d + 5) _ _ _ _ _ _) (by
  have R := fun p => s52 (d + 4) p
  have t := s60 d a b p
  simp only [pt] at R t
  rw [R a, R b, R p, t]
  simp only [C0_bool, C0_int]
  have e1 : ∀ x y : Int, (if y < x then y else x) = min x y := fun x y => by omega
  have e2 : ∀ x y : Int, (if y > x then y else x) = max x y := fun x y => by omega
  rw [e1, e1, e2, e2]
  by_cases ha : OkP a
  · by_cases hb : OkP b
    · by_cases hp : OkP p
      · rw [decide_eq_true ha, decide_eq_true hb, decide_eq_true hp, tn3_sg ⟨ha, hb, hp⟩]
        simp only [Bool.not_true, cnd_f]
        by_cases ht : TN a b p = 0
        · rw [show (sg (TN a b p) != 0) = false by simp [sg_zero, ht], cnd_f]
          have key : onB p a b = (decide (p.1 ≥ min a.1 b.1) && (decide (p.1 ≤ max a.1 b.1) && (decide (p.2 ≥ min a.2 b.2) && decide (p.2 ≤ max a.2 b.2)))) := by
            rw [Bool.eq_iff_iff]
            simp only [Bool.and_eq_true, onB_t, decide_eq_true_eq]
            unfold On Btw
            constructor
            · rintro ⟨_, _, h⟩; omega
            · intro h; exact ⟨⟨hp, ha, hb⟩, ht, by omega⟩
          rw [key]
          cases decide (p.1 ≥ min a.1 b.1) <;> cases decide (p.1 ≤ max a.1 b.1) <;> cases decide (p.2 ≥ min a.2 b.2) <;> rfl
        · rw [show (sg (TN a b p) != 0) = true by simp [sg_zero, ht], cnd_t]
          have : onB p a b = false := by rw [← Bool.not_eq_true]; intro h; exact ht (onB_t.mp h).2.1
          rw [this]
      · have : onB p a b = false := by rw [← Bool.not_eq_true]; intro h; exact hp (onB_t.mp h).1.1
        rw [decide_eq_true ha, decide_eq_true hb, decide_eq_false hp, this]; rfl
    · have : onB p a b = false := by rw [← Bool.not_eq_true]; intro h; exact hb (onB_t.mp h).1.2.2
      rw [decide_eq_true ha, decide_eq_false hb, this]; rfl
  · have : onB p a b = false := by rw [← Bool.not_eq_true]; intro h; exact ha (onB_t.mp h).1.2.1
    rw [decide_eq_false ha, this]; rfl)
def okb (p : Pt) : Bool := decide (OkP p)
theorem okb_t {p : Pt} : okb p = true ↔ OkP p := decide_eq_true_iff
theorem s55 (d : Nat) (a b c e : Pt) : pcall M (d + 7) 55 [pt a, pt b, pt c, pt e] = some (.bool (meetB a b c e)) := told (r55 C0 (d + 6) _ _ _ _ _ _ _ _) (by
  have R := fun p => s52 (d + 5) p
  have o := fun p q r => s54 d p q r
  have t := fun p q r => s60 (d + 1) p q r
  simp only [pt] at o t R
  rw [R a, R b, R c, R e, o a c e, o b c e, o c a b, o e a b, t a b c, t a b e, t c e a, t c e b]
  simp only [C0_bool, C0_int]
  change cnd (!okb a) (some (.bool false)) (cnd (!okb b) (some (.bool false)) (cnd (!okb c) (some (.bool false)) (cnd (!okb e) (some (.bool false)) (cnd (onB a c e) (some (.bool true)) (cnd (onB b c e) (some (.bool true)) (cnd (onB c a b) (some (.bool true)) (cnd (onB e a b) (some (.bool true))
    (cnd (negB (IntKind.wrap .i64 (tn3 a b c * tn3 a b e))) (some (.bool (negB (IntKind.wrap .i64 (tn3 c e a * tn3 c e b))))) (some (.bool false)))))))))) = _
  have key : meetB a b c e = (okb a && (okb b && (okb c && (okb e && (onB a c e || (onB b c e || (onB c a b || (onB e a b || (negB (IntKind.wrap .i64 (tn3 a b c * tn3 a b e)) && negB (IntKind.wrap .i64 (tn3 c e a * tn3 c e b))))))))))) := by
    rw [Bool.eq_iff_iff]
    simp only [Bool.and_eq_true, Bool.or_eq_true, onB_t, okb_t, negB_t, meetB_t]
    have fin : ok4 a b c e → (Meet a b c e ↔ (ok3 a c e ∧ On a c e ∨ ok3 b c e ∧ On b c e ∨ ok3 c a b ∧ On c a b ∨ ok3 e a b ∧ On e a b ∨ IntKind.wrap .i64 (tn3 a b c * tn3 a b e) < 0 ∧ IntKind.wrap .i64 (tn3 c e a * tn3 c e b) < 0)) := by
      rintro ⟨ha, hb, hc, he⟩
      rw [tn3_sg ⟨ha, hb, hc⟩, tn3_sg ⟨ha, hb, he⟩, tn3_sg ⟨hc, he, ha⟩, tn3_sg ⟨hc, he, hb⟩, sg_small, sg_small]
      simp only [ok3, ha, hb, hc, he, true_and, and_true]
      exact Iff.rfl
    constructor
    · rintro ⟨h, hm⟩; exact ⟨h.1, h.2.1, h.2.2.1, h.2.2.2, (fin h).mp hm⟩
    · rintro ⟨h1, h2, h3, h4, hm⟩; exact ⟨⟨h1, h2, h3, h4⟩, (fin ⟨h1, h2, h3, h4⟩).mpr hm⟩
  rw [key]
  cases okb a <;> cases okb b <;> cases okb c <;> cases okb e <;> cases onB a c e <;> cases onB b c e <;> cases onB c a b <;> cases onB e a b <;> cases negB (IntKind.wrap .i64 (tn3 a b c * tn3 a b e)) <;> rfl)
end Go.Proofs.Ytdceaeifcniabaa.AE
