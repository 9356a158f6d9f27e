/- Regions that draw their order: a run told in the text's order. No conditions. -/
import Derived.Test.YtbcbaidnamebkaaAEsnd14
import Derived.Orders
namespace Go.Proofs.Ytbcbaidnamebkaa.AE
set_option linter.unusedVariables false
set_option linter.unusedSimpArgs false
set_option linter.constructorNameAsVariable false
open Go Go.RowKit

/-- One step of the told run. -/
def TStep (call : CallF) (io : IOper) (s s' : St) : Prop :=
  (want s.env io.guard = some true ∧ ∃ v H', aop call (evO s.env) s.H io.op = some (v, H') ∧ s' = ⟨put s.env io.dst v, H'⟩) ∨
  (want s.env io.guard = some false ∧ s' = ⟨put s.env io.dst (.tup []), s.H⟩)

def tchAt (s : St) (io : IOper) : List Nat := touch (evO s.env) s.H io.op

theorem trace {call : CallF} : ∀ (l : List (IOper × List Nat)) (i : Nat) (log : List (Nat × Nat)) (s s' : St), runOpsD call l i log s = some s' →
    ∃ f : Nat → St, f 0 = s ∧ f l.length = s' ∧ ∀ (k : Nat) (io : IOper) (chk : List Nat), l[k]? = some (io, chk) → TStep call io (f k) (f (k + 1)) ∧
      (want (f k).env io.guard = some true → (∀ p ∈ log, p.1 ∈ chk → p.2 ∉ tchAt (f k) io) ∧
        ∀ (m : Nat) (jo : IOper) (c2 : List Nat), m < k → l[m]? = some (jo, c2) → want (f m).env jo.guard = some true → (i + m) ∈ chk → ∀ id ∈ tchAt (f m) jo, id ∉ tchAt (f k) io)
  | [], i, log, s, s', h => by
    simp only [runOpsD, Option.some.injEq] at h
    exact ⟨fun _ => s, rfl, h, by simp⟩
  | (o, chk0) :: l, i, log, s, s', h => by
    simp only [runOpsD] at h
    split at h
    · rename_i hw
      split at h <;> (try (cases h; done))
      rename_i hlog
      split at h <;> (try (cases h; done))
      rename_i v H' hv
      obtain ⟨f, h0, h1, h2⟩ := trace l (i + 1) _ _ s' h
      have hlog' : ∀ p ∈ log, p.1 ∈ chk0 → p.2 ∉ tchAt s o := by
        intro p hp hc hm
        have := List.all_eq_true.mp hlog p hp
        simp [hc] at this
        exact this hm
      refine ⟨fun k => match k with | 0 => s | k + 1 => f k, rfl, h1, ?_⟩
      intro k io chk hk
      cases k with
      | zero =>
        simp only [List.getElem?_cons_zero, Option.some.injEq, Prod.mk.injEq] at hk
        obtain ⟨rfl, rfl⟩ := hk
        exact ⟨.inl ⟨hw, v, H', hv, h0⟩, fun _ => ⟨hlog', fun m _ _ hm => absurd hm (by omega)⟩⟩
      | succ k =>
        simp only [List.getElem?_cons_succ] at hk
        obtain ⟨q1, q2⟩ := h2 k io chk hk
        refine ⟨q1, fun hwk => ?_⟩
        obtain ⟨q3, q4⟩ := q2 hwk
        refine ⟨fun p hp => q3 p (by simp [hp]), fun m jo c2 hm hj hwm hc => ?_⟩
        cases m with
        | zero =>
          simp only [List.getElem?_cons_zero, Option.some.injEq, Prod.mk.injEq] at hj
          obtain ⟨rfl, rfl⟩ := hj
          intro id hid
          exact q3 (i, id) (by simp only [List.mem_append, List.mem_map]; exact .inr ⟨id, hid, rfl⟩) (by simpa using hc)
        | succ m =>
          simp only [List.getElem?_cons_succ] at hj
          exact q4 m jo c2 (by omega) hj hwm (by rwa [show i + 1 + m = i + (m + 1) by omega])
    · rename_i hw
      obtain ⟨f, h0, h1, h2⟩ := trace l (i + 1) _ _ s' h
      refine ⟨fun k => match k with | 0 => s | k + 1 => f k, rfl, h1, ?_⟩
      intro k io chk hk
      cases k with
      | zero =>
        simp only [List.getElem?_cons_zero, Option.some.injEq, Prod.mk.injEq] at hk
        obtain ⟨rfl, rfl⟩ := hk
        exact ⟨.inr ⟨hw, h0⟩, fun hw2 => by simp only [hw] at hw2; cases hw2⟩
      | succ k =>
        simp only [List.getElem?_cons_succ] at hk
        obtain ⟨q1, q2⟩ := h2 k io chk hk
        refine ⟨q1, fun hwk => ?_⟩
        obtain ⟨q3, q4⟩ := q2 hwk
        refine ⟨q3, fun m jo c2 hm hj hwm hc => ?_⟩
        cases m with
        | zero =>
          simp only [List.getElem?_cons_zero, Option.some.injEq, Prod.mk.injEq] at hj
          obtain ⟨rfl, rfl⟩ := hj
          simp only [hw] at hwm; cases hwm
        | succ m =>
          simp only [List.getElem?_cons_succ] at hj
          exact q4 m jo c2 (by omega) hj hwm (by rwa [show i + 1 + m = i + (m + 1) by omega])
    · cases h

/-- What an operation does to own memory. -/
theorem aop_shape {P : Program} {call : CallF} (hcall : PCallOK P call) {ev : Opd → AV} {H H' : Heap} {io : IOp} {v : AV} (hnf : fullOp io = false) (h : aop call ev H io = some (v, H')) :
    H' = H ∨ (∃ k, H' = H ++ [some k]) ∨ (∃ id k k', hget H id = some k ∧ k'.e = k.e ∧ k'.els.length = k.els.length ∧ H' = H.set id (some k') ∧ touch ev H io = [id] ∧ storeOp io = true) := by
  cases io with
  | app => simp [fullOp] at hnf
  | call sh g args =>
    simp only [aop] at h
    split at h <;> (try (cases h; done))
    exact .inl (hcall _ _ _ _ _ h).1
  | bk b args =>
    cases b <;> simp only [aop] at h <;> (repeat' split at h) <;> cases h <;> exact .inl rfl
  | store n a x =>
    simp only [aop] at h
    split at h <;> (try (cases h; done))
    rename_i Hn hst
    cases h
    generalize hA : ev a = A at hst
    cases A <;> simp only [aStore] at hst <;> (try (cases hst; done))
    rename_i id i j
    split at hst <;> (try (cases hst; done))
    rename_i k hk
    split at hst <;> (try (cases hst; done))
    split at hst <;> (try (cases hst; done))
    rename_i el'' _
    cases hst
    exact .inr (.inr ⟨id, k, { k with els := k.els.set i el'' }, hk, rfl, by simp, rfl, by simp [touch, hA], rfl⟩)
  | _ =>
    simp only [aop] at h
    repeat' split at h
    all_goals first
      | (cases h; done)
      | (cases h; exact .inl rfl)
      | (cases h; exact .inr (.inl ⟨_, rfl⟩))

theorem touch_some {ev : Opd → AV} {H : Heap} {io : IOp} {id : Nat} (h : id ∈ touch ev H io) : storeOp io = true ∨ readOp io = true := by
  cases io <;> simp [touch, storeOp, readOp] at h ⊢

/-- They are in order. -/
def Ord (ps : List Nat) (m k : Nat) : Prop := (m < k → (ps.getD k 0).testBit m = true) ∧ (k < m → (ps.getD m 0).testBit k = true)

structure Glob (P : Program) (call : CallF) (ops : Array Oper) (ios : List IOper) (ps : List Nat) (f : Nat → St) : Prop where
  at_ : ∀ k, k < ops.size → ∃ o io, ops[k]? = some o ∧ ios[k]? = some io ∧ cOper P ops.toList o = some io ∧ TStep call io (f k) (f (k + 1))
  slots : ∀ m k om ok t, m ≠ k → ops[m]? = some om → ops[k]? = some ok → om.dst = some t → (t ∈ ok.looksAt ops ∨ ok.dst = some t) → Ord ps m k
  mem : ∀ m k im ik id, m ≠ k → ios[m]? = some im → ios[k]? = some ik → want (f m).env im.guard = some true → want (f k).env ik.guard = some true → storeOp im.op = true → id ∈ tchAt (f m) im → id ∈ tchAt (f k) ik → Ord ps m k
  full : ∀ m k ik, m ≠ k → m < ops.size → ios[k]? = some ik → fullOp ik.op = true → Ord ps m k

theorem glob_of {P : Program} {call : CallF} {ops : Array Oper} {ios : List IOper} {ps : List Nat} {s s' : St} (hc : optAll (cOper P ops.toList) ops.toList = some ios) (hd : drawOk ops ios ps = true)
    (hr : runOpsD call (ios.zipIdx.map fun p => (p.1, chkOf ios ps p.2 p.1)) 0 [] s = some s') : ∃ f : Nat → St, f 0 = s ∧ f ops.size = s' ∧ Glob P call ops ios ps f := by
  obtain ⟨f, h0, h1, h2⟩ := trace _ _ _ _ _ hr
  obtain ⟨hl, hat⟩ := optAll_spec hc
  have hlen : ios.length = ops.size := by simpa using hl
  have hget : ∀ k io, ios[k]? = some io → (ios.zipIdx.map fun p => (p.1, chkOf ios ps p.2 p.1))[k]? = some (io, chkOf ios ps k io) := by
    intro k io h
    simp [List.getElem?_zipIdx, h]
  have hpair : ∀ i j, i < j → j < ops.size → (ps.getD j 0).testBit i = true ∨ ∃ o p a b, ops[i]? = some o ∧ ops[j]? = some p ∧ ios[i]? = some a ∧ ios[j]? = some b ∧ pairOk ops o p a.op b.op = true := by
    intro i j hij hj
    have := List.all_eq_true.mp (List.all_eq_true.mp hd j (List.mem_range.mpr hj)) i (List.mem_range.mpr hij)
    simp only [Bool.or_eq_true] at this
    rcases this with h | h
    · exact .inl h
    · right
      split at h
      · rename_i o p a b e1 e2 e3 e4
        exact ⟨o, p, a, b, e1, e2, e3, e4, h⟩
      · cases h
  have lt_of : ∀ k io, ios[k]? = some io → k < ops.size := fun k io h => by rw [← hlen]; exact (List.getElem?_eq_some_iff.mp h).1
  have lt_of2 : ∀ (k : Nat) (o : Oper), ops[k]? = some o → k < ops.size := fun k o h => (Array.getElem?_eq_some_iff.mp h).1
  refine ⟨f, h0, by rw [← h1]; simp [hlen], ?_, ?_, ?_, ?_⟩
  · intro k hk
    obtain ⟨io, e1, e2⟩ := hat k ops[k] (by simp [hk])
    exact ⟨ops[k], io, by simp [hk], e1, e2, (h2 k io _ (hget k io e1)).1⟩
  · intro m k om ok t hmk hm hk hdst hlook
    constructor
    · intro hlt
      refine (hpair m k hlt (lt_of2 k ok hk)).resolve_right ?_
      rintro ⟨o, p, a, b, e1, e2, e3, e4, h⟩
      rw [hm] at e1; rw [hk] at e2; cases e1; cases e2
      simp only [pairOk, Bool.and_eq_true] at h
      obtain ⟨a1, a2, a3⟩ := Oper.apart_spec h.1.1.1
      rcases hlook with hl | hl
      · exact a1 t hdst hl
      · exact a2 t hdst hl
    · intro hlt
      refine (hpair k m hlt (lt_of2 m om hm)).resolve_right ?_
      rintro ⟨o, p, a, b, e1, e2, e3, e4, h⟩
      rw [hk] at e1; rw [hm] at e2; cases e1; cases e2
      simp only [pairOk, Bool.and_eq_true] at h
      obtain ⟨a1, a2, a3⟩ := Oper.apart_spec h.1.1.1
      rcases hlook with hl | hl
      · exact a3 t hdst hl
      · exact a2 t hl hdst
  · intro m k im ik id hmk hm hk hwm hwk hst htm htk
    constructor
    · intro hlt
      rcases hpair m k hlt (lt_of k ik hk) with h | ⟨o, p, a, b, e1, e2, e3, e4, h⟩
      · exact h
      · cases hb : (ps.getD k 0).testBit m
        · exfalso
          rw [hm] at e3; rw [hk] at e4; cases e3; cases e4
          simp only [pairOk, Bool.and_eq_true, Bool.not_eq_true', hst, Bool.true_and] at h
          have hrd : readOp ik.op = true := (touch_some htk).resolve_left (by rw [h.1.1.2]; simp)
          refine ((h2 k ik _ (hget k ik hk)).2 hwk).2 m im _ hlt (hget m im hm) hwm ?_ id htm htk
          simp only [chkOf, List.mem_filter, List.mem_range, Nat.zero_add, hlt, true_and, hm, hb, meets, hst, hrd]
          simp
        · rfl
    · intro hlt
      rcases hpair k m hlt (lt_of m im hm) with h | ⟨o, p, a, b, e1, e2, e3, e4, h⟩
      · exact h
      · cases hb : (ps.getD m 0).testBit k
        · exfalso
          rw [hk] at e3; rw [hm] at e4; cases e3; cases e4
          simp only [pairOk, Bool.and_eq_true, Bool.not_eq_true', hst, Bool.and_true] at h
          have hrd : readOp ik.op = true := (touch_some htk).resolve_left (by rw [h.1.1.2]; simp)
          refine ((h2 m im _ (hget m im hm)).2 hwm).2 k ik _ hlt (hget k ik hk) hwk ?_ id htk htm
          simp only [chkOf, List.mem_filter, List.mem_range, Nat.zero_add, hlt, true_and, hk, hb, meets, hst, hrd]
          simp
        · rfl
  · intro m k ik hmk hm hk hfu
    constructor
    · intro hlt
      refine (hpair m k hlt (lt_of k ik hk)).resolve_right ?_
      rintro ⟨o, p, a, b, e1, e2, e3, e4, h⟩
      rw [hk] at e4; cases e4
      simp [pairOk, hfu] at h
    · intro hlt
      refine (hpair k m hlt hm).resolve_right ?_
      rintro ⟨o, p, a, b, e1, e2, e3, e4, h⟩
      rw [hk] at e3; cases e3
      simp [pairOk, hfu] at h
end Go.Proofs.Ytbcbaidnamebkaa.AE
