/- The texts that the law BoxPoint needs, part 2: AEsnd15, AEsnd16, AEsnd17, AEsnd18, AEsym, AEsym2, AEmod, AEclaw, AEarg, AEsymL, AEres. No conditions. -/
import Derived.Orders
import Derived.ChangeArms
import Derived.WideShapes
import Derived.OpenShut
import Derived.Deep.Slices
import Derived.Test.YtjblhppbjebagaaMBoxPoint1
namespace Go.Proofs.Ytjblhppbjebagaa.AE
set_option linter.unusedVariables false
set_option linter.unusedSimpArgs false
set_option linter.constructorNameAsVariable false
open Go Go.RowKit

/-- One step of the told run. -/
def TStep (call : CallF) (io : IOper) (s s' : St) : Prop :=
  (want s.env io.guard = some true ∧ ∃ v H', aop call (evO s.env) s.H io.op = some (v, H') ∧ s' = ⟨put s.env io.dst v, H'⟩) ∨
  (want s.env io.guard = some false ∧ s' = ⟨put s.env io.dst (.tup []), s.H⟩)

def tchAt (s : St) (io : IOper) : List Nat := touch (evO s.env) s.H io.op

theorem trace {call : CallF} : ∀ (l : List (IOper × List Nat)) (i : Nat) (log : List (Nat × Nat)) (s s' : St), runOpsD call l i log s = some s' →
    ∃ f : Nat → St, f 0 = s ∧ f l.length = s' ∧ ∀ (k : Nat) (io : IOper) (chk : List Nat), l[k]? = some (io, chk) → TStep call io (f k) (f (k + 1)) ∧
      (want (f k).env io.guard = some true → (∀ p ∈ log, p.1 ∈ chk → p.2 ∉ tchAt (f k) io) ∧
        ∀ (m : Nat) (jo : IOper) (c2 : List Nat), m < k → l[m]? = some (jo, c2) → want (f m).env jo.guard = some true → (i + m) ∈ chk → ∀ id ∈ tchAt (f m) jo, id ∉ tchAt (f k) io)
  | [], i, log, s, s', h => by
    simp only [runOpsD, Option.some.injEq] at h
    exact ⟨fun _ => s, rfl, h, by simp⟩
  | (o, chk0) :: l, i, log, s, s', h => by
    simp only [runOpsD] at h
    split at h
    · rename_i hw
      split at h <;> (try (cases h; done))
      rename_i hlog
      split at h <;> (try (cases h; done))
      rename_i v H' hv
      obtain ⟨f, h0, h1, h2⟩ := trace l (i + 1) _ _ s' h
      have hlog' : ∀ p ∈ log, p.1 ∈ chk0 → p.2 ∉ tchAt s o := by
        intro p hp hc hm
        have := List.all_eq_true.mp hlog p hp
        simp [hc] at this
        exact this hm
      refine ⟨fun k => match k with | 0 => s | k + 1 => f k, rfl, h1, ?_⟩
      intro k io chk hk
      cases k with
      | zero =>
        simp only [List.getElem?_cons_zero, Option.some.injEq, Prod.mk.injEq] at hk
        obtain ⟨rfl, rfl⟩ := hk
        exact ⟨.inl ⟨hw, v, H', hv, h0⟩, fun _ => ⟨hlog', fun m _ _ hm => absurd hm (by omega)⟩⟩
      | succ k =>
        simp only [List.getElem?_cons_succ] at hk
        obtain ⟨q1, q2⟩ := h2 k io chk hk
        refine ⟨q1, fun hwk => ?_⟩
        obtain ⟨q3, q4⟩ := q2 hwk
        refine ⟨fun p hp => q3 p (by simp [hp]), fun m jo c2 hm hj hwm hc => ?_⟩
        cases m with
        | zero =>
          simp only [List.getElem?_cons_zero, Option.some.injEq, Prod.mk.injEq] at hj
          obtain ⟨rfl, rfl⟩ := hj
          intro id hid
          exact q3 (i, id) (by simp only [List.mem_append, List.mem_map]; exact .inr ⟨id, hid, rfl⟩) (by simpa using hc)
        | succ m =>
          simp only [List.getElem?_cons_succ] at hj
          exact q4 m jo c2 (by omega) hj hwm (by rwa [show i + 1 + m = i + (m + 1) by omega])
    · rename_i hw
      obtain ⟨f, h0, h1, h2⟩ := trace l (i + 1) _ _ s' h
      refine ⟨fun k => match k with | 0 => s | k + 1 => f k, rfl, h1, ?_⟩
      intro k io chk hk
      cases k with
      | zero =>
        simp only [List.getElem?_cons_zero, Option.some.injEq, Prod.mk.injEq] at hk
        obtain ⟨rfl, rfl⟩ := hk
        exact ⟨.inr ⟨hw, h0⟩, fun hw2 => by simp only [hw] at hw2; cases hw2⟩
      | succ k =>
        simp only [List.getElem?_cons_succ] at hk
        obtain ⟨q1, q2⟩ := h2 k io chk hk
        refine ⟨q1, fun hwk => ?_⟩
        obtain ⟨q3, q4⟩ := q2 hwk
        refine ⟨q3, fun m jo c2 hm hj hwm hc => ?_⟩
        cases m with
        | zero =>
          simp only [List.getElem?_cons_zero, Option.some.injEq, Prod.mk.injEq] at hj
          obtain ⟨rfl, rfl⟩ := hj
          simp only [hw] at hwm; cases hwm
        | succ m =>
          simp only [List.getElem?_cons_succ] at hj
          exact q4 m jo c2 (by omega) hj hwm (by rwa [show i + 1 + m = i + (m + 1) by omega])
    · cases h

/-- What an operation does to own memory. -/
theorem aop_shape {P : Program} {call : CallF} (hcall : PCallOK P call) {ev : Opd → AV} {H H' : Heap} {io : IOp} {v : AV} (hnf : fullOp io = false) (h : aop call ev H io = some (v, H')) :
    H' = H ∨ (∃ k, H' = H ++ [some k]) ∨ (∃ id k k', hget H id = some k ∧ k'.e = k.e ∧ k'.els.length = k.els.length ∧ H' = H.set id (some k') ∧ touch ev H io = [id] ∧ storeOp io = true) := by
  cases io with
  | app => simp [fullOp] at hnf
  | call sh g args =>
    simp only [aop] at h
    split at h <;> (try (cases h; done))
    exact .inl (hcall _ _ _ _ _ h).1
  | bk b args =>
    cases b <;> simp only [aop] at h <;> (repeat' split at h) <;> cases h <;> exact .inl rfl
  | store n a x =>
    simp only [aop] at h
    split at h <;> (try (cases h; done))
    rename_i Hn hst
    cases h
    generalize hA : ev a = A at hst
    cases A <;> simp only [aStore] at hst <;> (try (cases hst; done))
    rename_i id i j
    split at hst <;> (try (cases hst; done))
    rename_i k hk
    split at hst <;> (try (cases hst; done))
    split at hst <;> (try (cases hst; done))
    rename_i el'' _
    cases hst
    exact .inr (.inr ⟨id, k, { k with els := k.els.set i el'' }, hk, rfl, by simp, rfl, by simp [touch, hA], rfl⟩)
  | _ =>
    simp only [aop] at h
    repeat' split at h
    all_goals first
      | (cases h; done)
      | (cases h; exact .inl rfl)
      | (cases h; exact .inr (.inl ⟨_, rfl⟩))

theorem touch_some {ev : Opd → AV} {H : Heap} {io : IOp} {id : Nat} (h : id ∈ touch ev H io) : storeOp io = true ∨ readOp io = true := by
  cases io <;> simp [touch, storeOp, readOp] at h ⊢

/-- They are in order. -/
def Ord (ps : List Nat) (m k : Nat) : Prop := (m < k → (ps.getD k 0).testBit m = true) ∧ (k < m → (ps.getD m 0).testBit k = true)

structure Glob (P : Program) (call : CallF) (ops : Array Oper) (ios : List IOper) (ps : List Nat) (f : Nat → St) : Prop where
  at_ : ∀ k, k < ops.size → ∃ o io, ops[k]? = some o ∧ ios[k]? = some io ∧ cOper P ops.toList o = some io ∧ TStep call io (f k) (f (k + 1))
  slots : ∀ m k om ok t, m ≠ k → ops[m]? = some om → ops[k]? = some ok → om.dst = some t → (t ∈ ok.looksAt ops ∨ ok.dst = some t) → Ord ps m k
  mem : ∀ m k im ik id, m ≠ k → ios[m]? = some im → ios[k]? = some ik → want (f m).env im.guard = some true → want (f k).env ik.guard = some true → storeOp im.op = true → id ∈ tchAt (f m) im → id ∈ tchAt (f k) ik → Ord ps m k
  full : ∀ m k ik, m ≠ k → m < ops.size → ios[k]? = some ik → fullOp ik.op = true → Ord ps m k

theorem glob_of {P : Program} {call : CallF} {ops : Array Oper} {ios : List IOper} {ps : List Nat} {s s' : St} (hc : optAll (cOper P ops.toList) ops.toList = some ios) (hd : drawOk ops ios ps = true)
    (hr : runOpsD call (ios.zipIdx.map fun p => (p.1, chkOf ios ps p.2 p.1)) 0 [] s = some s') : ∃ f : Nat → St, f 0 = s ∧ f ops.size = s' ∧ Glob P call ops ios ps f := by
  obtain ⟨f, h0, h1, h2⟩ := trace _ _ _ _ _ hr
  obtain ⟨hl, hat⟩ := optAll_spec hc
  have hlen : ios.length = ops.size := by simpa using hl
  have hget : ∀ k io, ios[k]? = some io → (ios.zipIdx.map fun p => (p.1, chkOf ios ps p.2 p.1))[k]? = some (io, chkOf ios ps k io) := by
    intro k io h
    simp [List.getElem?_zipIdx, h]
  have hpair : ∀ i j, i < j → j < ops.size → (ps.getD j 0).testBit i = true ∨ ∃ o p a b, ops[i]? = some o ∧ ops[j]? = some p ∧ ios[i]? = some a ∧ ios[j]? = some b ∧ pairOk ops o p a.op b.op = true := by
    intro i j hij hj
    have := List.all_eq_true.mp (List.all_eq_true.mp hd j (List.mem_range.mpr hj)) i (List.mem_range.mpr hij)
    simp only [Bool.or_eq_true] at this
    rcases this with h | h
    · exact .inl h
    · right
      split at h
      · rename_i o p a b e1 e2 e3 e4
        exact ⟨o, p, a, b, e1, e2, e3, e4, h⟩
      · cases h
  have lt_of : ∀ k io, ios[k]? = some io → k < ops.size := fun k io h => by rw [← hlen]; exact (List.getElem?_eq_some_iff.mp h).1
  have lt_of2 : ∀ (k : Nat) (o : Oper), ops[k]? = some o → k < ops.size := fun k o h => (Array.getElem?_eq_some_iff.mp h).1
  refine ⟨f, h0, by rw [← h1]; simp [hlen], ?_, ?_, ?_, ?_⟩
  · intro k hk
    obtain ⟨io, e1, e2⟩ := hat k ops[k] (by simp [hk])
    exact ⟨ops[k], io, by simp [hk], e1, e2, (h2 k io _ (hget k io e1)).1⟩
  · intro m k om ok t hmk hm hk hdst hlook
    constructor
    · intro hlt
      refine (hpair m k hlt (lt_of2 k ok hk)).resolve_right ?_
      rintro ⟨o, p, a, b, e1, e2, e3, e4, h⟩
      rw [hm] at e1; rw [hk] at e2; cases e1; cases e2
      simp only [pairOk, Bool.and_eq_true] at h
      obtain ⟨a1, a2, a3⟩ := Oper.apart_spec h.1.1.1
      rcases hlook with hl | hl
      · exact a1 t hdst hl
      · exact a2 t hdst hl
    · intro hlt
      refine (hpair k m hlt (lt_of2 m om hm)).resolve_right ?_
      rintro ⟨o, p, a, b, e1, e2, e3, e4, h⟩
      rw [hk] at e1; rw [hm] at e2; cases e1; cases e2
      simp only [pairOk, Bool.and_eq_true] at h
      obtain ⟨a1, a2, a3⟩ := Oper.apart_spec h.1.1.1
      rcases hlook with hl | hl
      · exact a3 t hdst hl
      · exact a2 t hl hdst
  · intro m k im ik id hmk hm hk hwm hwk hst htm htk
    constructor
    · intro hlt
      rcases hpair m k hlt (lt_of k ik hk) with h | ⟨o, p, a, b, e1, e2, e3, e4, h⟩
      · exact h
      · cases hb : (ps.getD k 0).testBit m
        · exfalso
          rw [hm] at e3; rw [hk] at e4; cases e3; cases e4
          simp only [pairOk, Bool.and_eq_true, Bool.not_eq_true', hst, Bool.true_and] at h
          have hrd : readOp ik.op = true := (touch_some htk).resolve_left (by rw [h.1.1.2]; simp)
          refine ((h2 k ik _ (hget k ik hk)).2 hwk).2 m im _ hlt (hget m im hm) hwm ?_ id htm htk
          simp only [chkOf, List.mem_filter, List.mem_range, Nat.zero_add, hlt, true_and, hm, hb, meets, hst, hrd]
          simp
        · rfl
    · intro hlt
      rcases hpair k m hlt (lt_of m im hm) with h | ⟨o, p, a, b, e1, e2, e3, e4, h⟩
      · exact h
      · cases hb : (ps.getD m 0).testBit k
        · exfalso
          rw [hk] at e3; rw [hm] at e4; cases e3; cases e4
          simp only [pairOk, Bool.and_eq_true, Bool.not_eq_true', hst, Bool.and_true] at h
          have hrd : readOp ik.op = true := (touch_some htk).resolve_left (by rw [h.1.1.2]; simp)
          refine ((h2 m im _ (hget m im hm)).2 hwm).2 k ik _ hlt (hget k ik hk) hwk ?_ id htk htm
          simp only [chkOf, List.mem_filter, List.mem_range, Nat.zero_add, hlt, true_and, hk, hb, meets, hst, hrd]
          simp
        · rfl
  · intro m k ik hmk hm hk hfu
    constructor
    · intro hlt
      refine (hpair m k hlt (lt_of k ik hk)).resolve_right ?_
      rintro ⟨o, p, a, b, e1, e2, e3, e4, h⟩
      rw [hk] at e4; cases e4
      simp [pairOk, hfu] at h
    · intro hlt
      refine (hpair k m hlt hm).resolve_right ?_
      rintro ⟨o, p, a, b, e1, e2, e3, e4, h⟩
      rw [hk] at e3; cases e3
      simp [pairOk, hfu] at h
end Go.Proofs.Ytjblhppbjebagaa.AE

namespace Go.Proofs.Ytjblhppbjebagaa.AE
set_option linter.unusedVariables false
set_option linter.unusedSimpArgs false
set_option linter.constructorNameAsVariable false
open Go Go.RowKit

theorem le_ind {m : Nat} {p : (n : Nat) → m ≤ n → Prop} (base : p m (Nat.le_refl m)) (succ : ∀ n (h : m ≤ n), p n h → p (n + 1) (Nat.le_succ_of_le h)) : ∀ n h, p n h := by
  intro n h
  induction h with
  | refl => exact base
  | step h ih => exact succ _ h ih

def ShEq : Option (Option Blk) → Option (Option Blk) → Prop
  | none, none => True
  | some none, some none => True
  | some (some a), some (some b) => a.e = b.e ∧ a.els.length = b.els.length
  | _, _ => False

theorem ShEq.refl : ∀ x, ShEq x x
  | none => trivial
  | some none => trivial
  | some (some _) => ⟨rfl, rfl⟩
theorem ShEq.trans : ∀ {x y z}, ShEq x y → ShEq y z → ShEq x z
  | none, none, none, _, _ => trivial
  | some none, some none, some none, _, _ => trivial
  | some (some _), some (some _), some (some _), h, k => ⟨h.1.trans k.1, h.2.trans k.2⟩
  | none, none, some none, _, k => k.elim
  | none, none, some (some _), _, k => k.elim
  | some none, some none, none, _, k => k.elim
  | some none, some none, some (some _), _, k => k.elim
  | some (some _), some (some _), none, _, k => k.elim
  | some (some _), some (some _), some none, _, k => k.elim
  | none, some none, _, h, _ => h.elim
  | none, some (some _), _, h, _ => h.elim
  | some none, none, _, h, _ => h.elim
  | some none, some (some _), _, h, _ => h.elim
  | some (some _), none, _, h, _ => h.elim
  | some (some _), some none, _, h, _ => h.elim
theorem ShEq.dead {x y} (h : ShEq x y) : x = some none ↔ y = some none := by
  cases x with
  | none => cases y with
    | none => simp
    | some y => exact h.elim
  | some x => cases x with
    | none => cases y with
      | none => exact h.elim
      | some y => cases y with
        | none => simp
        | some y => exact h.elim
    | some x => cases y with
      | none => exact h.elim
      | some y => cases y with
        | none => exact h.elim
        | some y => simp
theorem ShEq.some_l {x : Option (Option Blk)} {b : Blk} (h : ShEq x (some (some b))) : ∃ a, x = some (some a) ∧ a.e = b.e ∧ a.els.length = b.els.length := by
  cases x with
  | none => exact h.elim
  | some x => cases x with
    | none => exact h.elim
    | some a => exact ⟨a, rfl, h.1, h.2⟩
theorem ShEq.some_r {y : Option (Option Blk)} {a : Blk} (h : ShEq (some (some a)) y) : ∃ b, y = some (some b) ∧ a.e = b.e ∧ a.els.length = b.els.length := by
  cases y with
  | none => exact h.elim
  | some x => cases x with
    | none => exact h.elim
    | some b => exact ⟨b, rfl, h.1, h.2⟩
theorem ShEq.none_iff {x y} (h : ShEq x y) : x = none ↔ y = none := by
  cases x with
  | none => cases y with
    | none => simp
    | some y => exact h.elim
  | some x => cases y with
    | none => cases x <;> exact h.elim
    | some y => simp

/-- At this number's place an operation stores. -/
def Upd (ios : List IOper) (f : Nat → St) (m id : Nat) : Prop := ∃ im, ios[m]? = some im ∧ want (f m).env im.guard = some true ∧ storeOp im.op = true ∧ id ∈ tchAt (f m) im

structure Stretch (ops : Array Oper) (ios : List IOper) (f : Nat → St) (b e : Nat) : Prop where
  le : b ≤ e
  top : e ≤ ops.size
  env : ∀ k, b ≤ k → k < e → ∃ o v, ops[k]? = some o ∧ (f (k + 1)).env = put (f k).env o.dst v
  heap : ∀ k, b ≤ k → k < e → (f (k + 1)).H = (f k).H ∨ (∃ z, (f (k + 1)).H = (f k).H ++ [some z]) ∨ ∃ id z z', hget (f k).H id = some z ∧ z'.e = z.e ∧ z'.els.length = z.els.length ∧ (f (k + 1)).H = (f k).H.set id (some z') ∧ Upd ios f k id
  upd : ∀ m id, b ≤ m → m < e → Upd ios f m id → id < (f m).H.length

theorem hget_lt {H : Heap} {id : Nat} {z : Blk} (h : hget H id = some z) : H[id]? = some (some z) ∧ id < H.length := by
  have : H[id]? = some (some z) := by
    unfold hget at h
    split at h
    · rename_i b hb; cases h; exact hb
    · cases h
  exact ⟨this, (List.getElem?_eq_some_iff.mp this).1⟩

theorem put_getD_ne {env : List AV} {d : Option Nat} {v : AV} {t : Nat} (h : d ≠ some t) : (put env d v).getD t .undef = env.getD t .undef := by
  cases d with
  | none => rfl
  | some d =>
    have : d ≠ t := fun e => h (e ▸ rfl)
    simp [put, List.getD_eq_getElem?_getD, List.getElem?_set_ne this]
theorem put_length {env : List AV} {d : Option Nat} {v : AV} : (put env d v).length = env.length := by cases d <;> simp [put]

section
variable {P : Program} {call : CallF} {ops : Array Oper} {ios : List IOper} {ps : List Nat} {f : Nat → St} {b e : Nat}

theorem Glob.stretch (G : Glob P call ops ios ps f) (hcall : PCallOK P call) (h1 : b ≤ e) (h2 : e ≤ ops.size) (hf : ∀ k io, b ≤ k → k < e → ios[k]? = some io → fullOp io.op = false) : Stretch ops ios f b e := by
  refine ⟨h1, h2, ?_, ?_, ?_⟩
  · intro k hb he
    obtain ⟨o, io, e1, e2, e3, e4⟩ := G.at_ k (by omega)
    have hd := (cOper_op e3).2
    rcases e4 with ⟨_, v, H', _, e5⟩ | ⟨_, e5⟩
    · exact ⟨o, v, e1, by rw [e5, ← hd]⟩
    · exact ⟨o, _, e1, by rw [e5, ← hd]⟩
  · intro k hb he
    obtain ⟨o, io, e1, e2, e3, e4⟩ := G.at_ k (by omega)
    rcases e4 with ⟨hw, v, H', hv, e5⟩ | ⟨_, e5⟩
    · rcases aop_shape hcall (hf k io hb he e2) hv with rfl | ⟨z, rfl⟩ | ⟨id, z, z', q1, q2, q3, rfl, q5, q6⟩
      · exact .inl (by rw [e5])
      · exact .inr (.inl ⟨z, by rw [e5]⟩)
      · exact .inr (.inr ⟨id, z, z', q1, q2, q3, by rw [e5], io, e2, hw, q6, by unfold tchAt; rw [q5]; simp⟩)
    · exact .inl (by rw [e5])
  · rintro m id hb he ⟨im, e2', hw', hst, hid⟩
    obtain ⟨o, io, e1, e2, e3, e4⟩ := G.at_ m (by omega)
    rw [e2] at e2'; cases e2'
    rcases e4 with ⟨hw, v, H', hv, e5⟩ | ⟨hw, e5⟩
    · unfold tchAt at hid
      cases hop : im.op <;> rw [hop] at hst <;> simp [storeOp] at hst
      rw [hop] at hv hid
      rename_i n a x
      simp only [touch] at hid
      split at hid
      · rename_i id' i j ha
        simp only [List.mem_singleton] at hid
        subst hid
        simp only [aop, ha, aStore] at hv
        cases hg : hget (f m).H id with
        | none => simp [hg] at hv
        | some z => exact (hget_lt hg).2
      · simp at hid
    · rw [hw] at hw'; cases hw'

theorem Stretch.keepE (S : Stretch ops ios f b e) {c k t : Nat} (hb : b ≤ c) (hck : c ≤ k) (hk : k ≤ e) (hn : ∀ m o, c ≤ m → m < k → ops[m]? = some o → o.dst ≠ some t) : (f k).env.getD t .undef = (f c).env.getD t .undef := by
  induction k, hck using le_ind with
  | base => rfl
  | succ k hck ih =>
    obtain ⟨o, v, h1, h2⟩ := S.env k (by omega) (by omega)
    rw [h2, put_getD_ne (hn k o hck (by omega) h1)]
    exact ih (by omega) (fun m o h3 h4 => hn m o h3 (by omega))

theorem Stretch.lenE (S : Stretch ops ios f b e) {k : Nat} (hb : b ≤ k) (hk : k ≤ e) : (f k).env.length = (f b).env.length := by
  induction k, hb using le_ind with
  | base => rfl
  | succ k hck ih =>
    obtain ⟨o, v, h1, h2⟩ := S.env k (by omega) (by omega)
    rw [h2, put_length]
    exact ih (by omega)

theorem Stretch.mono (S : Stretch ops ios f b e) {c k : Nat} (hb : b ≤ c) (hck : c ≤ k) (hk : k ≤ e) : (f c).H.length ≤ (f k).H.length := by
  induction k, hck using le_ind with
  | base => exact Nat.le_refl _
  | succ k hck ih =>
    have := ih (by omega)
    rcases S.heap k (by omega) (by omega) with h | ⟨z, h⟩ | ⟨id, z, z', _, _, _, h, _⟩ <;> rw [h] <;> simp <;> omega

theorem Stretch.shape (S : Stretch ops ios f b e) {c k id : Nat} (hb : b ≤ c) (hck : c ≤ k) (hk : k ≤ e) (hid : id < (f c).H.length) : ShEq ((f c).H[id]?) ((f k).H[id]?) := by
  induction k, hck using le_ind with
  | base => exact .refl _
  | succ k hck ih =>
    refine (ih (by omega)).trans ?_
    have hlt := Nat.lt_of_lt_of_le hid (S.mono hb hck (by omega))
    rcases S.heap k (by omega) (by omega) with h | ⟨z, h⟩ | ⟨id', z, z', h1, h2, h3, h, _⟩
    · rw [h]; exact .refl _
    · rw [h, List.getElem?_append_left hlt]; exact .refl _
    · rw [h]
      by_cases hi : id' = id
      · subst hi
        rw [List.getElem?_set_self hlt, (hget_lt h1).1]
        exact ⟨h2.symm, h3.symm⟩
      · rw [List.getElem?_set_ne hi]; exact .refl _

theorem Stretch.keepH (S : Stretch ops ios f b e) {c k id : Nat} (hb : b ≤ c) (hck : c ≤ k) (hk : k ≤ e) (hid : id < (f c).H.length) (hn : ∀ m, c ≤ m → m < k → ¬ Upd ios f m id) : (f k).H[id]? = (f c).H[id]? := by
  induction k, hck using le_ind with
  | base => rfl
  | succ k hck ih =>
    rw [← ih (by omega) (fun m h3 h4 => hn m h3 (by omega))]
    have hlt := Nat.lt_of_lt_of_le hid (S.mono hb hck (by omega))
    rcases S.heap k (by omega) (by omega) with h | ⟨z, h⟩ | ⟨id', z, z', h1, h2, h3, h, h4⟩
    · rw [h]
    · rw [h, List.getElem?_append_left hlt]
    · rw [h, List.getElem?_set_ne (fun hi : id' = id => hn k hck (by omega) (hi ▸ h4))]

theorem Stretch.alive (S : Stretch ops ios f b e) {k id : Nat} (hb : b ≤ k) (hk : k ≤ e) (h0 : (f b).H.length ≤ id) : (f k).H[id]? ≠ some none := by
  induction k, hb using le_ind with
  | base => rw [List.getElem?_eq_none h0]; simp
  | succ k hck ih =>
    have ih := ih (by omega)
    rcases S.heap k (by omega) (by omega) with h | ⟨z, h⟩ | ⟨id', z, z', h1, h2, h3, h, h4⟩
    · rw [h]; exact ih
    · rw [h, List.getElem?_append]
      split
      · exact ih
      · intro hh
        have := List.mem_of_getElem? hh
        simp at this
    · rw [h]
      by_cases hi : id' = id
      · subst hi
        rw [List.getElem?_set_self (hget_lt h1).2]; simp
      · rw [List.getElem?_set_ne hi]; exact ih

theorem Stretch.sameE (S : Stretch ops ios f b e) {c k t : Nat} (hc : b ≤ c) (hce : c ≤ e) (hk : b ≤ k) (hke : k ≤ e) (h : ∀ m o, b ≤ m → m < e → ops[m]? = some o → o.dst = some t → (m < c ↔ m < k)) : (f c).env.getD t .undef = (f k).env.getD t .undef := by
  rcases Nat.le_total c k with hl | hl
  · exact (S.keepE hc hl hke fun m o h1 h2 h3 h4 => absurd ((h m o (by omega) (by omega) h3 h4).mpr h2) (by omega)).symm
  · exact S.keepE hk hl hce fun m o h1 h2 h3 h4 => absurd ((h m o (by omega) (by omega) h3 h4).mp h2) (by omega)

theorem Stretch.sameH (S : Stretch ops ios f b e) {c k id : Nat} (hc : b ≤ c) (hce : c ≤ e) (hk : b ≤ k) (hke : k ≤ e) (h1 : id < (f c).H.length) (h2 : id < (f k).H.length) (h : ∀ m, b ≤ m → m < e → Upd ios f m id → (m < c ↔ m < k)) : (f c).H[id]? = (f k).H[id]? := by
  rcases Nat.le_total c k with hl | hl
  · exact (S.keepH hc hl hke h1 fun m q1 q2 q3 => absurd ((h m (by omega) (by omega) q3).mpr q2) (by omega)).symm
  · exact S.keepH hk hl hce h2 fun m q1 q2 q3 => absurd ((h m (by omega) (by omega) q3).mp q2) (by omega)

/-- A state in between. -/
structure Mix (ops : Array Oper) (ios : List IOper) (f : Nat → St) (b e : Nat) (L : Nat → Prop) (ρ : Rho) (s : St) : Prop where
  len : s.env.length = (f b).env.length
  shape : ∀ id : Nat, ShEq s.H[id]? (f e).H[id]?
  made : ∀ id, ρ id ≠ .no → id < (f b).H.length ∨ ∃ m, b ≤ m ∧ m < e ∧ L m ∧ (f m).H.length ≤ id ∧ id < (f (m + 1)).H.length
  cutH : ∀ id, ρ id ≠ .no → ∃ c, b ≤ c ∧ c ≤ e ∧ id < (f c).H.length ∧ s.H[id]? = (f c).H[id]? ∧ ∀ m, b ≤ m → m < e → Upd ios f m id → (m < c ↔ L m)
  cutE : ∀ t, ∃ c, b ≤ c ∧ c ≤ e ∧ s.env.getD t .undef = (f c).env.getD t .undef ∧ ∀ m o, b ≤ m → m < e → ops[m]? = some o → o.dst = some t → (m < c ↔ L m)
  upds : ∀ m id, b ≤ m → m < e → L m → Upd ios f m id → ρ id ≠ .no

theorem cutE_put {L : Nat → Prop} {ρ : Rho} {s : St} {k : Nat} {o : Oper} {v : AV} (S : Stretch ops ios f b e) (M : Mix ops ios f b e L ρ s) (hb : b ≤ k) (he : k < e) (ho : ops[k]? = some o) (hput : (f (k + 1)).env = put (f k).env o.dst v)
    (hord : ∀ m om t, m ≠ k → ops[m]? = some om → om.dst = some t → o.dst = some t → (m < k ↔ L m)) :
    ∀ t, ∃ c, b ≤ c ∧ c ≤ e ∧ (put s.env o.dst v).getD t .undef = (f c).env.getD t .undef ∧ ∀ m om, b ≤ m → m < e → ops[m]? = some om → om.dst = some t → (m < c ↔ (L m ∨ m = k)) := by
  intro t
  by_cases hd : o.dst = some t
  · refine ⟨k + 1, by omega, by omega, ?_, fun m om h1 h2 h3 h4 => ?_⟩
    · rw [hput, hd]
      simp only [put, List.getD_eq_getElem?_getD]
      rcases Nat.lt_or_ge t s.env.length with hlt | hge
      · rw [List.getElem?_set_self hlt, List.getElem?_set_self (by rw [S.lenE hb (by omega), ← M.len]; exact hlt)]
      · rw [List.getElem?_eq_none (by simpa using hge), List.getElem?_eq_none (by simp; rw [S.lenE hb (by omega), ← M.len]; exact hge)]
    · by_cases hmk : m = k
      · subst hmk; simp
      · have := hord m om t hmk h3 h4 hd
        rw [← this]
        omega
  · obtain ⟨c, h1, h2, h3, h4⟩ := M.cutE t
    refine ⟨c, h1, h2, by rw [put_getD_ne hd, h3], fun m om q1 q2 q3 q4 => ?_⟩
    have hmk : m ≠ k := by
      rintro rfl
      rw [ho] at q3; cases q3
      exact hd q4
    rw [h4 m om q1 q2 q3 q4]
    simp [hmk]

/-- A step that leaves own memory as_ it is. -/
theorem Mix.same {L : Nat → Prop} {ρ : Rho} {s : St} {k : Nat} {o : Oper} {v : AV} (S : Stretch ops ios f b e) (M : Mix ops ios f b e L ρ s) (hb : b ≤ k) (he : k < e) (ho : ops[k]? = some o) (hput : (f (k + 1)).env = put (f k).env o.dst v)
    (hord : ∀ m om t, m ≠ k → ops[m]? = some om → om.dst = some t → o.dst = some t → (m < k ↔ L m)) (hno : ∀ id, ¬ Upd ios f k id) : Mix ops ios f b e (fun m => L m ∨ m = k) ρ ⟨put s.env o.dst v, s.H⟩ := by
  refine ⟨by simpa [put_length] using M.len, M.shape, fun id h => (M.made id h).imp (fun x => x) (fun ⟨m, h1, h2, h3, h4⟩ => ⟨m, h1, h2, .inl h3, h4⟩), fun id h => ?_, cutE_put S M hb he ho hput hord, fun m id h1 h2 h3 h4 => ?_⟩
  · obtain ⟨c, h1, h2, h3, h4, h5⟩ := M.cutH id h
    refine ⟨c, h1, h2, h3, h4, fun m q1 q2 q3 => ?_⟩
    have hmk : m ≠ k := fun hh => hno id (hh ▸ q3)
    rw [h5 m q1 q2 q3]; simp [hmk]
  · rcases h3 with h3 | rfl
    · exact M.upds m id h1 h2 h3 h4
    · exact absurd h4 (hno id)

theorem Mix.makes {L : Nat → Prop} {ρ ρ' : Rho} {s : St} {k : Nat} {o : Oper} {v : AV} {z : Blk} {r : RB} (S : Stretch ops ios f b e) (M : Mix ops ios f b e L ρ s) (hb : b ≤ k) (he : k < e) (ho : ops[k]? = some o) (hput : (f (k + 1)).env = put (f k).env o.dst v) (hH : (f (k + 1)).H = (f k).H ++ [some z])
    (hord : ∀ m om t, m ≠ k → ops[m]? = some om → om.dst = some t → o.dst = some t → (m < k ↔ L m)) (hno : ∀ id, ¬ Upd ios f k id) (hρ0 : ρ (f k).H.length = .no) (hr : r ≠ .no) (hρ : ρ' = fun i => if i = (f k).H.length then r else ρ i) :
    Mix ops ios f b e (fun m => L m ∨ m = k) ρ' ⟨put s.env o.dst v, s.H.set (f k).H.length (some z)⟩ := by
  have hnew : (f (k + 1)).H[(f k).H.length]? = some (some z) := by rw [hH]; simp
  have hlt1 : (f k).H.length < (f (k + 1)).H.length := by rw [hH]; simp
  have hsh := S.shape (c := k + 1) (k := e) (by omega) (by omega) (Nat.le_refl _) hlt1
  have hlt : (f k).H.length < s.H.length := by
    rcases Nat.lt_or_ge (f k).H.length s.H.length with h | h
    · exact h
    · have := (M.shape (f k).H.length).none_iff.mp (List.getElem?_eq_none h)
      rw [hnew, this] at hsh
      exact hsh.elim
  refine ⟨by simpa [put_length] using M.len, fun id => ?_, fun id h => ?_, fun id h => ?_, cutE_put S M hb he ho hput hord, fun m id h1 h2 h3 h4 => ?_⟩
  · by_cases hi : (f k).H.length = id
    · subst hi
      simp only [List.getElem?_set_self hlt]
      rw [hnew] at hsh
      exact hsh
    · simp only [List.getElem?_set_ne hi]
      exact M.shape id
  · by_cases hi : id = (f k).H.length
    · exact .inr ⟨k, hb, he, .inr rfl, by omega, by omega⟩
    · rw [hρ] at h; simp only [hi, if_false] at h
      exact (M.made id h).imp (fun x => x) (fun ⟨m, h1, h2, h3, h4⟩ => ⟨m, h1, h2, .inl h3, h4⟩)
  · by_cases hi : id = (f k).H.length
    · subst hi
      refine ⟨k + 1, by omega, by omega, hlt1, by simp only [List.getElem?_set_self hlt]; exact hnew.symm, fun m q1 q2 q3 => ?_⟩
      have hmk : m ≠ k := fun hh => hno _ (hh ▸ q3)
      have hge : ¬ m < k := fun hm => absurd (S.upd m _ q1 q2 q3) (Nat.not_lt.mpr (S.mono q1 (by omega) (by omega)))
      have hnl : ¬ L m := fun hl => M.upds m _ q1 q2 hl q3 hρ0
      constructor
      · intro h; omega
      · rintro (h | h)
        · exact absurd h hnl
        · exact absurd h hmk
    · rw [hρ] at h; simp only [hi, if_false] at h
      obtain ⟨c, h1, h2, h3, h4, h5⟩ := M.cutH id h
      refine ⟨c, h1, h2, h3, by simp only [List.getElem?_set_ne (Ne.symm hi)]; exact h4, fun m q1 q2 q3 => ?_⟩
      have hmk : m ≠ k := fun hh => hno id (hh ▸ q3)
      rw [h5 m q1 q2 q3]; simp [hmk]
  · rcases h3 with h3 | rfl
    · have := M.upds m id h1 h2 h3 h4
      rw [hρ]
      by_cases hi : id = (f k).H.length
      · simp only [hi, if_true]; exact hr
      · simp only [hi, if_false]; exact this
    · exact absurd h4 (hno id)

theorem Mix.stores {L : Nat → Prop} {ρ : Rho} {s : St} {k id : Nat} {o : Oper} {v : AV} {z z0 : Blk} (S : Stretch ops ios f b e) (M : Mix ops ios f b e L ρ s) (hb : b ≤ k) (he : k < e) (ho : ops[k]? = some o) (hput : (f (k + 1)).env = put (f k).env o.dst v) (hH : (f (k + 1)).H = (f k).H.set id (some z)) (hlt : id < (f k).H.length)
    (hord : ∀ m om t, m ≠ k → ops[m]? = some om → om.dst = some t → o.dst = some t → (m < k ↔ L m)) (hup : ∀ id', Upd ios f k id' → id' = id) (hord2 : ∀ m, m ≠ k → Upd ios f m id → (m < k ↔ L m)) (hs : s.H[id]? = some (some z0)) (he0 : z.e = z0.e) (hl0 : z.els.length = z0.els.length) (hρ : ρ id ≠ .no) :
    Mix ops ios f b e (fun m => L m ∨ m = k) ρ ⟨put s.env o.dst v, s.H.set id (some z)⟩ := by
  have hlts : id < s.H.length := (List.getElem?_eq_some_iff.mp hs).1
  refine ⟨by simpa [put_length] using M.len, fun id' => ?_, fun id' h => (M.made id' h).imp (fun x => x) (fun ⟨m, h1, h2, h3, h4⟩ => ⟨m, h1, h2, .inl h3, h4⟩), fun id' h => ?_, cutE_put S M hb he ho hput hord, fun m id' h1 h2 h3 h4 => ?_⟩
  · by_cases hi : id = id'
    · subst hi
      simp only [List.getElem?_set_self hlts]
      have := M.shape id
      rw [hs] at this
      obtain ⟨y, q1, q2, q3⟩ := this.some_r
      rw [q1]
      exact ⟨he0.trans q2, hl0.trans q3⟩
    · simp only [List.getElem?_set_ne hi]
      exact M.shape id'
  · by_cases hi : id = id'
    · subst hi
      refine ⟨k + 1, by omega, by omega, by rw [hH]; simpa using hlt, by rw [hH]; simp only [List.getElem?_set_self hlts, List.getElem?_set_self hlt], fun m q1 q2 q3 => ?_⟩
      by_cases hmk : m = k
      · subst hmk; simp
      · have := hord2 m hmk q3
        rw [← this]; omega
    · obtain ⟨c, h1, h2, h3, h4, h5⟩ := M.cutH id' h
      refine ⟨c, h1, h2, h3, by simp only [List.getElem?_set_ne hi]; exact h4, fun m q1 q2 q3 => ?_⟩
      have hmk : m ≠ k := fun hh => hi (hup id' (hh ▸ q3)).symm
      rw [h5 m q1 q2 q3]; simp [hmk]
  · rcases h3 with h3 | rfl
    · exact M.upds m id' h1 h2 h3 h4
    · rw [hup id' h4]; exact hρ
end
end Go.Proofs.Ytjblhppbjebagaa.AE

namespace Go.Proofs.Ytjblhppbjebagaa.AE
set_option linter.unusedVariables false
set_option linter.unusedSimpArgs false
set_option linter.constructorNameAsVariable false
open Go Go.RowKit

section
variable {P : Program} {call : CallF} {ops : Array Oper} {ios : List IOper} {ps : List Nat} {f : Nat → St} {b e : Nat}
variable {w w0 : World} {bad D0 : Nat → Prop} {ρ ρ0 : Rho} {a : Act} {B : Nat} {s : St} {Q : Exit → Act → World → Prop}

theorem dead_congr {H G : Heap} (h : ∀ id : Nat, ShEq H[id]? G[id]?) : dead H = dead G := by
  funext id
  exact propext (h id).dead

theorem start_mix (S : Stretch ops ios f b e) (h : Sim w0 D0 ρ0 bad B ρ (f b) a w) {L : Nat → Prop} (hL : ∀ m, b ≤ m → m < e → ¬ L m) :
    ∃ s, Sim w0 D0 ρ0 bad B ρ s a w ∧ Mix ops ios f b e L ρ s := by
  have hsh : ∀ id : Nat, ShEq ((f b).H ++ (f e).H.drop (f b).H.length)[id]? (f e).H[id]? := by
    intro id
    rw [List.getElem?_append]
    split
    · rename_i hlt
      exact S.shape (Nat.le_refl _) S.le (Nat.le_refl _) hlt
    · rename_i hge
      rw [List.getElem?_drop, show (f b).H.length + (id - (f b).H.length) = id by omega]
      exact .refl _
  have hdead : dead ((f b).H ++ (f e).H.drop (f b).H.length) = dead (f b).H := by
    funext id
    apply propext
    simp only [dead]
    rw [List.getElem?_append]
    split
    · exact Iff.rfl
    · rename_i hge
      rw [List.getElem?_drop, show (f b).H.length + (id - (f b).H.length) = id by omega, List.getElem?_eq_none (Nat.not_lt.mp hge)]
      have := S.alive S.le (Nat.le_refl _) (Nat.not_lt.mp hge)
      simp [this]
  have hR := h.heap
  refine ⟨⟨(f b).env, (f b).H ++ (f e).H.drop (f b).H.length⟩, ⟨h.defers, h.size, fun t ht => ?_, ⟨fun id bb es cap hid => ?_, fun id hid => ?_, hR.inj⟩, h.low, ?_⟩, rfl, hsh, fun id hid => .inl (lt_of_no hR hid), fun id hid => ?_, fun t => ?_, fun m id h1 h2 h3 => absurd h3 (hL m h1 h2)⟩
  · rw [hdead]; exact h.env t ht
  · obtain ⟨k, hk, hb⟩ := hR.real id bb es cap hid
    refine ⟨k, by rw [List.getElem?_append_left (lt_of_no hR (by simp [hid]))]; exact hk, ?_⟩
    have h2 : BlkRel w bad (dead ((f b).H ++ (f e).H.drop (f b).H.length)) ρ B k bb es cap := by rw [hdead]; exact hb
    exact h2
  · obtain ⟨k, hk, hb⟩ := hR.virt id hid
    exact ⟨k, by rw [List.getElem?_append_left (lt_of_no hR (by simp [hid]))]; exact hk, hb⟩
  · rw [hdead]; exact h.st
  · have hlt := lt_of_no hR hid
    refine ⟨b, Nat.le_refl _, S.le, hlt, List.getElem?_append_left hlt, fun m h1 h2 _ => ?_⟩
    have := hL m h1 h2
    constructor
    · intro h; omega
    · intro h; exact absurd h this
  · refine ⟨b, Nat.le_refl _, S.le, rfl, fun m o h1 h2 _ _ => ?_⟩
    have := hL m h1 h2
    constructor
    · intro h; omega
    · intro h; exact absurd h this

theorem end_mix (S : Stretch ops ios f b e) {L : Nat → Prop} (M : Mix ops ios f b e L ρ s) (h : Sim w0 D0 ρ0 bad B ρ s a w) (hL : ∀ m, b ≤ m → m < e → L m) : Sim w0 D0 ρ0 bad B ρ (f e) a w := by
  have hdead : dead s.H = dead (f e).H := dead_congr M.shape
  have henv : ∀ t, s.env.getD t .undef = (f e).env.getD t .undef := by
    intro t
    obtain ⟨c, h1, h2, h3, h4⟩ := M.cutE t
    rw [h3]
    refine S.sameE h1 h2 S.le (Nat.le_refl _) fun m o q1 q2 q3 q4 => ?_
    rw [h4 m o q1 q2 q3 q4]
    exact ⟨fun _ => q2, fun _ => hL m q1 q2⟩
  have hheap : ∀ id, ρ id ≠ .no → s.H[id]? = (f e).H[id]? := by
    intro id hid
    obtain ⟨c, h1, h2, h3, h4, h5⟩ := M.cutH id hid
    rw [h4]
    refine S.sameH h1 h2 S.le (Nat.le_refl _) h3 (Nat.lt_of_lt_of_le h3 (S.mono h1 h2 (Nat.le_refl _))) fun m q1 q2 q3 => ?_
    rw [h5 m q1 q2 q3]
    exact ⟨fun _ => q2, fun _ => hL m q1 q2⟩
  have hlen : s.env.length = (f e).env.length := by rw [M.len, S.lenE S.le (Nat.le_refl _)]
  refine ⟨h.defers, h.size.trans hlen, fun t ht => ?_, ⟨fun id bb es cap hid => ?_, fun id hid => ?_, h.heap.inj⟩, h.low, by rw [← hdead]; exact h.st⟩
  · rw [← hdead, ← henv t]; exact h.env t (hlen ▸ ht)
  · obtain ⟨k, hk, hb⟩ := h.heap.real id bb es cap hid
    refine ⟨k, (hheap id (by simp [hid])) ▸ hk, ?_⟩
    have h2 : BlkRel w bad (dead (f e).H) ρ B k bb es cap := by rw [← hdead]; exact hb
    exact h2
  · obtain ⟨k, hk, hb⟩ := h.heap.virt id hid
    exact ⟨k, (hheap id (by simp [hid])) ▸ hk, hb⟩

theorem want_congr {env env' : List AV} {ops : Array Oper} {o : Oper} {io : IOper} (hc : cOper P ops.toList o = some io) (h : ∀ t, t ∈ o.looksAt ops → env.getD t .undef = env'.getD t .undef) : want env io.guard = want env' io.guard := by
  unfold cOper at hc
  split at hc <;> (try (cases hc; done))
  cases hc
  cases hg : o.guard with
  | none => rfl
  | some p =>
    obtain ⟨g, q⟩ := p
    simp only
    cases hd : (ops.toList[g]?).bind (·.dst) with
    | none => rfl
    | some t =>
      have ht : t ∈ o.looksAt ops := by
        simp only [Oper.looksAt, hg, List.mem_append]
        right
        have : ops.toList[g]? = ops[g]? := by simp
        rw [this] at hd
        simp [hd]
      simp only [want, h t ht]

theorem seg_step (G : Glob P call ops ios ps f) (S : Stretch ops ios f b e) (hcall : PCallOK P call) (hbad : ∀ b, bad b → b < B) {L : Nat → Prop} {k : Nat} (hb : b ≤ k) (he : k < e) (hnf : ∀ io, ios[k]? = some io → fullOp io.op = false) (hk : ¬ L k) (hready : ∀ m, (ps.getD k 0).testBit m = true → L m)
    (hclosed : ∀ m, L m → ∀ i, (ps.getD m 0).testBit i = true → L i) (h : Sim w0 D0 ρ0 bad B ρ s a w) (M : Mix ops ios f b e L ρ s) {K : Act → World → Prop}
    (hK : ∀ a' w' ρ' s', Sim w0 D0 ρ0 bad B ρ' s' a' w' → Mix ops ios f b e (fun m => L m ∨ m = k) ρ' s' → K a' w') : wpOp P ops Q k K a w := by
  obtain ⟨o, io, e1, e2, e3, e4⟩ := G.at_ k (Nat.lt_of_lt_of_le he S.top)
  obtain ⟨hop, hdst⟩ := cOper_op e3
  have ordL : ∀ m, m ≠ k → Ord ps m k → (m < k ↔ L m) := by
    intro m hmk ho
    constructor
    · intro hlt; exact hready m (ho.1 hlt)
    · intro hl
      rcases Nat.lt_or_ge m k with hlt | hge
      · exact hlt
      · exact absurd (hclosed m hl k (ho.2 (by omega))) hk
  have hord : ∀ m om t, m ≠ k → ops[m]? = some om → om.dst = some t → o.dst = some t → (m < k ↔ L m) := fun m om t h1 h2 h3 h4 => ordL m h1 (G.slots m k om o t h1 h2 e1 h3 (.inr h4))
  have hslot : ∀ t, t ∈ o.looksAt ops → s.env.getD t .undef = (f k).env.getD t .undef := by
    intro t ht
    obtain ⟨c, h1, h2, h3, h4⟩ := M.cutE t
    rw [h3]
    refine S.sameE h1 h2 hb (by omega) fun m om q1 q2 q3 q4 => ?_
    rw [h4 m om q1 q2 q3 q4]
    by_cases hmk : m = k
    · subst hmk; simp [hk]
    · exact (ordL m hmk (G.slots m k om o t hmk q3 e1 q4 (.inl ht))).symm
  have hwant : want s.env io.guard = want (f k).env io.guard := want_congr e3 hslot
  unfold wpOp
  rw [e1]
  simp only
  rcases e4 with ⟨hw, v, H', hv, e5⟩ | ⟨hw, e5⟩
  · rw [want_spec e3 h (hwant.trans hw), if_pos rfl]
    refine .inl ?_
    have hput : (f (k + 1)).env = put (f k).env o.dst v := by rw [e5, ← hdst]
    have hHk : (f (k + 1)).H = H' := by rw [e5]
    have hshk : ∀ id z, hget (f k).H id = some z → ∃ z', s.H[id]? = some (some z') ∧ z'.e = z.e ∧ z'.els.length = z.els.length := by
      intro id z hz
      obtain ⟨q1, q2⟩ := hget_lt hz
      have r1 := S.shape hb (Nat.le_of_lt he) (Nat.le_refl _) q2
      rw [q1] at r1
      obtain ⟨y, r2, r3, r4⟩ := r1.some_r
      have r5 := M.shape id
      rw [r2] at r5
      obtain ⟨x, r6, r7, r8⟩ := r5.some_l
      exact ⟨x, r6, r7.trans r3.symm, r8.trans r4.symm⟩
    have hgets : ∀ {H : Heap} {id : Nat} {z : Blk}, H[id]? = some (some z) → hget H id = some z := by
      intro H id z hz; simp [hget, hz]
    have hO : OpsOk w bad (dead s.H) ρ a (evO (f k).env) o.op.operands.toList := by
      intro x hx y hy
      have h1 := evO_rep h o.op.operands.toList x hx y hy
      have : evO (f k).env y = evO s.env y := by
        cases y with
        | v _ => rfl
        | t t =>
          have hxt : x = .tmp t := by
            cases x with
            | tmp t' => simp [cOpd] at hy; rw [hy]
            | const u => cases hu : cv u <;> simp [cOpd, hu] at hy
            | global g => simp [cOpd] at hy
            | func g => simp [cOpd] at hy
          subst hxt
          exact (hslot t (by simp only [Oper.looksAt, List.mem_append, List.mem_filterMap]; exact .inl ⟨.tmp t, hx, rfl⟩)).symm
      rw [this]; exact h1
    have htc : ∀ id ∈ touch (evO (f k).env) (f k).H io.op, ∀ z, hget (f k).H id = some z → ρ id ≠ .no → hget s.H id = some z := by
      intro id hid z hz hn
      obtain ⟨q1, q2⟩ := hget_lt hz
      obtain ⟨c, h1, h2, h3, h4, h5⟩ := M.cutH id hn
      have : (f c).H[id]? = (f k).H[id]? := by
        refine S.sameH h1 h2 hb (by omega) h3 q2 fun m r1 r2 r3 => ?_
        rw [h5 m r1 r2 r3]
        by_cases hmk : m = k
        · subst hmk; simp [hk]
        · obtain ⟨im, t1, t2, t3, t4⟩ := r3
          exact (ordL m hmk (G.mem m k im io id hmk t1 e2 t2 hw t3 t4 hid)).symm
      exact hgets (h4.trans (this.trans q1))
    have hdd : ∀ id, dead s.H id → hget (f k).H id = none := by
      intro id hd
      cases hz : hget (f k).H id with
      | none => rfl
      | some z =>
        obtain ⟨z', q, _⟩ := hshk id z hz
        simp only [dead] at hd
        rw [hd] at q; cases q
    have hupd : storeOp io.op = false → ∀ id, ¬ Upd ios f k id := by
      rintro hs id ⟨im, t1, t2, t3, t4⟩
      rw [e2] at t1; cases t1
      rw [hs] at t3; cases t3
    have hfin := op_drawn (ev := evO (f k).env) hop hcall (hnf io e2) hbad h.heap h.low hO (fun id z hz => let ⟨z', q1, q2, q3⟩ := hshk id z hz; ⟨z', hgets q1, q3⟩) (fun id z hz => let ⟨z', q1, q2, q3⟩ := hshk id z hz; ⟨z', hgets q1, q2⟩) htc hdd (fun _ => rfl) hv
    rcases hfin with ⟨⟨cv, hr, hrep⟩, hH, hst⟩ | ⟨z, hm, hH, hst⟩ | ⟨id, z, z', w', q1, q2, q3, q4, hH, q5, q6, q7, q8, q9, q10⟩ | ⟨hH, hst, vs, g, hr, hres⟩
    · unfold Oper.wp
      rw [hr]
      exact hK _ _ ρ _ (put_sim o.dst h (Step.refl _ _ _) h.heap hrep) (M.same S hb he e1 hput hord (hupd hst))
    · obtain ⟨cv, w', cur, fz, cap, hr, h1, h2, h3, ⟨h4, h5, h6⟩, h7, h8, h9, h10, h11, h12, h13⟩ := hm
      have hHH : (f (k + 1)).H = (f k).H ++ [some z] := hHk.trans hH
      have hnew : (f (k + 1)).H[(f k).H.length]? = some (some z) := by rw [hHH]; simp
      have hlt1 : (f k).H.length < (f (k + 1)).H.length := by rw [hHH]; simp
      have hno : ρ (f k).H.length = .no := by
        cases hx : ρ (f k).H.length with
        | no => rfl
        | _ =>
          exfalso
          rcases M.made (f k).H.length (by simp [hx]) with h' | ⟨m, r1, r2, r3, r4, r5⟩
          · have := S.mono (Nat.le_refl b) hb (by omega); omega
          · have hmk : m ≠ k := fun hh => hk (hh ▸ r3)
            rcases Nat.lt_or_ge m k with hlt | hge
            · have := S.mono (c := m + 1) (k := k) (by omega) (by omega) (by omega); omega
            · have := S.mono (c := k + 1) (k := m) (by omega) (by omega) (by omega); omega
      have hsn := M.shape (f k).H.length
      have hsx := S.shape (c := k + 1) (k := e) (by omega) (by omega) (Nat.le_refl _) hlt1
      rw [hnew] at hsx
      obtain ⟨y, hy, _, _⟩ := hsx.some_r
      rw [hy] at hsn
      obtain ⟨y2, hy2, _, _⟩ := hsn.some_l
      have hlts : (f k).H.length < s.H.length := (List.getElem?_eq_some_iff.mp hy2).1
      obtain ⟨ρ', hρ', st, hR⟩ := alloc_upd (H' := s.H.set (f k).H.length (some z)) h.heap h.low hno (List.getElem?_set_self hlts) (fun i hi _ => List.getElem?_set_ne (Ne.symm hi)) (fun i hi => by
        have : i ≠ (f k).H.length := by rintro rfl; rw [hy2] at hi; cases hi
        rw [List.getElem?_set_ne (Ne.symm this)]; exact hi) h1 h2 h3 h4 h5 h6 h7 h8 h9 h10 h11 h12
      unfold Oper.wp
      rw [hr]
      refine hK _ _ ρ' _ (put_sim (v := v) o.dst h st hR ?_) (M.makes S hb he e1 hput hHH hord (hupd hst) hno (r := .real w.heap.size z.e.es cap) (by simp) hρ')
      rcases h13 with ⟨rfl, rfl⟩ | ⟨n, c, rfl, q1, q2, rfl⟩
      · have := Rep.ptr (w := w') (bad := bad) (D := dead (s.H.set (f k).H.length (some z))) (ρ := ρ') (id := (f k).H.length) (i := 0) (j := 0) (b := w.heap.size) (es := z.e.es) (cap := cap) (by subst hρ'; simp)
        simpa using this
      · have := Rep.slc (w := w') (bad := bad) (D := dead (s.H.set (f k).H.length (some z))) (ρ := ρ') (id := (f k).H.length) (o := 0) (n := n) (c := c) (b := w.heap.size) (es := z.e.es) (cap := cap) (by subst hρ'; simp) (by omega) q1
        simpa using this
    · obtain ⟨st, hR⟩ := q8 _ rfl
      unfold Oper.wp
      rw [q9]
      subst q7
      refine hK _ _ ρ _ (put_sim (v := .undef) o.dst h st hR (.frz (.undef _))) (M.stores S hb he e1 hput (hHk.trans hH) (hget_lt q2).2 hord ?_ ?_ q1 q3 q4 q10)
      · rintro id' ⟨im, t1, t2, t3, t4⟩
        rw [e2] at t1; cases t1
        unfold tchAt at t4
        rw [q5] at t4
        simpa using t4
      · rintro m hmk ⟨im, t1, t2, t3, t4⟩
        exact ordL m hmk (G.mem m k im io id hmk t1 e2 t2 hw t3 t4 (by unfold tchAt; rw [q5]; simp))
    · unfold Oper.wp
      rw [hr]
      rcases hres with ⟨cv, h1, hbw, hrep⟩ | ⟨h1, h2⟩
      · rw [h1]
        obtain ⟨st, hR⟩ := below_step h.heap hbw
        exact hK _ _ ρ _ (put_sim o.dst h st hR hrep) (M.same S hb he e1 hput hord (hupd hst))
      · rw [h1]
        refine h2.mono ?_
        rintro ex w' ⟨cv, rfl, hbw, hrep⟩
        obtain ⟨st, hR⟩ := below_step h.heap hbw
        exact hK _ _ ρ _ (put_sim o.dst h st hR hrep) (M.same S hb he e1 hput hord (hupd hst))
  · rw [want_spec e3 h (hwant.trans hw), if_neg (by simp)]
    have hput : (f (k + 1)).env = put (f k).env o.dst (.tup []) := by rw [e5, ← hdst]
    refine hK _ _ ρ _ (skip_sim o.dst h) (M.same S hb he e1 hput hord ?_)
    rintro id ⟨im, t1, t2, t3, t4⟩
    rw [e2] at t1; cases t1
    rw [hw] at t2; cases t2
end
end Go.Proofs.Ytjblhppbjebagaa.AE

namespace Go.Proofs.Ytjblhppbjebagaa.AE
set_option linter.unusedVariables false
set_option linter.unusedSimpArgs false
set_option linter.constructorNameAsVariable false
open Go Go.RowKit

theorem predsOf_len : ∀ (l : List Oper) (acc : List Nat), (predsOf l acc).length = acc.length + l.length
  | [], acc => by simp [predsOf]
  | o :: l, acc => by
    rw [predsOf, predsOf_len l]
    simp; omega
theorem predsOf_old : ∀ (l : List Oper) (acc : List Nat) (k : Nat), k < acc.length → (predsOf l acc).getD k 0 = acc.getD k 0
  | [], acc, k, _ => by simp [predsOf]
  | o :: l, acc, k, h => by
    rw [predsOf, predsOf_old l _ k (by simp; omega)]
    simp only [List.getD_eq_getElem?_getD, List.getElem?_append_left h]

theorem fold_bits (g : Nat → Nat) : ∀ (l : List _) (m i : Nat), (l.foldl (fun m (e : Edge) => if Region.binds .any e then m ||| 2 ^ e.on ||| g e.on else m) m).testBit i = true →
    m.testBit i = true ∨ ∃ e ∈ l, Region.binds .any e = true ∧ (i = e.on ∨ (g e.on).testBit i = true)
  | [], m, i, h => .inl h
  | e :: l, m, i, h => by
    simp only [List.foldl_cons] at h
    rcases fold_bits g l _ i h with h | ⟨e', h1, h2⟩
    · split at h
      · rename_i hb
        simp only [Nat.testBit_or, Bool.or_eq_true, Nat.testBit_two_pow, decide_eq_true_eq] at h
        rcases h with (h | h) | h
        · exact .inl h
        · exact .inr ⟨e, by simp, hb, .inl h.symm⟩
        · exact .inr ⟨e, by simp, hb, .inr h⟩
      · exact .inl h
    · exact .inr ⟨e', by simp [h1], h2⟩

theorem predsOf_bits : ∀ (l : List Oper) (acc : List Nat) (k i : Nat) (o : Oper), l[k]? = some o → ((predsOf l acc).getD (acc.length + k) 0).testBit i = true → ∃ e ∈ o.after.toList, Region.binds .any e = true ∧ (i = e.on ∨ (((predsOf l acc).getD e.on 0).testBit i = true))
  | [], acc, k, i, o, h, _ => by simp at h
  | p :: l, acc, k, i, o, h, hb => by
    rw [predsOf] at hb ⊢
    generalize hx : p.after.toList.foldl (fun m e => if Region.binds .any e then m ||| 2 ^ e.on ||| acc.getD e.on 0 else m) 0 = x at hb
    cases k with
    | zero =>
      simp only [List.getElem?_cons_zero, Option.some.injEq] at h
      subst h
      rw [predsOf_old l _ _ (by simp)] at hb
      have : (acc ++ [x]).getD (acc.length + 0) 0 = x := by simp [List.getD_eq_getElem?_getD]
      rw [this, ← hx] at hb
      rcases fold_bits (fun n => acc.getD n 0) _ _ _ hb with h | ⟨e, h1, h2, h3⟩
      · simp at h
      · refine ⟨e, h1, h2, h3.imp (fun x => x) fun h3 => ?_⟩
        have hlt : e.on < acc.length := by
          rcases Nat.lt_or_ge e.on acc.length with h' | h'
          · exact h'
          · simp [List.getD_eq_getElem?_getD, List.getElem?_eq_none h'] at h3
        rw [predsOf_old l _ _ (by simp; omega)]
        simp only [List.getD_eq_getElem?_getD, List.getElem?_append_left hlt] at h3 ⊢
        exact h3
    | succ k =>
      simp only [List.getElem?_cons_succ] at h
      have := predsOf_bits l (acc ++ [x]) k i o h (by rw [show (acc ++ [x]).length + k = acc.length + (k + 1) by simp; omega]; exact hb)
      exact this

theorem next_full (ios : List IOper) (n : Nat) : ∀ d b : Nat, n - b = d → b ≤ n → ∃ e, b ≤ e ∧ e ≤ n ∧ (∀ k io, b ≤ k → k < e → ios[k]? = some io → fullOp io.op = false) ∧ (e = n ∨ ∃ io, ios[e]? = some io ∧ fullOp io.op = true)
  | 0, b, h, hb => ⟨b, Nat.le_refl _, hb, fun k io h1 h2 => by omega, .inl (by omega)⟩
  | d + 1, b, h, hb => by
    by_cases hf : ∃ io, ios[b]? = some io ∧ fullOp io.op = true
    · exact ⟨b, Nat.le_refl _, hb, fun k io h1 h2 => by omega, .inr hf⟩
    · obtain ⟨e, h1, h2, h3, h4⟩ := next_full ios n d (b + 1) (by omega) (by omega)
      refine ⟨e, by omega, h2, fun k io q1 q2 q3 => ?_, h4⟩
      by_cases hk : k = b
      · subst hk
        cases hx : fullOp io.op
        · rfl
        · exact absurd ⟨io, q3, hx⟩ hf
      · exact h3 k io (by omega) q2 q3

def open_ (listed : Array Bool) : Nat := listed.toList.countP (· = false)

theorem open_set {listed : Array Bool} {i : Nat} (h : listed.getD i true = false) : open_ (listed.setIfInBounds i true) + 1 = open_ listed := by
  have hlt : i < listed.size := by
    rcases Nat.lt_or_ge i listed.size with h' | h'
    · exact h'
    · simp [Array.getElem?_eq_none h'] at h
  have hv : listed.toList[i] = false := by
    have : listed[i] = false := by simpa [hlt] using h
    simpa using this
  unfold open_
  rw [Array.toList_setIfInBounds, List.countP_set (h := by simpa using hlt)]
  have hpos : 0 < listed.toList.countP (fun x => decide (x = false)) := List.countP_pos_iff.mpr ⟨false, by rw [← hv]; exact List.getElem_mem _, by simp⟩
  have h1 : (if (decide (listed.toList[i] = false)) = true then 1 else 0) = 1 := by rw [hv]; rfl
  have h2 : (if (decide (true = false)) = true then 1 else 0) = 0 := rfl
  simp only [h1, h2]
  omega

theorem open_zero {listed : Array Bool} (h : open_ listed = 0) (i : Nat) : listed.getD i true = true := by
  unfold open_ at h
  rw [List.countP_eq_zero] at h
  rcases Nat.lt_or_ge i listed.size with hlt | hge
  · have := h listed[i] (by simp)
    simp [hlt]
    simpa using this
  · simp [Array.getElem?_eq_none hge]

section
variable {P : Program} {call : CallF} {ops : Array Oper} {ios : List IOper} {ps : List Nat} {f : Nat → St} {b e : Nat}
variable {w w0 : World} {bad D0 : Nat → Prop} {ρ ρ0 : Rho} {a : Act} {B : Nat} {s : St} {Q : Exit → Act → World → Prop}

theorem getD_set {listed : Array Bool} {i m : Nat} (hi : i < listed.size) : (listed.setIfInBounds i true).getD m false = true ↔ (listed.getD m false = true ∨ m = i) := by
  by_cases h : m = i
  · subst h; simp [hi]
  · simp [Array.getElem?_setIfInBounds_ne (Ne.symm h), h]

theorem drawn_main (G : Glob P call ops ios (predsOf ops.toList []) f) (hcall : PCallOK P call) (hbad : ∀ b, bad b → b < B) (hed : edgesOk ops = true) (hsz : ios.length = ops.size) (hQ : ∀ a w ρ, Sim w0 D0 ρ0 bad B ρ (f ops.size) a w → Q .normal a w) :
    ∀ (fuel : Nat) (b e : Nat) (listed : Array Bool) (ρ : Rho) (s : St) (a : Act) (w : World), listed.size = ops.size → open_ listed ≤ fuel → b ≤ e → e ≤ ops.size → (∀ k io, b ≤ k → k < e → ios[k]? = some io → fullOp io.op = false) → (e = ops.size ∨ ∃ io, ios[e]? = some io ∧ fullOp io.op = true) →
      (∀ k, k < b → listed.getD k false = true) → (∀ k, e ≤ k → listed.getD k false = false) → (∀ m, listed.getD m false = true → ∀ i, ((predsOf ops.toList []).getD m 0).testBit i = true → listed.getD i false = true) →
      Sim w0 D0 ρ0 bad B ρ s a w → Mix ops ios f b e (fun m => listed.getD m false = true) ρ s → wpAny P .any ops Q fuel listed a w := by
  intro fuel
  induction fuel with
  | zero =>
    intro b e listed ρ s a w hls hop hbe hen hnf hfe hlo hhi hcl h M
    have hall := open_zero (Nat.le_zero.mp hop)
    have hall2 : ∀ k, k < ops.size → listed.getD k false = true := by
      intro k hk
      have := hall k
      simpa [hls ▸ hk] using this
    have heq : e = ops.size := by
      rcases hfe with h' | ⟨io, h1, _⟩
      · exact h'
      · have hlt : e < ops.size := by rw [← hsz]; exact (List.getElem?_eq_some_iff.mp h1).1
        have := hall2 e hlt
        rw [hhi e (Nat.le_refl _)] at this; cases this
    refine ⟨?_, ?_⟩
    · cases hr : Region.ready .any ops listed with
      | nil => rfl
      | cons j l =>
        have hj : j ∈ Region.ready .any ops listed := by rw [hr]; simp
        have := (mem_ready.1 hj).1
        rw [hall j] at this; cases this
    · have S := G.stretch hcall hbe hen hnf
      have := end_mix S M h (fun m _ h2 => hall2 m (by omega))
      rw [heq] at this
      exact hQ _ _ _ this
  | succ fuel ih =>
    intro b e listed ρ s a w hls hop hbe hen hnf hfe hlo hhi hcl h M
    have S := G.stretch hcall hbe hen hnf
    have hedge : ∀ (k : Nat) (o : Oper), ops[k]? = some o → ∀ x ∈ o.after, Region.binds .any x = true → x.on < k := by
      intro k o ho x hx hb
      have := List.all_eq_true.mp hed (o, k) (by rw [List.mem_zipIdx_iff_getElem?]; simpa using ho)
      have := List.all_eq_true.mp this x (by simpa using hx)
      simpa [hb] using this
    refine ⟨fun hnil => ?_, fun i hi => ?_⟩
    · have hall2 : ∀ k, k < ops.size → listed.getD k false = true := by
        intro k
        induction k using Nat.strongRecOn with
        | _ k ihk =>
          intro hk
          cases hx : listed.getD k false with
          | true => rfl
          | false =>
            exfalso
            have : k ∈ Region.ready .any ops listed := mem_ready.2 ⟨by simpa [hls ▸ hk] using hx, ops[k], by simp [hk], fun x hx hb => by
              have hlt := hedge k ops[k] (by simp [hk]) x hx hb
              exact ihk x.on hlt (by omega)⟩
            rw [hnil] at this
            simp at this
      have heq : e = ops.size := by
        rcases hfe with h' | ⟨io, h1, _⟩
        · exact h'
        · have hlt : e < ops.size := by rw [← hsz]; exact (List.getElem?_eq_some_iff.mp h1).1
          have := hall2 e hlt
          rw [hhi e (Nat.le_refl _)] at this; cases this
      have := end_mix S M h (fun m _ h2 => hall2 m (by omega))
      rw [heq] at this
      exact hQ _ _ _ this
    · obtain ⟨hi0, o, ho, haft⟩ := mem_ready.1 hi
      have hlt : i < ops.size := (Array.getElem?_eq_some_iff.1 ho).1
      have hlt' : i < listed.size := hls ▸ hlt
      have hi1 : listed.getD i false = false := by simpa [hlt'] using hi0
      have hb : b ≤ i := by
        rcases Nat.lt_or_ge i b with h' | h'
        · rw [hlo i h'] at hi1; cases hi1
        · exact h'
      have hready : ∀ m, ((predsOf ops.toList []).getD i 0).testBit m = true → listed.getD m false = true := by
        intro m hm
        obtain ⟨x, h1, h2, h3⟩ := predsOf_bits ops.toList [] i m o (by simpa using ho) (by simpa using hm)
        have hl := haft x (by simpa using h1) h2
        rcases h3 with rfl | h3
        · exact hl
        · exact hcl x.on hl m h3
      have hop' : open_ (listed.setIfInBounds i true) ≤ fuel := by have := open_set hi0; omega
      have hcl' : ∀ m, (listed.setIfInBounds i true).getD m false = true → ∀ j, ((predsOf ops.toList []).getD m 0).testBit j = true → (listed.setIfInBounds i true).getD j false = true := by
        intro m hm j hj
        rw [getD_set hlt'] at hm ⊢
        rcases hm with hm | rfl
        · exact .inl (hcl m hm j hj)
        · exact .inl (hready j hj)
      have hfun : (fun m => listed.getD m false = true ∨ m = i) = fun m => (listed.setIfInBounds i true).getD m false = true := by
        funext m
        exact propext (getD_set hlt').symm
      rcases Nat.lt_or_ge i e with hie | hie
      · refine seg_step G S hcall hbad hb hie (fun io hio => hnf i io hb hie hio) (by simp [hi1]) hready hcl h M fun a' w' ρ' s' h' M' => ?_
        rw [hfun] at M'
        refine ih b e _ ρ' s' a' w' (by simpa using hls) hop' hbe hen hnf hfe (fun k hk => (getD_set hlt').mpr (.inl (hlo k hk))) (fun k hk => ?_) hcl' h' M'
        cases hx : (listed.setIfInBounds i true).getD k false with
        | false => rfl
        | true =>
          rcases (getD_set hlt').mp hx with h1 | h1
          · rw [hhi k hk] at h1; cases h1
          · omega
      · obtain ⟨fio, hf1, hf2⟩ := hfe.resolve_left (by omega)
        have hei : e = i := by
          rcases Nat.lt_or_ge e i with h' | h'
          · have hor := G.full i e fio (by omega) hlt hf1 hf2
            have := hready e (hor.2 h')
            rw [hhi e (Nat.le_refl _)] at this; cases this
          · omega
        subst hei
        have hsim := end_mix S M h fun m h1 h2 => hready m ((G.full m e fio (by omega) (by omega) hf1 hf2).1 h2)
        obtain ⟨o', io, e1, e2, e3, e4⟩ := G.at_ e hlt
        rw [ho] at e1; cases e1
        obtain ⟨hopp, hdst⟩ := cOper_op e3
        have next : ∀ a' w' ρ', Sim w0 D0 ρ0 bad B ρ' (f (e + 1)) a' w' → wpAny P .any ops Q fuel (listed.setIfInBounds e true) a' w' := by
          intro a' w' ρ' h'
          obtain ⟨e', q1, q2, q3, q4⟩ := next_full ios ops.size _ (e + 1) rfl hlt
          have S' := G.stretch hcall q1 q2 q3
          have hoff : ∀ k, e + 1 ≤ k → (listed.setIfInBounds e true).getD k false = false := by
            intro k hk
            cases hx : (listed.setIfInBounds e true).getD k false with
            | false => rfl
            | true =>
              rcases (getD_set hlt').mp hx with h1 | h1
              · rw [hhi k (by omega)] at h1; cases h1
              · omega
          obtain ⟨s', h2, M'⟩ := start_mix S' h' (L := fun m => (listed.setIfInBounds e true).getD m false = true) (fun m h1 _ h3 => by rw [hoff m h1] at h3; cases h3)
          refine ih (e + 1) e' _ ρ' s' a' w' (by simpa using hls) hop' q1 q2 q3 q4 (fun k hk => (getD_set hlt').mpr ?_) (fun k hk => hoff k (by omega)) hcl' h2 M'
          by_cases hke : k = e
          · exact .inr hke
          · exact .inl (hready k ((G.full k e fio hke (by omega) hf1 hf2).1 (by omega)))
        unfold wpOp
        rw [ho]
        simp only
        rcases e4 with ⟨hw, v, H', hv, e5⟩ | ⟨hw, e5⟩
        · rw [want_spec e3 hsim hw, if_pos rfl]
          refine .inl (op_step hopp hcall.call hbad hsim hv fun a' w' ρ' h' => next _ _ ρ' ?_)
          rw [e5, hdst]; exact h'
        · rw [want_spec e3 hsim hw, if_neg (by simp)]
          refine next _ _ ρ ?_
          rw [e5, hdst]
          exact skip_sim o.dst hsim

theorem Sim.draw (h : Sim w0 D0 ρ0 bad B ρ s a w) : Sim w0 D0 ρ0 bad B ρ s a { w with drawn := w.drawn + 1 } := by
  have st : Step w { w with drawn := w.drawn + 1 } (dead s.H) (dead s.H) ρ ρ := ⟨⟨rfl, rfl, rfl, Nat.le_refl _, fun _ _ _ => rfl⟩, RLe.refl _ _, fun _ h => h, fun _ _ => .inl rfl⟩
  refine ⟨h.defers, h.size, fun t ht => (h.env t ht).step st, ⟨fun id b es cap hid => ?_, h.heap.virt, h.heap.inj⟩, h.low, h.st.trans st⟩
  obtain ⟨k, hk, hb⟩ := h.heap.real id b es cap hid
  exact ⟨k, hk, hb.step st rfl⟩
end

theorem draw_law (P : Program) : DrawLaw P := by
  intro call hcall ops ios id hc hd he hns hmo w w0 bad D0 ρ ρ0 a B s s' Q hbad h hr hq
  obtain ⟨f, h0, h1, G⟩ := glob_of hc hd hr
  have hsz : ios.length = ops.size := by simpa using (optAll_spec hc).1
  refine wp_region_any hmo ?_
  obtain ⟨e, q1, q2, q3, q4⟩ := next_full ios ops.size _ 0 rfl (Nat.zero_le _)
  have hoff : ∀ k, (Array.replicate ops.size false).getD k false = false := by
    intro k
    rcases Nat.lt_or_ge k ops.size with h | h
    · simp [h]
    · simp [Array.getElem?_eq_none (xs := Array.replicate ops.size false) (by simpa using h)]
  have S := G.stretch hcall q1 q2 q3
  obtain ⟨s1, h2, M⟩ := start_mix S (h0 ▸ h.draw) (L := fun m => (Array.replicate ops.size false).getD m false = true) (fun m _ _ h3 => by rw [hoff m] at h3; cases h3)
  refine drawn_main G hcall hbad he hsz (fun a w ρ hs => hq _ _ ρ (h1 ▸ hs)) ops.size 0 e _ ρ s1 a _ (by simp) ?_ q1 q2 q3 q4 (fun k hk => by omega) (fun k _ => hoff k) (fun m hm => by rw [hoff m] at hm; cases hm) h2 M
  unfold open_
  exact Nat.le_trans List.countP_le_length (by simp)

/-- THE LAW OF THE SMALL EVALUATOR. -/
theorem pcall_law {P : Program} {M : Mod} (hM : ModOK P M) (d : Nat) (g : FuncId) (args : List AV) (v : AV) (h : pcall M d g args = some v) : PureOK P g args v :=
  pcall_sound hM (draw_law P) d g args v h
end Go.Proofs.Ytjblhppbjebagaa.AE

namespace Go.Proofs.Ytjblhppbjebagaa.AE
set_option linter.unusedVariables false
set_option linter.unusedSimpArgs false
set_option linter.constructorNameAsVariable false
open Go

abbrev Ans := Option AV

def cnd (t : Bool) (a b : Ans) : Ans := match t with
  | true => a
  | false => b

/-- What is asked at a value that is not told. -/
inductive TV where
  | no
  | addr (v : AV)
  | all (l : List AV)
structure Cb where
  int : IntKind → Option AV → (Int → Ans) → Ans
  bool : Option AV → (Bool → Ans) → Ans
  str : Option AV → (List UInt8 → Ans) → Ans
  lst : Option AV → (List AV → Ans) → (Bool → Ans) → Ans
  agg : Nat → Option AV → (List AV → Ans) → Ans
  tup : Nat → Option AV → (List AV → Ans) → Ans
  any : Option AV → (AV → Ans) → Ans
  same : Option AV → AV → Ans → Ans
  sameH : Heap → Heap → Ans → Ans
  hop : Heap → IOp → (AV → Heap → Ans) → Ans
  snp : Heap → List AV → (List AV → Bool → Ans) → Ans
  disj : TV → TV → Ans → Ans
  fin : Heap → AV → Ans
  iter : (St → (Ex → St → Ans) → Ans) → Nat → St → List Nat → List (St → Ans) → (St → Ans) → Ans

/-- How a function is told: are its loops unrolled; is its memory not told (then what looks at memory is asked); shapes of what it puts where. -/
structure XU where
  un : Bool
  hm : Bool
  hs : List (Nat × Sh)
  jn : Bool

def hsGet : List (Nat × Sh) → Nat → Sh
  | [], _ => .any
  | (n, s) :: l, i => match Nat.beq n i with
    | true => s
    | false => hsGet l i
mutual
/-- A shape that says nothing of slices. -/
def relax : Sh → Sh
  | .i k => .i k
  | .b => .b
  | .s => .s
  | .agg l => .agg (relaxL l)
  | .tup l => .tup (relaxL l)
  | .l => .any
  | .any => .any
  | .lo => .any
  | .z => .any
def relaxL : List Sh → List Sh
  | [] => []
  | s :: l => relax s :: relaxL l
end
mutual
/-- Is what has it free of memory? -/
def shFree : Sh → Bool
  | .i _ => true
  | .b => true
  | .s => true
  | .agg l => shFreeL l
  | .tup l => shFreeL l
  | .l => false
  | .any => false
  | .lo => false
  | .z => false
def shFreeL : List Sh → Bool
  | [] => true
  | s :: l => match shFree s with
    | true => shFreeL l
    | false => false
end
def freeOps (hs : List (Nat × Sh)) : List Opd → Bool
  | [] => true
  | .v _ :: l => freeOps hs l
  | .t n :: l => match shFree (hsGet hs n) with
    | true => freeOps hs l
    | false => false

/-- Operations that look at memory, or at a place that isn't told. -/
def isH : IOp → Bool
  | .load .. | .store .. | .nilck _ | .box .. | .alloc _ | .mkrow .. | .mkslice .. | .s2b .. | .b2s _ | .subV .. | .fldA .. | .ixAS .. | .ixAA .. | .ixA .. | .app .. => true
  | .bk .lenV _ => true
  | .eqv _ k _ _ _ => Nat.beq k 1 || (Nat.beq k 2 || Nat.beq k 3)
  | _ => false
/-- An operation whose operands are values. -/
def close (ev : Opd → AV) : IOp → IOp
  | .load ag n a => .load ag n (.v (ev a))
  | .store n a x => .store n (.v (ev a)) (.v (ev x))
  | .nilck x => .nilck (.v (ev x))
  | .box e x => .box e (.v (ev x))
  | .alloc e => .alloc e
  | .mkrow e n ps => .mkrow e n (ps.map fun p => (p.1, .v (ev p.2)))
  | .mkslice e n c => .mkslice e (.v (ev n)) (.v (ev c))
  | .s2b e x => .s2b e (.v (ev x))
  | .b2s x => .b2s (.v (ev x))
  | .subV es x lo hi mx => .subV es (.v (ev x)) (lo.map fun y => .v (ev y)) (hi.map fun y => .v (ev y)) (mx.map fun y => .v (ev y))
  | .fldA off x => .fldA off (.v (ev x))
  | .ixAS _ es x i => .ixAS .any es (.v (ev x)) (.v (ev i))
  | .ixAA len es x i => .ixAA len es (.v (ev x)) (.v (ev i))
  | .ixA ag len es x i => .ixA ag len es (.v (ev x)) (.v (ev i))
  | .app e s x => .app e (.v (ev s)) (.v (ev x))
  | .bk b args => .bk b (args.map fun y => .v (ev y))
  | .eqv neg k sh x y => .eqv neg k sh (.v (ev x)) (.v (ev y))
  | io => io
def noCall : CallF := fun _ _ _ => none
theorem close_ok {call : CallF} {ev : Opd → AV} {H : Heap} {io : IOp} (h : isH io = true) : aop call ev H io = aop noCall (evO []) H (close ev io) := by
  cases io <;> first | (cases h; done) | skip
  case bk b args =>
    cases b <;> first | (cases h; done) | skip
    cases args with
    | nil => rfl
    | cons x l => cases l <;> rfl
  case mkrow e n ps => simp only [close, aop, List.map_map]; rfl
  case subV es x lo hi mx => cases lo <;> cases hi <;> cases mx <;> rfl
  all_goals rfl

def xiter (g : St → (Ex → St → Ans) → Ans) : Nat → St → (Ex → St → Ans) → Ans
  | 0, _, _ => none
  | n + 1, s, K => g s fun e s' => match e with
    | .normal => xiter g n s' K
    | .exit i => K (.exit i) s'
    | .ret => K .ret s'

def xgo (i : Nat) : List Nat → List (St → Ans) → St → Ans
  | id :: ids, k :: ks, s => if i = id then k s else xgo i ids ks s
  | _, _, _ => none

def isInt (k : IntKind) : Option AV → Option Int
  | some (.int k' n) => if k' = k then some n else none
  | _ => none
def isBool : Option AV → Option Bool
  | some (.bool b) => some b
  | _ => none
def isStr : Option AV → Option (List UInt8)
  | some (.str b) => some b
  | _ => none
def isAgg (n : Nat) : Option AV → Option (List AV)
  | some (.agg l) => if l.length = n then some l else none
  | _ => none
def isTup (n : Nat) : Option AV → Option (List AV)
  | some (.tup l) => if l.length = n then some l else none
  | _ => none

/-- The own memory that a value names. -/
def idsOf : AV → List Nat
  | .ptr id _ _ => [id]
  | .slc id _ _ => [id]
  | _ => []
/-- Do they look at no memory both? -/
def disjB : TV → TV → Bool
  | .addr v, .addr w => (idsOf v).all fun i => !(idsOf w).contains i
  | .all l, .addr _ => l.all (noId DEPTH)
  | .addr _, .all l => l.all (noId DEPTH)
  | .all l, .all _ => l.all (noId DEPTH)
  | .no, _ => true
  | _, .no => true
/-- What they are. -/
noncomputable def C0 : Cb where
  disj a b K := match disjB a b with
    | true => K
    | false => none
  fin H v := some (snap DEPTH H v)
  hop H io K := match aop noCall (evO []) H io with
    | some (v, H') => K v H'
    | none => none
  snp H args K := match args.all (noId DEPTH) with
    | true => K args true
    | false => K (args.map (snap DEPTH H)) false
  int k o K := (isInt k o).bind K
  bool o K := (isBool o).bind K
  str o K := (isStr o).bind K
  lst o K Z := match o with
    | some (.lst l) => K l
    | some (.zsl b) => Z b
    | _ => none
  agg n o K := (isAgg n o).bind K
  tup n o K := (isTup n o).bind K
  any o K := o.bind K
  same o v K := @ite _ (o = some v) (Classical.propDecidable _) K none
  sameH a b K := @ite _ (a = b) (Classical.propDecidable _) K none
  iter g n s ids ks kr := xiter g n s fun e s' => match e with
    | .ret => kr s'
    | .exit i => xgo i ids ks s'
    | .normal => none

section
variable (C : Cb)

mutual
/-- A value of a shape: taken apart. -/
def destr : Sh → Option AV → (AV → Ans) → Ans
  | .i k, o, K => C.int k o fun n => K (.int k n)
  | .b, o, K => C.bool o fun b => K (.bool b)
  | .s, o, K => C.str o fun b => K (.str b)
  | .l, o, K => C.lst o (fun l => K (.lst l)) (fun b => K (.zsl b))
  | .agg l, o, K => C.agg l.length o fun cs => destrL l cs 0 fun vs => K (.agg vs)
  | .tup l, o, K => C.tup l.length o fun cs => destrL l cs 0 fun vs => K (.tup vs)
  | .any, o, K => C.any o K
  | .lo, o, K => C.lst o (fun l => K (.lst l)) (fun _ => none)
  | .z, o, K => C.lst o (fun _ => none) (fun b => K (.zsl b))
def destrL : List Sh → List AV → Nat → (List AV → Ans) → Ans
  | [], _, _, K => K []
  | s :: l, cs, i, K => destr s cs[i]? fun v => destrL l cs (i + 1) fun vs => K (v :: vs)
end

abbrev PC := FuncId → List AV → Option AV

/-- A call with what it gets alone. -/
def xpure (pc : PC) (sn : Bool) (sh : Sh) (g : FuncId) (args : List AV) (H : Heap) (K : AV → Heap → Ans) : Ans :=
  match sn with
  | true => C.snp H args fun as_ fr => destr C sh (pc g as_) fun v => cnd (fr || noMem DEPTH v) (K v H) none
  | false => match args.all (noId DEPTH) with
    | true => destr C sh (pc g args) fun v => K v H
    | false => destr C sh (pc g (args.map (snap DEPTH H))) fun v => cnd (noMem DEPTH v) (K v H) none

def xext (sh : Sh) (e : List AV → Option AV) (args : List AV) (H : Heap) (K : AV → Heap → Ans) : Ans := destr C sh (e args) fun v => K v H

abbrev XCall := Bool → Sh → FuncId → List AV → Heap → (AV → Heap → Ans) → Ans

def xcallP (M : Mod) (pc : PC) : XCall := fun sn sh g args H K =>
  match M.ext g with
  | some e => xext C sh e args H K
  | none => match M.inl g with
    | true => none
    | false => xpure C pc sn sh g args H K

/-- A place in a list by a number that may not be told. -/
def xat (sh : Sh) (l : List AV) (q : Int) (K : AV → Ans) : Ans :=
  cnd (decide (0 ≤ q)) (destr C sh l[q.toNat]? K) none

def xpick (c : AV) (x y : AV) (K : AV → Ans) : Ans := match c with
  | .bool t => match x, y with
    | .int k n, .int k' n' => match decide (k = k') with
      | true => K (.int k (bif t then n else n'))
      | false => cnd t (K (.int k n)) (K (.int k' n'))
    | .bool n, .bool n' => K (.bool (bif t then n else n'))
    | x, y => cnd t (K x) (K y)
  | _ => none

def xbin (op : BinOp) (x y : AV) (K : AV → Ans) : Ans := match x, y with
  | .int k a, .int k' b => match op with
    | .shl => cnd (decide (b < 0)) none (K (.int k (k.wrap (a * 2 ^ min b.toNat k.bits))))
    | .shr => cnd (decide (b < 0)) none (K (.int k (a.fdiv (2 ^ min b.toNat k.bits))))
    | .quo => match decide (k = k') with
      | true => cnd (decide (b = 0)) none (K (.int k (k.wrap (a.tdiv b))))
      | false => none
    | .rem => match decide (k = k') with
      | true => cnd (decide (b = 0)) none (K (.int k (a.tmod b)))
      | false => none
    | op => match aBin op (.int k a) (.int k' b) with
      | some v => K v
      | none => none
  | x, y => match op with
    | .add => match x, y with
      | .str a, .str b => cnd (decide ((a.length + b.length) ≤ 9223372036854775807)) (K (.str (a ++ b))) none
      | _, _ => none
    | op => match aBin op x y with
      | some v => K v
      | none => none

def xbound (x : Option AV) (d top : Nat) (K : Nat → Ans) : Ans := match x with
  | none => K d
  | some v => match aInt v with
    | some i => cnd (decide (0 ≤ i ∧ i ≤ (top : Int))) (K i.toNat) none
    | none => none

/-- One operation, of what is told. -/
def xop0 (u : XU) (call : XCall) (ev : Opd → AV) (H : Heap) (io : IOp) (K : AV → Heap → Ans) : Ans := match io with
  | .pick c a b => xpick (ev c) (ev a) (ev b) fun v => K v H
  | .bin op x y => xbin op (ev x) (ev y) fun v => K v H
  | .eqv neg 0 sh x y => match eqV 0 sh (ev x) (ev y) with
    | some b => K (.bool (xor neg b)) H
    | none => none
  | .eqv neg 4 sh x y => match eqV 4 sh (ev x) (ev y) with
    | some b => K (.bool (xor neg b)) H
    | none => none
  | .eqv neg 2 sh x y => match ev x, ev y with
    | .lst l, .zsl true => cnd l.isEmpty none (K (.bool (xor neg false)) H)
    | x, y => match eqV 2 sh x y with
      | some b => K (.bool (xor neg b)) H
      | none => none
  | .call sh f args => match ev f with
    | .fn g a b => match u.hm with
      | true => call (!freeOps u.hs args) (relax sh) g (a ++ args.map ev ++ b) H K
      | false => call false sh g (a ++ args.map ev ++ b) H K
    | _ => none
  | .subS x lo hi => match ev x with
    | .str s => xbound (hi.map ev) s.length s.length fun h => xbound (lo.map ev) 0 h fun l => K (.str ((s.take h).drop l)) H
    | _ => none
  | .ixS x i => match ev x, aInt (ev i) with
    | .str s, some q => cnd (decide (0 ≤ q)) (C.int .u8 ((s[q.toNat]?).map fun b => .int .u8 b.toNat) fun n => K (.int .u8 n) H) none
    | _, _ => none
  | .ixAS sh es x i => match aInt (ev i) with
    | some q => match ev x with
      | .lst l => xat C sh l q fun v => match decide (v.cells.length = es) with
        | true => K (.fptr v 0) H
        | false => none
      | .slc id o n => match hget H id with
        | some b => match decide (b.e.es = es) with
          | true => cnd (decide (0 ≤ q ∧ q < (n : Int))) (K (.ptr id (o + q.toNat) 0) H) none
          | false => none
        | none => none
      | _ => none
    | none => none
  | io => match aop (fun _ _ _ => none) ev H io with
    | some (v, H') => K v H'
    | none => none

def xop (u : XU) (sh : Sh) (call : XCall) (ev : Opd → AV) (H : Heap) (io : IOp) (K : AV → Heap → Ans) : Ans := match u.hm with
  | true => match isH io with
    | true => C.hop H (close ev io) fun v H' => match sh with
      | .any => K v H'
      | sh => destr C sh (some v) fun v' => K v' H'
    | false => xop0 C u call ev H io K
  | false => xop0 C u call ev H io K

def dhs (u : XU) : Option Nat → Sh
  | some d => hsGet u.hs d
  | none => .any

def xwant (env : List AV) (g : Option (Option Nat × Bool)) (A B : List AV → Ans) : Ans := match g with
  | none => A env
  | some (some t, b) => match env.getD t .undef with
    | .bool c => match b with
      | true => cnd c (A (env.set t (.bool true))) (B (env.set t (.bool false)))
      | false => cnd c (B (env.set t (.bool true))) (A (env.set t (.bool false)))
    | .tup [] => B env
    | _ => none
  | some (none, _) => B env

def xrunOps (u : XU) (call : XCall) : List IOper → St → (St → Ans) → Ans
  | [], s, K => K s
  | o :: l, s, K => xwant s.env o.guard (fun env => xop C u (dhs u o.dst) call (evO env) s.H o.op fun v H => xrunOps u call l ⟨put env o.dst v, H⟩ K) (fun env => xrunOps u call l ⟨put env o.dst (.tup []), s.H⟩ K)

/-- What an operation looks at. -/
def tvOf (ev : Opd → AV) : IOp → TV
  | .load _ _ a => .addr (ev a)
  | .store _ a _ => .addr (ev a)
  | .b2s x => .addr (ev x)
  | .call _ f args => match ev f with
    | .fn _ p q => .all (p ++ args.map ev ++ q)
    | _ => .all []
  | _ => .no
def xdisj (chk : List Nat) (t : TV) : List (Nat × TV) → Ans → Ans
  | [], K => K
  | (i, s) :: l, K => match chk.contains i with
    | true => match s, t with
      | .no, _ => xdisj chk t l K
      | _, .no => xdisj chk t l K
      | s, t => C.disj s t (xdisj chk t l K)
    | false => xdisj chk t l K
/-- Operations in any order, where memory isn't told. -/
def xrunOpsH (u : XU) (call : XCall) : List (IOper × List Nat) → Nat → List (Nat × TV) → St → (St → Ans) → Ans
  | [], _, _, s, K => K s
  | (o, chk) :: l, i, log, s, K => xwant s.env o.guard
      (fun env => xdisj C chk (tvOf (evO env) o.op) log (xop C u (dhs u o.dst) call (evO env) s.H o.op fun v H => xrunOpsH u call l (i + 1) ((i, tvOf (evO env) o.op) :: log) ⟨put env o.dst v, H⟩ K))
      (fun env => xrunOpsH u call l (i + 1) log ⟨put env o.dst (.tup []), s.H⟩ K)

def xrunOpsD (u : XU) (call : XCall) : List (IOper × List Nat) → Nat → List (Nat × Nat) → St → (St → Ans) → Ans
  | [], _, _, s, K => K s
  | (o, chk) :: l, i, log, s, K => xwant s.env o.guard
      (fun env => match chk.isEmpty || log.all (fun p => !(chk.contains p.1) || !((touch (evO env) s.H o.op).contains p.2)) with
        | true => xop C u (dhs u o.dst) call (evO env) s.H o.op fun v H => xrunOpsD u call l (i + 1) (log ++ (touch (evO env) s.H o.op).map fun id => (i, id)) ⟨put env o.dst v, H⟩ K
        | false => none)
      (fun env => xrunOpsD u call l (i + 1) log ⟨put env o.dst (.tup []), s.H⟩ K)

/-- A value's shape: what may be told of it in another round, too. -/
def shOf : Nat → AV → Sh
  | 0, _ => .any
  | d + 1, v => match v with
    | .int k _ => .i k
    | .bool _ => .b
    | .str _ => .s
    | .lst _ => .lo
    | .zsl _ => .z
    | .agg cs => .agg (cs.map (shOf d))
    | _ => .any

/-- What code puts somewhere. -/
def dstsOf : IC → List Nat
  | .reg l => l.filterMap (·.dst)
  | .regD l => l.filterMap (·.1.dst)
  | .seq a b => dstsOf a ++ dstsOf b
  | .cond _ a b => dstsOf a ++ dstsOf b
  | .block _ a => dstsOf a
  | .loop a => dstsOf a
  | _ => []

def noMake : IOp → Bool
  | .store .. | .box .. | .alloc .. | .mkrow .. | .s2b .. | .mkslice .. | .app .. => false
  | _ => true
/-- Does it leave own memory as_ it is? -/
def noMakes : IC → Bool
  | .reg l => l.all fun o => noMake o.op
  | .regD l => l.all fun o => noMake o.1.op
  | .seq a b => noMakes a && noMakes b
  | .cond _ a b => noMakes a && noMakes b
  | .block _ a => noMakes a
  | .loop a => noMakes a
  | _ => true

def meetL (a b : List Nat) : List Nat := a.filter fun x => b.contains x
def joinO : Option (List Nat) → Option (List Nat) → Option (List Nat)
  | none, b => b
  | a, none => a
  | some a, some b => some (meetL a b)
def daOp (da : List Nat) (o : IOper) : List Nat := match o.guard, o.dst with
  | none, some d => d :: da
  | _, _ => da
def exAt (id : Nat) : List (Nat × List Nat) → Option (List Nat)
  | [] => none
  | (i, s) :: l => match Nat.beq i id with
    | true => joinO (some s) (exAt id l)
    | false => exAt id l
def RETID : Nat := 1000000
/-- What is put for sure: where code ends, and at each of its exits. -/
def daA : IC → List Nat → Option (List Nat) × List (Nat × List Nat)
  | .skip, s => (some s, [])
  | .reg l, s => (some (l.foldl daOp s), [])
  | .regD l, s => (some (l.foldl (fun s o => daOp s o.1) s), [])
  | .seq a b, s => match daA a s with
    | (none, e) => (none, e)
    | (some s', e) => match daA b s' with
      | (n, e2) => (n, e ++ e2)
  | .cond _ a b, s => match daA a s, daA b s with
    | (n, e), (n2, e2) => (joinO n n2, e ++ e2)
  | .block id a, s => match daA a s with
    | (n, e) => (joinO n (exAt id e), e.filter fun p => !(Nat.beq p.1 id))
  | .loop a, s => match daA a s with
    | (_, e) => (none, e)
  | .exit id, s => (none, [(id, s)])
  | .ret, s => (none, [(RETID, s)])
def daN (a : IC) (s : List Nat) : List Nat := match (daA a s).1 with
  | some s => s
  | none => []
def daX (a : IC) (s : List Nat) (i : Nat) : List Nat := match exAt i (daA a s).2 with
  | some s => s
  | none => []

/-- What is not put anew stays; the rest is taken apart as_ it was ahead ('da': what was put ahead), or as_ it is told to be ('db': what is put behind). -/
def destrV (u : XU) (ds da db : List Nat) : List AV → List AV → Nat → (List AV → Ans) → Ans
  | [], _, _, K => K []
  | v :: l, cs, i, K => match ds.contains i with
    | true => destr C (match da.contains i with
        | true => match u.hm with
          | true => hsGet u.hs i
          | false => shOf 3 v
        | false => match db.contains i with
          | true => relax (hsGet u.hs i)
          | false => .any) cs[i]? fun w => destrV u ds da db l cs (i + 1) fun us => K (w :: us)
    | false => C.same cs[i]? v (destrV u ds da db l cs (i + 1) fun us => K (v :: us))

def destrE (u : XU) (da db : List Nat) (a : IC) (s0 s : St) (K : St → Ans) : Ans := cnd (s.env.length == s0.env.length) (destrV C u (dstsOf a) da db s0.env s.env 0 fun env => match noMakes a with
  | true => match u.hm with
    | true => K ⟨env, s.H⟩
    | false => C.sameH s.H s0.H (K ⟨env, s0.H⟩)
  | false => K ⟨env, s.H⟩) none

/-- Where a loop may leave to. -/
def exitsOf : IC → List Nat
  | .seq a b => exitsOf a ++ exitsOf b
  | .cond _ a b => exitsOf a ++ exitsOf b
  | .block id a => (exitsOf a).filter (· != id)
  | .loop a => exitsOf a
  | .exit id => [id]
  | _ => []

/-- How often does code end (two: often)? -/
def exN (id : Nat) : IC → Nat
  | .seq a b => exN id a + exN id b
  | .cond _ a b => exN id a + exN id b
  | .block i a => match Nat.beq i id with
    | true => 0
    | false => exN id a
  | .loop a => min 1 (exN id a)
  | .exit i => match Nat.beq i id with
    | true => 1
    | false => 0
  | _ => 0
def endN : IC → Nat
  | .skip => 1
  | .reg l => match l.all (fun o => o.guard.isNone) with
    | true => 1
    | false => 2
  | .regD l => match l.all (fun o => o.1.guard.isNone) with
    | true => 1
    | false => 2
  | .seq a b => match endN a with
    | 0 => 0
    | _ => endN b
  | .cond _ a b => endN a + endN b
  | .block id a => endN a + exN id a
  | _ => 0
/-- Is what comes behind told once, for all its ends? -/
def joins (u : XU) (a : IC) : Bool := u.jn && (Nat.ble 2 (endN a) && (u.hm || noMakes a))
def JID : Nat := 2000000

def xexec (u : XU) (call callP : XCall) (fu : Nat) : IC → List Nat → St → (Ex → St → Ans) → Ans
  | .skip, _, s, K => K .normal s
  | .regD ops, _, s, K => match u.hm with
    | true => xrunOpsH C u callP ops 0 [] s fun s' => K .normal s'
    | false => xrunOpsD C u callP ops 0 [] s fun s' => K .normal s'
  | .reg ops, _, s, K => xrunOps C u call ops s fun s' => K .normal s'
  | .seq a b, da, s, K => match joins u a with
    | false => xexec u call callP fu a da s fun e s' => match e with
      | .normal => xexec u call callP fu b (daN a da) s' K
      | .exit i => K (.exit i) s'
      | .ret => K .ret s'
    | true => C.iter (fun s1 Kn => destrE C u da [] a s s1 fun s2 => xexec u call callP fu a da s2 fun e s' => match e with
      | .normal => Kn (.exit JID) s'
      | .exit i => match decide (i = JID) with
        | true => none
        | false => Kn (.exit i) s'
      | .ret => Kn .ret s') 1 s (JID :: (exitsOf a).eraseDups) ((fun s1 => destrE C u da (daN a da) a s s1 fun s2 => xexec u call callP fu b (daN a da) s2 K) :: (exitsOf a).eraseDups.map fun i s1 => destrE C u da (daX a da i) a s s1 fun s2 => K (.exit i) s2) fun s1 => destrE C u da (daX a da RETID) a s s1 fun s2 => K .ret s2
  | .cond (.t n) a b, da, s, K => match s.env.getD n .undef with
    | .bool t => cnd t (xexec u call callP fu a da ⟨s.env.set n (.bool true), s.H⟩ K) (xexec u call callP fu b da ⟨s.env.set n (.bool false), s.H⟩ K)
    | _ => none
  | .cond (.v c) a b, da, s, K => match c with
    | .bool t => cnd t (xexec u call callP fu a da s K) (xexec u call callP fu b da s K)
    | _ => none
  | .block id a, da, s, K => xexec u call callP fu a da s fun e s' => match e with
    | .normal => K .normal s'
    | .exit i => match decide (i = id) with
      | true => K .normal s'
      | false => K (.exit i) s'
    | .ret => K .ret s'
  | .loop a, da, s, K => match u.un with
    | true => xiter (fun s1 Kn => xexec u call callP fu a da s1 Kn) fu s K
    | false => C.iter (fun s1 Kn => destrE C u da [] a s s1 fun s2 => xexec u call callP fu a da s2 Kn) fu s (exitsOf a).eraseDups ((exitsOf a).eraseDups.map fun i s1 => destrE C u da (daX a da i) a s s1 fun s2 => K (.exit i) s2) fun s1 => destrE C u da (daX a da RETID) a s s1 fun s2 => K .ret s2
  | .exit id, _, s, K => K (.exit id) s
  | .ret, _, s, K => K .ret s

/-- Results, where memory isn't told. -/
def xresAll (s : St) : List RV → (List AV → Ans) → Ans
  | [], K => K []
  | .tmp t :: l, K => xresAll s l fun vs => K (s.env.getD t .undef :: vs)
  | .cell ag n t :: l, K => C.hop s.H (.load ag n (.v (s.env.getD t .undef))) fun v _ => xresAll s l fun vs => K (v :: vs)

def xrunFn (u : XU) (call callP : XCall) (fu : Nat) (fn : AFn) (args : List AV) (H : Heap) (K : AV → Heap → Ans) : Ans :=
  xexec C u call callP fu fn.body (List.range args.length) ⟨args ++ List.replicate (fn.ntmps - args.length) (.tup []), H⟩ fun e s => match e with
    | .exit _ => none
    | _ => match u.hm with
      | true => xresAll C s fn.results fun vs => K (packRes vs) s.H
      | false => match resAll s fn.results with
        | some vs => K (packRes vs) s.H
        | none => none

def xcallI (M : Mod) (U : FuncId → XU) (pc : PC) : Nat → XCall
  | 0 => xcallP C M pc
  | n + 1 => fun sn sh g args H K =>
    match M.ext g with
    | some e => xext C sh e args H K
    | none => match M.inl g with
      | true => match M.code g with
        | some fn => xrunFn C (U g) (xcallI M U pc n) (xcallP C M pc) M.fu fn args H K
        | none => none
      | false => xpure C pc sn sh g args H K

/-- A call of a function, told forwards. -/
def xcall (M : Mod) (U : FuncId → XU) (d : Nat) (g : FuncId) (args : List AV) : Ans := match M.code g with
  | none => none
  | some fn => xrunFn C (U g) (xcallI C M U (pcall M d) IDEPTH) (xcallP C M (pcall M d)) M.fu fn args [] fun v H' => match (U g).hm with
    | true => C.fin H' v
    | false => some (snap DEPTH H' v)
end

/-! ### It says what the other one says -/
section
mutual
theorem destr_sound : ∀ (sh : Sh) (o : Option AV) (K : AV → Ans) (r : AV), destr C0 sh o K = some r → ∃ v, o = some v ∧ K v = some r
  | .i k, o, K, r, h => by
    simp only [destr, C0] at h
    obtain ⟨n, h1, h2⟩ := Option.bind_eq_some_iff.mp h
    unfold isInt at h1
    split at h1 <;> (try (cases h1; done))
    split at h1 <;> (try (cases h1; done))
    rename_i k' n' hk
    cases h1; subst hk
    exact ⟨_, rfl, h2⟩
  | .b, o, K, r, h => by
    simp only [destr, C0] at h
    obtain ⟨n, h1, h2⟩ := Option.bind_eq_some_iff.mp h
    unfold isBool at h1
    split at h1 <;> (try (cases h1; done))
    cases h1
    exact ⟨_, rfl, h2⟩
  | .s, o, K, r, h => by
    simp only [destr, C0] at h
    obtain ⟨n, h1, h2⟩ := Option.bind_eq_some_iff.mp h
    unfold isStr at h1
    split at h1 <;> (try (cases h1; done))
    cases h1
    exact ⟨_, rfl, h2⟩
  | .l, o, K, r, h => by
    simp only [destr, C0] at h
    split at h <;> (try (cases h; done))
    · exact ⟨_, rfl, h⟩
    · exact ⟨_, rfl, h⟩
  | .agg l, o, K, r, h => by
    simp only [destr, C0] at h
    obtain ⟨cs, h1, h2⟩ := Option.bind_eq_some_iff.mp h
    unfold isAgg at h1
    split at h1 <;> (try (cases h1; done))
    split at h1 <;> (try (cases h1; done))
    rename_i hl
    cases h1
    obtain ⟨vs, q1, q2, q3⟩ := destrL_sound l cs 0 _ r h2
    have : vs = cs := by
      apply List.ext_getElem?
      intro i
      rcases Nat.lt_or_ge i l.length with hlt | hge
      · have := q2 i hlt; simpa using this.symm
      · rw [List.getElem?_eq_none (by omega), List.getElem?_eq_none (by omega)]
    subst this
    exact ⟨_, rfl, q3⟩
  | .tup l, o, K, r, h => by
    simp only [destr, C0] at h
    obtain ⟨cs, h1, h2⟩ := Option.bind_eq_some_iff.mp h
    unfold isTup at h1
    split at h1 <;> (try (cases h1; done))
    split at h1 <;> (try (cases h1; done))
    rename_i hl
    cases h1
    obtain ⟨vs, q1, q2, q3⟩ := destrL_sound l cs 0 _ r h2
    have : vs = cs := by
      apply List.ext_getElem?
      intro i
      rcases Nat.lt_or_ge i l.length with hlt | hge
      · have := q2 i hlt; simpa using this.symm
      · rw [List.getElem?_eq_none (by omega), List.getElem?_eq_none (by omega)]
    subst this
    exact ⟨_, rfl, q3⟩
  | .any, o, K, r, h => by
    simp only [destr, C0] at h
    exact Option.bind_eq_some_iff.mp h
  | .lo, o, K, r, h => by
    simp only [destr, C0] at h
    split at h <;> (try (cases h; done))
    exact ⟨_, rfl, h⟩
  | .z, o, K, r, h => by
    simp only [destr, C0] at h
    split at h <;> (try (cases h; done))
    exact ⟨_, rfl, h⟩
theorem destrL_sound : ∀ (l : List Sh) (cs : List AV) (i : Nat) (K : List AV → Ans) (r : AV), destrL C0 l cs i K = some r → ∃ vs, vs.length = l.length ∧ (∀ j, j < l.length → cs[i + j]? = vs[j]?) ∧ K vs = some r
  | [], cs, i, K, r, h => ⟨[], rfl, by simp, h⟩
  | s :: l, cs, i, K, r, h => by
    simp only [destrL] at h
    obtain ⟨v, h1, h2⟩ := destr_sound s _ _ r h
    obtain ⟨vs, q1, q2, q3⟩ := destrL_sound l cs (i + 1) _ r h2
    refine ⟨v :: vs, by simp [q1], fun j hj => ?_, q3⟩
    cases j with
    | zero => simpa using h1
    | succ j =>
      have := q2 j (by simpa using hj)
      simpa [show i + 1 + j = i + (j + 1) by omega] using this
end

theorem cnd_some {t : Bool} {a b : Ans} {r : AV} (h : cnd t a b = some r) : (t = true ∧ a = some r) ∨ (t = false ∧ b = some r) := by
  cases t <;> simp [cnd] at h <;> simp [h]

theorem destrV_sound (U0 : XU) (ds da db : List Nat) : ∀ (l cs : List AV) (i : Nat) (K : List AV → Ans) (r : AV), destrV C0 U0 ds da db l cs i K = some r → ∃ vs, vs.length = l.length ∧ (∀ j, j < l.length → cs[i + j]? = vs[j]?) ∧ K vs = some r
  | [], cs, i, K, r, h => ⟨[], rfl, by simp, h⟩
  | v :: l, cs, i, K, r, h => by
    simp only [destrV] at h
    have fin : ∀ u, cs[i]? = some u → destrV C0 U0 ds da db l cs (i + 1) (fun us => K (u :: us)) = some r → ∃ vs, vs.length = (v :: l).length ∧ (∀ j, j < (v :: l).length → cs[i + j]? = vs[j]?) ∧ K vs = some r := by
      intro u h1 h2
      obtain ⟨vs, q1, q2, q3⟩ := destrV_sound U0 ds da db l cs (i + 1) _ r h2
      refine ⟨u :: vs, by simp [q1], fun j hj => ?_, q3⟩
      cases j with
      | zero => simpa using h1
      | succ j =>
        have := q2 j (by simpa using hj)
        simpa [show i + 1 + j = i + (j + 1) by omega] using this
    split at h
    · obtain ⟨u, h1, h2⟩ := destr_sound _ _ _ r h
      exact fin u h1 h2
    · simp only [C0] at h
      split at h
      · rename_i he; exact fin v he h
      · cases h

theorem destrE_sound {u : XU} {da db : List Nat} {a : IC} {s0 s : St} {K : St → Ans} {r : AV} (h : destrE C0 u da db a s0 s K = some r) : K s = some r := by
  unfold destrE at h
  rcases cnd_some h with ⟨hl, h⟩ | ⟨_, h⟩
  · obtain ⟨vs, q1, q2, q3⟩ := destrV_sound _ _ _ _ _ _ _ _ _ h
    have hl : s.env.length = s0.env.length := by simpa using hl
    have : vs = s.env := by
      apply List.ext_getElem?
      intro i
      rcases Nat.lt_or_ge i s0.env.length with hlt | hge
      · have := q2 i hlt; simpa using this.symm
      · rw [List.getElem?_eq_none (by omega), List.getElem?_eq_none (by omega)]
    subst this
    split at q3
    · split at q3
      · exact q3
      · simp only [C0] at q3
        split at q3
        · rename_i he; rw [← he] at q3; exact q3
        · cases q3
    · exact q3
  · cases h

theorem xgo_ok {i : Nat} {s : St} {r : AV} {f : Nat → St → Ans} : ∀ ids : List Nat, xgo i ids (ids.map f) s = some r → f i s = some r
  | [], h => by cases h
  | id :: ids, h => by
    simp only [List.map_cons, xgo] at h
    split at h
    · rename_i he; rw [he]; exact h
    · exact xgo_ok ids h

/-- Calls told forwards. -/
def XOK (x : XCall) (call : CallF) : Prop := ∀ sn sh g args H K r, x sn sh g args H K = some r → ∃ v H', call g args H = some (v, H') ∧ K v H' = some r

theorem xpure_ok (pc : PC) : XOK (xpure C0 pc) (pureCall pc) := by
  intro sn sh g args H K r h
  unfold xpure at h
  unfold pureCall
  cases sn with
  | true =>
    simp only [C0] at h
    cases ha : args.all (noId DEPTH) <;> simp only [ha] at h
    · obtain ⟨v, h1, h2⟩ := destr_sound _ _ _ _ h
      rcases cnd_some h2 with ⟨h3, h2⟩ | ⟨_, h2⟩
      · simp only [Bool.false_or] at h3
        exact ⟨v, H, by simp [h1, h3], h2⟩
      · cases h2
    · obtain ⟨v, h1, h2⟩ := destr_sound _ _ _ _ h
      rcases cnd_some h2 with ⟨h3, h2⟩ | ⟨h3, h2⟩
      · exact ⟨v, H, by simp [h1], h2⟩
      · cases h2
  | false =>
    cases ha : args.all (noId DEPTH) <;> simp only [ha] at h
    · obtain ⟨v, h1, h2⟩ := destr_sound _ _ _ _ h
      rcases cnd_some h2 with ⟨h3, h2⟩ | ⟨_, h2⟩
      · exact ⟨v, H, by simp [h1, h3], h2⟩
      · cases h2
    · obtain ⟨v, h1, h2⟩ := destr_sound _ _ _ _ h
      exact ⟨v, H, by simp [h1], h2⟩

theorem xcallP_ok (M : Mod) (pc : PC) : XOK (xcallP C0 M pc) (callP M pc) := by
  intro sn sh g args H K r h
  unfold xcallP at h
  unfold callP
  cases he : M.ext g with
  | some e =>
    simp only [he, xext] at h
    obtain ⟨v, h1, h2⟩ := destr_sound _ _ _ _ h
    exact ⟨v, H, by simp [extCall, h1], h2⟩
  | none =>
    simp only [he] at h
    cases hi : M.inl g <;> simp only [hi] at h
    · obtain ⟨v, H', h1, h2⟩ := xpure_ok pc _ _ _ _ _ _ _ h
      exact ⟨v, H', by simp [h1], h2⟩
    · cases h

theorem xbound_ok {x : Option AV} {d top : Nat} {K : Nat → Ans} {r : AV} (h : xbound x d top K = some r) : ∃ n, bound x d top = some n ∧ K n = some r := by
  unfold xbound at h
  split at h
  · exact ⟨_, rfl, h⟩
  · split at h <;> (try (cases h; done))
    rename_i v i hi
    rcases cnd_some h with ⟨h0, h⟩ | ⟨_, h⟩
    · have h0 := of_decide_eq_true h0
      exact ⟨_, by simp only [bound, hi]; rw [if_pos h0], h⟩
    · cases h

theorem xpick_ok {c x y : AV} {K : AV → Ans} {r : AV} (h : xpick c x y K = some r) : ∃ t, c = .bool t ∧ K (bif t then x else y) = some r := by
  unfold xpick at h
  split at h <;> (try (cases h; done))
  rename_i t
  refine ⟨t, rfl, ?_⟩
  split at h
  · split at h
    · rename_i hk
      have hk := of_decide_eq_true hk
      subst hk
      cases t <;> exact h
    · rcases cnd_some h with ⟨rfl, h⟩ | ⟨rfl, h⟩ <;> exact h
  · cases t <;> exact h
  · rcases cnd_some h with ⟨rfl, h⟩ | ⟨rfl, h⟩ <;> exact h

theorem xbin_ok {op : BinOp} {x y : AV} {K : AV → Ans} {r : AV} (h : xbin op x y K = some r) : ∃ v, aBin op x y = some v ∧ K v = some r := by
  unfold xbin at h
  split at h
  · rename_i k a k' b
    split at h
    · rcases cnd_some h with ⟨_, h⟩ | ⟨hb, h⟩
      · cases h
      · have hb := of_decide_eq_false hb
        exact ⟨_, by simp [aBin, hb], h⟩
    · rcases cnd_some h with ⟨_, h⟩ | ⟨hb, h⟩
      · cases h
      · have hb := of_decide_eq_false hb
        exact ⟨_, by simp [aBin, hb], h⟩
    · split at h
      · rename_i hk
        have hk := of_decide_eq_true hk
        rcases cnd_some h with ⟨_, h⟩ | ⟨hb, h⟩
        · cases h
        · have hb := of_decide_eq_false hb
          exact ⟨_, by simp [aBin, hk, hb], h⟩
      · cases h
    · split at h
      · rename_i hk
        have hk := of_decide_eq_true hk
        rcases cnd_some h with ⟨_, h⟩ | ⟨hb, h⟩
        · cases h
        · have hb := of_decide_eq_false hb
          exact ⟨_, by simp [aBin, hk, hb], h⟩
      · cases h
    · split at h
      · rename_i v hv; exact ⟨v, hv, h⟩
      · cases h
  · split at h
    · split at h
      · rcases cnd_some h with ⟨hb, h⟩ | ⟨_, h⟩
        · have hb := of_decide_eq_true hb
          exact ⟨_, by simp [aBin, hb], h⟩
        · cases h
      · cases h
    · split at h
      · rename_i v hv; exact ⟨v, hv, h⟩
      · cases h
end
end Go.Proofs.Ytjblhppbjebagaa.AE

namespace Go.Proofs.Ytjblhppbjebagaa.AE
set_option linter.unusedVariables false
set_option linter.unusedSimpArgs false
set_option linter.constructorNameAsVariable false
open Go

theorem aop_call_irr {call call' : CallF} {ev : Opd → AV} {H : Heap} {io : IOp} (h : ∀ sh f args, io ≠ .call sh f args) : aop call ev H io = aop call' ev H io := by
  cases io <;> first | rfl | exact absurd rfl (h _ _ _) | skip
  all_goals (rename_i b _; cases b <;> rfl)

theorem xop0_ok {u : XU} {x : XCall} {call : CallF} (hx : XOK x call) {ev : Opd → AV} {H : Heap} {io : IOp} {K : AV → Heap → Ans} {r : AV} (h : xop0 C0 u x ev H io K = some r) : ∃ v H', aop call ev H io = some (v, H') ∧ K v H' = some r := by
  unfold xop0 at h
  split at h
  · obtain ⟨t, h1, h2⟩ := xpick_ok h
    exact ⟨_, H, by simp [aop, h1], h2⟩
  · obtain ⟨v, h1, h2⟩ := xbin_ok h
    exact ⟨v, H, by simp [aop, h1], h2⟩
  · split at h <;> (try (cases h; done))
    rename_i b hb
    exact ⟨_, H, by simp only [aop, hb], h⟩
  · split at h <;> (try (cases h; done))
    rename_i b hb
    exact ⟨_, H, by simp only [aop, hb], h⟩
  · split at h
    · rename_i l h1 h2
      rcases cnd_some h with ⟨_, h⟩ | ⟨h0, h⟩
      · cases h
      · cases l with
        | nil => simp at h0
        | cons a l => exact ⟨_, H, by simp only [aop, h1, h2, eqV, eqS], h⟩
    · split at h <;> (try (cases h; done))
      rename_i b hb
      exact ⟨_, H, by simp only [aop, hb], h⟩
  · split at h <;> (try (cases h; done))
    rename_i g a b hf
    split at h
    · obtain ⟨v, H', h1, h2⟩ := hx _ _ _ _ _ _ _ h
      exact ⟨v, H', by simp only [aop, hf, h1], h2⟩
    · obtain ⟨v, H', h1, h2⟩ := hx _ _ _ _ _ _ _ h
      exact ⟨v, H', by simp only [aop, hf, h1], h2⟩
  · split at h <;> (try (cases h; done))
    rename_i s hs
    obtain ⟨hh, h1, h2⟩ := xbound_ok h
    obtain ⟨l, h3, h4⟩ := xbound_ok h2
    exact ⟨_, H, by simp only [aop, aSubS, hs, h1, h3], h4⟩
  · split at h <;> (try (cases h; done))
    rename_i s q hs hq
    rcases cnd_some h with ⟨h0, h⟩ | ⟨_, h⟩
    · have h0 := of_decide_eq_true h0
      simp only [C0] at h
      obtain ⟨n, h1, h2⟩ := Option.bind_eq_some_iff.mp h
      cases hb : s[q.toNat]? with
      | none => simp [hb, isInt] at h1
      | some b =>
        simp [hb, isInt] at h1
        subst h1
        exact ⟨_, H, by simp [aop, hs, hq, h0, hb], h2⟩
    · cases h
  · split at h <;> (try (cases h; done))
    rename_i q hq
    split at h <;> (try (cases h; done))
    · rename_i l hl
      unfold xat at h
      rcases cnd_some h with ⟨h0, h⟩ | ⟨_, h⟩
      · have h0 := of_decide_eq_true h0
        obtain ⟨v, h1, h2⟩ := destr_sound _ _ _ _ h
        split at h2 <;> (try (cases h2; done))
        rename_i hc
        have hc := of_decide_eq_true hc
        exact ⟨_, H, by simp [aop, hq, hl, aIx, h0, h1, hc], h2⟩
      · cases h
    · rename_i id o n hl
      split at h <;> (try (cases h; done))
      rename_i b hb
      split at h <;> (try (cases h; done))
      rename_i he
      have he := of_decide_eq_true he
      rcases cnd_some h with ⟨h0, h⟩ | ⟨_, h⟩
      · have h0 := of_decide_eq_true h0
        exact ⟨_, H, by simp [aop, hq, hl, aIx, hb, h0, he], h⟩
      · cases h
  · rename_i hne
    split at h <;> (try (cases h; done))
    rename_i v H' hv
    exact ⟨v, H', by rw [← hv]; exact aop_call_irr (fun sh f args he => by subst he; simp_all), h⟩

theorem xop_ok {u : XU} {sh : Sh} {x : XCall} {call : CallF} (hx : XOK x call) {ev : Opd → AV} {H : Heap} {io : IOp} {K : AV → Heap → Ans} {r : AV} (h : xop C0 u sh x ev H io K = some r) : ∃ v H', aop call ev H io = some (v, H') ∧ K v H' = some r := by
  unfold xop at h
  split at h
  · split at h
    · rename_i hi
      rw [close_ok hi]
      simp only [C0] at h
      split at h
      · rename_i v H' hv
        split at h
        · exact ⟨v, H', hv, h⟩
        · obtain ⟨w, h1, h2⟩ := destr_sound _ _ _ _ h
          cases h1
          exact ⟨v, H', hv, h2⟩
      · cases h
    · exact xop0_ok hx h
  · exact xop0_ok hx h

theorem set_same {env : List AV} {t : Nat} {v : AV} (h : env.getD t .undef = v) (hv : v ≠ .undef) : env.set t v = env := by
  apply List.ext_getElem?
  intro i
  by_cases hi : t = i
  · subst hi
    rcases Nat.lt_or_ge t env.length with hlt | hge
    · rw [List.getElem?_set_self hlt, List.getElem?_eq_getElem hlt, ← h]
      simp [List.getD_eq_getElem?_getD, hlt]
    · exact absurd (by rw [← h]; simp [List.getD_eq_getElem?_getD, List.getElem?_eq_none hge]) hv
  · rw [List.getElem?_set_ne hi]

theorem xwant_ok {env : List AV} {g : Option (Option Nat × Bool)} {A B : List AV → Ans} {r : AV} (h : xwant env g A B = some r) : (want env g = some true ∧ A env = some r) ∨ (want env g = some false ∧ B env = some r) := by
  unfold xwant at h
  split at h
  · exact .inl ⟨rfl, h⟩
  · rename_i t b
    split at h <;> (try (cases h; done))
    · rename_i c hc
      split at h
      · rcases cnd_some h with ⟨h0, h⟩ | ⟨h0, h⟩
        · subst h0; rw [set_same hc (by simp)] at h; exact .inl ⟨by simp only [want, hc]; rfl, h⟩
        · subst h0; rw [set_same hc (by simp)] at h; exact .inr ⟨by simp only [want, hc]; rfl, h⟩
      · rcases cnd_some h with ⟨h0, h⟩ | ⟨h0, h⟩
        · subst h0; rw [set_same hc (by simp)] at h; exact .inr ⟨by simp only [want, hc]; rfl, h⟩
        · subst h0; rw [set_same hc (by simp)] at h; exact .inl ⟨by simp only [want, hc]; rfl, h⟩
    · rename_i hc
      exact .inr ⟨by simp only [want, hc], h⟩
  · exact .inr ⟨rfl, h⟩

theorem xrunOps_ok {u : XU} {x : XCall} {call : CallF} (hx : XOK x call) : ∀ (l : List IOper) (s : St) (K : St → Ans) (r : AV), xrunOps C0 u x l s K = some r → ∃ s', runOps call l s = some s' ∧ K s' = some r
  | [], s, K, r, h => ⟨s, rfl, h⟩
  | o :: l, s, K, r, h => by
    simp only [xrunOps] at h
    rcases xwant_ok h with ⟨hw, h⟩ | ⟨hw, h⟩
    · obtain ⟨v, H', h1, h2⟩ := xop_ok hx h
      obtain ⟨s', h3, h4⟩ := xrunOps_ok hx l _ K r h2
      exact ⟨s', by simp only [runOps, hw, h1, h3], h4⟩
    · obtain ⟨s', h3, h4⟩ := xrunOps_ok hx l _ K r h
      exact ⟨s', by simp only [runOps, hw, h3], h4⟩

theorem xrunOpsD_ok {u : XU} {x : XCall} {call : CallF} (hx : XOK x call) : ∀ (l : List (IOper × List Nat)) (i : Nat) (log : List (Nat × Nat)) (s : St) (K : St → Ans) (r : AV), xrunOpsD C0 u x l i log s K = some r → ∃ s', runOpsD call l i log s = some s' ∧ K s' = some r
  | [], i, log, s, K, r, h => ⟨s, rfl, h⟩
  | (o, chk) :: l, i, log, s, K, r, h => by
    simp only [xrunOpsD] at h
    rcases xwant_ok h with ⟨hw, h⟩ | ⟨hw, h⟩
    · split at h <;> (try (cases h; done))
      rename_i hl
      obtain ⟨v, H', h1, h2⟩ := xop_ok hx h
      obtain ⟨s', h3, h4⟩ := xrunOpsD_ok hx l _ _ _ K r h2
      refine ⟨s', ?_, h4⟩
      simp only [runOpsD, hw]
      split
      · simp only [h1, h3]
      · rename_i hn
        rw [Bool.or_eq_true] at hl
        rcases hl with hl | hl
        · exact absurd (by rw [List.isEmpty_iff] at hl; subst hl; simp) hn
        · exact absurd hl hn
    · obtain ⟨s', h3, h4⟩ := xrunOpsD_ok hx l _ _ _ K r h
      exact ⟨s', by simp only [runOpsD, hw, h3], h4⟩

theorem xdisj_ok {chk : List Nat} {t : TV} {K : Ans} {r : AV} : ∀ {l : List (Nat × TV)}, xdisj C0 chk t l K = some r → K = some r ∧ ∀ e ∈ l, chk.contains e.1 = true → disjB e.2 t = true
  | [], h => ⟨h, fun e he => by cases he⟩
  | (i, s) :: l, h => by
    simp only [xdisj] at h
    split at h
    · rename_i hc
      split at h
      · obtain ⟨h1, h2⟩ := xdisj_ok h
        refine ⟨h1, fun e he hk => ?_⟩
        rcases List.mem_cons.mp he with rfl | he
        · rfl
        · exact h2 e he hk
      · obtain ⟨h1, h2⟩ := xdisj_ok h
        refine ⟨h1, fun e he hk => ?_⟩
        rcases List.mem_cons.mp he with rfl | he
        · cases s <;> rfl
        · exact h2 e he hk
      · simp only [C0] at h
        split at h
        · rename_i hd
          obtain ⟨h1, h2⟩ := xdisj_ok h
          refine ⟨h1, fun e he hk => ?_⟩
          rcases List.mem_cons.mp he with rfl | he
          · exact hd
          · exact h2 e he hk
        · cases h
    · rename_i hc
      obtain ⟨h1, h2⟩ := xdisj_ok h
      refine ⟨h1, fun e he hk => ?_⟩
      rcases List.mem_cons.mp he with rfl | he
      · rw [hc] at hk; cases hk
      · exact h2 e he hk

/-- It may name that memory. -/
def tmem (id : Nat) : TV → Prop
  | .no => False
  | .addr v => id ∈ idsOf v
  | .all l => l.all (noId DEPTH) = false
theorem touch_tv {ev : Opd → AV} {H : Heap} {io : IOp} {id : Nat} (h : id ∈ touch ev H io) : tmem id (tvOf ev io) := by
  cases io <;> first | (cases h; done) | skip
  case load ag n a =>
    simp only [touch] at h
    simp only [tvOf, tmem]
    split at h
    · rename_i he; rw [he]; exact h
    · cases h
  case store n a v =>
    simp only [touch] at h
    simp only [tvOf, tmem]
    split at h
    · rename_i he; rw [he]; exact h
    · cases h
  case b2s x =>
    simp only [touch] at h
    simp only [tvOf, tmem]
    split at h
    · rename_i he; rw [he]; exact h
    · cases h
  case call sh f args =>
    simp only [touch] at h
    simp only [tvOf]
    split at h
    · rename_i he
      rw [he]
      simp only [tmem]
      split at h
      · cases h
      · rename_i hn; simpa using hn
    · cases h
theorem disj_no {id : Nat} {a b : TV} (h : disjB a b = true) (ha : tmem id a) (hb : tmem id b) : False := by
  cases a <;> cases b <;> simp only [tmem] at ha hb <;> try exact ha.elim
  all_goals (try exact hb.elim)
  · rename_i v w
    simp only [disjB, List.all_eq_true] at h
    have := h id ha
    simp [hb] at this
  · simp only [disjB] at h; rw [hb] at h; cases h
  · simp only [disjB] at h; rw [ha] at h; cases h
  · simp only [disjB] at h; rw [ha] at h; cases h
theorem xrunOpsH_ok {u : XU} {x : XCall} {call : CallF} (hx : XOK x call) : ∀ (l : List (IOper × List Nat)) (i : Nat) (lg : List (Nat × TV)) (log : List (Nat × Nat)) (s : St) (K : St → Ans) (r : AV), (∀ p ∈ log, ∃ e ∈ lg, e.1 = p.1 ∧ tmem p.2 e.2) →
    xrunOpsH C0 u x l i lg s K = some r → ∃ s', runOpsD call l i log s = some s' ∧ K s' = some r
  | [], i, lg, log, s, K, r, _, h => ⟨s, rfl, h⟩
  | (o, chk) :: l, i, lg, log, s, K, r, hl, h => by
    simp only [xrunOpsH] at h
    rcases xwant_ok h with ⟨hw, h⟩ | ⟨hw, h⟩
    · obtain ⟨h, hd⟩ := xdisj_ok h
      obtain ⟨v, H', h1, h2⟩ := xop_ok hx h
      have hok : log.all (fun p => !(chk.contains p.1) || !((touch (evO s.env) s.H o.op).contains p.2)) = true := by
        rw [List.all_eq_true]
        intro p hp
        obtain ⟨e, he, h3, h4⟩ := hl p hp
        cases hc : chk.contains p.1 with
        | false => rfl
        | true =>
          cases ht : (touch (evO s.env) s.H o.op).contains p.2 with
          | false => rfl
          | true => exact (disj_no (hd e he (by rw [h3]; exact hc)) h4 (touch_tv (by simpa using ht))).elim
      obtain ⟨s', h3, h4⟩ := xrunOpsH_ok hx l _ _ (log ++ (touch (evO s.env) s.H o.op).map fun id => (i, id)) _ K r (by
        intro p hp
        rcases List.mem_append.mp hp with hp | hp
        · obtain ⟨e, he, h3, h4⟩ := hl p hp
          exact ⟨e, List.mem_cons_of_mem _ he, h3, h4⟩
        · obtain ⟨id, hid, rfl⟩ := List.mem_map.mp hp
          exact ⟨_, List.mem_cons_self .., rfl, touch_tv hid⟩) h2
      refine ⟨s', ?_, h4⟩
      simp only [runOpsD, hw]
      rw [if_pos hok]
      simp only [h1, h3]
    · obtain ⟨s', h3, h4⟩ := xrunOpsH_ok hx l _ _ log _ K r hl h
      exact ⟨s', by simp only [runOpsD, hw, h3], h4⟩

theorem xexec_ok {x y : XCall} {call callP : CallF} (hx : XOK x call) (hy : XOK y callP) (u : XU) (fu : Nat) : ∀ (c : IC) (da : List Nat) (s : St) (K : Ex → St → Ans) (r : AV), xexec C0 u x y fu c da s K = some r → ∃ e s', exec call callP fu c s = some (e, s') ∧ K e s' = some r := by
  intro c
  induction c with
  | skip => intro da s K r h; exact ⟨_, _, rfl, h⟩
  | reg ops =>
    intro da s K r h
    obtain ⟨s', h1, h2⟩ := xrunOps_ok hx ops s _ r h
    exact ⟨.normal, s', by simp only [exec, h1], h2⟩
  | regD ops =>
    intro da s K r h
    simp only [xexec] at h
    split at h
    · obtain ⟨s', h1, h2⟩ := xrunOpsH_ok hy ops 0 [] [] s _ r (fun p hp => by cases hp) h
      exact ⟨.normal, s', by simp only [exec, h1], h2⟩
    · obtain ⟨s', h1, h2⟩ := xrunOpsD_ok hy ops 0 [] s _ r h
      exact ⟨.normal, s', by simp only [exec, h1], h2⟩
  | seq a b iha ihb =>
    intro da s K r h
    simp only [xexec] at h
    split at h
    case h_2 =>
      simp only [C0, xiter] at h
      obtain ⟨e, s1, h1, h2⟩ := iha _ s _ r (destrE_sound h)
      cases e with
      | normal =>
        simp only [xgo, if_true] at h2
        obtain ⟨e, s', h3, h4⟩ := ihb _ s1 K r (destrE_sound h2)
        exact ⟨e, s', by simp only [exec, h1, h3], h4⟩
      | exit i =>
        simp only at h2
        split at h2
        · cases h2
        · rename_i hi
          have hi := of_decide_eq_false hi
          simp only [xgo, if_neg hi] at h2
          exact ⟨_, s1, by simp only [exec, h1], destrE_sound (xgo_ok (f := fun i s1 => destrE C0 u da (daX a da i) a s s1 fun s2 => K (.exit i) s2) _ h2)⟩
      | ret => exact ⟨_, s1, by simp only [exec, h1], destrE_sound h2⟩
    obtain ⟨e, s1, h1, h2⟩ := iha _ s _ r h
    cases e with
    | normal =>
      obtain ⟨e, s', h3, h4⟩ := ihb _ s1 K r h2
      exact ⟨e, s', by simp only [exec, h1, h3], h4⟩
    | exit i => exact ⟨.exit i, s1, by simp only [exec, h1], h2⟩
    | ret => exact ⟨.ret, s1, by simp only [exec, h1], h2⟩
  | cond c a b iha ihb =>
    intro da s K r h
    cases c with
    | t n =>
      simp only [xexec] at h
      split at h <;> (try (cases h; done))
      rename_i t ht
      rcases cnd_some h with ⟨h0, h⟩ | ⟨h0, h⟩
      · subst h0; rw [set_same ht (by simp)] at h
        obtain ⟨e, s', h1, h2⟩ := iha _ s K r h
        exact ⟨e, s', by simp only [exec, evO, ht, cond_true, h1], h2⟩
      · subst h0; rw [set_same ht (by simp)] at h
        obtain ⟨e, s', h1, h2⟩ := ihb _ s K r h
        exact ⟨e, s', by simp only [exec, evO, ht, cond_false, h1], h2⟩
    | v c =>
      simp only [xexec] at h
      split at h <;> (try (cases h; done))
      rename_i t
      rcases cnd_some h with ⟨h0, h⟩ | ⟨h0, h⟩
      · subst h0
        obtain ⟨e, s', h1, h2⟩ := iha _ s K r h
        exact ⟨e, s', by simp only [exec, evO, cond_true, h1], h2⟩
      · subst h0
        obtain ⟨e, s', h1, h2⟩ := ihb _ s K r h
        exact ⟨e, s', by simp only [exec, evO, cond_false, h1], h2⟩
  | block id a iha =>
    intro da s K r h
    obtain ⟨e, s1, h1, h2⟩ := iha _ s _ r h
    cases e with
    | normal => exact ⟨.normal, s1, by simp only [exec, h1], h2⟩
    | ret => exact ⟨.ret, s1, by simp only [exec, h1], h2⟩
    | exit i =>
      simp only at h2
      split at h2
      · rename_i hi
        have hi := of_decide_eq_true hi
        exact ⟨.normal, s1, by simp only [exec, h1, hi, if_true], h2⟩
      · rename_i hi
        have hi := of_decide_eq_false hi
        exact ⟨.exit i, s1, by simp only [exec, h1, hi, if_false], h2⟩
  | loop a iha =>
    intro da s K r h
    have key2 : ∀ (n : Nat) (s0 : St) (K' : Ex → St → Ans), xiter (fun s1 Kn => xexec C0 u x y fu a da s1 Kn) n s0 K' = some r → ∃ e s', iter (exec call callP fu a) n s0 = some (e, s') ∧ K' e s' = some r := by
      intro n
      induction n with
      | zero => intro s0 K' h; simp [xiter] at h
      | succ n ih =>
        intro s0 K' h
        simp only [xiter] at h
        obtain ⟨e, s1, h1, h2⟩ := iha _ s0 _ r h
        cases e with
        | normal =>
          obtain ⟨e, s', h3, h4⟩ := ih s1 K' h2
          exact ⟨e, s', by simp only [iter, h1, h3], h4⟩
        | exit i => exact ⟨.exit i, s1, by simp only [iter, h1], h2⟩
        | ret => exact ⟨.ret, s1, by simp only [iter, h1], h2⟩
    have key : ∀ (n : Nat) (s0 : St) (K' : Ex → St → Ans), xiter (fun s1 Kn => destrE C0 u da [] a s s1 fun s2 => xexec C0 u x y fu a da s2 Kn) n s0 K' = some r → ∃ e s', iter (exec call callP fu a) n s0 = some (e, s') ∧ K' e s' = some r := by
      intro n
      induction n with
      | zero => intro s0 K' h; simp [xiter] at h
      | succ n ih =>
        intro s0 K' h
        simp only [xiter] at h
        obtain ⟨e, s1, h1, h2⟩ := iha _ s0 _ r (destrE_sound h)
        cases e with
        | normal =>
          obtain ⟨e, s', h3, h4⟩ := ih s1 K' h2
          exact ⟨e, s', by simp only [iter, h1, h3], h4⟩
        | exit i => exact ⟨.exit i, s1, by simp only [iter, h1], h2⟩
        | ret => exact ⟨.ret, s1, by simp only [iter, h1], h2⟩
    simp only [xexec] at h
    cases hun : u.un with
    | true => rw [hun] at h; exact key2 fu s K h
    | false =>
      rw [hun] at h
      obtain ⟨e, s', h1, h2⟩ := key fu s _ h
      cases e with
      | normal => cases h2
      | exit i => exact ⟨_, s', h1, destrE_sound (xgo_ok (f := fun i s1 => destrE C0 u da (daX a da i) a s s1 fun s2 => K (.exit i) s2) _ h2)⟩
      | ret => exact ⟨_, s', h1, destrE_sound h2⟩
  | exit id => intro da s K r h; exact ⟨_, _, rfl, h⟩
  | ret => intro da s K r h; exact ⟨_, _, rfl, h⟩

theorem xresAll_ok {s : St} : ∀ {l : List RV} {K : List AV → Ans} {r : AV}, xresAll C0 s l K = some r → ∃ vs, resAll s l = some vs ∧ K vs = some r
  | [], K, r, h => ⟨[], rfl, h⟩
  | .tmp t :: l, K, r, h => by
    obtain ⟨vs, h1, h2⟩ := xresAll_ok (l := l) h
    exact ⟨_, by simp only [resAll, resOf, h1], h2⟩
  | .cell ag n t :: l, K, r, h => by
    have h : (match (match aLoad s.H ag n (s.env.getD t .undef) with
        | some v => some (v, s.H)
        | none => none : Option (AV × Heap)) with
      | some (v, _) => xresAll C0 s l fun vs => K (v :: vs)
      | none => none) = some r := h
    cases ha : aLoad s.H ag n (s.env.getD t .undef) with
    | none => rw [ha] at h; cases h
    | some v =>
      rw [ha] at h
      obtain ⟨vs, h1, h2⟩ := xresAll_ok (l := l) h
      exact ⟨_, by simp only [resAll, resOf, ha, h1], h2⟩

theorem xrunFn_ok {un : XU} {x y : XCall} {call callP : CallF} (hx : XOK x call) (hy : XOK y callP) {fu : Nat} {fn : AFn} {args : List AV} {H : Heap} {K : AV → Heap → Ans} {r : AV} (h : xrunFn C0 un x y fu fn args H K = some r) :
    ∃ v H', runFn call callP fu fn args H = some (v, H') ∧ K v H' = some r := by
  unfold xrunFn at h
  obtain ⟨e, s', h1, h2⟩ := xexec_ok hx hy un fu _ _ _ _ r h
  unfold runFn
  rw [h1]
  cases e with
  | exit i => cases h2
  | normal =>
    simp only at h2 ⊢
    cases hm : un.hm <;> simp only [hm] at h2
    · cases hr : resAll s' fn.results with
      | none => simp [hr] at h2
      | some vs => simp only [hr] at h2; exact ⟨_, _, rfl, h2⟩
    · obtain ⟨vs, h3, h4⟩ := xresAll_ok h2
      simp only [h3]; exact ⟨_, _, rfl, h4⟩
  | ret =>
    simp only at h2 ⊢
    cases hm : un.hm <;> simp only [hm] at h2
    · cases hr : resAll s' fn.results with
      | none => simp [hr] at h2
      | some vs => simp only [hr] at h2; exact ⟨_, _, rfl, h2⟩
    · obtain ⟨vs, h3, h4⟩ := xresAll_ok h2
      simp only [h3]; exact ⟨_, _, rfl, h4⟩

theorem xcallI_ok (M : Mod) (U : FuncId → XU) (pc : PC) : ∀ n, XOK (xcallI C0 M U pc n) (callI M pc n)
  | 0 => xcallP_ok M pc
  | n + 1 => by
    intro sn sh g args H K r h
    simp only [xcallI] at h
    simp only [callI]
    cases he : M.ext g with
    | some e =>
      simp only [he, xext] at h
      obtain ⟨v, h1, h2⟩ := destr_sound _ _ _ _ h
      exact ⟨v, H, by simp [extCall, h1], h2⟩
    | none =>
      simp only [he] at h
      cases hi : M.inl g <;> simp only [hi] at h
      · obtain ⟨v, H', h1, h2⟩ := xpure_ok pc _ _ _ _ _ _ _ h
        exact ⟨v, H', by simp [h1], h2⟩
      · cases hc : M.code g with
        | none => simp [hc] at h
        | some fn =>
          simp only [hc] at h
          obtain ⟨v, H', h1, h2⟩ := xrunFn_ok (xcallI_ok M U pc n) (xcallP_ok M pc) h
          exact ⟨v, H', by simp [h1], h2⟩

/-- WHAT IS TOLD FORWARDS HOLDS. -/
theorem xcall_ok {M : Mod} {U : FuncId → XU} {d : Nat} {g : FuncId} {args : List AV} {r : AV} (h : xcall C0 M U d g args = some r) : pcall M (d + 1) g args = some r := by
  unfold xcall at h
  simp only [pcall]
  cases hc : M.code g with
  | none => simp [hc] at h
  | some fn =>
    simp only [hc] at h
    obtain ⟨v, H', h1, h2⟩ := xrunFn_ok (xcallI_ok M U (pcall M d) IDEPTH) (xcallP_ok M (pcall M d)) h
    simp only [h1]
    split at h2
    · exact h2
    · exact h2
end Go.Proofs.Ytjblhppbjebagaa.AE

namespace Go.Proofs.Ytjblhppbjebagaa.AE
set_option linter.unusedVariables false
set_option linter.unusedSimpArgs false
set_option linter.constructorNameAsVariable false
open Go Go.RowKit
set_option maxRecDepth 100000
def codes : FuncId → Option AFn
  | 3 => some c3
  | 4 => some c4
  | 5 => some c5
  | 6 => some c6
  | 7 => some c7
  | 8 => some c8
  | 9 => some c9
  | 10 => some c10
  | 11 => some c11
  | 12 => some c12
  | 13 => some c13
  | 14 => some c14
  | 15 => some c15
  | 16 => some c16
  | 17 => some c17
  | 18 => some c18
  | 19 => some c19
  | 20 => some c20
  | 21 => some c21
  | 22 => some c22
  | 23 => some c23
  | 24 => some c24
  | 25 => some c25
  | 26 => some c26
  | 27 => some c27
  | 28 => some c28
  | 29 => some c29
  | 30 => some c30
  | 31 => some c31
  | 32 => some c32
  | 33 => some c33
  | 34 => some c34
  | 35 => some c35
  | 36 => some c36
  | 37 => some c37
  | 38 => some c38
  | 39 => some c39
  | 40 => some c40
  | 41 => some c41
  | 42 => some c42
  | 43 => some c43
  | 44 => some c44
  | 45 => some c45
  | 46 => some c46
  | 47 => some c47
  | 48 => some c48
  | 49 => some c49
  | 50 => some c50
  | 51 => some c51
  | 52 => some c52
  | 53 => some c53
  | 54 => some c54
  | 55 => some c55
  | 56 => some c56
  | 57 => some c57
  | 58 => some c58
  | 59 => some c59
  | 60 => some c60
  | 61 => some c61
  | 62 => some c62
  | 63 => some c63
  | 64 => some c64
  | 65 => some c65
  | 66 => some c66
  | 67 => some c67
  | 68 => some c68
  | 69 => some c69
  | 70 => some c70
  | 71 => some c71
  | 72 => some c72
  | 74 => some c74
  | 75 => some c75
  | 76 => some c76
  | 77 => some c77
  | 78 => some c78
  | 79 => some c79
  | 80 => some c80
  | 81 => some c81
  | _ => none
/-- The sum of numbers of 64 bits. -/
def add64E : List AV → Option AV
  | [.int .u64 x, .int .u64 y, .int .u64 c] => match decide (0 ≤ x) && decide (0 ≤ y) && decide (0 ≤ c) && decide (c ≤ 1) with
    | true => some (.tup [.int .u64 ((x + y + c) % 18446744073709551616), .int .u64 ((x + y + c) / 18446744073709551616)])
    | false => none
  | _ => none
theorem add64_ok : ExtOK Try.prog 73 add64E := by
  intro args v h
  unfold add64E at h
  split at h <;> (try (cases h; done))
  rename_i x y c
  split at h <;> (try (cases h; done))
  rename_i hc
  simp only [Bool.and_eq_true, decide_eq_true_eq] at hc
  obtain ⟨⟨⟨h1, h2⟩, h3⟩, h4⟩ := hc
  cases h
  refine ⟨[(.u64, x), (.u64, y), (.u64, c)], rfl, .tuple #[.int .u64 ((x + y + c) % 18446744073709551616), .int .u64 ((x + y + c) / 18446744073709551616)], fun w => ?_, fun w bad => ?_⟩
  · rw [show ([(IntKind.u64, x), (.u64, y), (.u64, c)].map fun p => Value.int p.1 p.2).toArray = #[.int .u64 x, .int .u64 y, .int .u64 c] from rfl,
      run_callFunc_extern Try.func73 (by kernel_rfl) (by kernel_rfl) (by kernel_rfl) (e := add64Entry) (by kernel_rfl), run_add64 x y c h1 h2 h3 h4]
    rfl
  · refine .tup _ [.int .u64 ((x + y + c) % 18446744073709551616), .int .u64 ((x + y + c) / 18446744073709551616)] rfl fun i c' u hc hu => ?_
    match i, hc, hu with
    | 0, hc, hu => cases hc; cases hu; exact .int _ _
    | 1, hc, hu => cases hc; cases hu; exact .int _ _

def exts : FuncId → Option (List AV → Option AV)
  | 73 => some add64E
  | _ => none
def M : Mod := { code := codes, inl := inlF, ext := exts, fu := 1000000000000000000 }
def hm27 : List (Nat × Sh) := [(0, (.agg (List.replicate 4 (.i .i64)))), (1, .any), (4, (.i .i64)), (7, (.agg (List.replicate 4 (.i .i64)))), (8, .b), (9, .b), (10, .b), (11, .any), (12, .b), (13, .b), (14, .b), (4, (.i .i64)), (15, .any), (16, (.i .i64)), (17, (.i .i64)), (19, (.i .i64)), (21, (.agg [(.i .i64), (.i .i64)])), (5, (.i .i64)), (22, (.agg (List.replicate 4 (.i .i64)))), (23, (.agg [(.i .i64), (.i .i64)])), (24, .any), (25, (.i .i64)), (26, (.i .i64)), (27, .any), (28, (.i .i64)), (29, (.i .i64)), (31, (.agg [(.i .i64), (.i .i64)])), (32, .b), (4, (.i .i64)), (33, (.i .i64)), (17, (.i .i64)), (34, .any), (36, (.agg [(.i .i64), (.i .i64)])), (37, (.i .i64)), (4, (.i .i64))]
def hm31 : List (Nat × Sh) := [(0, .any), (1, (.agg [(.i .i64), (.i .i64)])), (4, (.i .i64)), (9, .any), (10, .b), (11, .b), (12, .b), (13, (.agg [(.i .i64), (.i .i64)])), (14, .b), (15, .b), (16, .b), (4, (.i .i64)), (5, (.i .i64)), (17, .any), (18, (.i .i64)), (19, (.i .i64)), (21, (.i .i64)), (6, (.i .i64)), (23, .any), (24, (.i .i64)), (25, (.tup [(.agg [(.i .i64), (.i .i64)]), (.agg [(.i .i64), (.i .i64)])])), (22, (.tup [(.agg [(.i .i64), (.i .i64)]), (.agg [(.i .i64), (.i .i64)])])), (26, (.agg [(.i .i64), (.i .i64)])), (27, (.agg [(.i .i64), (.i .i64)])), (28, (.agg [(.i .i64), (.i .i64)])), (29, (.agg [(.i .i64), (.i .i64)])), (30, (.agg [(.i .i64), (.i .i64)])), (31, .b), (4, (.i .i64)), (33, (.i .i64)), (35, (.i .i64)), (36, .b), (37, (.agg [(.i .i64), (.i .i64)])), (38, (.agg [(.i .i64), (.i .i64)])), (40, (.i .i64)), (42, (.i .i64)), (43, .b), (44, .b), (46, (.i .i64)), (48, (.i .i64)), (49, .b), (50, .b), (51, .b), (52, (.agg [(.i .i64), (.i .i64)])), (53, (.agg [(.i .i64), (.i .i64)])), (54, (.agg [(.i .i64), (.i .i64)])), (55, (.i .i64)), (56, .b), (57, .b), (58, (.i .i64)), (59, (.i .i64)), (5, (.i .i64)), (60, (.i .i64)), (19, (.i .i64)), (61, (.i .i64)), (4, (.i .i64))]
def hm44 : List (Nat × Sh) := [(0, .any), (1, (.agg [(.i .i64), (.i .i64)])), (4, (.i .i64)), (9, .any), (10, .b), (11, .b), (12, .b), (13, (.agg [(.i .i64), (.i .i64)])), (14, .b), (15, .b), (16, .b), (4, (.i .i64)), (5, .b), (6, (.i .i64)), (17, (.i .i64)), (18, .any), (19, (.i .i64)), (20, .b), (23, .any), (24, (.i .i64)), (26, (.agg [(.i .i64), (.i .i64)])), (27, .any), (28, (.i .i64)), (29, (.agg [(.i .i64), (.i .i64)])), (30, (.agg [(.i .i64), (.i .i64)])), (31, (.agg [(.i .i64), (.i .i64)])), (32, (.agg [(.i .i64), (.i .i64)])), (33, .b), (4, (.i .i64)), (35, (.i .i64)), (37, (.i .i64)), (38, .b), (39, (.agg [(.i .i64), (.i .i64)])), (40, (.agg [(.i .i64), (.i .i64)])), (42, (.i .i64)), (44, (.i .i64)), (45, .b), (46, .b), (48, (.i .i64)), (50, (.i .i64)), (51, .b), (52, .b), (53, .b), (54, (.agg [(.i .i64), (.i .i64)])), (55, (.agg [(.i .i64), (.i .i64)])), (56, (.agg [(.i .i64), (.i .i64)])), (57, (.i .i64)), (58, .b), (59, .b), (60, .b), (61, .b), (5, .b), (21, (.i .i64)), (22, (.i .i64)), (6, (.i .i64)), (62, .b), (4, (.i .i64)), (4, (.i .i64))]
def hm45 : List (Nat × Sh) := [(0, .any), (2, .b), (11, .any), (12, (.i .i64)), (3, (.i .i64)), (13, (.i .i64)), (14, .b), (15, .b), (16, (.i .i64)), (17, .b), (18, .b), (2, .b), (4, (.i .i64)), (19, (.i .i64)), (20, (.i .i64)), (21, .b), (24, .any), (25, (.i .i64)), (27, (.agg [(.i .i64), (.i .i64)])), (28, .b), (29, .b), (2, .b), (22, (.i .i64)), (23, (.i .i64)), (4, (.i .i64)), (5, (.i .i64)), (30, (.i .i64)), (31, (.i .i64)), (32, .b), (35, (.i .i64)), (36, (.i .i64)), (6, (.i .i64)), (37, (.i .i64)), (38, (.i .i64)), (39, .b), (42, .any), (43, (.i .i64)), (45, (.agg [(.i .i64), (.i .i64)])), (46, .any), (47, (.i .i64)), (48, (.agg [(.i .i64), (.i .i64)])), (49, .any), (50, (.i .i64)), (52, (.agg [(.i .i64), (.i .i64)])), (53, .any), (54, (.i .i64)), (55, (.agg [(.i .i64), (.i .i64)])), (57, (.agg [(.i .i64), (.i .i64)])), (58, (.agg [(.i .i64), (.i .i64)])), (59, .b), (56, .b), (2, .b), (61, (.i .i64)), (62, (.i .i64)), (63, (.i .i64)), (64, .b), (60, .b), (65, (.agg [(.i .i64), (.i .i64)])), (66, (.agg [(.i .i64), (.i .i64)])), (67, (.agg [(.i .i64), (.i .i64)])), (68, .b), (69, .b), (70, (.agg [(.i .i64), (.i .i64)])), (71, (.agg [(.i .i64), (.i .i64)])), (72, (.agg [(.i .i64), (.i .i64)])), (73, .b), (74, .b), (2, .b), (76, (.i .i64)), (77, .b), (78, .b), (79, (.i .i64)), (80, (.i .i64)), (81, (.i .i64)), (82, .b), (83, .b), (75, .b), (84, (.agg [(.i .i64), (.i .i64)])), (85, (.agg [(.i .i64), (.i .i64)])), (86, (.agg [(.i .i64), (.i .i64)])), (87, .b), (88, .b), (89, (.agg [(.i .i64), (.i .i64)])), (90, (.agg [(.i .i64), (.i .i64)])), (91, (.agg [(.i .i64), (.i .i64)])), (92, .b), (93, .b), (2, .b), (95, (.agg [(.i .i64), (.i .i64)])), (96, (.agg [(.i .i64), (.i .i64)])), (97, (.agg [(.i .i64), (.i .i64)])), (98, (.agg [(.i .i64), (.i .i64)])), (99, .b), (94, .b), (2, .b), (40, (.i .i64)), (41, (.i .i64)), (6, (.i .i64)), (33, (.i .i64)), (34, (.i .i64)), (5, (.i .i64)), (2, .b)]
def hm69 : List (Nat × Sh) := [(0, (.i .i64)), (1, (.i .i64)), (9, (.i .i64)), (10, (.agg [(.i .i64), (.i .u64)])), (11, (.agg [(.i .i64), (.i .u64)])), (12, (.i .i64)), (13, (.i .u64)), (7, (.i .u64)), (8, (.i .i64)), (14, (.i .i64)), (15, .b), (18, (.i .u64)), (19, (.i .i64)), (20, (.i .u64)), (21, (.i .u64)), (22, .b), (23, (.agg [(.i .i64), (.i .u64)])), (24, (.agg [(.i .i64), (.i .u64)])), (25, (.agg [(.i .i64), (.i .u64)])), (26, (.agg [(.i .i64), (.i .u64)])), (27, (.agg [(.i .i64), (.i .u64)])), (28, (.agg [(.i .i64), (.i .u64)])), (16, (.i .i64)), (17, (.i .i64)), (8, (.i .i64)), (29, (.i .i64)), (30, .b), (31, (.agg [(.i .i64), (.i .u64)])), (32, (.agg [(.i .i64), (.i .u64)])), (33, (.agg [(.i .i64), (.i .u64)])), (34, (.agg [(.i .i64), (.i .u64)])), (35, (.agg [(.i .i64), (.i .u64)]))]
def hm77 : List (Nat × Sh) := [(0, (.agg [(.i .i64), (.i .u64)])), (1, (.agg [(.i .i64), (.i .u64)])), (11, (.agg [(.i .i64), (.i .u64)])), (12, .any), (13, (.agg [(.i .i64), (.i .u64)])), (14, .any), (5, .any), (6, .any), (7, .any), (8, (.i .i64)), (9, (.i .i64)), (15, (.i .i64)), (16, .b), (19, .any), (20, (.i .i64)), (22, (.i .i64)), (23, .any), (24, (.i .i64)), (26, (.i .i64)), (27, (.i .i64)), (28, (.i .i64)), (29, (.i .i64)), (10, (.i .i64)), (30, .any), (31, (.i .i64)), (32, (.i .i64)), (33, .any), (34, .any), (7, .any), (35, (.i .i64)), (36, (.i .i64)), (8, (.i .i64)), (17, (.i .i64)), (18, (.i .i64)), (9, (.i .i64)), (37, .any), (38, (.agg [(.i .i64), (.i .u64)]))]
def hm80 : List (Nat × Sh) := [(0, (.agg [(.i .i64), (.i .u64)])), (2, .any), (3, .any), (4, (.i .i64)), (6, (.i .i64)), (7, .b), (10, .any), (12, (.i .u64)), (13, (.i .i64)), (14, (.i .u64)), (15, (.i .u64)), (16, (.i .i64)), (17, .any), (18, .any), (3, .any), (8, (.i .i64)), (9, (.i .i64)), (4, (.i .i64)), (5, (.i .i64)), (19, (.i .i64)), (20, .b), (23, .any), (25, (.i .i64)), (26, (.i .u64)), (27, (.i .i64)), (28, (.i .u64)), (29, (.i .u64)), (30, (.i .i64)), (31, .any), (32, .any), (3, .any), (21, (.i .i64)), (22, (.i .i64)), (5, (.i .i64)), (33, .any), (2, .any)]
def hm81 : List (Nat × Sh) := [(0, .any), (6, (.agg [(.i .i64), (.i .u64)])), (4, (.i .u64)), (5, (.i .i64)), (7, (.i .i64)), (8, .b), (11, .any), (12, (.i .i64)), (14, (.i .i64)), (15, .b), (17, (.i .u64)), (18, (.i .i64)), (19, (.i .u64)), (20, (.i .u64)), (22, .any), (23, (.i .i64)), (24, (.i .i64)), (26, (.i .i64)), (27, .b), (28, (.i .u64)), (29, (.i .i64)), (30, (.i .u64)), (31, (.i .u64)), (4, (.i .u64)), (9, (.i .i64)), (10, (.i .i64)), (5, (.i .i64)), (32, (.i .u64)), (33, (.i .i64)), (35, (.agg [(.i .i64), (.i .u64)]))]
def unr : FuncId → XU
  | 3 => ⟨false, false, h3, false⟩
  | 4 => ⟨false, false, h4, false⟩
  | 5 => ⟨false, false, h5, false⟩
  | 6 => ⟨false, false, h6, false⟩
  | 7 => ⟨false, false, h7, false⟩
  | 8 => ⟨false, false, h8, true⟩
  | 9 => ⟨false, false, h9, false⟩
  | 10 => ⟨false, false, h10, false⟩
  | 11 => ⟨false, false, h11, false⟩
  | 12 => ⟨false, false, h12, false⟩
  | 13 => ⟨false, false, h13, false⟩
  | 14 => ⟨false, false, h14, false⟩
  | 15 => ⟨false, false, h15, false⟩
  | 16 => ⟨false, false, h16, false⟩
  | 17 => ⟨false, false, h17, false⟩
  | 18 => ⟨false, false, h18, false⟩
  | 19 => ⟨false, false, h19, false⟩
  | 20 => ⟨false, false, h20, false⟩
  | 21 => ⟨false, false, h21, false⟩
  | 22 => ⟨false, false, h22, false⟩
  | 23 => ⟨false, false, h23, false⟩
  | 24 => ⟨false, false, h24, false⟩
  | 25 => ⟨false, false, h25, false⟩
  | 26 => ⟨false, false, h26, false⟩
  | 27 => ⟨false, true, hm27, false⟩
  | 28 => ⟨false, false, h28, false⟩
  | 29 => ⟨false, false, h29, false⟩
  | 30 => ⟨false, false, h30, false⟩
  | 31 => ⟨false, true, hm31, false⟩
  | 32 => ⟨false, false, h32, false⟩
  | 33 => ⟨false, false, h33, false⟩
  | 34 => ⟨false, false, h34, false⟩
  | 35 => ⟨false, false, h35, false⟩
  | 36 => ⟨false, false, h36, false⟩
  | 37 => ⟨false, false, h37, false⟩
  | 38 => ⟨false, false, h38, false⟩
  | 39 => ⟨false, false, h39, false⟩
  | 40 => ⟨false, false, h40, false⟩
  | 41 => ⟨false, false, h41, false⟩
  | 42 => ⟨false, false, h42, false⟩
  | 43 => ⟨false, false, h43, false⟩
  | 44 => ⟨false, true, hm44, false⟩
  | 45 => ⟨false, true, hm45, false⟩
  | 46 => ⟨false, false, h46, false⟩
  | 47 => ⟨false, false, h47, false⟩
  | 48 => ⟨false, false, h48, false⟩
  | 49 => ⟨false, false, h49, false⟩
  | 50 => ⟨false, false, h50, false⟩
  | 51 => ⟨false, false, h51, false⟩
  | 52 => ⟨false, false, h52, false⟩
  | 53 => ⟨false, false, h53, false⟩
  | 54 => ⟨false, false, h54, false⟩
  | 55 => ⟨false, false, h55, false⟩
  | 56 => ⟨false, false, h56, false⟩
  | 57 => ⟨false, false, h57, false⟩
  | 58 => ⟨false, false, h58, false⟩
  | 59 => ⟨false, false, h59, false⟩
  | 60 => ⟨false, false, h60, false⟩
  | 61 => ⟨false, false, h61, false⟩
  | 62 => ⟨false, false, h62, false⟩
  | 63 => ⟨false, false, h63, false⟩
  | 64 => ⟨false, false, h64, false⟩
  | 65 => ⟨false, false, h65, false⟩
  | 66 => ⟨false, false, h66, false⟩
  | 67 => ⟨false, false, h67, false⟩
  | 68 => ⟨false, false, h68, false⟩
  | 69 => ⟨false, true, hm69, false⟩
  | 70 => ⟨false, false, h70, false⟩
  | 71 => ⟨false, false, h71, false⟩
  | 72 => ⟨false, false, h72, false⟩
  | 74 => ⟨false, false, h74, false⟩
  | 75 => ⟨false, false, h75, false⟩
  | 76 => ⟨false, false, h76, false⟩
  | 77 => ⟨false, true, hm77, false⟩
  | 78 => ⟨false, false, h78, false⟩
  | 79 => ⟨false, false, h79, false⟩
  | 80 => ⟨false, true, hm80, false⟩
  | 81 => ⟨false, true, hm81, false⟩
  | _ => ⟨false, false, [], false⟩
theorem modOK : ModOK Try.prog M := by
  constructor
  · intro g fn h
    change codes g = some fn at h
    unfold codes at h
    split at h <;> (try (cases h; done))
    · cases h; exact c3_ok
    · cases h; exact c4_ok
    · cases h; exact c5_ok
    · cases h; exact c6_ok
    · cases h; exact c7_ok
    · cases h; exact c8_ok
    · cases h; exact c9_ok
    · cases h; exact c10_ok
    · cases h; exact c11_ok
    · cases h; exact c12_ok
    · cases h; exact c13_ok
    · cases h; exact c14_ok
    · cases h; exact c15_ok
    · cases h; exact c16_ok
    · cases h; exact c17_ok
    · cases h; exact c18_ok
    · cases h; exact c19_ok
    · cases h; exact c20_ok
    · cases h; exact c21_ok
    · cases h; exact c22_ok
    · cases h; exact c23_ok
    · cases h; exact c24_ok
    · cases h; exact c25_ok
    · cases h; exact c26_ok
    · cases h; exact c27_ok
    · cases h; exact c28_ok
    · cases h; exact c29_ok
    · cases h; exact c30_ok
    · cases h; exact c31_ok
    · cases h; exact c32_ok
    · cases h; exact c33_ok
    · cases h; exact c34_ok
    · cases h; exact c35_ok
    · cases h; exact c36_ok
    · cases h; exact c37_ok
    · cases h; exact c38_ok
    · cases h; exact c39_ok
    · cases h; exact c40_ok
    · cases h; exact c41_ok
    · cases h; exact c42_ok
    · cases h; exact c43_ok
    · cases h; exact c44_ok
    · cases h; exact c45_ok
    · cases h; exact c46_ok
    · cases h; exact c47_ok
    · cases h; exact c48_ok
    · cases h; exact c49_ok
    · cases h; exact c50_ok
    · cases h; exact c51_ok
    · cases h; exact c52_ok
    · cases h; exact c53_ok
    · cases h; exact c54_ok
    · cases h; exact c55_ok
    · cases h; exact c56_ok
    · cases h; exact c57_ok
    · cases h; exact c58_ok
    · cases h; exact c59_ok
    · cases h; exact c60_ok
    · cases h; exact c61_ok
    · cases h; exact c62_ok
    · cases h; exact c63_ok
    · cases h; exact c64_ok
    · cases h; exact c65_ok
    · cases h; exact c66_ok
    · cases h; exact c67_ok
    · cases h; exact c68_ok
    · cases h; exact c69_ok
    · cases h; exact c70_ok
    · cases h; exact c71_ok
    · cases h; exact c72_ok
    · cases h; exact c74_ok
    · cases h; exact c75_ok
    · cases h; exact c76_ok
    · cases h; exact c77_ok
    · cases h; exact c78_ok
    · cases h; exact c79_ok
    · cases h; exact c80_ok
    · cases h; exact c81_ok
  · intro g e h
    change exts g = some e at h
    unfold exts at h
    split at h <;> (try (cases h; done))
    · cases h; exact add64_ok
end Go.Proofs.Ytjblhppbjebagaa.AE

namespace Go.Proofs.Ytjblhppbjebagaa.AE
set_option linter.unusedVariables false
set_option linter.unusedSimpArgs false
set_option linter.constructorNameAsVariable false
open Go Go.RowKit

theorem frl_nil {w : World} {bad : Nat → Prop} : ∀ (i : Nat) (c : AV) (u : Value), ([] : List AV)[i]? = some c → ([] : List Value)[i]? = some u → FRep w bad c u := fun _ _ _ h => by cases h
theorem frl_cons {w : World} {bad : Nat → Prop} {c0 : AV} {u0 : Value} {cs : List AV} {us : List Value} (h0 : FRep w bad c0 u0) (h : ∀ (i : Nat) (c : AV) (u : Value), cs[i]? = some c → us[i]? = some u → FRep w bad c u) :
    ∀ (i : Nat) (c : AV) (u : Value), (c0 :: cs)[i]? = some c → (u0 :: us)[i]? = some u → FRep w bad c u
  | 0, c, u, hc, hu => by cases hc; cases hu; exact h0
  | i + 1, c, u, hc, hu => h i c u hc hu
theorem law_calls {d : Nat} {g : FuncId} {args : List AV} {vs : List Value} (h : pcall M d g args = some (.bool true)) (W : World) (hl : args.length = vs.length)
    (hr : ∀ (i : Nat) (c : AV) (u : Value), args[i]? = some c → vs[i]? = some u → FRep W (fun _ => False) c u) : Calls Try.prog g vs.toArray W fun e W' => e = .returned (.bool true) ∧ Below W.heap.size W W' := by
  refine (pcall_law modOK d g args _ h W (fun _ => False) vs (fun _ h => h.elim) hl hr).mono ?_
  rintro e W' ⟨cv, rfl, hf, hb⟩
  cases hf
  exact ⟨rfl, hb⟩
end Go.Proofs.Ytjblhppbjebagaa.AE

namespace Go.Proofs.Ytjblhppbjebagaa.AE
set_option linter.unusedVariables false
set_option linter.unusedSimpArgs false
set_option linter.constructorNameAsVariable false
open Go Go.WideShapes

/-- The form of a cell. -/
inductive CT where
  | i (k : IntKind)
  | b
  | s
  | sl (ag : Bool) (es : List CT)
mutual
def CTok : CT → AV → Prop
  | .i k, v => ∃ n, v = .int k n ∧ (Lit.int k n).wf = true
  | .b, v => ∃ x, v = .bool x
  | .s, v => ∃ x, v = .str x ∧ x.length ≤ maxLen
  | .sl ag es, v => ∃ l, v = .lst l ∧ l.length ≤ maxLen ∧ ∀ x ∈ l, ∃ cs, (match ag with
    | true => x = .agg cs
    | false => cs = [x]) ∧ CTall es cs
def CTall : List CT → List AV → Prop
  | [], l => l = []
  | c :: cs, l => ∃ x t, l = x :: t ∧ CTok c x ∧ CTall cs t
end
/-- An argument of a form: is it a struct or an array; its cells. -/
def TyOK (ag : Bool) (cs : List CT) (v : AV) : Prop := ∃ l, (match ag with
  | true => v = .agg l
  | false => l = [v]) ∧ CTall cs l
theorem CTall_len : ∀ {cs : List CT} {l : List AV}, CTall cs l → l.length = cs.length
  | [], l, h => by simp only [CTall] at h; subst h; rfl
  | c :: cs, l, h => by
    simp only [CTall] at h
    obtain ⟨x, t, rfl, _, h⟩ := h
    simp [CTall_len h]
theorem CTall_app : ∀ {a b : List CT} {l m : List AV}, CTall a l → CTall b m → CTall (a ++ b) (l ++ m)
  | [], b, l, m, h, h' => by simp only [CTall] at h; subst h; exact h'
  | c :: cs, b, l, m, h, h' => by
    simp only [CTall] at h
    obtain ⟨x, t, rfl, h1, h⟩ := h
    simp only [List.cons_append, CTall]
    exact ⟨x, t ++ m, rfl, h1, CTall_app h h'⟩

section
variable (P : Program)
def ctFs (g : TypeId → Option (List CT)) : List Field → Nat → Option (List CT)
  | [], _ => some []
  | f :: fs, off => if f.offset = off then match g f.type with
      | some l => if P.cellsOf f.type = l.length then match ctFs g fs (off + l.length) with
          | some m => some (l ++ m)
          | none => none
        else none
      | none => none
    else none
def ctOf : Nat → TypeId → Option (List CT)
  | 0, _ => none
  | d + 1, t => match P.underlying t with
    | some (.int k) => some [.i k]
    | some .bool => some [.b]
    | some .string => some [.s]
    | some (.slice e) => match ctOf d e, agB P e with
      | some l, some ag => if P.cellsOf e = l.length ∧ 0 < l.length ∧ (ag || l.length == 1) = true then some [.sl ag l] else none
      | _, _ => none
    | some (.struct fs) => match ctFs P (ctOf d) fs.toList 0 with
      | some l => if P.cellsOf t = l.length then some l else none
      | none => none
    | some (.array n e) => match ctOf d e with
      | some l => if P.cellsOf e = l.length ∧ P.cellsOf t = n * l.length then some (List.replicate n l).flatten else none
      | none => none
    | _ => none
end

section
variable {H : Type} {enc : TypeId × Value → H} {P : Program} {w : World} {base : Nat} {spare : Nat → Bool} {held : Bool}
abbrev noBad : Nat → Prop := fun _ => False

/-- Each cell is told. -/
def Cells (w : World) (avs : List AV) (cs : List Value) : Prop := ∀ (i : Nat) (c : AV) (u : Value), avs[i]? = some c → cs[i]? = some u → FRep w noBad c u

theorem cells_one {c : AV} {u : Value} (h : FRep w noBad c u) : Cells w [c] [u] := by
  intro i a b ha hb
  match i with
  | 0 => cases ha; cases hb; exact h
  | i + 1 => cases ha

theorem ctFs_open {g : TypeId → Option (List CT)} {cs : List Value} (hg : ∀ t l (ds : List Value) fuel x, g t = some l → DataW.trod enc P w base spare held fuel t ds = some x → ∃ avs, avs.length = ds.length ∧ CTall l avs ∧ Cells w avs ds) :
    ∀ (fs : List Field) (off : Nat) (l : List CT), ctFs P g fs off = some l → (∀ f ∈ fs, ∃ fuel y, DataW.trod enc P w base spare held fuel f.type ((cs.drop f.offset).take (P.cellsOf f.type)) = some y) →
      ∃ avs, CTall l avs ∧ Cells w avs (cs.drop off)
  | [], off, l, h, _ => by
    simp only [ctFs] at h; cases h
    exact ⟨[], rfl, fun i c u hc _ => by cases hc⟩
  | f :: fs, off, l, h, ht => by
    simp only [ctFs] at h
    split at h
    · rename_i ho
      split at h <;> (try (cases h; done))
      rename_i l1 h1
      split at h
      · rename_i hn
        split at h <;> (try (cases h; done))
        rename_i m hm
        cases h
        obtain ⟨fuel, y, hy⟩ := ht f (List.mem_cons_self ..)
        obtain ⟨a1, e1, e2, e3⟩ := hg _ _ _ _ _ h1 hy
        obtain ⟨a2, q1, q2⟩ := ctFs_open hg fs (off + l1.length) m hm (fun f hf => ht f (List.mem_cons_of_mem _ hf))
        refine ⟨a1 ++ a2, CTall_app e2 q1, ?_⟩
        have hl : a1.length = l1.length := CTall_len e2
        intro i c u hc hu
        by_cases hi : i < a1.length
        · rw [List.getElem?_append_left hi] at hc
          refine e3 i c u hc ?_
          rw [ho, hn, List.getElem?_take, if_pos (by omega)]; exact hu
        · rw [List.getElem?_append_right (by omega)] at hc
          refine q2 (i - a1.length) c u hc ?_
          rw [List.getElem?_drop] at hu ⊢
          rw [← hu]; congr 1; omega
      · cases h
    · cases h

theorem cells?_at {a : Addr} {n : Nat} {cs : List Value} (h : w.cells? base a n = some cs) : cs.length = n ∧ ∀ j u, cs[j]? = some u → w.cell? (a.add j) = some u := by
  unfold World.cells? at h
  split at h
  · have hl : cs.length = n := by simpa using mapM_some_length h
    refine ⟨hl, fun j u hu => ?_⟩
    have hj : j < n := by
      rcases Nat.lt_or_ge j n with h1 | h1
      · exact h1
      · rw [List.getElem?_eq_none (by omega)] at hu; cases hu
    have := mapM_some_get h j j (by simp [hj])
    rw [hu] at this
    exact this
  · cases h

theorem rng_at {n i j : Nat} (h : (List.range n)[i]? = some j) : i < n ∧ i = j := by
  rcases Nat.lt_or_ge i n with h1 | h1
  · rw [List.getElem?_range h1] at h; exact ⟨h1, Option.some.inj h⟩
  · rw [List.getElem?_eq_none (by simpa using h1)] at h; cases h
theorem add_pl (b o n : Nat) : (⟨b, o, none⟩ : Addr).add n = ⟨b, o + n, none⟩ := by
  unfold Addr.add; split <;> simp_all

theorem open_cells : ∀ (d : Nat) (t : TypeId) (l : List CT) (cs : List Value) (fuel : Nat) (x : DataW H × List MemPlace), ctOf P d t = some l → DataW.trod enc P w base spare held fuel t cs = some x →
    ∃ avs, avs.length = cs.length ∧ CTall l avs ∧ Cells w avs cs
  | 0, t, l, cs, fuel, x, h, _ => by cases h
  | d + 1, t, l, cs, fuel, x, h, ht => by
    simp only [ctOf] at h
    split at h <;> (try (cases h; done))
    · rename_i k hu
      cases h
      obtain ⟨n, rfl, _, hw⟩ := DataW.trod_int hu ht
      exact ⟨[.int k n], rfl, ⟨_, _, rfl, ⟨n, rfl, hw⟩, rfl⟩, cells_one (.int k n)⟩
    · rename_i hu
      cases h
      obtain ⟨b, rfl, _⟩ := DataW.trod_bool hu ht
      exact ⟨[.bool b], rfl, ⟨_, _, rfl, ⟨b, rfl⟩, rfl⟩, cells_one (.bool b)⟩
    · rename_i hu
      cases h
      obtain ⟨s, rfl, _, hs⟩ := DataW.trod_string hu ht
      refine ⟨[.str s.data.toList], rfl, ⟨_, _, rfl, ⟨_, rfl, by simpa using hs⟩, rfl⟩, cells_one ?_⟩
      have := FRep.str (w := w) (bad := noBad) s.data.toList
      simpa using this
    · rename_i e hu
      split at h <;> (try (cases h; done))
      rename_i le ag hle hag
      split at h
      · rename_i hc
        obtain ⟨hc1, hc2, hc3⟩ := hc
        cases h
        rcases DataW.trod_slice hu ht with ⟨rfl, _⟩ | ⟨a, len, cap, elems, rest, n, _, rfl, _, hb, hl, hm, hel, hat, _, _⟩
        · exact ⟨[.lst []], rfl, ⟨_, _, rfl, ⟨[], rfl, by simp, fun x hx => by cases hx⟩, rfl⟩, cells_one (.lst0 none 0)⟩
        · have each : ∀ i, i < len → ∃ ex : List AV × List Value, w.cells? base (a.add (i * P.cellsOf e)) (P.cellsOf e) = some ex.2 ∧ CTall le ex.1 ∧ Cells w ex.1 ex.2 := by
            intro i hi
            have h1 := hat i hi
            rw [List.getElem?_eq_getElem (by omega)] at h1
            obtain ⟨ds, h2, h3⟩ := Option.bind_eq_some_iff.mp h1
            obtain ⟨avs, _, q2, q3⟩ := open_cells d e le ds n _ hle h3
            exact ⟨(avs, ds), h2, q2, q3⟩
          obtain ⟨f, hf⟩ := Go.Deep.choose_lt each
          let el : List AV → AV := fun cs => match ag with
            | true => .agg cs
            | false => cs.headD .undef
          have elc : ∀ cs, CTall le cs → (el cs).cells = cs ∨ (ag = false ∧ ∃ v, cs = [v] ∧ el cs = v) := by
            intro cs hcs
            cases ag with
            | true => exact .inl rfl
            | false =>
              have hl1 : le.length = 1 := by simpa using hc3
              have := CTall_len hcs
              match cs, this.trans hl1 with
              | [v], _ => exact .inr ⟨rfl, v, rfl, rfl⟩
          have scal : ∀ cs, CTall le cs → (el cs).cells = cs := by
            intro cs hcs
            rcases elc cs hcs with h1 | ⟨hag', v, rfl, h2⟩
            · exact h1
            · rw [h2]
              match v, hcs with
              | .agg l', hcs =>
                exfalso
                cases le with
                | nil => simp only [CTall] at hcs; cases hcs
                | cons c cs' =>
                  simp only [CTall] at hcs
                  obtain ⟨x', t', hx', hok, _⟩ := hcs
                  injection hx' with hx1 _
                  subst hx1
                  cases c <;> simp [CTok] at hok
              | .int .., _ | .bool _, _ | .str _, _ | .nilp, _ | .zsl _, _ | .ptr .., _ | .slc .., _ | .lst _, _ | .fptr .., _ | .tup _, _ | .fn .., _ | .nilf, _ | .undef, _ => rfl
          have hlen : ∀ i, i < len → ((f i).1).length = P.cellsOf e := fun i hi => by rw [CTall_len (hf i hi).2.1, hc1]
          refine ⟨[.lst ((List.range len).map fun i => el (f i).1)], rfl, ⟨_, _, rfl, ⟨_, rfl, by simp; omega, ?_⟩, rfl⟩, cells_one ?_⟩
          · intro y hy
            obtain ⟨i, hi, rfl⟩ := List.mem_map.mp hy
            have hi := List.mem_range.mp hi
            refine ⟨(f i).1, ?_, (hf i hi).2.1⟩
            cases ag with
            | true => rfl
            | false =>
              rcases elc _ (hf i hi).2.1 with h1 | ⟨_, v, h1, h2⟩
              · have h3 := scal _ (hf i hi).2.1
                have hl1 : le.length = 1 := by simpa using hc3
                have h4 := (CTall_len (hf i hi).2.1).trans hl1
                show (f i).1 = [(f i).1.headD .undef]
                match (f i).1, h4 with
                | [v], _ => rfl
              · show (f i).1 = [(f i).1.headD .undef]
                rw [h1]; rfl
          · by_cases h0 : len = 0
            · subst h0; exact .lst0 (some a) cap
            · have hsp : a.spot = none ∧ a.block < w.heap.size := by
                obtain ⟨g1, g2, g3⟩ := hf 0 (by omega)
                obtain ⟨g4, g5⟩ := cells?_at g1
                have h6 : ∃ u, (f 0).2[0]? = some u := ⟨_, List.getElem?_eq_getElem (by omega)⟩
                obtain ⟨u, hu0⟩ := h6
                have := g5 0 u hu0
                rw [Nat.zero_mul, show (a.add 0).add 0 = a by simp [Addr.add]] at this
                unfold World.cell? at this
                split at this
                · rename_i c _ _ hh
                  split at this
                  · cases this
                  · rename_i hs
                    refine ⟨by simpa using hs, ?_⟩
                    rcases Nat.lt_or_ge a.block w.heap.size with h7 | h7
                    · exact h7
                    · rw [Array.getElem?_eq_none h7] at hh; cases hh
                · cases this
              obtain ⟨b, o, sp⟩ := a
              obtain ⟨hsp1, hsp2⟩ := hsp
              simp only at hsp1 hsp2
              subst hsp1
              have hlm : ((List.range len).map fun i => el (f i).1).length = len := by simp
              have key := FRep.lst (w := w) (bad := noBad) ((List.range len).map fun i => el (f i).1) b o (P.cellsOf e) cap (fun i j => (f i).2.getD j (.bool false)) (by rw [hlm]; exact hl) (by omega) (fun h => h) hsp2 ?_ ?_ ?_
              · rw [hlm] at key; exact key
              · intro i y hy
                rw [List.getElem?_map] at hy
                obtain ⟨i', h1, rfl⟩ := Option.map_eq_some_iff.mp hy
                obtain ⟨h2, rfl⟩ := rng_at h1
                rw [scal _ (hf _ h2).2.1, hlen _ h2]
              · intro i y j c hy hc
                rw [List.getElem?_map] at hy
                obtain ⟨i', h1, rfl⟩ := Option.map_eq_some_iff.mp hy
                obtain ⟨h2, rfl⟩ := rng_at h1
                rw [scal _ (hf _ h2).2.1] at hc
                obtain ⟨g4, g5⟩ := cells?_at (hf _ h2).1
                have hj : j < (f i).2.length := by
                  rw [g4, ← hlen _ h2]
                  rcases Nat.lt_or_ge j (f i).1.length with h7 | h7
                  · exact h7
                  · rw [List.getElem?_eq_none h7] at hc; cases hc
                have := g5 j _ (List.getElem?_eq_getElem hj)
                rw [add_pl, add_pl] at this
                rw [List.getD_eq_getElem?_getD, List.getElem?_eq_getElem hj]
                simp only [Option.getD_some]
                rw [← Nat.add_assoc]; exact this
              · intro i y j c hy hc
                rw [List.getElem?_map] at hy
                obtain ⟨i', h1, rfl⟩ := Option.map_eq_some_iff.mp hy
                obtain ⟨h2, rfl⟩ := rng_at h1
                rw [scal _ (hf _ h2).2.1] at hc
                obtain ⟨g4, g5⟩ := cells?_at (hf _ h2).1
                have hj : j < (f i).2.length := by
                  rw [g4, ← hlen _ h2]
                  rcases Nat.lt_or_ge j (f i).1.length with h7 | h7
                  · exact h7
                  · rw [List.getElem?_eq_none h7] at hc; cases hc
                refine (hf _ h2).2.2 j c _ hc ?_
                rw [List.getD_eq_getElem?_getD, List.getElem?_eq_getElem hj]; rfl
      · cases h
    · rename_i fs hu
      split at h <;> (try (cases h; done))
      rename_i l' hl'
      split at h
      · rename_i hc
        cases h
        obtain ⟨xs, n, _, _, hlen, hxs, hf⟩ := DataW.trod_struct hu ht
        obtain ⟨avs, q1, q2⟩ := ctFs_open (cs := cs) (enc := enc) (base := base) (spare := spare) (held := held) (fun t l ds fuel x => open_cells d t l ds fuel x) fs.toList 0 l hl' (fun f hfm => by
          obtain ⟨i, hi⟩ := List.getElem?_of_mem hfm
          have h1 := hf i f (by simpa using hi)
          have hi' : i < xs.length := by
            rw [hxs]
            rcases Nat.lt_or_ge i fs.size with h7 | h7
            · exact h7
            · rw [List.getElem?_eq_none (by simpa using h7)] at hi; cases hi
          exact ⟨n, _, h1.trans (List.getElem?_eq_getElem hi')⟩)
        exact ⟨avs, by rw [CTall_len q1, hlen, hc], q1, by simpa using q2⟩
      · cases h
    · rename_i n e hu
      split at h <;> (try (cases h; done))
      rename_i le hle
      split at h
      · rename_i hc
        obtain ⟨hc1, hc2⟩ := hc
        cases h
        obtain ⟨xs, m, _, _, hlen, hxs, hf⟩ := DataW.trod_array hu ht
        have key : ∀ k, k ≤ n → ∃ avs, CTall (List.replicate k le).flatten avs ∧ Cells w avs (cs.drop ((n - k) * le.length)) := by
          intro k
          induction k with
          | zero => intro _; exact ⟨[], rfl, fun i c u hc _ => by cases hc⟩
          | succ k ih =>
            intro hk
            obtain ⟨a2, q1, q2⟩ := ih (by omega)
            have h1 := hf (n - (k + 1)) (by omega)
            rw [List.getElem?_eq_getElem (by omega)] at h1
            obtain ⟨a1, e1, e2, e3⟩ := open_cells d e le _ m _ hle h1
            refine ⟨a1 ++ a2, by rw [List.replicate_succ, List.flatten_cons]; exact CTall_app e2 q1, ?_⟩
            have hl : a1.length = le.length := CTall_len e2
            intro i c u hc hu
            by_cases hi : i < a1.length
            · rw [List.getElem?_append_left hi] at hc
              refine e3 i c u hc ?_
              rw [hc1, List.getElem?_take, if_pos (by omega)]; exact hu
            · rw [List.getElem?_append_right (by omega)] at hc
              refine q2 (i - a1.length) c u hc ?_
              rw [List.getElem?_drop] at hu ⊢
              rw [← hu]; congr 1
              have : n - k = n - (k + 1) + 1 := by omega
              rw [this, Nat.add_mul]; omega
        obtain ⟨avs, q1, q2⟩ := key n (Nat.le_refl _)
        refine ⟨avs, ?_, q1, by simpa using q2⟩
        rw [CTall_len q1, hlen, hc2]; simp
      · cases h

theorem okWide_array {r : Reach} {n : Nat} {t e : TypeId} {v : Value} (ht : P.underlying t = some (.array n e)) (h : Value.okWide P w r base t v) : ∃ cs, v = .agg cs ∧ cs.size = P.cellsOf t := by
  simp only [Value.okWide, ht] at h
  obtain ⟨cs, h1, h2, _⟩ := h
  exact ⟨cs, h1, h2⟩
/-- A scalar argument. -/
theorem open_sc {t : TypeId} {v : Value} {d : DataW H} {ps : List MemPlace} {l : List CT} (hv : v.cells.toList = [v]) (hl : ctOf P 9 t = some l) (h : DataW.Trod enc P w base spare held t v d ps) :
    ∃ a, TyOK false l a ∧ FRep w noBad a v := by
  obtain ⟨fuel, h⟩ := h
  obtain ⟨avs, h1, h2, h3⟩ := open_cells 9 t l _ fuel _ hl h
  rw [hv] at h1 h3
  match avs, h1 with
  | [a], _ => exact ⟨a, ⟨_, rfl, h2⟩, h3 0 a v rfl rfl⟩
/-- A struct, or an array. -/
theorem open_ag {t : TypeId} {cs : Array Value} {d : DataW H} {ps : List MemPlace} {l : List CT} (hl : ctOf P 9 t = some l) (h : DataW.Trod enc P w base spare held t (.agg cs) d ps) :
    ∃ a, TyOK true l a ∧ FRep w noBad a (.agg cs) := by
  obtain ⟨fuel, h⟩ := h
  obtain ⟨avs, h1, h2, h3⟩ := open_cells 9 t l _ fuel _ hl h
  refine ⟨.agg avs, ⟨_, rfl, h2⟩, ?_⟩
  have := FRep.agg (w := w) (bad := noBad) avs cs.toList h1 h3
  simpa using this
end
end Go.Proofs.Ytjblhppbjebagaa.AE

namespace Go.Proofs.Ytjblhppbjebagaa.AE
set_option linter.unusedVariables false
set_option linter.unusedSimpArgs false
set_option linter.constructorNameAsVariable false
open Go

theorem C0_int (k : IntKind) (n : Int) (K : Int → Ans) : C0.int k (some (.int k n)) K = K n := by simp [C0, isInt]
theorem C0_bool (b : Bool) (K : Bool → Ans) : C0.bool (some (.bool b)) K = K b := by simp [C0, isBool]
theorem C0_str (b : List UInt8) (K : List UInt8 → Ans) : C0.str (some (.str b)) K = K b := by simp [C0, isStr]
theorem C0_lst (l : List AV) (K : List AV → Ans) (Z : Bool → Ans) : C0.lst (some (.lst l)) K Z = K l := rfl
theorem C0_lstz (b : Bool) (K : List AV → Ans) (Z : Bool → Ans) : C0.lst (some (.zsl b)) K Z = Z b := rfl
theorem C0_agg (n : Nat) (l : List AV) (h : l.length = n) (K : List AV → Ans) : C0.agg n (some (.agg l)) K = K l := by simp [C0, isAgg, h]
theorem C0_tup (n : Nat) (l : List AV) (h : l.length = n) (K : List AV → Ans) : C0.tup n (some (.tup l)) K = K l := by simp [C0, isTup, h]
theorem C0_agg2 (a b : AV) (K : List AV → Ans) : C0.agg 2 (some (.agg [a, b])) K = K [a, b] := C0_agg 2 _ rfl K
theorem C0_tup2 (a b : AV) (K : List AV → Ans) : C0.tup 2 (some (.tup [a, b])) K = K [a, b] := C0_tup 2 _ rfl K
theorem C0_any (v : AV) (K : AV → Ans) : C0.any (some v) K = K v := by simp [C0]
theorem C0_same (v : AV) (K : Ans) : C0.same (some v) v K = K := by simp [C0]
theorem C0_sameH (H : Heap) (K : Ans) : C0.sameH H H K = K := by simp [C0]
theorem cnd_t (a b : Ans) : cnd true a b = a := rfl
theorem cnd_f (a b : Ans) : cnd false a b = b := rfl
theorem pl_len {t : Bool} {a b : Ans} (h : t = true) : cnd t a b = a := by subst h; rfl
theorem pl_f {t : Bool} {a b : Ans} (h : t = false) : cnd t a b = b := by subst h; rfl
theorem pl_same {o : Option AV} {v : AV} {K : Ans} (h : o = some v) : C0.same o v K = K := by subst h; simp [C0]
theorem pl_sameH {H : Heap} {K : Ans} : C0.sameH H H K = K := by simp [C0]
theorem pl_int {k : IntKind} {o : Option AV} {n : Int} {K : Int → Ans} (h : o = some (.int k n)) : C0.int k o K = K n := by subst h; simp [C0, isInt]
theorem pl_bool {o : Option AV} {n : Bool} {K : Bool → Ans} (h : o = some (.bool n)) : C0.bool o K = K n := by subst h; simp [C0, isBool]
theorem pl_str {o : Option AV} {n : List UInt8} {K : List UInt8 → Ans} (h : o = some (.str n)) : C0.str o K = K n := by subst h; simp [C0, isStr]
theorem pl_any {o : Option AV} {v : AV} {K : AV → Ans} (h : o = some v) : C0.any o K = K v := by subst h; simp [C0]
theorem pl_agg {n : Nat} {o : Option AV} {l : List AV} {K : List AV → Ans} (h : o = some (.agg l)) (h2 : l.length = n) : C0.agg n o K = K l := by subst h; simp [C0, isAgg, h2]
theorem pl_tup {n : Nat} {o : Option AV} {l : List AV} {K : List AV → Ans} (h : o = some (.tup l)) (h2 : l.length = n) : C0.tup n o K = K l := by subst h; simp [C0, isTup, h2]
theorem pl_lst {o : Option AV} {l : List AV} {K : List AV → Ans} {Z : Bool → Ans} (h : o = some (.lst l)) : C0.lst o K Z = K l := by subst h; rfl
/-- What comes behind a round; what comes behind a loop. -/
def kIter (R : St → (Ex → St → Ans) → Ans) (n : Nat) (K : Ex → St → Ans) : Ex → St → Ans := fun e s' => match e with
  | .normal => xiter R n s' K
  | .exit i => K (.exit i) s'
  | .ret => K .ret s'
def kOut (ids : List Nat) (ks : List (St → Ans)) (kr : St → Ans) : Ex → St → Ans := fun e s' => match e with
  | .ret => kr s'
  | .exit i => xgo i ids ks s'
  | .normal => none
theorem kIter_n (R : St → (Ex → St → Ans) → Ans) (n : Nat) (K : Ex → St → Ans) (s : St) : kIter R n K .normal s = xiter R n s K := rfl
theorem kIter_x (R : St → (Ex → St → Ans) → Ans) (n : Nat) (K : Ex → St → Ans) (i : Nat) (s : St) : kIter R n K (.exit i) s = K (.exit i) s := rfl
theorem kIter_r (R : St → (Ex → St → Ans) → Ans) (n : Nat) (K : Ex → St → Ans) (s : St) : kIter R n K .ret s = K .ret s := rfl
theorem kOut_x (ids : List Nat) (ks : List (St → Ans)) (kr : St → Ans) (i : Nat) (s : St) : kOut ids ks kr (.exit i) s = xgo i ids ks s := rfl
theorem kOut_r (ids : List Nat) (ks : List (St → Ans)) (kr : St → Ans) (s : St) : kOut ids ks kr .ret s = kr s := rfl
theorem it_ret (R : St → (Ex → St → Ans) → Ans) (n : Nat) (s : St) (ids : List Nat) (ks : List (St → Ans)) (kr : St → Ans) : C0.iter R n s ids ks kr = xiter R n s (kOut ids ks kr) := rfl
theorem xiter_s (R : St → (Ex → St → Ans) → Ans) (n : Nat) (s : St) (K : Ex → St → Ans) : xiter R (n + 1) s K = R s (kIter R n K) := rfl
theorem xgo_hit (i : Nat) (ids : List Nat) (k : St → Ans) (ks : List (St → Ans)) (s : St) : xgo i (i :: ids) (k :: ks) s = k s := by simp [xgo]
theorem xgo_miss {i j : Nat} (ids : List Nat) (k : St → Ans) (ks : List (St → Ans)) (s : St) (h : (i == j) = false) : xgo i (j :: ids) (k :: ks) s = xgo i ids ks s := by
  simp only [xgo]; rw [if_neg]; intro he; subst he; simp at h
theorem C0_hop (H : Heap) (io : IOp) (K : AV → Heap → Ans) : C0.hop H io K = match aop noCall (evO []) H io with
    | some (v, H') => K v H'
    | none => none := rfl
theorem hop_eq {H H' : Heap} {io : IOp} {v : AV} {K : AV → Heap → Ans} (h : aop noCall (evO []) H io = some (v, H')) : C0.hop H io K = K v H' := by rw [C0_hop, h]
theorem C0_fin (H : Heap) (v : AV) : C0.fin H v = some (snap 12 H v) := rfl
theorem C0_disj {a b : TV} {K : Ans} (h : disjB a b = true) : C0.disj a b K = K := by simp only [C0, h]
theorem snp_free {H : Heap} {args : List AV} {K : List AV → Bool → Ans} (h : args.all (noId DEPTH) = true) : C0.snp H args K = K args true := by simp [C0, h]
theorem snp_id {H : Heap} {args : List AV} {K : List AV → Bool → Ans} (h : args.all (noId DEPTH) = false) : C0.snp H args K = K (args.map (snap DEPTH H)) false := by simp [C0, h]
theorem at0 (a : AV) (l : List AV) : (a :: l)[0]? = some a := rfl
theorem at1 (a b : AV) (l : List AV) : (a :: b :: l)[1]? = some b := rfl
theorem at2 (a b c : AV) (l : List AV) : (a :: b :: c :: l)[2]? = some c := rfl
theorem at3 (a b c d : AV) (l : List AV) : (a :: b :: c :: d :: l)[3]? = some d := rfl
theorem at4 (a b c d e : AV) (l : List AV) : (a :: b :: c :: d :: e :: l)[4]? = some e := rfl
theorem at5 (a b c d e f : AV) (l : List AV) : (a :: b :: c :: d :: e :: f :: l)[5]? = some f := rfl
theorem at6 (a b c d e f g : AV) (l : List AV) : (a :: b :: c :: d :: e :: f :: g :: l)[6]? = some g := rfl
theorem at7 (a b c d e f g h : AV) (l : List AV) : (a :: b :: c :: d :: e :: f :: g :: h :: l)[7]? = some h := rfl
/-- From what is told forwards. -/
theorem told {d g : Nat} {args : List AV} {r : AV} {t : Ans} (h : xcall C0 M unr d g args = t) (h2 : t = some r) : pcall M (d + 1) g args = some r := xcall_ok (h.trans h2)
theorem up {k d : Nat} {p : Nat → Prop} (h : ∀ d, p (d + k)) (hd : k ≤ d) : p d := by
  have := h (d - k)
  rwa [Nat.sub_add_cancel hd] at this
end Go.Proofs.Ytjblhppbjebagaa.AE

namespace Go.Proofs.Ytjblhppbjebagaa.AE
set_option linter.unusedVariables false
set_option linter.unusedSimpArgs false
set_option linter.constructorNameAsVariable false
open Go
set_option maxRecDepth 100000
def r21R0 (C : Cb) (d : Nat) (a0 : List AV) (a1 : List AV) : St → (Ex → St → Ans) → Ans := fun s0 k1 =>
  cnd ((List.length (St.env s0)) == 26)
   (C.same (St.env s0)[0]? (.lst a0) <|
   C.same (St.env s0)[1]? (.lst a1) <|
   C.same (St.env s0)[2]? (.tup []) <|
   C.same (St.env s0)[3]? (.tup []) <|
   C.bool (St.env s0)[4]? fun b3 =>
   C.int .i64 (St.env s0)[5]? fun x4 =>
   C.same (St.env s0)[6]? (.lst a0) <|
   C.same (St.env s0)[7]? (.int .i64 (((List.length a0) : Nat) : Int)) <|
   C.same (St.env s0)[8]? (.lst a1) <|
   C.same (St.env s0)[9]? (.int .i64 (((List.length a1) : Nat) : Int)) <|
   C.same (St.env s0)[10]? (.bool false) <|
   C.any (St.env s0)[11]? fun v5 =>
   C.any (St.env s0)[12]? fun v6 =>
   C.any (St.env s0)[13]? fun v7 =>
   C.any (St.env s0)[14]? fun v8 =>
   C.any (St.env s0)[15]? fun v9 =>
   C.any (St.env s0)[16]? fun v10 =>
   C.any (St.env s0)[17]? fun v11 =>
   C.any (St.env s0)[18]? fun v12 =>
   C.any (St.env s0)[19]? fun v13 =>
   C.any (St.env s0)[20]? fun v14 =>
   C.any (St.env s0)[21]? fun v15 =>
   C.any (St.env s0)[22]? fun v16 =>
   C.any (St.env s0)[23]? fun v17 =>
   C.any (St.env s0)[24]? fun v18 =>
   C.any (St.env s0)[25]? fun v19 =>
   C.sameH (St.H s0) [] <|
   cnd (decide (x4 < (((List.length a0) : Nat) : Int)))
   (cnd (decide (0 ≤ x4))
   (C.agg 2 a0[(Int.toNat x4)]? fun l20 =>
   C.int .i64 l20[0]? fun x21 =>
   C.int .i64 l20[1]? fun x22 =>
   cnd (decide (0 ≤ x4))
   (C.agg 2 a1[(Int.toNat x4)]? fun l23 =>
   C.int .i64 l23[0]? fun x24 =>
   C.int .i64 l23[1]? fun x25 =>
   cnd (xor true ((x21 == x24) && ((x22 == x25) && true)))
   (k1 .ret ⟨[(.lst a0), (.lst a1), (.tup []), (.tup []), (.bool false), (.int .i64 x4), (.lst a0), (.int .i64 (((List.length a0) : Nat) : Int)), (.lst a1), (.int .i64 (((List.length a1) : Nat) : Int)), (.bool false), (.int .i64 x4), (.lst a0), (.int .i64 (((List.length a0) : Nat) : Int)), (.bool true), v9, v10, (.lst a0), (.int .i64 x4), (.fptr (.agg [(.int .i64 x21), (.int .i64 x22)]) 0), (.agg [(.int .i64 x21), (.int .i64 x22)]), (.lst a1), (.int .i64 x4), (.fptr (.agg [(.int .i64 x24), (.int .i64 x25)]) 0), (.agg [(.int .i64 x24), (.int .i64 x25)]), (.bool true)], []⟩)
   (k1 .normal ⟨[(.lst a0), (.lst a1), (.tup []), (.tup []), (.bool b3), (.int .i64 (IntKind.wrap .i64 (x4 + 1))), (.lst a0), (.int .i64 (((List.length a0) : Nat) : Int)), (.lst a1), (.int .i64 (((List.length a1) : Nat) : Int)), (.bool false), (.int .i64 x4), (.lst a0), (.int .i64 (((List.length a0) : Nat) : Int)), (.bool true), (.int .i64 x4), (.int .i64 (IntKind.wrap .i64 (x4 + 1))), (.lst a0), (.int .i64 x4), (.fptr (.agg [(.int .i64 x21), (.int .i64 x22)]) 0), (.agg [(.int .i64 x21), (.int .i64 x22)]), (.lst a1), (.int .i64 x4), (.fptr (.agg [(.int .i64 x24), (.int .i64 x25)]) 0), (.agg [(.int .i64 x24), (.int .i64 x25)]), (.bool false)], []⟩))
   (none))
   (none))
   (k1 (.exit 0) ⟨[(.lst a0), (.lst a1), (.tup []), (.tup []), (.bool b3), (.int .i64 x4), (.lst a0), (.int .i64 (((List.length a0) : Nat) : Int)), (.lst a1), (.int .i64 (((List.length a1) : Nat) : Int)), (.bool false), (.int .i64 x4), (.lst a0), (.int .i64 (((List.length a0) : Nat) : Int)), (.bool false), v9, v10, v11, v12, v13, v14, v15, v16, v17, v18, v19], []⟩))
   (none)
def r21X0_0 (C : Cb) (d : Nat) (a0 : List AV) (a1 : List AV) : St → Ans := fun s26 =>
  cnd ((List.length (St.env s26)) == 26)
   (C.same (St.env s26)[0]? (.lst a0) <|
   C.same (St.env s26)[1]? (.lst a1) <|
   C.same (St.env s26)[2]? (.tup []) <|
   C.same (St.env s26)[3]? (.tup []) <|
   C.bool (St.env s26)[4]? fun b27 =>
   C.int .i64 (St.env s26)[5]? fun x28 =>
   C.same (St.env s26)[6]? (.lst a0) <|
   C.same (St.env s26)[7]? (.int .i64 (((List.length a0) : Nat) : Int)) <|
   C.same (St.env s26)[8]? (.lst a1) <|
   C.same (St.env s26)[9]? (.int .i64 (((List.length a1) : Nat) : Int)) <|
   C.same (St.env s26)[10]? (.bool false) <|
   C.int .i64 (St.env s26)[11]? fun x29 =>
   C.any (St.env s26)[12]? fun v30 =>
   C.int .i64 (St.env s26)[13]? fun x31 =>
   C.bool (St.env s26)[14]? fun b32 =>
   C.any (St.env s26)[15]? fun v33 =>
   C.any (St.env s26)[16]? fun v34 =>
   C.any (St.env s26)[17]? fun v35 =>
   C.any (St.env s26)[18]? fun v36 =>
   C.any (St.env s26)[19]? fun v37 =>
   C.any (St.env s26)[20]? fun v38 =>
   C.any (St.env s26)[21]? fun v39 =>
   C.any (St.env s26)[22]? fun v40 =>
   C.any (St.env s26)[23]? fun v41 =>
   C.any (St.env s26)[24]? fun v42 =>
   C.any (St.env s26)[25]? fun v43 =>
   C.sameH (St.H s26) [] <|
   some (.bool true))
   (none)
def r21E0 (C : Cb) (d : Nat) (a0 : List AV) (a1 : List AV) : St → Ans := fun s2 =>
  cnd ((List.length (St.env s2)) == 26)
   (C.same (St.env s2)[0]? (.lst a0) <|
   C.same (St.env s2)[1]? (.lst a1) <|
   C.same (St.env s2)[2]? (.tup []) <|
   C.same (St.env s2)[3]? (.tup []) <|
   C.bool (St.env s2)[4]? fun b44 =>
   C.int .i64 (St.env s2)[5]? fun x45 =>
   C.same (St.env s2)[6]? (.lst a0) <|
   C.same (St.env s2)[7]? (.int .i64 (((List.length a0) : Nat) : Int)) <|
   C.same (St.env s2)[8]? (.lst a1) <|
   C.same (St.env s2)[9]? (.int .i64 (((List.length a1) : Nat) : Int)) <|
   C.same (St.env s2)[10]? (.bool false) <|
   C.int .i64 (St.env s2)[11]? fun x46 =>
   C.any (St.env s2)[12]? fun v47 =>
   C.int .i64 (St.env s2)[13]? fun x48 =>
   C.bool (St.env s2)[14]? fun b49 =>
   C.any (St.env s2)[15]? fun v50 =>
   C.any (St.env s2)[16]? fun v51 =>
   C.any (St.env s2)[17]? fun v52 =>
   C.int .i64 (St.env s2)[18]? fun x53 =>
   C.any (St.env s2)[19]? fun v54 =>
   C.agg 2 (St.env s2)[20]? fun l55 =>
   C.int .i64 l55[0]? fun x56 =>
   C.int .i64 l55[1]? fun x57 =>
   C.any (St.env s2)[21]? fun v58 =>
   C.int .i64 (St.env s2)[22]? fun x59 =>
   C.any (St.env s2)[23]? fun v60 =>
   C.agg 2 (St.env s2)[24]? fun l61 =>
   C.int .i64 l61[0]? fun x62 =>
   C.int .i64 l61[1]? fun x63 =>
   C.bool (St.env s2)[25]? fun b64 =>
   C.sameH (St.H s2) [] <|
   some (.bool b44))
   (none)
/-- apogee/apogeeref10.Same -/
theorem r21 (C : Cb) (d : Nat) (a0 : List AV) (a1 : List AV) : xcall C M unr d 21 [(.lst a0), (.lst a1)] =
  cnd ((((List.length a0) : Nat) : Int) != (((List.length a1) : Nat) : Int))
   (some (.bool false))
   (C.iter (r21R0 C d a0 a1) 1000000000000000000 ⟨[(.lst a0), (.lst a1), (.tup []), (.tup []), (.bool false), (.int .i64 0), (.lst a0), (.int .i64 (((List.length a0) : Nat) : Int)), (.lst a1), (.int .i64 (((List.length a1) : Nat) : Int)), (.bool false), (.tup []), (.tup []), (.tup []), (.tup []), (.tup []), (.tup []), (.tup []), (.tup []), (.tup []), (.tup []), (.tup []), (.tup []), (.tup []), (.tup []), (.tup [])], []⟩ [0] [r21X0_0 C d a0 a1] (r21E0 C d a0 a1)) := by kernel_rfl
/-- apogee/apogeeref10.Right -/
theorem r26 (C : Cb) (d : Nat) (a0 : Int) (a1 : Int) : xcall C M unr d 26 [(.agg [(.int .i64 a0), (.int .i64 a1)])] =
  cnd (decide (a0 ≥ (-1099511627776)))
   (cnd (decide (a0 ≤ 1099511627776))
   (cnd (decide (a1 ≥ (-1099511627776)))
   (some (.bool (decide (a1 ≤ 1099511627776))))
   (some (.bool false)))
   (some (.bool false)))
   (some (.bool false)) := by kernel_rfl
/-- apogee/apogeelaw12.BoxStays$1 -/
theorem r30 (C : Cb) (d : Nat) (a0 : Int) (a1 : Int) (a2 : Int) (a3 : Int) (a4 : Int) (a5 : Int) : xcall C M unr d 30 [(.agg [(.int .i64 a0), (.int .i64 a1)]), (.fptr (.agg [(.int .i64 a2), (.int .i64 a3), (.int .i64 a4), (.int .i64 a5)]) 0)] =
  some (.agg [(.int .i64 (if (a4 < (if (a2 > a0) then a2 else a0)) then a4 else (if (a2 > a0) then a2 else a0))), (.int .i64 (if (a5 < (if (a3 > a1) then a3 else a1)) then a5 else (if (a3 > a1) then a3 else a1)))]) := by kernel_rfl
/-- apogee/point.Move -/
theorem r32 (C : Cb) (d : Nat) (a0 : Int) (a1 : Int) (a2 : Int) (a3 : Int) : xcall C M unr d 32 [(.agg [(.int .i64 a0), (.int .i64 a1)]), (.int .i64 a2), (.int .i64 a3)] =
  C.tup 2 (pcall M d 48 [(.int .i64 a0), (.int .i64 a2)]) fun l0 =>
  C.int .i64 l0[0]? fun x1 =>
  C.bool l0[1]? fun b2 =>
  C.tup 2 (pcall M d 48 [(.int .i64 a1), (.int .i64 a3)]) fun l3 =>
  C.int .i64 l3[0]? fun x4 =>
  C.bool l3[1]? fun b5 =>
  cnd (!b2)
   (some (.tup [(.agg [(.int .i64 0), (.int .i64 0)]), (.bool false)]))
   (cnd (!b5)
   (some (.tup [(.agg [(.int .i64 0), (.int .i64 0)]), (.bool false)]))
   (C.bool (pcall M d 49 [(.lst [(.agg [(.int .i64 a0), (.int .i64 a1)]), (.agg [(.int .i64 x1), (.int .i64 x4)])])]) fun b6 =>
   cnd (!b6)
   (some (.tup [(.agg [(.int .i64 0), (.int .i64 0)]), (.bool false)]))
   (some (.tup [(.agg [(.int .i64 x1), (.int .i64 x4)]), (.bool true)])))) := by kernel_rfl
/-- apogee/apogeelaw12.of -/
theorem r34 (C : Cb) (d : Nat) (a0 : Int) (a1 : Int) (a2 : Int) (a3 : Int) : xcall C M unr d 34 [(.int .i64 a0), (.int .i64 a1), (.int .i64 a2), (.int .i64 a3)] =
  some (.agg [(.int .i64 a0), (.int .i64 a1), (.int .i64 a2), (.int .i64 a3)]) := by kernel_rfl
/-- apogee/point.Right -/
theorem r35 (C : Cb) (d : Nat) (a0 : Int) (a1 : Int) : xcall C M unr d 35 [(.agg [(.int .i64 a0), (.int .i64 a1)])] =
  C.bool (pcall M d 50 [(.int .i64 a0)]) fun b0 =>
  cnd b0
   (C.bool (pcall M d 50 [(.int .i64 a1)]) fun b1 =>
   some (.bool b1))
   (some (.bool false)) := by kernel_rfl
/-- apogee/fix.Clamp -/
theorem r36 (C : Cb) (d : Nat) (a0 : Int) (a1 : Int) (a2 : Int) : xcall C M unr d 36 [(.int .i64 a0), (.int .i64 a1), (.int .i64 a2)] =
  cnd (decide (a0 < a1))
   (some (.int .i64 a1))
   (cnd (decide (a0 > a2))
   (some (.int .i64 a2))
   (some (.int .i64 a0))) := by kernel_rfl
/-- apogee/point.Turn -/
theorem r39 (C : Cb) (d : Nat) (a0 : Int) (a1 : Int) (a2 : Int) (a3 : Int) (a4 : Int) (a5 : Int) : xcall C M unr d 39 [(.agg [(.int .i64 a0), (.int .i64 a1)]), (.agg [(.int .i64 a2), (.int .i64 a3)]), (.agg [(.int .i64 a4), (.int .i64 a5)])] =
  C.bool (pcall M d 49 [(.lst [(.agg [(.int .i64 a0), (.int .i64 a1)]), (.agg [(.int .i64 a2), (.int .i64 a3)]), (.agg [(.int .i64 a4), (.int .i64 a5)])])]) fun b0 =>
  cnd (!b0)
   (some (.int .i64 0))
   (C.agg 2 (pcall M d 51 [(.int .i64 (IntKind.wrap .i64 (a2 - a0))), (.int .i64 (IntKind.wrap .i64 (a5 - a1)))]) fun l1 =>
   C.int .i64 l1[0]? fun x2 =>
   C.int .u64 l1[1]? fun x3 =>
   C.agg 2 (pcall M d 51 [(.int .i64 (IntKind.wrap .i64 (a3 - a1))), (.int .i64 (IntKind.wrap .i64 (a4 - a0)))]) fun l4 =>
   C.int .i64 l4[0]? fun x5 =>
   C.int .u64 l4[1]? fun x6 =>
   C.int .i64 (pcall M d 52 [(.agg [(.int .i64 x2), (.int .u64 x3)]), (.agg [(.int .i64 x5), (.int .u64 x6)])]) fun x7 =>
   some (.int .i64 x7)) := by kernel_rfl
/-- slices.ContainsFunc[[]apogee/api.Point,apogee/api.Point] -/
theorem r40f63 (C : Cb) (d : Nat) (a0 : List AV) (a1 : AV) : xcall C M unr d 40 [(.lst a0), (.fn 63 [] [])] =
  C.int .i64 (pcall M d 53 [(.lst a0), (.fn 63 [] [])]) fun x0 =>
  some (.bool (decide (x0 ≥ 0))) := by kernel_rfl
/-- apogee/apogeeref10.Meet -/
theorem r42 (C : Cb) (d : Nat) (a0 : Int) (a1 : Int) (a2 : Int) (a3 : Int) (a4 : Int) (a5 : Int) (a6 : Int) (a7 : Int) : xcall C M unr d 42 [(.agg [(.int .i64 a0), (.int .i64 a1)]), (.agg [(.int .i64 a2), (.int .i64 a3)]), (.agg [(.int .i64 a4), (.int .i64 a5)]), (.agg [(.int .i64 a6), (.int .i64 a7)])] =
  C.bool (pcall M d 26 [(.agg [(.int .i64 a0), (.int .i64 a1)])]) fun b0 =>
  cnd (!b0)
   (some (.bool false))
   (C.bool (pcall M d 26 [(.agg [(.int .i64 a2), (.int .i64 a3)])]) fun b1 =>
   cnd (!b1)
   (some (.bool false))
   (C.bool (pcall M d 26 [(.agg [(.int .i64 a4), (.int .i64 a5)])]) fun b2 =>
   cnd (!b2)
   (some (.bool false))
   (C.bool (pcall M d 26 [(.agg [(.int .i64 a6), (.int .i64 a7)])]) fun b3 =>
   cnd (!b3)
   (some (.bool false))
   (C.bool (pcall M d 54 [(.agg [(.int .i64 a0), (.int .i64 a1)]), (.agg [(.int .i64 a4), (.int .i64 a5)]), (.agg [(.int .i64 a6), (.int .i64 a7)])]) fun b4 =>
   cnd b4
   (some (.bool true))
   (C.bool (pcall M d 54 [(.agg [(.int .i64 a2), (.int .i64 a3)]), (.agg [(.int .i64 a4), (.int .i64 a5)]), (.agg [(.int .i64 a6), (.int .i64 a7)])]) fun b5 =>
   cnd b5
   (some (.bool true))
   (C.bool (pcall M d 54 [(.agg [(.int .i64 a4), (.int .i64 a5)]), (.agg [(.int .i64 a0), (.int .i64 a1)]), (.agg [(.int .i64 a2), (.int .i64 a3)])]) fun b6 =>
   cnd b6
   (some (.bool true))
   (C.bool (pcall M d 54 [(.agg [(.int .i64 a6), (.int .i64 a7)]), (.agg [(.int .i64 a0), (.int .i64 a1)]), (.agg [(.int .i64 a2), (.int .i64 a3)])]) fun b7 =>
   cnd b7
   (some (.bool true))
   (C.int .i64 (pcall M d 55 [(.agg [(.int .i64 a0), (.int .i64 a1)]), (.agg [(.int .i64 a2), (.int .i64 a3)]), (.agg [(.int .i64 a4), (.int .i64 a5)])]) fun x8 =>
   C.int .i64 (pcall M d 55 [(.agg [(.int .i64 a0), (.int .i64 a1)]), (.agg [(.int .i64 a2), (.int .i64 a3)]), (.agg [(.int .i64 a6), (.int .i64 a7)])]) fun x9 =>
   cnd (decide ((IntKind.wrap .i64 (x8 * x9)) < 0))
   (C.int .i64 (pcall M d 55 [(.agg [(.int .i64 a4), (.int .i64 a5)]), (.agg [(.int .i64 a6), (.int .i64 a7)]), (.agg [(.int .i64 a0), (.int .i64 a1)])]) fun x10 =>
   C.int .i64 (pcall M d 55 [(.agg [(.int .i64 a4), (.int .i64 a5)]), (.agg [(.int .i64 a6), (.int .i64 a7)]), (.agg [(.int .i64 a2), (.int .i64 a3)])]) fun x11 =>
   some (.bool (decide ((IntKind.wrap .i64 (x10 * x11)) < 0))))
   (some (.bool false)))))))))) := by kernel_rfl
/-- apogee/point.On -/
theorem r47 (C : Cb) (d : Nat) (a0 : Int) (a1 : Int) (a2 : Int) (a3 : Int) (a4 : Int) (a5 : Int) : xcall C M unr d 47 [(.agg [(.int .i64 a0), (.int .i64 a1)]), (.agg [(.int .i64 a2), (.int .i64 a3)]), (.agg [(.int .i64 a4), (.int .i64 a5)])] =
  C.bool (pcall M d 49 [(.lst [(.agg [(.int .i64 a0), (.int .i64 a1)]), (.agg [(.int .i64 a2), (.int .i64 a3)]), (.agg [(.int .i64 a4), (.int .i64 a5)])])]) fun b0 =>
  cnd b0
   (C.int .i64 (pcall M d 39 [(.agg [(.int .i64 a2), (.int .i64 a3)]), (.agg [(.int .i64 a4), (.int .i64 a5)]), (.agg [(.int .i64 a0), (.int .i64 a1)])]) fun x1 =>
   cnd (x1 == 0)
   (C.bool (pcall M d 59 [(.int .i64 a0), (.int .i64 a2), (.int .i64 a4)]) fun b2 =>
   cnd b2
   (C.bool (pcall M d 59 [(.int .i64 a1), (.int .i64 a3), (.int .i64 a5)]) fun b3 =>
   some (.bool b3))
   (some (.bool false)))
   (some (.bool false)))
   (some (.bool false)) := by kernel_rfl
/-- apogee/fix.Add -/
theorem r48 (C : Cb) (d : Nat) (a0 : Int) (a1 : Int) : xcall C M unr d 48 [(.int .i64 a0), (.int .i64 a1)] =
  C.agg 2 (pcall M d 61 [(.int .i64 a0)]) fun l0 =>
  C.int .i64 l0[0]? fun x1 =>
  C.int .u64 l0[1]? fun x2 =>
  C.agg 2 (pcall M d 61 [(.int .i64 a1)]) fun l3 =>
  C.int .i64 l3[0]? fun x4 =>
  C.int .u64 l3[1]? fun x5 =>
  C.tup 2 (pcall M d 62 [(.agg [(.int .i64 x1), (.int .u64 x2)]), (.agg [(.int .i64 x4), (.int .u64 x5)])]) fun l6 =>
  C.agg 2 l6[0]? fun l7 =>
  C.int .i64 l7[0]? fun x8 =>
  C.int .u64 l7[1]? fun x9 =>
  C.bool l6[1]? fun b10 =>
  C.tup 2 (pcall M d 60 [(.agg [(.int .i64 x8), (.int .u64 x9)]), (.bool b10)]) fun l11 =>
  C.int .i64 l11[0]? fun x12 =>
  C.bool l11[1]? fun b13 =>
  some (.tup [(.int .i64 x12), (.bool b13)]) := by kernel_rfl
/-- apogee/point.right -/
theorem r49 (C : Cb) (d : Nat) (a0 : List AV) : xcall C M unr d 49 [(.lst a0)] =
  C.bool (pcall M d 40 [(.lst a0), (.fn 63 [] [])]) fun b0 =>
  some (.bool (!b0)) := by kernel_rfl
/-- apogee/point.within -/
theorem r50 (C : Cb) (d : Nat) (a0 : Int) : xcall C M unr d 50 [(.int .i64 a0)] =
  cnd (decide (a0 ≥ (-1099511627776)))
   (some (.bool (decide (a0 ≤ 1099511627776))))
   (some (.bool false)) := by kernel_rfl
/-- apogee/wide.Mul -/
theorem r51 (C : Cb) (d : Nat) (a0 : Int) (a1 : Int) : xcall C M unr d 51 [(.int .i64 a0), (.int .i64 a1)] =
  C.tup 2 (pcall M d 64 [(.int .u64 (IntKind.wrap .u64 a0)), (.int .u64 (IntKind.wrap .u64 a1))]) fun l0 =>
  C.int .u64 l0[0]? fun x1 =>
  C.int .u64 l0[1]? fun x2 =>
  cnd (decide (a0 < 0))
   (cnd (decide (a1 < 0))
   (some (.agg [(.int .i64 (IntKind.wrap .i64 (IntKind.wrap .u64 ((IntKind.wrap .u64 (x1 - (IntKind.wrap .u64 a1))) - (IntKind.wrap .u64 a0))))), (.int .u64 x2)]))
   (some (.agg [(.int .i64 (IntKind.wrap .i64 (IntKind.wrap .u64 (x1 - (IntKind.wrap .u64 a1))))), (.int .u64 x2)])))
   (cnd (decide (a1 < 0))
   (some (.agg [(.int .i64 (IntKind.wrap .i64 (IntKind.wrap .u64 (x1 - (IntKind.wrap .u64 a0))))), (.int .u64 x2)]))
   (some (.agg [(.int .i64 (IntKind.wrap .i64 x1)), (.int .u64 x2)]))) := by kernel_rfl
/-- (apogee/wide.Wide).Cmp -/
theorem r52 (C : Cb) (d : Nat) (a0 : Int) (a1 : Int) (a2 : Int) (a3 : Int) : xcall C M unr d 52 [(.agg [(.int .i64 a0), (.int .u64 a1)]), (.agg [(.int .i64 a2), (.int .u64 a3)])] =
  C.int .i64 (pcall M d 66 [(.int .i64 a0), (.int .i64 a2)]) fun x0 =>
  C.int .i64 (pcall M d 67 [(.int .u64 a1), (.int .u64 a3)]) fun x1 =>
  C.int .i64 (pcall M d 65 [(.lst [(.int .i64 x0), (.int .i64 x1)])]) fun x2 =>
  some (.int .i64 x2) := by kernel_rfl
def r53f63R0 (C : Cb) (d : Nat) (a0 : List AV) : St → (Ex → St → Ans) → Ans := fun s0 k1 =>
  cnd ((List.length (St.env s0)) == 19)
   (C.same (St.env s0)[0]? (.lst a0) <|
   C.same (St.env s0)[1]? (.fn 63 [] []) <|
   C.same (St.env s0)[2]? (.tup []) <|
   C.same (St.env s0)[3]? (.tup []) <|
   C.int .i64 (St.env s0)[4]? fun x3 =>
   C.any (St.env s0)[5]? fun v4 =>
   C.same (St.env s0)[6]? (.lst a0) <|
   C.same (St.env s0)[7]? (.int .i64 (((List.length a0) : Nat) : Int)) <|
   C.int .i64 (St.env s0)[8]? fun x5 =>
   C.any (St.env s0)[9]? fun v6 =>
   C.any (St.env s0)[10]? fun v7 =>
   C.any (St.env s0)[11]? fun v8 =>
   C.any (St.env s0)[12]? fun v9 =>
   C.any (St.env s0)[13]? fun v10 =>
   C.any (St.env s0)[14]? fun v11 =>
   C.any (St.env s0)[15]? fun v12 =>
   C.any (St.env s0)[16]? fun v13 =>
   C.any (St.env s0)[17]? fun v14 =>
   C.any (St.env s0)[18]? fun v15 =>
   C.sameH (St.H s0) [] <|
   cnd (decide (x5 < (((List.length a0) : Nat) : Int)))
   (cnd (decide (0 ≤ x5))
   (C.agg 2 a0[(Int.toNat x5)]? fun l16 =>
   C.int .i64 l16[0]? fun x17 =>
   C.int .i64 l16[1]? fun x18 =>
   C.bool (pcall M d 63 [(.agg [(.int .i64 x17), (.int .i64 x18)])]) fun b19 =>
   cnd b19
   (k1 .ret ⟨[(.lst a0), (.fn 63 [] []), (.tup []), (.tup []), (.int .i64 x5), (.int .i64 x5), (.lst a0), (.int .i64 (((List.length a0) : Nat) : Int)), (.int .i64 x5), (.bool true), (.int .i64 x5), (.fn 63 [] []), (.lst a0), (.int .i64 x5), (.fptr (.agg [(.int .i64 x17), (.int .i64 x18)]) 0), (.agg [(.int .i64 x17), (.int .i64 x18)]), (.bool true), (.int .i64 x5), v15], []⟩)
   (k1 .normal ⟨[(.lst a0), (.fn 63 [] []), (.tup []), (.tup []), (.int .i64 x3), (.int .i64 x5), (.lst a0), (.int .i64 (((List.length a0) : Nat) : Int)), (.int .i64 (IntKind.wrap .i64 (x5 + 1))), (.bool true), (.int .i64 x5), (.fn 63 [] []), (.lst a0), (.int .i64 x5), (.fptr (.agg [(.int .i64 x17), (.int .i64 x18)]) 0), (.agg [(.int .i64 x17), (.int .i64 x18)]), (.bool false), v14, (.int .i64 (IntKind.wrap .i64 (x5 + 1)))], []⟩))
   (none))
   (k1 (.exit 0) ⟨[(.lst a0), (.fn 63 [] []), (.tup []), (.tup []), (.int .i64 x3), v4, (.lst a0), (.int .i64 (((List.length a0) : Nat) : Int)), (.int .i64 x5), (.bool false), v7, v8, v9, v10, v11, v12, v13, v14, v15], []⟩))
   (none)
def r53f63X0_0 (C : Cb) (d : Nat) (a0 : List AV) : St → Ans := fun s20 =>
  cnd ((List.length (St.env s20)) == 19)
   (C.same (St.env s20)[0]? (.lst a0) <|
   C.same (St.env s20)[1]? (.fn 63 [] []) <|
   C.same (St.env s20)[2]? (.tup []) <|
   C.same (St.env s20)[3]? (.tup []) <|
   C.int .i64 (St.env s20)[4]? fun x21 =>
   C.any (St.env s20)[5]? fun v22 =>
   C.same (St.env s20)[6]? (.lst a0) <|
   C.same (St.env s20)[7]? (.int .i64 (((List.length a0) : Nat) : Int)) <|
   C.int .i64 (St.env s20)[8]? fun x23 =>
   C.any (St.env s20)[9]? fun v24 =>
   C.any (St.env s20)[10]? fun v25 =>
   C.any (St.env s20)[11]? fun v26 =>
   C.any (St.env s20)[12]? fun v27 =>
   C.any (St.env s20)[13]? fun v28 =>
   C.any (St.env s20)[14]? fun v29 =>
   C.any (St.env s20)[15]? fun v30 =>
   C.any (St.env s20)[16]? fun v31 =>
   C.any (St.env s20)[17]? fun v32 =>
   C.any (St.env s20)[18]? fun v33 =>
   C.sameH (St.H s20) [] <|
   some (.int .i64 (-1)))
   (none)
def r53f63E0 (C : Cb) (d : Nat) (a0 : List AV) : St → Ans := fun s2 =>
  cnd ((List.length (St.env s2)) == 19)
   (C.same (St.env s2)[0]? (.lst a0) <|
   C.same (St.env s2)[1]? (.fn 63 [] []) <|
   C.same (St.env s2)[2]? (.tup []) <|
   C.same (St.env s2)[3]? (.tup []) <|
   C.int .i64 (St.env s2)[4]? fun x34 =>
   C.int .i64 (St.env s2)[5]? fun x35 =>
   C.same (St.env s2)[6]? (.lst a0) <|
   C.same (St.env s2)[7]? (.int .i64 (((List.length a0) : Nat) : Int)) <|
   C.int .i64 (St.env s2)[8]? fun x36 =>
   C.any (St.env s2)[9]? fun v37 =>
   C.int .i64 (St.env s2)[10]? fun x38 =>
   C.any (St.env s2)[11]? fun v39 =>
   C.any (St.env s2)[12]? fun v40 =>
   C.int .i64 (St.env s2)[13]? fun x41 =>
   C.any (St.env s2)[14]? fun v42 =>
   C.agg 2 (St.env s2)[15]? fun l43 =>
   C.int .i64 l43[0]? fun x44 =>
   C.int .i64 l43[1]? fun x45 =>
   C.bool (St.env s2)[16]? fun b46 =>
   C.int .i64 (St.env s2)[17]? fun x47 =>
   C.any (St.env s2)[18]? fun v48 =>
   C.sameH (St.H s2) [] <|
   some (.int .i64 x34))
   (none)
/-- slices.IndexFunc[[]apogee/api.Point,apogee/api.Point] -/
theorem r53f63 (C : Cb) (d : Nat) (a0 : List AV) (a1 : AV) : xcall C M unr d 53 [(.lst a0), (.fn 63 [] [])] =
  C.iter (r53f63R0 C d a0) 1000000000000000000 ⟨[(.lst a0), (.fn 63 [] []), (.tup []), (.tup []), (.int .i64 0), (.tup []), (.lst a0), (.int .i64 (((List.length a0) : Nat) : Int)), (.int .i64 0), (.tup []), (.tup []), (.tup []), (.tup []), (.tup []), (.tup []), (.tup []), (.tup []), (.tup []), (.tup [])], []⟩ [0] [r53f63X0_0 C d a0] (r53f63E0 C d a0) := by kernel_rfl
/-- apogee/apogeeref10.On -/
theorem r54 (C : Cb) (d : Nat) (a0 : Int) (a1 : Int) (a2 : Int) (a3 : Int) (a4 : Int) (a5 : Int) : xcall C M unr d 54 [(.agg [(.int .i64 a0), (.int .i64 a1)]), (.agg [(.int .i64 a2), (.int .i64 a3)]), (.agg [(.int .i64 a4), (.int .i64 a5)])] =
  C.bool (pcall M d 26 [(.agg [(.int .i64 a2), (.int .i64 a3)])]) fun b0 =>
  cnd (!b0)
   (some (.bool false))
   (C.bool (pcall M d 26 [(.agg [(.int .i64 a4), (.int .i64 a5)])]) fun b1 =>
   cnd (!b1)
   (some (.bool false))
   (C.bool (pcall M d 26 [(.agg [(.int .i64 a0), (.int .i64 a1)])]) fun b2 =>
   cnd (!b2)
   (some (.bool false))
   (C.int .i64 (pcall M d 55 [(.agg [(.int .i64 a2), (.int .i64 a3)]), (.agg [(.int .i64 a4), (.int .i64 a5)]), (.agg [(.int .i64 a0), (.int .i64 a1)])]) fun x3 =>
   cnd (x3 != 0)
   (some (.bool false))
   (cnd (decide (a0 ≥ (if (a4 < a2) then a4 else a2)))
   (cnd (decide (a0 ≤ (if (a4 > a2) then a4 else a2)))
   (cnd (decide (a1 ≥ (if (a5 < a3) then a5 else a3)))
   (some (.bool (decide (a1 ≤ (if (a5 > a3) then a5 else a3)))))
   (some (.bool false)))
   (some (.bool false)))
   (some (.bool false)))))) := by kernel_rfl
/-- apogee/apogeeref10.Turn -/
theorem r55 (C : Cb) (d : Nat) (a0 : Int) (a1 : Int) (a2 : Int) (a3 : Int) (a4 : Int) (a5 : Int) : xcall C M unr d 55 [(.agg [(.int .i64 a0), (.int .i64 a1)]), (.agg [(.int .i64 a2), (.int .i64 a3)]), (.agg [(.int .i64 a4), (.int .i64 a5)])] =
  C.bool (pcall M d 26 [(.agg [(.int .i64 a0), (.int .i64 a1)])]) fun b0 =>
  cnd (!b0)
   (some (.int .i64 0))
   (C.bool (pcall M d 26 [(.agg [(.int .i64 a2), (.int .i64 a3)])]) fun b1 =>
   cnd (!b1)
   (some (.int .i64 0))
   (C.bool (pcall M d 26 [(.agg [(.int .i64 a4), (.int .i64 a5)])]) fun b2 =>
   cnd (!b2)
   (some (.int .i64 0))
   (C.agg 2 (pcall M d 69 [(.int .i64 (IntKind.wrap .i64 (a2 - a0))), (.int .i64 (IntKind.wrap .i64 (a5 - a1)))]) fun l3 =>
   C.int .i64 l3[0]? fun x4 =>
   C.int .u64 l3[1]? fun x5 =>
   C.agg 2 (pcall M d 69 [(.int .i64 (IntKind.wrap .i64 (a3 - a1))), (.int .i64 (IntKind.wrap .i64 (a4 - a0)))]) fun l6 =>
   C.int .i64 l6[0]? fun x7 =>
   C.int .u64 l6[1]? fun x8 =>
   C.int .i64 (pcall M d 68 [(.agg [(.int .i64 x4), (.int .u64 x5)]), (.agg [(.int .i64 x7), (.int .u64 x8)])]) fun x9 =>
   some (.int .i64 x9)))) := by kernel_rfl
/-- apogee/point.between -/
theorem r59 (C : Cb) (d : Nat) (a0 : Int) (a1 : Int) (a2 : Int) : xcall C M unr d 59 [(.int .i64 a0), (.int .i64 a1), (.int .i64 a2)] =
  cnd (decide ((if (a2 < a1) then a2 else a1) ≤ a0))
   (some (.bool (decide (a0 ≤ (if (a2 > a1) then a2 else a1)))))
   (some (.bool false)) := by kernel_rfl
/-- apogee/fix.told -/
theorem r60 (C : Cb) (d : Nat) (a0 : Int) (a1 : Int) (a2 : Bool) : xcall C M unr d 60 [(.agg [(.int .i64 a0), (.int .u64 a1)]), (.bool a2)] =
  cnd (!a2)
   (some (.tup [(.int .i64 0), (.bool false)]))
   (C.tup 2 (pcall M d 72 [(.agg [(.int .i64 a0), (.int .u64 a1)])]) fun l0 =>
   C.int .i64 l0[0]? fun x1 =>
   C.bool l0[1]? fun b2 =>
   some (.tup [(.int .i64 x1), (.bool b2)])) := by kernel_rfl
/-- apogee/wide.Of -/
theorem r61 (C : Cb) (d : Nat) (a0 : Int) : xcall C M unr d 61 [(.int .i64 a0)] =
  some (.agg [(.int .i64 (Int.fdiv a0 (2 ^ (min (Int.toNat 63) 64)))), (.int .u64 (IntKind.wrap .u64 a0))]) := by kernel_rfl
/-- (apogee/wide.Wide).Add -/
theorem r62 (C : Cb) (d : Nat) (a0 : Int) (a1 : Int) (a2 : Int) (a3 : Int) : xcall C M unr d 62 [(.agg [(.int .i64 a0), (.int .u64 a1)]), (.agg [(.int .i64 a2), (.int .u64 a3)])] =
  C.tup 2 (add64E [(.int .u64 a1), (.int .u64 a3), (.int .u64 0)]) fun l0 =>
  C.int .u64 l0[0]? fun x1 =>
  C.int .u64 l0[1]? fun x2 =>
  C.tup 2 (add64E [(.int .u64 (IntKind.wrap .u64 a0)), (.int .u64 (IntKind.wrap .u64 a2)), (.int .u64 x2)]) fun l3 =>
  C.int .u64 l3[0]? fun x4 =>
  C.int .u64 l3[1]? fun x5 =>
  cnd (decide ((bits .and .i64 (bits .xor .i64 a0 (IntKind.wrap .i64 x4)) (bits .xor .i64 a2 (IntKind.wrap .i64 x4))) < 0))
   (some (.tup [(.agg [(.int .i64 0), (.int .u64 0)]), (.bool false)]))
   (some (.tup [(.agg [(.int .i64 (IntKind.wrap .i64 x4)), (.int .u64 x1)]), (.bool true)])) := by kernel_rfl
/-- apogee/point.right$1 -/
theorem r63 (C : Cb) (d : Nat) (a0 : Int) (a1 : Int) : xcall C M unr d 63 [(.agg [(.int .i64 a0), (.int .i64 a1)])] =
  C.bool (pcall M d 35 [(.agg [(.int .i64 a0), (.int .i64 a1)])]) fun b0 =>
  some (.bool (!b0)) := by kernel_rfl
/-- math/bits.Mul64 -/
theorem r64 (C : Cb) (d : Nat) (a0 : Int) (a1 : Int) : xcall C M unr d 64 [(.int .u64 a0), (.int .u64 a1)] =
  some (.tup [(.int .u64 (IntKind.wrap .u64 ((IntKind.wrap .u64 ((IntKind.wrap .u64 ((Int.fdiv a0 (2 ^ (min (Int.toNat 32) 64))) * (Int.fdiv a1 (2 ^ (min (Int.toNat 32) 64))))) + (Int.fdiv (IntKind.wrap .u64 ((IntKind.wrap .u64 ((Int.fdiv a0 (2 ^ (min (Int.toNat 32) 64))) * (bits .and .u64 a1 4294967295))) + (Int.fdiv (IntKind.wrap .u64 ((bits .and .u64 a0 4294967295) * (bits .and .u64 a1 4294967295))) (2 ^ (min (Int.toNat 32) 64))))) (2 ^ (min (Int.toNat 32) 64))))) + (Int.fdiv (IntKind.wrap .u64 ((bits .and .u64 (IntKind.wrap .u64 ((IntKind.wrap .u64 ((Int.fdiv a0 (2 ^ (min (Int.toNat 32) 64))) * (bits .and .u64 a1 4294967295))) + (Int.fdiv (IntKind.wrap .u64 ((bits .and .u64 a0 4294967295) * (bits .and .u64 a1 4294967295))) (2 ^ (min (Int.toNat 32) 64))))) 4294967295) + (IntKind.wrap .u64 ((bits .and .u64 a0 4294967295) * (Int.fdiv a1 (2 ^ (min (Int.toNat 32) 64))))))) (2 ^ (min (Int.toNat 32) 64)))))), (.int .u64 (IntKind.wrap .u64 (a0 * a1)))]) := by kernel_rfl
def r65R0 (C : Cb) (d : Nat) (a0 : List AV) : St → (Ex → St → Ans) → Ans := fun s0 k1 =>
  cnd ((List.length (St.env s0)) == 18)
   (C.same (St.env s0)[0]? (.lst a0) <|
   C.same (St.env s0)[1]? (.tup []) <|
   C.int .i64 (St.env s0)[2]? fun x3 =>
   C.same (St.env s0)[3]? (.int .i64 0) <|
   C.same (St.env s0)[4]? (.tup []) <|
   C.any (St.env s0)[5]? fun v4 =>
   C.same (St.env s0)[6]? (.lst a0) <|
   C.same (St.env s0)[7]? (.int .i64 (((List.length a0) : Nat) : Int)) <|
   C.int .i64 (St.env s0)[8]? fun x5 =>
   C.any (St.env s0)[9]? fun v6 =>
   C.any (St.env s0)[10]? fun v7 =>
   C.any (St.env s0)[11]? fun v8 =>
   C.any (St.env s0)[12]? fun v9 =>
   C.any (St.env s0)[13]? fun v10 =>
   C.any (St.env s0)[14]? fun v11 =>
   C.any (St.env s0)[15]? fun v12 =>
   C.any (St.env s0)[16]? fun v13 =>
   C.same (St.env s0)[17]? (.tup []) <|
   C.sameH (St.H s0) [] <|
   cnd (decide (x5 < (((List.length a0) : Nat) : Int)))
   (cnd (decide (0 ≤ x5))
   (C.int .i64 a0[(Int.toNat x5)]? fun x14 =>
   cnd (x14 != 0)
   (k1 .ret ⟨[(.lst a0), (.tup []), (.int .i64 x14), (.int .i64 0), (.tup []), (.int .i64 x14), (.lst a0), (.int .i64 (((List.length a0) : Nat) : Int)), (.int .i64 x5), (.bool true), (.fptr (.int .i64 x14) 0), (.int .i64 x14), (.int .i64 x14), (.int .i64 0), (.bool true), (.int .i64 x14), v13, (.tup [])], []⟩)
   (k1 .normal ⟨[(.lst a0), (.tup []), (.int .i64 x3), (.int .i64 0), (.tup []), (.int .i64 x14), (.lst a0), (.int .i64 (((List.length a0) : Nat) : Int)), (.int .i64 (IntKind.wrap .i64 (x5 + 1))), (.bool true), (.fptr (.int .i64 x14) 0), (.int .i64 x14), (.int .i64 x14), (.int .i64 0), (.bool false), v12, (.int .i64 (IntKind.wrap .i64 (x5 + 1))), (.tup [])], []⟩))
   (none))
   (k1 (.exit 0) ⟨[(.lst a0), (.tup []), (.int .i64 x3), (.int .i64 0), (.tup []), v4, (.lst a0), (.int .i64 (((List.length a0) : Nat) : Int)), (.int .i64 x5), (.bool false), v7, v8, v9, v10, v11, v12, v13, (.tup [])], []⟩))
   (none)
def r65X0_0 (C : Cb) (d : Nat) (a0 : List AV) : St → Ans := fun s15 =>
  cnd ((List.length (St.env s15)) == 18)
   (C.same (St.env s15)[0]? (.lst a0) <|
   C.same (St.env s15)[1]? (.tup []) <|
   C.int .i64 (St.env s15)[2]? fun x16 =>
   C.same (St.env s15)[3]? (.int .i64 0) <|
   C.same (St.env s15)[4]? (.tup []) <|
   C.any (St.env s15)[5]? fun v17 =>
   C.same (St.env s15)[6]? (.lst a0) <|
   C.same (St.env s15)[7]? (.int .i64 (((List.length a0) : Nat) : Int)) <|
   C.int .i64 (St.env s15)[8]? fun x18 =>
   C.any (St.env s15)[9]? fun v19 =>
   C.any (St.env s15)[10]? fun v20 =>
   C.any (St.env s15)[11]? fun v21 =>
   C.any (St.env s15)[12]? fun v22 =>
   C.any (St.env s15)[13]? fun v23 =>
   C.any (St.env s15)[14]? fun v24 =>
   C.any (St.env s15)[15]? fun v25 =>
   C.any (St.env s15)[16]? fun v26 =>
   C.same (St.env s15)[17]? (.tup []) <|
   C.sameH (St.H s15) [] <|
   some (.int .i64 0))
   (none)
def r65E0 (C : Cb) (d : Nat) (a0 : List AV) : St → Ans := fun s2 =>
  cnd ((List.length (St.env s2)) == 18)
   (C.same (St.env s2)[0]? (.lst a0) <|
   C.same (St.env s2)[1]? (.tup []) <|
   C.int .i64 (St.env s2)[2]? fun x27 =>
   C.same (St.env s2)[3]? (.int .i64 0) <|
   C.same (St.env s2)[4]? (.tup []) <|
   C.int .i64 (St.env s2)[5]? fun x28 =>
   C.same (St.env s2)[6]? (.lst a0) <|
   C.same (St.env s2)[7]? (.int .i64 (((List.length a0) : Nat) : Int)) <|
   C.int .i64 (St.env s2)[8]? fun x29 =>
   C.any (St.env s2)[9]? fun v30 =>
   C.any (St.env s2)[10]? fun v31 =>
   C.int .i64 (St.env s2)[11]? fun x32 =>
   C.int .i64 (St.env s2)[12]? fun x33 =>
   C.int .i64 (St.env s2)[13]? fun x34 =>
   C.bool (St.env s2)[14]? fun b35 =>
   C.int .i64 (St.env s2)[15]? fun x36 =>
   C.any (St.env s2)[16]? fun v37 =>
   C.same (St.env s2)[17]? (.tup []) <|
   C.sameH (St.H s2) [] <|
   some (.int .i64 x27))
   (none)
/-- cmp.Or[int] -/
theorem r65 (C : Cb) (d : Nat) (a0 : List AV) : xcall C M unr d 65 [(.lst a0)] =
  C.iter (r65R0 C d a0) 1000000000000000000 ⟨[(.lst a0), (.tup []), (.int .i64 0), (.int .i64 0), (.tup []), (.tup []), (.lst a0), (.int .i64 (((List.length a0) : Nat) : Int)), (.int .i64 0), (.tup []), (.tup []), (.tup []), (.tup []), (.tup []), (.tup []), (.tup []), (.tup []), (.tup [])], []⟩ [0] [r65X0_0 C d a0] (r65E0 C d a0) := by kernel_rfl
/-- cmp.Compare[int64] -/
theorem r66 (C : Cb) (d : Nat) (a0 : Int) (a1 : Int) : xcall C M unr d 66 [(.int .i64 a0), (.int .i64 a1)] =
  C.bool (pcall M d 74 [(.int .i64 a0)]) fun b0 =>
  C.bool (pcall M d 74 [(.int .i64 a1)]) fun b1 =>
  cnd b0
   (cnd b1
   (some (.int .i64 0))
   (some (.int .i64 (-1))))
   (cnd b1
   (some (.int .i64 1))
   (cnd (decide (a0 < a1))
   (some (.int .i64 (-1)))
   (cnd (decide (a0 > a1))
   (some (.int .i64 1))
   (some (.int .i64 0))))) := by kernel_rfl
/-- cmp.Compare[uint64] -/
theorem r67 (C : Cb) (d : Nat) (a0 : Int) (a1 : Int) : xcall C M unr d 67 [(.int .u64 a0), (.int .u64 a1)] =
  C.bool (pcall M d 75 [(.int .u64 a0)]) fun b0 =>
  C.bool (pcall M d 75 [(.int .u64 a1)]) fun b1 =>
  cnd b0
   (cnd b1
   (some (.int .i64 0))
   (some (.int .i64 (-1))))
   (cnd b1
   (some (.int .i64 1))
   (cnd (decide (a0 < a1))
   (some (.int .i64 (-1)))
   (cnd (decide (a0 > a1))
   (some (.int .i64 1))
   (some (.int .i64 0))))) := by kernel_rfl
/-- apogee/apogeeref01.Cmp -/
theorem r68 (C : Cb) (d : Nat) (a0 : Int) (a1 : Int) (a2 : Int) (a3 : Int) : xcall C M unr d 68 [(.agg [(.int .i64 a0), (.int .u64 a1)]), (.agg [(.int .i64 a2), (.int .u64 a3)])] =
  cnd (decide (a0 < a2))
   (some (.int .i64 (-1)))
   (cnd (a0 == a2)
   (cnd (decide (a1 < a3))
   (some (.int .i64 (-1)))
   (cnd (xor false ((a0 == a2) && ((a1 == a3) && true)))
   (some (.int .i64 0))
   (some (.int .i64 1))))
   (cnd (xor false ((a0 == a2) && ((a1 == a3) && true)))
   (some (.int .i64 0))
   (some (.int .i64 1)))) := by kernel_rfl
def r69R0 (C : Cb) (d : Nat) (a0 : Int) (a1 : Int) (v0 : AV) (x3 : Int) (x4 : Int) (v5 : AV) (v9 : AV) : St → (Ex → St → Ans) → Ans := fun s13 k14 =>
  cnd ((List.length (St.env s13)) == 36)
   (C.same (St.env s13)[0]? (.int .i64 a0) <|
   C.same (St.env s13)[1]? (.int .i64 a1) <|
   C.same (St.env s13)[2]? (.tup []) <|
   C.same (St.env s13)[3]? (.tup []) <|
   C.same (St.env s13)[4]? v0 <|
   C.same (St.env s13)[5]? v5 <|
   C.same (St.env s13)[6]? v9 <|
   C.same (St.env s13)[7]? (.int .u64 (IntKind.wrap .u64 a1)) <|
   C.int .i64 (St.env s13)[8]? fun x16 =>
   C.same (St.env s13)[9]? (.int .i64 a0) <|
   C.same (St.env s13)[10]? (.agg [(.int .i64 x3), (.int .u64 x4)]) <|
   C.same (St.env s13)[11]? (.agg [(.int .i64 0), (.int .u64 0)]) <|
   C.same (St.env s13)[12]? (.int .i64 a1) <|
   C.same (St.env s13)[13]? (.int .u64 (IntKind.wrap .u64 a1)) <|
   C.any (St.env s13)[14]? fun v17 =>
   C.any (St.env s13)[15]? fun v18 =>
   C.any (St.env s13)[16]? fun v19 =>
   C.any (St.env s13)[17]? fun v20 =>
   C.any (St.env s13)[18]? fun v21 =>
   C.any (St.env s13)[19]? fun v22 =>
   C.any (St.env s13)[20]? fun v23 =>
   C.any (St.env s13)[21]? fun v24 =>
   C.any (St.env s13)[22]? fun v25 =>
   C.any (St.env s13)[23]? fun v26 =>
   C.any (St.env s13)[24]? fun v27 =>
   C.any (St.env s13)[25]? fun v28 =>
   C.any (St.env s13)[26]? fun v29 =>
   C.any (St.env s13)[27]? fun v30 =>
   C.any (St.env s13)[28]? fun v31 =>
   C.same (St.env s13)[29]? (.tup []) <|
   C.same (St.env s13)[30]? (.tup []) <|
   C.same (St.env s13)[31]? (.tup []) <|
   C.same (St.env s13)[32]? (.tup []) <|
   C.same (St.env s13)[33]? (.tup []) <|
   C.same (St.env s13)[34]? (.tup []) <|
   C.same (St.env s13)[35]? (.tup []) <|
   cnd (decide (x16 < 64))
   (cnd (decide (x16 < 0))
   (none)
   (cnd ((bits .and .u64 (Int.fdiv (IntKind.wrap .u64 a1) (2 ^ (min (Int.toNat x16) 64))) 1) == 1)
   (C.hop (St.H s13) (.load true 2 (.v v9)) fun v32 h33 =>
   C.agg 2 (some v32) fun l34 =>
   C.int .i64 l34[0]? fun x35 =>
   C.int .u64 l34[1]? fun x36 =>
   C.hop h33 (.load true 2 (.v v5)) fun v37 h38 =>
   C.agg 2 (some v37) fun l39 =>
   C.int .i64 l39[0]? fun x40 =>
   C.int .u64 l39[1]? fun x41 =>
   C.agg 2 (pcall M d 77 [(.agg [(.int .i64 x35), (.int .u64 x36)]), (.agg [(.int .i64 x40), (.int .u64 x41)])]) fun l42 =>
   C.int .i64 l42[0]? fun x43 =>
   C.int .u64 l42[1]? fun x44 =>
   C.hop h38 (.store 2 (.v v9) (.v (.agg [(.int .i64 x43), (.int .u64 x44)]))) fun v45 h46 =>
   C.hop h46 (.load true 2 (.v v5)) fun v47 h48 =>
   C.agg 2 (some v47) fun l49 =>
   C.int .i64 l49[0]? fun x50 =>
   C.int .u64 l49[1]? fun x51 =>
   C.hop h48 (.load true 2 (.v v5)) fun v52 h53 =>
   C.agg 2 (some v52) fun l54 =>
   C.int .i64 l54[0]? fun x55 =>
   C.int .u64 l54[1]? fun x56 =>
   C.agg 2 (pcall M d 77 [(.agg [(.int .i64 x50), (.int .u64 x51)]), (.agg [(.int .i64 x55), (.int .u64 x56)])]) fun l57 =>
   C.int .i64 l57[0]? fun x58 =>
   C.int .u64 l57[1]? fun x59 =>
   C.hop h53 (.store 2 (.v v5) (.v (.agg [(.int .i64 x58), (.int .u64 x59)]))) fun v60 h61 =>
   k14 .normal ⟨[(.int .i64 a0), (.int .i64 a1), (.tup []), (.tup []), v0, v5, v9, (.int .u64 (IntKind.wrap .u64 a1)), (.int .i64 (IntKind.wrap .i64 (x16 + 1))), (.int .i64 a0), (.agg [(.int .i64 x3), (.int .u64 x4)]), (.agg [(.int .i64 0), (.int .u64 0)]), (.int .i64 a1), (.int .u64 (IntKind.wrap .u64 a1)), (.int .i64 x16), (.bool true), (.int .i64 x16), (.int .i64 (IntKind.wrap .i64 (x16 + 1))), (.int .u64 (IntKind.wrap .u64 a1)), (.int .i64 x16), (.int .u64 (Int.fdiv (IntKind.wrap .u64 a1) (2 ^ (min (Int.toNat x16) 64)))), (.int .u64 (bits .and .u64 (Int.fdiv (IntKind.wrap .u64 a1) (2 ^ (min (Int.toNat x16) 64))) 1)), (.bool true), (.agg [(.int .i64 x35), (.int .u64 x36)]), (.agg [(.int .i64 x40), (.int .u64 x41)]), (.agg [(.int .i64 x43), (.int .u64 x44)]), (.agg [(.int .i64 x50), (.int .u64 x51)]), (.agg [(.int .i64 x55), (.int .u64 x56)]), (.agg [(.int .i64 x58), (.int .u64 x59)]), (.tup []), (.tup []), (.tup []), (.tup []), (.tup []), (.tup []), (.tup [])], h61⟩)
   (C.hop (St.H s13) (.load true 2 (.v v5)) fun v62 h63 =>
   C.agg 2 (some v62) fun l64 =>
   C.int .i64 l64[0]? fun x65 =>
   C.int .u64 l64[1]? fun x66 =>
   C.hop h63 (.load true 2 (.v v5)) fun v67 h68 =>
   C.agg 2 (some v67) fun l69 =>
   C.int .i64 l69[0]? fun x70 =>
   C.int .u64 l69[1]? fun x71 =>
   C.agg 2 (pcall M d 77 [(.agg [(.int .i64 x65), (.int .u64 x66)]), (.agg [(.int .i64 x70), (.int .u64 x71)])]) fun l72 =>
   C.int .i64 l72[0]? fun x73 =>
   C.int .u64 l72[1]? fun x74 =>
   C.hop h68 (.store 2 (.v v5) (.v (.agg [(.int .i64 x73), (.int .u64 x74)]))) fun v75 h76 =>
   k14 .normal ⟨[(.int .i64 a0), (.int .i64 a1), (.tup []), (.tup []), v0, v5, v9, (.int .u64 (IntKind.wrap .u64 a1)), (.int .i64 (IntKind.wrap .i64 (x16 + 1))), (.int .i64 a0), (.agg [(.int .i64 x3), (.int .u64 x4)]), (.agg [(.int .i64 0), (.int .u64 0)]), (.int .i64 a1), (.int .u64 (IntKind.wrap .u64 a1)), (.int .i64 x16), (.bool true), (.int .i64 x16), (.int .i64 (IntKind.wrap .i64 (x16 + 1))), (.int .u64 (IntKind.wrap .u64 a1)), (.int .i64 x16), (.int .u64 (Int.fdiv (IntKind.wrap .u64 a1) (2 ^ (min (Int.toNat x16) 64)))), (.int .u64 (bits .and .u64 (Int.fdiv (IntKind.wrap .u64 a1) (2 ^ (min (Int.toNat x16) 64))) 1)), (.bool false), v26, v27, v28, (.agg [(.int .i64 x65), (.int .u64 x66)]), (.agg [(.int .i64 x70), (.int .u64 x71)]), (.agg [(.int .i64 x73), (.int .u64 x74)]), (.tup []), (.tup []), (.tup []), (.tup []), (.tup []), (.tup []), (.tup [])], h76⟩)))
   (k14 (.exit 0) ⟨[(.int .i64 a0), (.int .i64 a1), (.tup []), (.tup []), v0, v5, v9, (.int .u64 (IntKind.wrap .u64 a1)), (.int .i64 x16), (.int .i64 a0), (.agg [(.int .i64 x3), (.int .u64 x4)]), (.agg [(.int .i64 0), (.int .u64 0)]), (.int .i64 a1), (.int .u64 (IntKind.wrap .u64 a1)), (.int .i64 x16), (.bool false), v19, v20, v21, v22, v23, v24, v25, v26, v27, v28, v29, v30, v31, (.tup []), (.tup []), (.tup []), (.tup []), (.tup []), (.tup []), (.tup [])], (St.H s13)⟩))
   (none)
def r69X0_0 (C : Cb) (d : Nat) (a0 : Int) (a1 : Int) (v0 : AV) (x3 : Int) (x4 : Int) (v5 : AV) (v9 : AV) : St → Ans := fun s77 =>
  cnd ((List.length (St.env s77)) == 36)
   (C.same (St.env s77)[0]? (.int .i64 a0) <|
   C.same (St.env s77)[1]? (.int .i64 a1) <|
   C.same (St.env s77)[2]? (.tup []) <|
   C.same (St.env s77)[3]? (.tup []) <|
   C.same (St.env s77)[4]? v0 <|
   C.same (St.env s77)[5]? v5 <|
   C.same (St.env s77)[6]? v9 <|
   C.same (St.env s77)[7]? (.int .u64 (IntKind.wrap .u64 a1)) <|
   C.int .i64 (St.env s77)[8]? fun x78 =>
   C.same (St.env s77)[9]? (.int .i64 a0) <|
   C.same (St.env s77)[10]? (.agg [(.int .i64 x3), (.int .u64 x4)]) <|
   C.same (St.env s77)[11]? (.agg [(.int .i64 0), (.int .u64 0)]) <|
   C.same (St.env s77)[12]? (.int .i64 a1) <|
   C.same (St.env s77)[13]? (.int .u64 (IntKind.wrap .u64 a1)) <|
   C.int .i64 (St.env s77)[14]? fun x79 =>
   C.bool (St.env s77)[15]? fun b80 =>
   C.any (St.env s77)[16]? fun v81 =>
   C.any (St.env s77)[17]? fun v82 =>
   C.any (St.env s77)[18]? fun v83 =>
   C.any (St.env s77)[19]? fun v84 =>
   C.any (St.env s77)[20]? fun v85 =>
   C.any (St.env s77)[21]? fun v86 =>
   C.any (St.env s77)[22]? fun v87 =>
   C.any (St.env s77)[23]? fun v88 =>
   C.any (St.env s77)[24]? fun v89 =>
   C.any (St.env s77)[25]? fun v90 =>
   C.any (St.env s77)[26]? fun v91 =>
   C.any (St.env s77)[27]? fun v92 =>
   C.any (St.env s77)[28]? fun v93 =>
   C.same (St.env s77)[29]? (.tup []) <|
   C.same (St.env s77)[30]? (.tup []) <|
   C.same (St.env s77)[31]? (.tup []) <|
   C.same (St.env s77)[32]? (.tup []) <|
   C.same (St.env s77)[33]? (.tup []) <|
   C.same (St.env s77)[34]? (.tup []) <|
   C.same (St.env s77)[35]? (.tup []) <|
   cnd (decide (a1 < 0))
   (C.hop (St.H s77) (.load true 2 (.v v9)) fun v94 h95 =>
   C.agg 2 (some v94) fun l96 =>
   C.int .i64 l96[0]? fun x97 =>
   C.int .u64 l96[1]? fun x98 =>
   C.hop h95 (.load true 2 (.v v5)) fun v99 h100 =>
   C.agg 2 (some v99) fun l101 =>
   C.int .i64 l101[0]? fun x102 =>
   C.int .u64 l101[1]? fun x103 =>
   C.agg 2 (pcall M d 78 [(.agg [(.int .i64 x102), (.int .u64 x103)])]) fun l104 =>
   C.int .i64 l104[0]? fun x105 =>
   C.int .u64 l104[1]? fun x106 =>
   C.agg 2 (pcall M d 77 [(.agg [(.int .i64 x97), (.int .u64 x98)]), (.agg [(.int .i64 x105), (.int .u64 x106)])]) fun l107 =>
   C.int .i64 l107[0]? fun x108 =>
   C.int .u64 l107[1]? fun x109 =>
   C.hop h100 (.store 2 (.v v9) (.v (.agg [(.int .i64 x108), (.int .u64 x109)]))) fun v110 h111 =>
   C.hop h111 (.load true 2 (.v v9)) fun v112 h113 =>
   C.agg 2 (some v112) fun l114 =>
   C.int .i64 l114[0]? fun x115 =>
   C.int .u64 l114[1]? fun x116 =>
   C.hop h113 (.store 2 (.v v0) (.v (.agg [(.int .i64 x115), (.int .u64 x116)]))) fun v117 h118 =>
   C.hop h118 (.load true 2 (.v v0)) fun v119 h120 =>
   C.fin h118 v119)
   (C.hop (St.H s77) (.load true 2 (.v v9)) fun v121 h122 =>
   C.agg 2 (some v121) fun l123 =>
   C.int .i64 l123[0]? fun x124 =>
   C.int .u64 l123[1]? fun x125 =>
   C.hop h122 (.store 2 (.v v0) (.v (.agg [(.int .i64 x124), (.int .u64 x125)]))) fun v126 h127 =>
   C.hop h127 (.load true 2 (.v v0)) fun v128 h129 =>
   C.fin h127 v128))
   (none)
def r69E0 (C : Cb) (d : Nat) (a0 : Int) (a1 : Int) (v0 : AV) (x3 : Int) (x4 : Int) (v5 : AV) (v9 : AV) : St → Ans := fun s15 =>
  cnd ((List.length (St.env s15)) == 36)
   (C.same (St.env s15)[0]? (.int .i64 a0) <|
   C.same (St.env s15)[1]? (.int .i64 a1) <|
   C.same (St.env s15)[2]? (.tup []) <|
   C.same (St.env s15)[3]? (.tup []) <|
   C.same (St.env s15)[4]? v0 <|
   C.same (St.env s15)[5]? v5 <|
   C.same (St.env s15)[6]? v9 <|
   C.same (St.env s15)[7]? (.int .u64 (IntKind.wrap .u64 a1)) <|
   C.int .i64 (St.env s15)[8]? fun x130 =>
   C.same (St.env s15)[9]? (.int .i64 a0) <|
   C.same (St.env s15)[10]? (.agg [(.int .i64 x3), (.int .u64 x4)]) <|
   C.same (St.env s15)[11]? (.agg [(.int .i64 0), (.int .u64 0)]) <|
   C.same (St.env s15)[12]? (.int .i64 a1) <|
   C.same (St.env s15)[13]? (.int .u64 (IntKind.wrap .u64 a1)) <|
   C.any (St.env s15)[14]? fun v131 =>
   C.any (St.env s15)[15]? fun v132 =>
   C.any (St.env s15)[16]? fun v133 =>
   C.any (St.env s15)[17]? fun v134 =>
   C.any (St.env s15)[18]? fun v135 =>
   C.any (St.env s15)[19]? fun v136 =>
   C.any (St.env s15)[20]? fun v137 =>
   C.any (St.env s15)[21]? fun v138 =>
   C.any (St.env s15)[22]? fun v139 =>
   C.any (St.env s15)[23]? fun v140 =>
   C.any (St.env s15)[24]? fun v141 =>
   C.any (St.env s15)[25]? fun v142 =>
   C.any (St.env s15)[26]? fun v143 =>
   C.any (St.env s15)[27]? fun v144 =>
   C.any (St.env s15)[28]? fun v145 =>
   C.same (St.env s15)[29]? (.tup []) <|
   C.same (St.env s15)[30]? (.tup []) <|
   C.same (St.env s15)[31]? (.tup []) <|
   C.same (St.env s15)[32]? (.tup []) <|
   C.same (St.env s15)[33]? (.tup []) <|
   C.same (St.env s15)[34]? (.tup []) <|
   C.same (St.env s15)[35]? (.tup []) <|
   C.hop (St.H s15) (.load true 2 (.v v0)) fun v146 h147 =>
   C.fin (St.H s15) v146)
   (none)
/-- apogee/apogeeref01.Mul -/
theorem r69 (C : Cb) (d : Nat) (a0 : Int) (a1 : Int) : xcall C M unr d 69 [(.int .i64 a0), (.int .i64 a1)] =
  C.hop [] (.alloc E82) fun v0 h1 =>
  C.agg 2 (pcall M d 76 [(.int .i64 a0)]) fun l2 =>
  C.int .i64 l2[0]? fun x3 =>
  C.int .u64 l2[1]? fun x4 =>
  C.hop h1 (.alloc E82) fun v5 h6 =>
  C.hop h6 (.store 2 (.v v5) (.v (.agg [(.int .i64 x3), (.int .u64 x4)]))) fun v7 h8 =>
  C.hop h8 (.alloc E82) fun v9 h10 =>
  C.hop h10 (.store 2 (.v v9) (.v (.agg [(.int .i64 0), (.int .u64 0)]))) fun v11 h12 =>
  C.iter (r69R0 C d a0 a1 v0 x3 x4 v5 v9) 1000000000000000000 ⟨[(.int .i64 a0), (.int .i64 a1), (.tup []), (.tup []), v0, v5, v9, (.int .u64 (IntKind.wrap .u64 a1)), (.int .i64 0), (.int .i64 a0), (.agg [(.int .i64 x3), (.int .u64 x4)]), (.agg [(.int .i64 0), (.int .u64 0)]), (.int .i64 a1), (.int .u64 (IntKind.wrap .u64 a1)), (.tup []), (.tup []), (.tup []), (.tup []), (.tup []), (.tup []), (.tup []), (.tup []), (.tup []), (.tup []), (.tup []), (.tup []), (.tup []), (.tup []), (.tup []), (.tup []), (.tup []), (.tup []), (.tup []), (.tup []), (.tup []), (.tup [])], h12⟩ [0] [r69X0_0 C d a0 a1 v0 x3 x4 v5 v9] (r69E0 C d a0 a1 v0 x3 x4 v5 v9) := by kernel_rfl
/-- (apogee/wide.Wide).Int -/
theorem r72 (C : Cb) (d : Nat) (a0 : Int) (a1 : Int) : xcall C M unr d 72 [(.agg [(.int .i64 a0), (.int .u64 a1)])] =
  C.agg 2 (pcall M d 61 [(.int .i64 (IntKind.wrap .i64 a1))]) fun l0 =>
  C.int .i64 l0[0]? fun x1 =>
  C.int .u64 l0[1]? fun x2 =>
  cnd (xor true ((x1 == a0) && ((x2 == a1) && true)))
   (some (.tup [(.int .i64 0), (.bool false)]))
   (some (.tup [(.int .i64 (IntKind.wrap .i64 a1)), (.bool true)])) := by kernel_rfl
/-- cmp.isNaN[int64] -/
theorem r74 (C : Cb) (d : Nat) (a0 : Int) : xcall C M unr d 74 [(.int .i64 a0)] =
  some (.bool (a0 != a0)) := by kernel_rfl
/-- cmp.isNaN[uint64] -/
theorem r75 (C : Cb) (d : Nat) (a0 : Int) : xcall C M unr d 75 [(.int .u64 a0)] =
  some (.bool (a0 != a0)) := by kernel_rfl
/-- apogee/apogeeref01.Of -/
theorem r76 (C : Cb) (d : Nat) (a0 : Int) : xcall C M unr d 76 [(.int .i64 a0)] =
  cnd (decide (a0 < 0))
   (some (.agg [(.int .i64 (-1)), (.int .u64 (IntKind.wrap .u64 a0))]))
   (some (.agg [(.int .i64 0), (.int .u64 (IntKind.wrap .u64 a0))])) := by kernel_rfl
def r77R0 (C : Cb) (d : Nat) (a0 : Int) (a1 : Int) (a2 : Int) (a3 : Int) (v0 : AV) (v2 : AV) (v4 : AV) (x9 : Int) (x10 : Int) (v11 : AV) (x15 : Int) (x16 : Int) (v17 : AV) : St → (Ex → St → Ans) → Ans := fun s18 k19 =>
  cnd ((List.length (St.env s18)) == 39)
   (C.same (St.env s18)[0]? (.agg [(.int .i64 a0), (.int .u64 a1)]) <|
   C.same (St.env s18)[1]? (.agg [(.int .i64 a2), (.int .u64 a3)]) <|
   C.same (St.env s18)[2]? v0 <|
   C.same (St.env s18)[3]? v2 <|
   C.same (St.env s18)[4]? v4 <|
   C.same (St.env s18)[5]? v11 <|
   C.same (St.env s18)[6]? v17 <|
   C.any (St.env s18)[7]? fun v21 =>
   C.int .i64 (St.env s18)[8]? fun x22 =>
   C.int .i64 (St.env s18)[9]? fun x23 =>
   C.any (St.env s18)[10]? fun v24 =>
   C.same (St.env s18)[11]? (.agg [(.int .i64 x9), (.int .u64 x10)]) <|
   C.same (St.env s18)[12]? v11 <|
   C.same (St.env s18)[13]? (.agg [(.int .i64 x15), (.int .u64 x16)]) <|
   C.same (St.env s18)[14]? v17 <|
   C.any (St.env s18)[15]? fun v25 =>
   C.any (St.env s18)[16]? fun v26 =>
   C.any (St.env s18)[17]? fun v27 =>
   C.any (St.env s18)[18]? fun v28 =>
   C.any (St.env s18)[19]? fun v29 =>
   C.any (St.env s18)[20]? fun v30 =>
   C.any (St.env s18)[21]? fun v31 =>
   C.any (St.env s18)[22]? fun v32 =>
   C.any (St.env s18)[23]? fun v33 =>
   C.any (St.env s18)[24]? fun v34 =>
   C.any (St.env s18)[25]? fun v35 =>
   C.any (St.env s18)[26]? fun v36 =>
   C.any (St.env s18)[27]? fun v37 =>
   C.any (St.env s18)[28]? fun v38 =>
   C.any (St.env s18)[29]? fun v39 =>
   C.any (St.env s18)[30]? fun v40 =>
   C.any (St.env s18)[31]? fun v41 =>
   C.any (St.env s18)[32]? fun v42 =>
   C.any (St.env s18)[33]? fun v43 =>
   C.any (St.env s18)[34]? fun v44 =>
   C.any (St.env s18)[35]? fun v45 =>
   C.any (St.env s18)[36]? fun v46 =>
   C.same (St.env s18)[37]? (.tup []) <|
   C.same (St.env s18)[38]? (.tup []) <|
   cnd (decide (x23 < 128))
   (C.hop (St.H s18) (.ixAS .any 1 (.v v11) (.v (.int .i64 x23))) fun v47 h48 =>
   C.hop h48 (.load false 1 (.v v47)) fun v49 h50 =>
   C.int .i64 (some v49) fun x51 =>
   C.hop h50 (.ixAS .any 1 (.v v17) (.v (.int .i64 x23))) fun v52 h53 =>
   C.hop h53 (.load false 1 (.v v52)) fun v54 h55 =>
   C.int .i64 (some v54) fun x56 =>
   C.hop h55 (.mkrow E3 1 [(0, (.v (.int .i64 (Int.tmod (IntKind.wrap .i64 ((IntKind.wrap .i64 (x51 + x56)) + x22)) 2))))]) fun v57 h58 =>
   C.hop h58 (.app E3 (.v v21) (.v v57)) fun v59 h60 =>
   k19 .normal ⟨[(.agg [(.int .i64 a0), (.int .u64 a1)]), (.agg [(.int .i64 a2), (.int .u64 a3)]), v0, v2, v4, v11, v17, v59, (.int .i64 (IntKind.wrap .i64 (Int.tdiv (IntKind.wrap .i64 ((IntKind.wrap .i64 (x51 + x56)) + x22)) 2))), (.int .i64 (IntKind.wrap .i64 (x23 + 1))), (.int .i64 (IntKind.wrap .i64 ((IntKind.wrap .i64 (x51 + x56)) + x22))), (.agg [(.int .i64 x9), (.int .u64 x10)]), v11, (.agg [(.int .i64 x15), (.int .u64 x16)]), v17, (.int .i64 x23), (.bool true), (.int .i64 x23), (.int .i64 (IntKind.wrap .i64 (x23 + 1))), v11, (.int .i64 x23), v47, (.int .i64 x51), v17, (.int .i64 x23), v52, (.int .i64 x56), (.int .i64 (IntKind.wrap .i64 (x51 + x56))), (.int .i64 x22), (.int .i64 (IntKind.wrap .i64 ((IntKind.wrap .i64 (x51 + x56)) + x22))), v21, (.int .i64 (IntKind.wrap .i64 ((IntKind.wrap .i64 (x51 + x56)) + x22))), (.int .i64 (Int.tmod (IntKind.wrap .i64 ((IntKind.wrap .i64 (x51 + x56)) + x22)) 2)), v57, v59, (.int .i64 (IntKind.wrap .i64 ((IntKind.wrap .i64 (x51 + x56)) + x22))), (.int .i64 (IntKind.wrap .i64 (Int.tdiv (IntKind.wrap .i64 ((IntKind.wrap .i64 (x51 + x56)) + x22)) 2))), (.tup []), (.tup [])], h60⟩)
   (k19 (.exit 0) ⟨[(.agg [(.int .i64 a0), (.int .u64 a1)]), (.agg [(.int .i64 a2), (.int .u64 a3)]), v0, v2, v4, v11, v17, v21, (.int .i64 x22), (.int .i64 x23), v24, (.agg [(.int .i64 x9), (.int .u64 x10)]), v11, (.agg [(.int .i64 x15), (.int .u64 x16)]), v17, (.int .i64 x23), (.bool false), v27, v28, v29, v30, v31, v32, v33, v34, v35, v36, v37, v38, v39, v40, v41, v42, v43, v44, v45, v46, (.tup []), (.tup [])], (St.H s18)⟩))
   (none)
def r77X0_0 (C : Cb) (d : Nat) (a0 : Int) (a1 : Int) (a2 : Int) (a3 : Int) (v0 : AV) (v2 : AV) (v4 : AV) (x9 : Int) (x10 : Int) (v11 : AV) (x15 : Int) (x16 : Int) (v17 : AV) : St → Ans := fun s61 =>
  cnd ((List.length (St.env s61)) == 39)
   (C.same (St.env s61)[0]? (.agg [(.int .i64 a0), (.int .u64 a1)]) <|
   C.same (St.env s61)[1]? (.agg [(.int .i64 a2), (.int .u64 a3)]) <|
   C.same (St.env s61)[2]? v0 <|
   C.same (St.env s61)[3]? v2 <|
   C.same (St.env s61)[4]? v4 <|
   C.same (St.env s61)[5]? v11 <|
   C.same (St.env s61)[6]? v17 <|
   C.any (St.env s61)[7]? fun v62 =>
   C.int .i64 (St.env s61)[8]? fun x63 =>
   C.int .i64 (St.env s61)[9]? fun x64 =>
   C.any (St.env s61)[10]? fun v65 =>
   C.same (St.env s61)[11]? (.agg [(.int .i64 x9), (.int .u64 x10)]) <|
   C.same (St.env s61)[12]? v11 <|
   C.same (St.env s61)[13]? (.agg [(.int .i64 x15), (.int .u64 x16)]) <|
   C.same (St.env s61)[14]? v17 <|
   C.int .i64 (St.env s61)[15]? fun x66 =>
   C.bool (St.env s61)[16]? fun b67 =>
   C.any (St.env s61)[17]? fun v68 =>
   C.any (St.env s61)[18]? fun v69 =>
   C.any (St.env s61)[19]? fun v70 =>
   C.any (St.env s61)[20]? fun v71 =>
   C.any (St.env s61)[21]? fun v72 =>
   C.any (St.env s61)[22]? fun v73 =>
   C.any (St.env s61)[23]? fun v74 =>
   C.any (St.env s61)[24]? fun v75 =>
   C.any (St.env s61)[25]? fun v76 =>
   C.any (St.env s61)[26]? fun v77 =>
   C.any (St.env s61)[27]? fun v78 =>
   C.any (St.env s61)[28]? fun v79 =>
   C.any (St.env s61)[29]? fun v80 =>
   C.any (St.env s61)[30]? fun v81 =>
   C.any (St.env s61)[31]? fun v82 =>
   C.any (St.env s61)[32]? fun v83 =>
   C.any (St.env s61)[33]? fun v84 =>
   C.any (St.env s61)[34]? fun v85 =>
   C.any (St.env s61)[35]? fun v86 =>
   C.any (St.env s61)[36]? fun v87 =>
   C.same (St.env s61)[37]? (.tup []) <|
   C.same (St.env s61)[38]? (.tup []) <|
   C.snp (St.H s61) [v62] fun l88 b89 =>
   C.agg 2 (pcall M d 81 l88) fun l90 =>
   C.int .i64 l90[0]? fun x91 =>
   C.int .u64 l90[1]? fun x92 =>
   cnd (b89 || true)
   (C.hop (St.H s61) (.store 2 (.v v4) (.v (.agg [(.int .i64 x91), (.int .u64 x92)]))) fun v93 h94 =>
   C.hop h94 (.load true 2 (.v v4)) fun v95 h96 =>
   C.fin h94 v95)
   (none))
   (none)
def r77E0 (C : Cb) (d : Nat) (a0 : Int) (a1 : Int) (a2 : Int) (a3 : Int) (v0 : AV) (v2 : AV) (v4 : AV) (x9 : Int) (x10 : Int) (v11 : AV) (x15 : Int) (x16 : Int) (v17 : AV) : St → Ans := fun s20 =>
  cnd ((List.length (St.env s20)) == 39)
   (C.same (St.env s20)[0]? (.agg [(.int .i64 a0), (.int .u64 a1)]) <|
   C.same (St.env s20)[1]? (.agg [(.int .i64 a2), (.int .u64 a3)]) <|
   C.same (St.env s20)[2]? v0 <|
   C.same (St.env s20)[3]? v2 <|
   C.same (St.env s20)[4]? v4 <|
   C.same (St.env s20)[5]? v11 <|
   C.same (St.env s20)[6]? v17 <|
   C.any (St.env s20)[7]? fun v97 =>
   C.int .i64 (St.env s20)[8]? fun x98 =>
   C.int .i64 (St.env s20)[9]? fun x99 =>
   C.any (St.env s20)[10]? fun v100 =>
   C.same (St.env s20)[11]? (.agg [(.int .i64 x9), (.int .u64 x10)]) <|
   C.same (St.env s20)[12]? v11 <|
   C.same (St.env s20)[13]? (.agg [(.int .i64 x15), (.int .u64 x16)]) <|
   C.same (St.env s20)[14]? v17 <|
   C.any (St.env s20)[15]? fun v101 =>
   C.any (St.env s20)[16]? fun v102 =>
   C.any (St.env s20)[17]? fun v103 =>
   C.any (St.env s20)[18]? fun v104 =>
   C.any (St.env s20)[19]? fun v105 =>
   C.any (St.env s20)[20]? fun v106 =>
   C.any (St.env s20)[21]? fun v107 =>
   C.any (St.env s20)[22]? fun v108 =>
   C.any (St.env s20)[23]? fun v109 =>
   C.any (St.env s20)[24]? fun v110 =>
   C.any (St.env s20)[25]? fun v111 =>
   C.any (St.env s20)[26]? fun v112 =>
   C.any (St.env s20)[27]? fun v113 =>
   C.any (St.env s20)[28]? fun v114 =>
   C.any (St.env s20)[29]? fun v115 =>
   C.any (St.env s20)[30]? fun v116 =>
   C.any (St.env s20)[31]? fun v117 =>
   C.any (St.env s20)[32]? fun v118 =>
   C.any (St.env s20)[33]? fun v119 =>
   C.any (St.env s20)[34]? fun v120 =>
   C.any (St.env s20)[35]? fun v121 =>
   C.any (St.env s20)[36]? fun v122 =>
   C.same (St.env s20)[37]? (.tup []) <|
   C.same (St.env s20)[38]? (.tup []) <|
   C.hop (St.H s20) (.load true 2 (.v v4)) fun v123 h124 =>
   C.fin (St.H s20) v123)
   (none)
/-- apogee/apogeeref01.plus -/
theorem r77 (C : Cb) (d : Nat) (a0 : Int) (a1 : Int) (a2 : Int) (a3 : Int) : xcall C M unr d 77 [(.agg [(.int .i64 a0), (.int .u64 a1)]), (.agg [(.int .i64 a2), (.int .u64 a3)])] =
  C.hop [] (.box E82 (.v (.agg [(.int .i64 a0), (.int .u64 a1)]))) fun v0 h1 =>
  C.hop h1 (.box E82 (.v (.agg [(.int .i64 a2), (.int .u64 a3)]))) fun v2 h3 =>
  C.hop h3 (.alloc E82) fun v4 h5 =>
  C.hop h5 (.load true 2 (.v v0)) fun v6 h7 =>
  C.agg 2 (some v6) fun l8 =>
  C.int .i64 l8[0]? fun x9 =>
  C.int .u64 l8[1]? fun x10 =>
  C.any (pcall M d 80 [(.agg [(.int .i64 x9), (.int .u64 x10)])]) fun v11 =>
  C.hop h7 (.load true 2 (.v v2)) fun v12 h13 =>
  C.agg 2 (some v12) fun l14 =>
  C.int .i64 l14[0]? fun x15 =>
  C.int .u64 l14[1]? fun x16 =>
  C.any (pcall M d 80 [(.agg [(.int .i64 x15), (.int .u64 x16)])]) fun v17 =>
  C.iter (r77R0 C d a0 a1 a2 a3 v0 v2 v4 x9 x10 v11 x15 x16 v17) 1000000000000000000 ⟨[(.agg [(.int .i64 a0), (.int .u64 a1)]), (.agg [(.int .i64 a2), (.int .u64 a3)]), v0, v2, v4, v11, v17, (.zsl true), (.int .i64 0), (.int .i64 0), (.tup []), (.agg [(.int .i64 x9), (.int .u64 x10)]), v11, (.agg [(.int .i64 x15), (.int .u64 x16)]), v17, (.tup []), (.tup []), (.tup []), (.tup []), (.tup []), (.tup []), (.tup []), (.tup []), (.tup []), (.tup []), (.tup []), (.tup []), (.tup []), (.tup []), (.tup []), (.tup []), (.tup []), (.tup []), (.tup []), (.tup []), (.tup []), (.tup []), (.tup []), (.tup [])], h13⟩ [0] [r77X0_0 C d a0 a1 a2 a3 v0 v2 v4 x9 x10 v11 x15 x16 v17] (r77E0 C d a0 a1 a2 a3 v0 v2 v4 x9 x10 v11 x15 x16 v17) := by kernel_rfl
/-- apogee/apogeeref01.Flip -/
theorem r78 (C : Cb) (d : Nat) (a0 : Int) (a1 : Int) : xcall C M unr d 78 [(.agg [(.int .i64 a0), (.int .u64 a1)])] =
  C.agg 2 (pcall M d 77 [(.agg [(.int .i64 (bits .xor .i64 (if (true = true) then (-1) else (IntKind.max .i64)) a0)), (.int .u64 (bits .xor .u64 (if (false = true) then (-1) else (IntKind.max .u64)) a1))]), (.agg [(.int .i64 0), (.int .u64 1)])]) fun l0 =>
  C.int .i64 l0[0]? fun x1 =>
  C.int .u64 l0[1]? fun x2 =>
  some (.agg [(.int .i64 x1), (.int .u64 x2)]) := by kernel_rfl
/-- apogee/point.Meet -/
theorem r79 (C : Cb) (d : Nat) (a0 : Int) (a1 : Int) (a2 : Int) (a3 : Int) (a4 : Int) (a5 : Int) (a6 : Int) (a7 : Int) : xcall C M unr d 79 [(.agg [(.int .i64 a0), (.int .i64 a1)]), (.agg [(.int .i64 a2), (.int .i64 a3)]), (.agg [(.int .i64 a4), (.int .i64 a5)]), (.agg [(.int .i64 a6), (.int .i64 a7)])] =
  C.bool (pcall M d 49 [(.lst [(.agg [(.int .i64 a0), (.int .i64 a1)]), (.agg [(.int .i64 a2), (.int .i64 a3)]), (.agg [(.int .i64 a4), (.int .i64 a5)]), (.agg [(.int .i64 a6), (.int .i64 a7)])])]) fun b0 =>
  cnd (!b0)
   (some (.bool false))
   (C.bool (pcall M d 47 [(.agg [(.int .i64 a0), (.int .i64 a1)]), (.agg [(.int .i64 a4), (.int .i64 a5)]), (.agg [(.int .i64 a6), (.int .i64 a7)])]) fun b1 =>
   cnd b1
   (some (.bool true))
   (C.bool (pcall M d 47 [(.agg [(.int .i64 a2), (.int .i64 a3)]), (.agg [(.int .i64 a4), (.int .i64 a5)]), (.agg [(.int .i64 a6), (.int .i64 a7)])]) fun b2 =>
   cnd b2
   (some (.bool true))
   (C.bool (pcall M d 47 [(.agg [(.int .i64 a4), (.int .i64 a5)]), (.agg [(.int .i64 a0), (.int .i64 a1)]), (.agg [(.int .i64 a2), (.int .i64 a3)])]) fun b3 =>
   cnd b3
   (some (.bool true))
   (C.bool (pcall M d 47 [(.agg [(.int .i64 a6), (.int .i64 a7)]), (.agg [(.int .i64 a0), (.int .i64 a1)]), (.agg [(.int .i64 a2), (.int .i64 a3)])]) fun b4 =>
   cnd b4
   (some (.bool true))
   (C.int .i64 (pcall M d 39 [(.agg [(.int .i64 a0), (.int .i64 a1)]), (.agg [(.int .i64 a2), (.int .i64 a3)]), (.agg [(.int .i64 a4), (.int .i64 a5)])]) fun x5 =>
   C.int .i64 (pcall M d 39 [(.agg [(.int .i64 a0), (.int .i64 a1)]), (.agg [(.int .i64 a2), (.int .i64 a3)]), (.agg [(.int .i64 a6), (.int .i64 a7)])]) fun x6 =>
   cnd (decide ((IntKind.wrap .i64 (x5 * x6)) < 0))
   (C.int .i64 (pcall M d 39 [(.agg [(.int .i64 a4), (.int .i64 a5)]), (.agg [(.int .i64 a6), (.int .i64 a7)]), (.agg [(.int .i64 a0), (.int .i64 a1)])]) fun x7 =>
   C.int .i64 (pcall M d 39 [(.agg [(.int .i64 a4), (.int .i64 a5)]), (.agg [(.int .i64 a6), (.int .i64 a7)]), (.agg [(.int .i64 a2), (.int .i64 a3)])]) fun x8 =>
   some (.bool (decide ((IntKind.wrap .i64 (x7 * x8)) < 0))))
   (some (.bool false))))))) := by kernel_rfl
def r80R1 (C : Cb) (d : Nat) (a0 : Int) (a1 : Int) (v0 : AV) (x31 : Int) (x32 : Int) (b33 : Bool) (v34 : AV) (v35 : AV) (v36 : AV) (v37 : AV) (v38 : AV) (v39 : AV) (v40 : AV) (v41 : AV) (v42 : AV) (v43 : AV) (v44 : AV) : St → (Ex → St → Ans) → Ans := fun s45 k46 =>
  cnd ((List.length (St.env s45)) == 34)
   (C.same (St.env s45)[0]? (.agg [(.int .i64 a0), (.int .u64 a1)]) <|
   C.same (St.env s45)[1]? v0 <|
   C.same (St.env s45)[2]? (.zsl true) <|
   C.any (St.env s45)[3]? fun v48 =>
   C.same (St.env s45)[4]? (.int .i64 x31) <|
   C.int .i64 (St.env s45)[5]? fun x49 =>
   C.same (St.env s45)[6]? (.int .i64 x32) <|
   C.same (St.env s45)[7]? (.bool b33) <|
   C.same (St.env s45)[8]? v34 <|
   C.same (St.env s45)[9]? v35 <|
   C.same (St.env s45)[10]? v36 <|
   C.same (St.env s45)[11]? v37 <|
   C.same (St.env s45)[12]? v38 <|
   C.same (St.env s45)[13]? v39 <|
   C.same (St.env s45)[14]? v40 <|
   C.same (St.env s45)[15]? v41 <|
   C.same (St.env s45)[16]? v42 <|
   C.same (St.env s45)[17]? v43 <|
   C.same (St.env s45)[18]? v44 <|
   C.any (St.env s45)[19]? fun v50 =>
   C.any (St.env s45)[20]? fun v51 =>
   C.any (St.env s45)[21]? fun v52 =>
   C.any (St.env s45)[22]? fun v53 =>
   C.any (St.env s45)[23]? fun v54 =>
   C.any (St.env s45)[24]? fun v55 =>
   C.any (St.env s45)[25]? fun v56 =>
   C.any (St.env s45)[26]? fun v57 =>
   C.any (St.env s45)[27]? fun v58 =>
   C.any (St.env s45)[28]? fun v59 =>
   C.any (St.env s45)[29]? fun v60 =>
   C.any (St.env s45)[30]? fun v61 =>
   C.any (St.env s45)[31]? fun v62 =>
   C.any (St.env s45)[32]? fun v63 =>
   C.same (St.env s45)[33]? (.tup []) <|
   cnd (decide (x49 < 64))
   (C.hop (St.H s45) (.fldA 0 (.v v0)) fun v64 h65 =>
   C.hop h65 (.load false 1 (.v v64)) fun v66 h67 =>
   C.int .i64 (some v66) fun x68 =>
   cnd (decide (x49 < 0))
   (none)
   (C.hop h67 (.mkrow E3 1 [(0, (.v (.int .i64 (IntKind.wrap .i64 (bits .and .u64 (Int.fdiv (IntKind.wrap .u64 x68) (2 ^ (min (Int.toNat x49) 64))) 1)))))]) fun v69 h70 =>
   C.hop h70 (.app E3 (.v v48) (.v v69)) fun v71 h72 =>
   k46 .normal ⟨[(.agg [(.int .i64 a0), (.int .u64 a1)]), v0, (.zsl true), v71, (.int .i64 x31), (.int .i64 (IntKind.wrap .i64 (x49 + 1))), (.int .i64 x32), (.bool b33), v34, v35, v36, v37, v38, v39, v40, v41, v42, v43, v44, (.int .i64 x49), (.bool true), (.int .i64 x49), (.int .i64 (IntKind.wrap .i64 (x49 + 1))), v48, v64, (.int .i64 x68), (.int .u64 (IntKind.wrap .u64 x68)), (.int .i64 x49), (.int .u64 (Int.fdiv (IntKind.wrap .u64 x68) (2 ^ (min (Int.toNat x49) 64)))), (.int .u64 (bits .and .u64 (Int.fdiv (IntKind.wrap .u64 x68) (2 ^ (min (Int.toNat x49) 64))) 1)), (.int .i64 (IntKind.wrap .i64 (bits .and .u64 (Int.fdiv (IntKind.wrap .u64 x68) (2 ^ (min (Int.toNat x49) 64))) 1))), v69, v71, (.tup [])], h72⟩))
   (k46 (.exit 2) ⟨[(.agg [(.int .i64 a0), (.int .u64 a1)]), v0, (.zsl true), v48, (.int .i64 x31), (.int .i64 x49), (.int .i64 x32), (.bool b33), v34, v35, v36, v37, v38, v39, v40, v41, v42, v43, v44, (.int .i64 x49), (.bool false), v52, v53, v54, v55, v56, v57, v58, v59, v60, v61, v62, v63, (.tup [])], (St.H s45)⟩))
   (none)
def r80X1_0 (C : Cb) (d : Nat) (a0 : Int) (a1 : Int) (v0 : AV) (x31 : Int) (x32 : Int) (b33 : Bool) (v34 : AV) (v35 : AV) (v36 : AV) (v37 : AV) (v38 : AV) (v39 : AV) (v40 : AV) (v41 : AV) (v42 : AV) (v43 : AV) (v44 : AV) : St → Ans := fun s73 =>
  cnd ((List.length (St.env s73)) == 34)
   (C.same (St.env s73)[0]? (.agg [(.int .i64 a0), (.int .u64 a1)]) <|
   C.same (St.env s73)[1]? v0 <|
   C.same (St.env s73)[2]? (.zsl true) <|
   C.any (St.env s73)[3]? fun v74 =>
   C.same (St.env s73)[4]? (.int .i64 x31) <|
   C.int .i64 (St.env s73)[5]? fun x75 =>
   C.same (St.env s73)[6]? (.int .i64 x32) <|
   C.same (St.env s73)[7]? (.bool b33) <|
   C.same (St.env s73)[8]? v34 <|
   C.same (St.env s73)[9]? v35 <|
   C.same (St.env s73)[10]? v36 <|
   C.same (St.env s73)[11]? v37 <|
   C.same (St.env s73)[12]? v38 <|
   C.same (St.env s73)[13]? v39 <|
   C.same (St.env s73)[14]? v40 <|
   C.same (St.env s73)[15]? v41 <|
   C.same (St.env s73)[16]? v42 <|
   C.same (St.env s73)[17]? v43 <|
   C.same (St.env s73)[18]? v44 <|
   C.int .i64 (St.env s73)[19]? fun x76 =>
   C.bool (St.env s73)[20]? fun b77 =>
   C.any (St.env s73)[21]? fun v78 =>
   C.any (St.env s73)[22]? fun v79 =>
   C.any (St.env s73)[23]? fun v80 =>
   C.any (St.env s73)[24]? fun v81 =>
   C.any (St.env s73)[25]? fun v82 =>
   C.any (St.env s73)[26]? fun v83 =>
   C.any (St.env s73)[27]? fun v84 =>
   C.any (St.env s73)[28]? fun v85 =>
   C.any (St.env s73)[29]? fun v86 =>
   C.any (St.env s73)[30]? fun v87 =>
   C.any (St.env s73)[31]? fun v88 =>
   C.any (St.env s73)[32]? fun v89 =>
   C.same (St.env s73)[33]? (.tup []) <|
   C.fin (St.H s73) v74)
   (none)
def r80E1 (C : Cb) (d : Nat) (a0 : Int) (a1 : Int) (v0 : AV) (x31 : Int) (x32 : Int) (b33 : Bool) (v34 : AV) (v35 : AV) (v36 : AV) (v37 : AV) (v38 : AV) (v39 : AV) (v40 : AV) (v41 : AV) (v42 : AV) (v43 : AV) (v44 : AV) : St → Ans := fun s47 =>
  cnd ((List.length (St.env s47)) == 34)
   (C.same (St.env s47)[0]? (.agg [(.int .i64 a0), (.int .u64 a1)]) <|
   C.same (St.env s47)[1]? v0 <|
   C.same (St.env s47)[2]? (.zsl true) <|
   C.any (St.env s47)[3]? fun v90 =>
   C.same (St.env s47)[4]? (.int .i64 x31) <|
   C.int .i64 (St.env s47)[5]? fun x91 =>
   C.same (St.env s47)[6]? (.int .i64 x32) <|
   C.same (St.env s47)[7]? (.bool b33) <|
   C.same (St.env s47)[8]? v34 <|
   C.same (St.env s47)[9]? v35 <|
   C.same (St.env s47)[10]? v36 <|
   C.same (St.env s47)[11]? v37 <|
   C.same (St.env s47)[12]? v38 <|
   C.same (St.env s47)[13]? v39 <|
   C.same (St.env s47)[14]? v40 <|
   C.same (St.env s47)[15]? v41 <|
   C.same (St.env s47)[16]? v42 <|
   C.same (St.env s47)[17]? v43 <|
   C.same (St.env s47)[18]? v44 <|
   C.any (St.env s47)[19]? fun v92 =>
   C.any (St.env s47)[20]? fun v93 =>
   C.any (St.env s47)[21]? fun v94 =>
   C.any (St.env s47)[22]? fun v95 =>
   C.any (St.env s47)[23]? fun v96 =>
   C.any (St.env s47)[24]? fun v97 =>
   C.any (St.env s47)[25]? fun v98 =>
   C.any (St.env s47)[26]? fun v99 =>
   C.any (St.env s47)[27]? fun v100 =>
   C.any (St.env s47)[28]? fun v101 =>
   C.any (St.env s47)[29]? fun v102 =>
   C.any (St.env s47)[30]? fun v103 =>
   C.any (St.env s47)[31]? fun v104 =>
   C.any (St.env s47)[32]? fun v105 =>
   C.same (St.env s47)[33]? (.tup []) <|
   C.fin (St.H s47) (.zsl true))
   (none)
def r80R0 (C : Cb) (d : Nat) (a0 : Int) (a1 : Int) (v0 : AV) : St → (Ex → St → Ans) → Ans := fun s2 k3 =>
  cnd ((List.length (St.env s2)) == 34)
   (C.same (St.env s2)[0]? (.agg [(.int .i64 a0), (.int .u64 a1)]) <|
   C.same (St.env s2)[1]? v0 <|
   C.same (St.env s2)[2]? (.zsl true) <|
   C.any (St.env s2)[3]? fun v5 =>
   C.int .i64 (St.env s2)[4]? fun x6 =>
   C.same (St.env s2)[5]? (.tup []) <|
   C.any (St.env s2)[6]? fun v7 =>
   C.any (St.env s2)[7]? fun v8 =>
   C.any (St.env s2)[8]? fun v9 =>
   C.any (St.env s2)[9]? fun v10 =>
   C.any (St.env s2)[10]? fun v11 =>
   C.any (St.env s2)[11]? fun v12 =>
   C.any (St.env s2)[12]? fun v13 =>
   C.any (St.env s2)[13]? fun v14 =>
   C.any (St.env s2)[14]? fun v15 =>
   C.any (St.env s2)[15]? fun v16 =>
   C.any (St.env s2)[16]? fun v17 =>
   C.any (St.env s2)[17]? fun v18 =>
   C.any (St.env s2)[18]? fun v19 =>
   C.same (St.env s2)[19]? (.tup []) <|
   C.same (St.env s2)[20]? (.tup []) <|
   C.same (St.env s2)[21]? (.tup []) <|
   C.same (St.env s2)[22]? (.tup []) <|
   C.same (St.env s2)[23]? (.tup []) <|
   C.same (St.env s2)[24]? (.tup []) <|
   C.same (St.env s2)[25]? (.tup []) <|
   C.same (St.env s2)[26]? (.tup []) <|
   C.same (St.env s2)[27]? (.tup []) <|
   C.same (St.env s2)[28]? (.tup []) <|
   C.same (St.env s2)[29]? (.tup []) <|
   C.same (St.env s2)[30]? (.tup []) <|
   C.same (St.env s2)[31]? (.tup []) <|
   C.same (St.env s2)[32]? (.tup []) <|
   C.same (St.env s2)[33]? (.tup []) <|
   cnd (decide (x6 < 64))
   (C.hop (St.H s2) (.fldA 1 (.v v0)) fun v20 h21 =>
   C.hop h21 (.load false 1 (.v v20)) fun v22 h23 =>
   C.int .u64 (some v22) fun x24 =>
   cnd (decide (x6 < 0))
   (none)
   (C.hop h23 (.mkrow E3 1 [(0, (.v (.int .i64 (IntKind.wrap .i64 (bits .and .u64 (Int.fdiv x24 (2 ^ (min (Int.toNat x6) 64))) 1)))))]) fun v25 h26 =>
   C.hop h26 (.app E3 (.v v5) (.v v25)) fun v27 h28 =>
   k3 .normal ⟨[(.agg [(.int .i64 a0), (.int .u64 a1)]), v0, (.zsl true), v27, (.int .i64 (IntKind.wrap .i64 (x6 + 1))), (.tup []), (.int .i64 x6), (.bool true), (.int .i64 x6), (.int .i64 (IntKind.wrap .i64 (x6 + 1))), v5, v20, (.int .u64 x24), (.int .i64 x6), (.int .u64 (Int.fdiv x24 (2 ^ (min (Int.toNat x6) 64)))), (.int .u64 (bits .and .u64 (Int.fdiv x24 (2 ^ (min (Int.toNat x6) 64))) 1)), (.int .i64 (IntKind.wrap .i64 (bits .and .u64 (Int.fdiv x24 (2 ^ (min (Int.toNat x6) 64))) 1))), v25, v27, (.tup []), (.tup []), (.tup []), (.tup []), (.tup []), (.tup []), (.tup []), (.tup []), (.tup []), (.tup []), (.tup []), (.tup []), (.tup []), (.tup []), (.tup [])], h28⟩))
   (k3 (.exit 0) ⟨[(.agg [(.int .i64 a0), (.int .u64 a1)]), v0, (.zsl true), v5, (.int .i64 x6), (.tup []), (.int .i64 x6), (.bool false), v9, v10, v11, v12, v13, v14, v15, v16, v17, v18, v19, (.tup []), (.tup []), (.tup []), (.tup []), (.tup []), (.tup []), (.tup []), (.tup []), (.tup []), (.tup []), (.tup []), (.tup []), (.tup []), (.tup []), (.tup [])], (St.H s2)⟩))
   (none)
def r80X0_0 (C : Cb) (d : Nat) (a0 : Int) (a1 : Int) (v0 : AV) : St → Ans := fun s29 =>
  cnd ((List.length (St.env s29)) == 34)
   (C.same (St.env s29)[0]? (.agg [(.int .i64 a0), (.int .u64 a1)]) <|
   C.same (St.env s29)[1]? v0 <|
   C.same (St.env s29)[2]? (.zsl true) <|
   C.any (St.env s29)[3]? fun v30 =>
   C.int .i64 (St.env s29)[4]? fun x31 =>
   C.same (St.env s29)[5]? (.tup []) <|
   C.int .i64 (St.env s29)[6]? fun x32 =>
   C.bool (St.env s29)[7]? fun b33 =>
   C.any (St.env s29)[8]? fun v34 =>
   C.any (St.env s29)[9]? fun v35 =>
   C.any (St.env s29)[10]? fun v36 =>
   C.any (St.env s29)[11]? fun v37 =>
   C.any (St.env s29)[12]? fun v38 =>
   C.any (St.env s29)[13]? fun v39 =>
   C.any (St.env s29)[14]? fun v40 =>
   C.any (St.env s29)[15]? fun v41 =>
   C.any (St.env s29)[16]? fun v42 =>
   C.any (St.env s29)[17]? fun v43 =>
   C.any (St.env s29)[18]? fun v44 =>
   C.same (St.env s29)[19]? (.tup []) <|
   C.same (St.env s29)[20]? (.tup []) <|
   C.same (St.env s29)[21]? (.tup []) <|
   C.same (St.env s29)[22]? (.tup []) <|
   C.same (St.env s29)[23]? (.tup []) <|
   C.same (St.env s29)[24]? (.tup []) <|
   C.same (St.env s29)[25]? (.tup []) <|
   C.same (St.env s29)[26]? (.tup []) <|
   C.same (St.env s29)[27]? (.tup []) <|
   C.same (St.env s29)[28]? (.tup []) <|
   C.same (St.env s29)[29]? (.tup []) <|
   C.same (St.env s29)[30]? (.tup []) <|
   C.same (St.env s29)[31]? (.tup []) <|
   C.same (St.env s29)[32]? (.tup []) <|
   C.same (St.env s29)[33]? (.tup []) <|
   C.iter (r80R1 C d a0 a1 v0 x31 x32 b33 v34 v35 v36 v37 v38 v39 v40 v41 v42 v43 v44) 1000000000000000000 ⟨[(.agg [(.int .i64 a0), (.int .u64 a1)]), v0, (.zsl true), v30, (.int .i64 x31), (.int .i64 0), (.int .i64 x32), (.bool b33), v34, v35, v36, v37, v38, v39, v40, v41, v42, v43, v44, (.tup []), (.tup []), (.tup []), (.tup []), (.tup []), (.tup []), (.tup []), (.tup []), (.tup []), (.tup []), (.tup []), (.tup []), (.tup []), (.tup []), (.tup [])], (St.H s29)⟩ [2] [r80X1_0 C d a0 a1 v0 x31 x32 b33 v34 v35 v36 v37 v38 v39 v40 v41 v42 v43 v44] (r80E1 C d a0 a1 v0 x31 x32 b33 v34 v35 v36 v37 v38 v39 v40 v41 v42 v43 v44))
   (none)
def r80E0 (C : Cb) (d : Nat) (a0 : Int) (a1 : Int) (v0 : AV) : St → Ans := fun s4 =>
  cnd ((List.length (St.env s4)) == 34)
   (C.same (St.env s4)[0]? (.agg [(.int .i64 a0), (.int .u64 a1)]) <|
   C.same (St.env s4)[1]? v0 <|
   C.same (St.env s4)[2]? (.zsl true) <|
   C.any (St.env s4)[3]? fun v106 =>
   C.int .i64 (St.env s4)[4]? fun x107 =>
   C.same (St.env s4)[5]? (.tup []) <|
   C.any (St.env s4)[6]? fun v108 =>
   C.any (St.env s4)[7]? fun v109 =>
   C.any (St.env s4)[8]? fun v110 =>
   C.any (St.env s4)[9]? fun v111 =>
   C.any (St.env s4)[10]? fun v112 =>
   C.any (St.env s4)[11]? fun v113 =>
   C.any (St.env s4)[12]? fun v114 =>
   C.any (St.env s4)[13]? fun v115 =>
   C.any (St.env s4)[14]? fun v116 =>
   C.any (St.env s4)[15]? fun v117 =>
   C.any (St.env s4)[16]? fun v118 =>
   C.any (St.env s4)[17]? fun v119 =>
   C.any (St.env s4)[18]? fun v120 =>
   C.same (St.env s4)[19]? (.tup []) <|
   C.same (St.env s4)[20]? (.tup []) <|
   C.same (St.env s4)[21]? (.tup []) <|
   C.same (St.env s4)[22]? (.tup []) <|
   C.same (St.env s4)[23]? (.tup []) <|
   C.same (St.env s4)[24]? (.tup []) <|
   C.same (St.env s4)[25]? (.tup []) <|
   C.same (St.env s4)[26]? (.tup []) <|
   C.same (St.env s4)[27]? (.tup []) <|
   C.same (St.env s4)[28]? (.tup []) <|
   C.same (St.env s4)[29]? (.tup []) <|
   C.same (St.env s4)[30]? (.tup []) <|
   C.same (St.env s4)[31]? (.tup []) <|
   C.same (St.env s4)[32]? (.tup []) <|
   C.same (St.env s4)[33]? (.tup []) <|
   C.fin (St.H s4) (.zsl true))
   (none)
/-- apogee/apogeeref01.bits -/
theorem r80 (C : Cb) (d : Nat) (a0 : Int) (a1 : Int) : xcall C M unr d 80 [(.agg [(.int .i64 a0), (.int .u64 a1)])] =
  C.hop [] (.box E82 (.v (.agg [(.int .i64 a0), (.int .u64 a1)]))) fun v0 h1 =>
  C.iter (r80R0 C d a0 a1 v0) 1000000000000000000 ⟨[(.agg [(.int .i64 a0), (.int .u64 a1)]), v0, (.zsl true), (.zsl true), (.int .i64 0), (.tup []), (.tup []), (.tup []), (.tup []), (.tup []), (.tup []), (.tup []), (.tup []), (.tup []), (.tup []), (.tup []), (.tup []), (.tup []), (.tup []), (.tup []), (.tup []), (.tup []), (.tup []), (.tup []), (.tup []), (.tup []), (.tup []), (.tup []), (.tup []), (.tup []), (.tup []), (.tup []), (.tup []), (.tup [])], h1⟩ [0] [r80X0_0 C d a0 a1 v0] (r80E0 C d a0 a1 v0) := by kernel_rfl
def r81R0 (C : Cb) (d : Nat) (a0 : List AV) (v0 : AV) (v2 : AV) : St → (Ex → St → Ans) → Ans := fun s6 k7 =>
  cnd ((List.length (St.env s6)) == 36)
   (C.same (St.env s6)[0]? (.lst a0) <|
   C.same (St.env s6)[1]? (.tup []) <|
   C.same (St.env s6)[2]? v0 <|
   C.same (St.env s6)[3]? v2 <|
   C.int .u64 (St.env s6)[4]? fun x9 =>
   C.int .i64 (St.env s6)[5]? fun x10 =>
   C.same (St.env s6)[6]? (.agg [(.int .i64 0), (.int .u64 0)]) <|
   C.any (St.env s6)[7]? fun v11 =>
   C.any (St.env s6)[8]? fun v12 =>
   C.any (St.env s6)[9]? fun v13 =>
   C.any (St.env s6)[10]? fun v14 =>
   C.any (St.env s6)[11]? fun v15 =>
   C.any (St.env s6)[12]? fun v16 =>
   C.any (St.env s6)[13]? fun v17 =>
   C.any (St.env s6)[14]? fun v18 =>
   C.any (St.env s6)[15]? fun v19 =>
   C.any (St.env s6)[16]? fun v20 =>
   C.any (St.env s6)[17]? fun v21 =>
   C.any (St.env s6)[18]? fun v22 =>
   C.any (St.env s6)[19]? fun v23 =>
   C.any (St.env s6)[20]? fun v24 =>
   C.any (St.env s6)[21]? fun v25 =>
   C.any (St.env s6)[22]? fun v26 =>
   C.any (St.env s6)[23]? fun v27 =>
   C.any (St.env s6)[24]? fun v28 =>
   C.any (St.env s6)[25]? fun v29 =>
   C.any (St.env s6)[26]? fun v30 =>
   C.any (St.env s6)[27]? fun v31 =>
   C.any (St.env s6)[28]? fun v32 =>
   C.any (St.env s6)[29]? fun v33 =>
   C.any (St.env s6)[30]? fun v34 =>
   C.any (St.env s6)[31]? fun v35 =>
   C.same (St.env s6)[32]? (.tup []) <|
   C.same (St.env s6)[33]? (.tup []) <|
   C.same (St.env s6)[34]? (.tup []) <|
   C.same (St.env s6)[35]? (.tup []) <|
   cnd (decide (x10 < 64))
   (C.hop (St.H s6) (.ixAS .any 1 (.v (.lst a0)) (.v (.int .i64 x10))) fun v36 h37 =>
   C.hop h37 (.load false 1 (.v v36)) fun v38 h39 =>
   C.int .i64 (some v38) fun x40 =>
   cnd (x40 == 1)
   (C.hop h39 (.fldA 1 (.v v2)) fun v41 h42 =>
   C.hop h42 (.load false 1 (.v v41)) fun v43 h44 =>
   C.int .u64 (some v43) fun x45 =>
   cnd (decide (x10 < 0))
   (none)
   (C.hop h44 (.fldA 1 (.v v2)) fun v46 h47 =>
   C.hop h47 (.store 1 (.v v46) (.v (.int .u64 (bits .or .u64 x45 (IntKind.wrap .u64 (1 * (2 ^ (min (Int.toNat x10) 64)))))))) fun v48 h49 =>
   C.hop h49 (.ixAS .any 1 (.v (.lst a0)) (.v (.int .i64 (IntKind.wrap .i64 (64 + x10))))) fun v50 h51 =>
   C.hop h51 (.load false 1 (.v v50)) fun v52 h53 =>
   C.int .i64 (some v52) fun x54 =>
   cnd (x54 == 1)
   (cnd (decide (x10 < 0))
   (none)
   (k7 .normal ⟨[(.lst a0), (.tup []), v0, v2, (.int .u64 (bits .or .u64 x9 (IntKind.wrap .u64 (1 * (2 ^ (min (Int.toNat x10) 64)))))), (.int .i64 (IntKind.wrap .i64 (x10 + 1))), (.agg [(.int .i64 0), (.int .u64 0)]), (.int .i64 x10), (.bool true), (.int .i64 x10), (.int .i64 (IntKind.wrap .i64 (x10 + 1))), (.lst a0), (.int .i64 x10), v36, (.int .i64 x40), (.bool true), v41, (.int .u64 x45), (.int .i64 x10), (.int .u64 (IntKind.wrap .u64 (1 * (2 ^ (min (Int.toNat x10) 64))))), (.int .u64 (bits .or .u64 x45 (IntKind.wrap .u64 (1 * (2 ^ (min (Int.toNat x10) 64)))))), v46, (.lst a0), (.int .i64 x10), (.int .i64 (IntKind.wrap .i64 (64 + x10))), v50, (.int .i64 x54), (.bool true), (.int .u64 x9), (.int .i64 x10), (.int .u64 (IntKind.wrap .u64 (1 * (2 ^ (min (Int.toNat x10) 64))))), (.int .u64 (bits .or .u64 x9 (IntKind.wrap .u64 (1 * (2 ^ (min (Int.toNat x10) 64)))))), (.tup []), (.tup []), (.tup []), (.tup [])], h53⟩))
   (k7 .normal ⟨[(.lst a0), (.tup []), v0, v2, (.int .u64 x9), (.int .i64 (IntKind.wrap .i64 (x10 + 1))), (.agg [(.int .i64 0), (.int .u64 0)]), (.int .i64 x10), (.bool true), (.int .i64 x10), (.int .i64 (IntKind.wrap .i64 (x10 + 1))), (.lst a0), (.int .i64 x10), v36, (.int .i64 x40), (.bool true), v41, (.int .u64 x45), (.int .i64 x10), (.int .u64 (IntKind.wrap .u64 (1 * (2 ^ (min (Int.toNat x10) 64))))), (.int .u64 (bits .or .u64 x45 (IntKind.wrap .u64 (1 * (2 ^ (min (Int.toNat x10) 64)))))), v46, (.lst a0), (.int .i64 x10), (.int .i64 (IntKind.wrap .i64 (64 + x10))), v50, (.int .i64 x54), (.bool false), v32, v33, v34, v35, (.tup []), (.tup []), (.tup []), (.tup [])], h53⟩)))
   (C.hop h39 (.ixAS .any 1 (.v (.lst a0)) (.v (.int .i64 (IntKind.wrap .i64 (64 + x10))))) fun v55 h56 =>
   C.hop h56 (.load false 1 (.v v55)) fun v57 h58 =>
   C.int .i64 (some v57) fun x59 =>
   cnd (x59 == 1)
   (cnd (decide (x10 < 0))
   (none)
   (k7 .normal ⟨[(.lst a0), (.tup []), v0, v2, (.int .u64 (bits .or .u64 x9 (IntKind.wrap .u64 (1 * (2 ^ (min (Int.toNat x10) 64)))))), (.int .i64 (IntKind.wrap .i64 (x10 + 1))), (.agg [(.int .i64 0), (.int .u64 0)]), (.int .i64 x10), (.bool true), (.int .i64 x10), (.int .i64 (IntKind.wrap .i64 (x10 + 1))), (.lst a0), (.int .i64 x10), v36, (.int .i64 x40), (.bool false), v20, v21, v22, v23, v24, v25, (.lst a0), (.int .i64 x10), (.int .i64 (IntKind.wrap .i64 (64 + x10))), v55, (.int .i64 x59), (.bool true), (.int .u64 x9), (.int .i64 x10), (.int .u64 (IntKind.wrap .u64 (1 * (2 ^ (min (Int.toNat x10) 64))))), (.int .u64 (bits .or .u64 x9 (IntKind.wrap .u64 (1 * (2 ^ (min (Int.toNat x10) 64)))))), (.tup []), (.tup []), (.tup []), (.tup [])], h58⟩))
   (k7 .normal ⟨[(.lst a0), (.tup []), v0, v2, (.int .u64 x9), (.int .i64 (IntKind.wrap .i64 (x10 + 1))), (.agg [(.int .i64 0), (.int .u64 0)]), (.int .i64 x10), (.bool true), (.int .i64 x10), (.int .i64 (IntKind.wrap .i64 (x10 + 1))), (.lst a0), (.int .i64 x10), v36, (.int .i64 x40), (.bool false), v20, v21, v22, v23, v24, v25, (.lst a0), (.int .i64 x10), (.int .i64 (IntKind.wrap .i64 (64 + x10))), v55, (.int .i64 x59), (.bool false), v32, v33, v34, v35, (.tup []), (.tup []), (.tup []), (.tup [])], h58⟩)))
   (k7 (.exit 0) ⟨[(.lst a0), (.tup []), v0, v2, (.int .u64 x9), (.int .i64 x10), (.agg [(.int .i64 0), (.int .u64 0)]), (.int .i64 x10), (.bool false), v13, v14, v15, v16, v17, v18, v19, v20, v21, v22, v23, v24, v25, v26, v27, v28, v29, v30, v31, v32, v33, v34, v35, (.tup []), (.tup []), (.tup []), (.tup [])], (St.H s6)⟩))
   (none)
def r81X0_0 (C : Cb) (d : Nat) (a0 : List AV) (v0 : AV) (v2 : AV) : St → Ans := fun s60 =>
  cnd ((List.length (St.env s60)) == 36)
   (C.same (St.env s60)[0]? (.lst a0) <|
   C.same (St.env s60)[1]? (.tup []) <|
   C.same (St.env s60)[2]? v0 <|
   C.same (St.env s60)[3]? v2 <|
   C.int .u64 (St.env s60)[4]? fun x61 =>
   C.int .i64 (St.env s60)[5]? fun x62 =>
   C.same (St.env s60)[6]? (.agg [(.int .i64 0), (.int .u64 0)]) <|
   C.int .i64 (St.env s60)[7]? fun x63 =>
   C.bool (St.env s60)[8]? fun b64 =>
   C.any (St.env s60)[9]? fun v65 =>
   C.any (St.env s60)[10]? fun v66 =>
   C.any (St.env s60)[11]? fun v67 =>
   C.any (St.env s60)[12]? fun v68 =>
   C.any (St.env s60)[13]? fun v69 =>
   C.any (St.env s60)[14]? fun v70 =>
   C.any (St.env s60)[15]? fun v71 =>
   C.any (St.env s60)[16]? fun v72 =>
   C.any (St.env s60)[17]? fun v73 =>
   C.any (St.env s60)[18]? fun v74 =>
   C.any (St.env s60)[19]? fun v75 =>
   C.any (St.env s60)[20]? fun v76 =>
   C.any (St.env s60)[21]? fun v77 =>
   C.any (St.env s60)[22]? fun v78 =>
   C.any (St.env s60)[23]? fun v79 =>
   C.any (St.env s60)[24]? fun v80 =>
   C.any (St.env s60)[25]? fun v81 =>
   C.any (St.env s60)[26]? fun v82 =>
   C.any (St.env s60)[27]? fun v83 =>
   C.any (St.env s60)[28]? fun v84 =>
   C.any (St.env s60)[29]? fun v85 =>
   C.any (St.env s60)[30]? fun v86 =>
   C.any (St.env s60)[31]? fun v87 =>
   C.same (St.env s60)[32]? (.tup []) <|
   C.same (St.env s60)[33]? (.tup []) <|
   C.same (St.env s60)[34]? (.tup []) <|
   C.same (St.env s60)[35]? (.tup []) <|
   C.hop (St.H s60) (.fldA 0 (.v v2)) fun v88 h89 =>
   C.hop h89 (.store 1 (.v v88) (.v (.int .i64 (IntKind.wrap .i64 x61)))) fun v90 h91 =>
   C.hop h91 (.load true 2 (.v v2)) fun v92 h93 =>
   C.agg 2 (some v92) fun l94 =>
   C.int .i64 l94[0]? fun x95 =>
   C.int .u64 l94[1]? fun x96 =>
   C.hop h93 (.store 2 (.v v0) (.v (.agg [(.int .i64 x95), (.int .u64 x96)]))) fun v97 h98 =>
   C.hop h98 (.load true 2 (.v v0)) fun v99 h100 =>
   C.fin h98 v99)
   (none)
def r81E0 (C : Cb) (d : Nat) (a0 : List AV) (v0 : AV) (v2 : AV) : St → Ans := fun s8 =>
  cnd ((List.length (St.env s8)) == 36)
   (C.same (St.env s8)[0]? (.lst a0) <|
   C.same (St.env s8)[1]? (.tup []) <|
   C.same (St.env s8)[2]? v0 <|
   C.same (St.env s8)[3]? v2 <|
   C.int .u64 (St.env s8)[4]? fun x101 =>
   C.int .i64 (St.env s8)[5]? fun x102 =>
   C.same (St.env s8)[6]? (.agg [(.int .i64 0), (.int .u64 0)]) <|
   C.any (St.env s8)[7]? fun v103 =>
   C.any (St.env s8)[8]? fun v104 =>
   C.any (St.env s8)[9]? fun v105 =>
   C.any (St.env s8)[10]? fun v106 =>
   C.any (St.env s8)[11]? fun v107 =>
   C.any (St.env s8)[12]? fun v108 =>
   C.any (St.env s8)[13]? fun v109 =>
   C.any (St.env s8)[14]? fun v110 =>
   C.any (St.env s8)[15]? fun v111 =>
   C.any (St.env s8)[16]? fun v112 =>
   C.any (St.env s8)[17]? fun v113 =>
   C.any (St.env s8)[18]? fun v114 =>
   C.any (St.env s8)[19]? fun v115 =>
   C.any (St.env s8)[20]? fun v116 =>
   C.any (St.env s8)[21]? fun v117 =>
   C.any (St.env s8)[22]? fun v118 =>
   C.any (St.env s8)[23]? fun v119 =>
   C.any (St.env s8)[24]? fun v120 =>
   C.any (St.env s8)[25]? fun v121 =>
   C.any (St.env s8)[26]? fun v122 =>
   C.any (St.env s8)[27]? fun v123 =>
   C.any (St.env s8)[28]? fun v124 =>
   C.any (St.env s8)[29]? fun v125 =>
   C.any (St.env s8)[30]? fun v126 =>
   C.any (St.env s8)[31]? fun v127 =>
   C.same (St.env s8)[32]? (.tup []) <|
   C.same (St.env s8)[33]? (.tup []) <|
   C.same (St.env s8)[34]? (.tup []) <|
   C.same (St.env s8)[35]? (.tup []) <|
   C.hop (St.H s8) (.load true 2 (.v v0)) fun v128 h129 =>
   C.fin (St.H s8) v128)
   (none)
/-- apogee/apogeeref01.value -/
theorem r81 (C : Cb) (d : Nat) (a0 : List AV) : xcall C M unr d 81 [(.lst a0)] =
  C.hop [] (.alloc E82) fun v0 h1 =>
  C.hop h1 (.alloc E82) fun v2 h3 =>
  C.hop h3 (.store 2 (.v v2) (.v (.agg [(.int .i64 0), (.int .u64 0)]))) fun v4 h5 =>
  C.iter (r81R0 C d a0 v0 v2) 1000000000000000000 ⟨[(.lst a0), (.tup []), v0, v2, (.int .u64 0), (.int .i64 0), (.agg [(.int .i64 0), (.int .u64 0)]), (.tup []), (.tup []), (.tup []), (.tup []), (.tup []), (.tup []), (.tup []), (.tup []), (.tup []), (.tup []), (.tup []), (.tup []), (.tup []), (.tup []), (.tup []), (.tup []), (.tup []), (.tup []), (.tup []), (.tup []), (.tup []), (.tup []), (.tup []), (.tup []), (.tup []), (.tup []), (.tup []), (.tup []), (.tup [])], h5⟩ [0] [r81X0_0 C d a0 v0 v2] (r81E0 C d a0 v0 v2) := by kernel_rfl
end Go.Proofs.Ytjblhppbjebagaa.AE
