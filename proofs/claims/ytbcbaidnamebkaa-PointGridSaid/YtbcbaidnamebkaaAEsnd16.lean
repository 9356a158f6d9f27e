/- Regions that draw their order: states in between. No conditions. -/
import Derived.Test.YtbcbaidnamebkaaAEsnd15
namespace Go.Proofs.Ytbcbaidnamebkaa.AE
set_option linter.unusedVariables false
set_option linter.unusedSimpArgs false
set_option linter.constructorNameAsVariable false
open Go Go.RowKit

theorem le_ind {m : Nat} {p : (n : Nat) → m ≤ n → Prop} (base : p m (Nat.le_refl m)) (succ : ∀ n (h : m ≤ n), p n h → p (n + 1) (Nat.le_succ_of_le h)) : ∀ n h, p n h := by
  intro n h
  induction h with
  | refl => exact base
  | step h ih => exact succ _ h ih

def ShEq : Option (Option Blk) → Option (Option Blk) → Prop
  | none, none => True
  | some none, some none => True
  | some (some a), some (some b) => a.e = b.e ∧ a.els.length = b.els.length
  | _, _ => False

theorem ShEq.refl : ∀ x, ShEq x x
  | none => trivial
  | some none => trivial
  | some (some _) => ⟨rfl, rfl⟩
theorem ShEq.trans : ∀ {x y z}, ShEq x y → ShEq y z → ShEq x z
  | none, none, none, _, _ => trivial
  | some none, some none, some none, _, _ => trivial
  | some (some _), some (some _), some (some _), h, k => ⟨h.1.trans k.1, h.2.trans k.2⟩
  | none, none, some none, _, k => k.elim
  | none, none, some (some _), _, k => k.elim
  | some none, some none, none, _, k => k.elim
  | some none, some none, some (some _), _, k => k.elim
  | some (some _), some (some _), none, _, k => k.elim
  | some (some _), some (some _), some none, _, k => k.elim
  | none, some none, _, h, _ => h.elim
  | none, some (some _), _, h, _ => h.elim
  | some none, none, _, h, _ => h.elim
  | some none, some (some _), _, h, _ => h.elim
  | some (some _), none, _, h, _ => h.elim
  | some (some _), some none, _, h, _ => h.elim
theorem ShEq.dead {x y} (h : ShEq x y) : x = some none ↔ y = some none := by
  cases x with
  | none => cases y with
    | none => simp
    | some y => exact h.elim
  | some x => cases x with
    | none => cases y with
      | none => exact h.elim
      | some y => cases y with
        | none => simp
        | some y => exact h.elim
    | some x => cases y with
      | none => exact h.elim
      | some y => cases y with
        | none => exact h.elim
        | some y => simp
theorem ShEq.some_l {x : Option (Option Blk)} {b : Blk} (h : ShEq x (some (some b))) : ∃ a, x = some (some a) ∧ a.e = b.e ∧ a.els.length = b.els.length := by
  cases x with
  | none => exact h.elim
  | some x => cases x with
    | none => exact h.elim
    | some a => exact ⟨a, rfl, h.1, h.2⟩
theorem ShEq.some_r {y : Option (Option Blk)} {a : Blk} (h : ShEq (some (some a)) y) : ∃ b, y = some (some b) ∧ a.e = b.e ∧ a.els.length = b.els.length := by
  cases y with
  | none => exact h.elim
  | some x => cases x with
    | none => exact h.elim
    | some b => exact ⟨b, rfl, h.1, h.2⟩
theorem ShEq.none_iff {x y} (h : ShEq x y) : x = none ↔ y = none := by
  cases x with
  | none => cases y with
    | none => simp
    | some y => exact h.elim
  | some x => cases y with
    | none => cases x <;> exact h.elim
    | some y => simp

/-- At this number's place an operation stores. -/
def Upd (ios : List IOper) (f : Nat → St) (m id : Nat) : Prop := ∃ im, ios[m]? = some im ∧ want (f m).env im.guard = some true ∧ storeOp im.op = true ∧ id ∈ tchAt (f m) im

structure Stretch (ops : Array Oper) (ios : List IOper) (f : Nat → St) (b e : Nat) : Prop where
  le : b ≤ e
  top : e ≤ ops.size
  env : ∀ k, b ≤ k → k < e → ∃ o v, ops[k]? = some o ∧ (f (k + 1)).env = put (f k).env o.dst v
  heap : ∀ k, b ≤ k → k < e → (f (k + 1)).H = (f k).H ∨ (∃ z, (f (k + 1)).H = (f k).H ++ [some z]) ∨ ∃ id z z', hget (f k).H id = some z ∧ z'.e = z.e ∧ z'.els.length = z.els.length ∧ (f (k + 1)).H = (f k).H.set id (some z') ∧ Upd ios f k id
  upd : ∀ m id, b ≤ m → m < e → Upd ios f m id → id < (f m).H.length

theorem hget_lt {H : Heap} {id : Nat} {z : Blk} (h : hget H id = some z) : H[id]? = some (some z) ∧ id < H.length := by
  have : H[id]? = some (some z) := by
    unfold hget at h
    split at h
    · rename_i b hb; cases h; exact hb
    · cases h
  exact ⟨this, (List.getElem?_eq_some_iff.mp this).1⟩

theorem put_getD_ne {env : List AV} {d : Option Nat} {v : AV} {t : Nat} (h : d ≠ some t) : (put env d v).getD t .undef = env.getD t .undef := by
  cases d with
  | none => rfl
  | some d =>
    have : d ≠ t := fun e => h (e ▸ rfl)
    simp [put, List.getD_eq_getElem?_getD, List.getElem?_set_ne this]
theorem put_length {env : List AV} {d : Option Nat} {v : AV} : (put env d v).length = env.length := by cases d <;> simp [put]

section
variable {P : Program} {call : CallF} {ops : Array Oper} {ios : List IOper} {ps : List Nat} {f : Nat → St} {b e : Nat}

theorem Glob.stretch (G : Glob P call ops ios ps f) (hcall : PCallOK P call) (h1 : b ≤ e) (h2 : e ≤ ops.size) (hf : ∀ k io, b ≤ k → k < e → ios[k]? = some io → fullOp io.op = false) : Stretch ops ios f b e := by
  refine ⟨h1, h2, ?_, ?_, ?_⟩
  · intro k hb he
    obtain ⟨o, io, e1, e2, e3, e4⟩ := G.at_ k (by omega)
    have hd := (cOper_op e3).2
    rcases e4 with ⟨_, v, H', _, e5⟩ | ⟨_, e5⟩
    · exact ⟨o, v, e1, by rw [e5, ← hd]⟩
    · exact ⟨o, _, e1, by rw [e5, ← hd]⟩
  · intro k hb he
    obtain ⟨o, io, e1, e2, e3, e4⟩ := G.at_ k (by omega)
    rcases e4 with ⟨hw, v, H', hv, e5⟩ | ⟨_, e5⟩
    · rcases aop_shape hcall (hf k io hb he e2) hv with rfl | ⟨z, rfl⟩ | ⟨id, z, z', q1, q2, q3, rfl, q5, q6⟩
      · exact .inl (by rw [e5])
      · exact .inr (.inl ⟨z, by rw [e5]⟩)
      · exact .inr (.inr ⟨id, z, z', q1, q2, q3, by rw [e5], io, e2, hw, q6, by unfold tchAt; rw [q5]; simp⟩)
    · exact .inl (by rw [e5])
  · rintro m id hb he ⟨im, e2', hw', hst, hid⟩
    obtain ⟨o, io, e1, e2, e3, e4⟩ := G.at_ m (by omega)
    rw [e2] at e2'; cases e2'
    rcases e4 with ⟨hw, v, H', hv, e5⟩ | ⟨hw, e5⟩
    · unfold tchAt at hid
      cases hop : im.op <;> rw [hop] at hst <;> simp [storeOp] at hst
      rw [hop] at hv hid
      rename_i n a x
      simp only [touch] at hid
      split at hid
      · rename_i id' i j ha
        simp only [List.mem_singleton] at hid
        subst hid
        simp only [aop, ha, aStore] at hv
        cases hg : hget (f m).H id with
        | none => simp [hg] at hv
        | some z => exact (hget_lt hg).2
      · simp at hid
    · rw [hw] at hw'; cases hw'

theorem Stretch.keepE (S : Stretch ops ios f b e) {c k t : Nat} (hb : b ≤ c) (hck : c ≤ k) (hk : k ≤ e) (hn : ∀ m o, c ≤ m → m < k → ops[m]? = some o → o.dst ≠ some t) : (f k).env.getD t .undef = (f c).env.getD t .undef := by
  induction k, hck using le_ind with
  | base => rfl
  | succ k hck ih =>
    obtain ⟨o, v, h1, h2⟩ := S.env k (by omega) (by omega)
    rw [h2, put_getD_ne (hn k o hck (by omega) h1)]
    exact ih (by omega) (fun m o h3 h4 => hn m o h3 (by omega))

theorem Stretch.lenE (S : Stretch ops ios f b e) {k : Nat} (hb : b ≤ k) (hk : k ≤ e) : (f k).env.length = (f b).env.length := by
  induction k, hb using le_ind with
  | base => rfl
  | succ k hck ih =>
    obtain ⟨o, v, h1, h2⟩ := S.env k (by omega) (by omega)
    rw [h2, put_length]
    exact ih (by omega)

theorem Stretch.mono (S : Stretch ops ios f b e) {c k : Nat} (hb : b ≤ c) (hck : c ≤ k) (hk : k ≤ e) : (f c).H.length ≤ (f k).H.length := by
  induction k, hck using le_ind with
  | base => exact Nat.le_refl _
  | succ k hck ih =>
    have := ih (by omega)
    rcases S.heap k (by omega) (by omega) with h | ⟨z, h⟩ | ⟨id, z, z', _, _, _, h, _⟩ <;> rw [h] <;> simp <;> omega

theorem Stretch.shape (S : Stretch ops ios f b e) {c k id : Nat} (hb : b ≤ c) (hck : c ≤ k) (hk : k ≤ e) (hid : id < (f c).H.length) : ShEq ((f c).H[id]?) ((f k).H[id]?) := by
  induction k, hck using le_ind with
  | base => exact .refl _
  | succ k hck ih =>
    refine (ih (by omega)).trans ?_
    have hlt := Nat.lt_of_lt_of_le hid (S.mono hb hck (by omega))
    rcases S.heap k (by omega) (by omega) with h | ⟨z, h⟩ | ⟨id', z, z', h1, h2, h3, h, _⟩
    · rw [h]; exact .refl _
    · rw [h, List.getElem?_append_left hlt]; exact .refl _
    · rw [h]
      by_cases hi : id' = id
      · subst hi
        rw [List.getElem?_set_self hlt, (hget_lt h1).1]
        exact ⟨h2.symm, h3.symm⟩
      · rw [List.getElem?_set_ne hi]; exact .refl _

theorem Stretch.keepH (S : Stretch ops ios f b e) {c k id : Nat} (hb : b ≤ c) (hck : c ≤ k) (hk : k ≤ e) (hid : id < (f c).H.length) (hn : ∀ m, c ≤ m → m < k → ¬ Upd ios f m id) : (f k).H[id]? = (f c).H[id]? := by
  induction k, hck using le_ind with
  | base => rfl
  | succ k hck ih =>
    rw [← ih (by omega) (fun m h3 h4 => hn m h3 (by omega))]
    have hlt := Nat.lt_of_lt_of_le hid (S.mono hb hck (by omega))
    rcases S.heap k (by omega) (by omega) with h | ⟨z, h⟩ | ⟨id', z, z', h1, h2, h3, h, h4⟩
    · rw [h]
    · rw [h, List.getElem?_append_left hlt]
    · rw [h, List.getElem?_set_ne (fun hi : id' = id => hn k hck (by omega) (hi ▸ h4))]

theorem Stretch.alive (S : Stretch ops ios f b e) {k id : Nat} (hb : b ≤ k) (hk : k ≤ e) (h0 : (f b).H.length ≤ id) : (f k).H[id]? ≠ some none := by
  induction k, hb using le_ind with
  | base => rw [List.getElem?_eq_none h0]; simp
  | succ k hck ih =>
    have ih := ih (by omega)
    rcases S.heap k (by omega) (by omega) with h | ⟨z, h⟩ | ⟨id', z, z', h1, h2, h3, h, h4⟩
    · rw [h]; exact ih
    · rw [h, List.getElem?_append]
      split
      · exact ih
      · intro hh
        have := List.mem_of_getElem? hh
        simp at this
    · rw [h]
      by_cases hi : id' = id
      · subst hi
        rw [List.getElem?_set_self (hget_lt h1).2]; simp
      · rw [List.getElem?_set_ne hi]; exact ih

theorem Stretch.sameE (S : Stretch ops ios f b e) {c k t : Nat} (hc : b ≤ c) (hce : c ≤ e) (hk : b ≤ k) (hke : k ≤ e) (h : ∀ m o, b ≤ m → m < e → ops[m]? = some o → o.dst = some t → (m < c ↔ m < k)) : (f c).env.getD t .undef = (f k).env.getD t .undef := by
  rcases Nat.le_total c k with hl | hl
  · exact (S.keepE hc hl hke fun m o h1 h2 h3 h4 => absurd ((h m o (by omega) (by omega) h3 h4).mpr h2) (by omega)).symm
  · exact S.keepE hk hl hce fun m o h1 h2 h3 h4 => absurd ((h m o (by omega) (by omega) h3 h4).mp h2) (by omega)

theorem Stretch.sameH (S : Stretch ops ios f b e) {c k id : Nat} (hc : b ≤ c) (hce : c ≤ e) (hk : b ≤ k) (hke : k ≤ e) (h1 : id < (f c).H.length) (h2 : id < (f k).H.length) (h : ∀ m, b ≤ m → m < e → Upd ios f m id → (m < c ↔ m < k)) : (f c).H[id]? = (f k).H[id]? := by
  rcases Nat.le_total c k with hl | hl
  · exact (S.keepH hc hl hke h1 fun m q1 q2 q3 => absurd ((h m (by omega) (by omega) q3).mpr q2) (by omega)).symm
  · exact S.keepH hk hl hce h2 fun m q1 q2 q3 => absurd ((h m (by omega) (by omega) q3).mp q2) (by omega)

/-- A state in between. -/
structure Mix (ops : Array Oper) (ios : List IOper) (f : Nat → St) (b e : Nat) (L : Nat → Prop) (ρ : Rho) (s : St) : Prop where
  len : s.env.length = (f b).env.length
  shape : ∀ id : Nat, ShEq s.H[id]? (f e).H[id]?
  made : ∀ id, ρ id ≠ .no → id < (f b).H.length ∨ ∃ m, b ≤ m ∧ m < e ∧ L m ∧ (f m).H.length ≤ id ∧ id < (f (m + 1)).H.length
  cutH : ∀ id, ρ id ≠ .no → ∃ c, b ≤ c ∧ c ≤ e ∧ id < (f c).H.length ∧ s.H[id]? = (f c).H[id]? ∧ ∀ m, b ≤ m → m < e → Upd ios f m id → (m < c ↔ L m)
  cutE : ∀ t, ∃ c, b ≤ c ∧ c ≤ e ∧ s.env.getD t .undef = (f c).env.getD t .undef ∧ ∀ m o, b ≤ m → m < e → ops[m]? = some o → o.dst = some t → (m < c ↔ L m)
  upds : ∀ m id, b ≤ m → m < e → L m → Upd ios f m id → ρ id ≠ .no

theorem cutE_put {L : Nat → Prop} {ρ : Rho} {s : St} {k : Nat} {o : Oper} {v : AV} (S : Stretch ops ios f b e) (M : Mix ops ios f b e L ρ s) (hb : b ≤ k) (he : k < e) (ho : ops[k]? = some o) (hput : (f (k + 1)).env = put (f k).env o.dst v)
    (hord : ∀ m om t, m ≠ k → ops[m]? = some om → om.dst = some t → o.dst = some t → (m < k ↔ L m)) :
    ∀ t, ∃ c, b ≤ c ∧ c ≤ e ∧ (put s.env o.dst v).getD t .undef = (f c).env.getD t .undef ∧ ∀ m om, b ≤ m → m < e → ops[m]? = some om → om.dst = some t → (m < c ↔ (L m ∨ m = k)) := by
  intro t
  by_cases hd : o.dst = some t
  · refine ⟨k + 1, by omega, by omega, ?_, fun m om h1 h2 h3 h4 => ?_⟩
    · rw [hput, hd]
      simp only [put, List.getD_eq_getElem?_getD]
      rcases Nat.lt_or_ge t s.env.length with hlt | hge
      · rw [List.getElem?_set_self hlt, List.getElem?_set_self (by rw [S.lenE hb (by omega), ← M.len]; exact hlt)]
      · rw [List.getElem?_eq_none (by simpa using hge), List.getElem?_eq_none (by simp; rw [S.lenE hb (by omega), ← M.len]; exact hge)]
    · by_cases hmk : m = k
      · subst hmk; simp
      · have := hord m om t hmk h3 h4 hd
        rw [← this]
        omega
  · obtain ⟨c, h1, h2, h3, h4⟩ := M.cutE t
    refine ⟨c, h1, h2, by rw [put_getD_ne hd, h3], fun m om q1 q2 q3 q4 => ?_⟩
    have hmk : m ≠ k := by
      rintro rfl
      rw [ho] at q3; cases q3
      exact hd q4
    rw [h4 m om q1 q2 q3 q4]
    simp [hmk]

/-- A step that leaves own memory as it is. -/
theorem Mix.same {L : Nat → Prop} {ρ : Rho} {s : St} {k : Nat} {o : Oper} {v : AV} (S : Stretch ops ios f b e) (M : Mix ops ios f b e L ρ s) (hb : b ≤ k) (he : k < e) (ho : ops[k]? = some o) (hput : (f (k + 1)).env = put (f k).env o.dst v)
    (hord : ∀ m om t, m ≠ k → ops[m]? = some om → om.dst = some t → o.dst = some t → (m < k ↔ L m)) (hno : ∀ id, ¬ Upd ios f k id) : Mix ops ios f b e (fun m => L m ∨ m = k) ρ ⟨put s.env o.dst v, s.H⟩ := by
  refine ⟨by simpa [put_length] using M.len, M.shape, fun id h => (M.made id h).imp (fun x => x) (fun ⟨m, h1, h2, h3, h4⟩ => ⟨m, h1, h2, .inl h3, h4⟩), fun id h => ?_, cutE_put S M hb he ho hput hord, fun m id h1 h2 h3 h4 => ?_⟩
  · obtain ⟨c, h1, h2, h3, h4, h5⟩ := M.cutH id h
    refine ⟨c, h1, h2, h3, h4, fun m q1 q2 q3 => ?_⟩
    have hmk : m ≠ k := fun hh => hno id (hh ▸ q3)
    rw [h5 m q1 q2 q3]; simp [hmk]
  · rcases h3 with h3 | rfl
    · exact M.upds m id h1 h2 h3 h4
    · exact absurd h4 (hno id)

theorem Mix.makes {L : Nat → Prop} {ρ ρ' : Rho} {s : St} {k : Nat} {o : Oper} {v : AV} {z : Blk} {r : RB} (S : Stretch ops ios f b e) (M : Mix ops ios f b e L ρ s) (hb : b ≤ k) (he : k < e) (ho : ops[k]? = some o) (hput : (f (k + 1)).env = put (f k).env o.dst v) (hH : (f (k + 1)).H = (f k).H ++ [some z])
    (hord : ∀ m om t, m ≠ k → ops[m]? = some om → om.dst = some t → o.dst = some t → (m < k ↔ L m)) (hno : ∀ id, ¬ Upd ios f k id) (hρ0 : ρ (f k).H.length = .no) (hr : r ≠ .no) (hρ : ρ' = fun i => if i = (f k).H.length then r else ρ i) :
    Mix ops ios f b e (fun m => L m ∨ m = k) ρ' ⟨put s.env o.dst v, s.H.set (f k).H.length (some z)⟩ := by
  have hnew : (f (k + 1)).H[(f k).H.length]? = some (some z) := by rw [hH]; simp
  have hlt1 : (f k).H.length < (f (k + 1)).H.length := by rw [hH]; simp
  have hsh := S.shape (c := k + 1) (k := e) (by omega) (by omega) (Nat.le_refl _) hlt1
  have hlt : (f k).H.length < s.H.length := by
    rcases Nat.lt_or_ge (f k).H.length s.H.length with h | h
    · exact h
    · have := (M.shape (f k).H.length).none_iff.mp (List.getElem?_eq_none h)
      rw [hnew, this] at hsh
      exact hsh.elim
  refine ⟨by simpa [put_length] using M.len, fun id => ?_, fun id h => ?_, fun id h => ?_, cutE_put S M hb he ho hput hord, fun m id h1 h2 h3 h4 => ?_⟩
  · by_cases hi : (f k).H.length = id
    · subst hi
      simp only [List.getElem?_set_self hlt]
      rw [hnew] at hsh
      exact hsh
    · simp only [List.getElem?_set_ne hi]
      exact M.shape id
  · by_cases hi : id = (f k).H.length
    · exact .inr ⟨k, hb, he, .inr rfl, by omega, by omega⟩
    · rw [hρ] at h; simp only [hi, if_false] at h
      exact (M.made id h).imp (fun x => x) (fun ⟨m, h1, h2, h3, h4⟩ => ⟨m, h1, h2, .inl h3, h4⟩)
  · by_cases hi : id = (f k).H.length
    · subst hi
      refine ⟨k + 1, by omega, by omega, hlt1, by simp only [List.getElem?_set_self hlt]; exact hnew.symm, fun m q1 q2 q3 => ?_⟩
      have hmk : m ≠ k := fun hh => hno _ (hh ▸ q3)
      have hge : ¬ m < k := fun hm => absurd (S.upd m _ q1 q2 q3) (Nat.not_lt.mpr (S.mono q1 (by omega) (by omega)))
      have hnl : ¬ L m := fun hl => M.upds m _ q1 q2 hl q3 hρ0
      constructor
      · intro h; omega
      · rintro (h | h)
        · exact absurd h hnl
        · exact absurd h hmk
    · rw [hρ] at h; simp only [hi, if_false] at h
      obtain ⟨c, h1, h2, h3, h4, h5⟩ := M.cutH id h
      refine ⟨c, h1, h2, h3, by simp only [List.getElem?_set_ne (Ne.symm hi)]; exact h4, fun m q1 q2 q3 => ?_⟩
      have hmk : m ≠ k := fun hh => hno id (hh ▸ q3)
      rw [h5 m q1 q2 q3]; simp [hmk]
  · rcases h3 with h3 | rfl
    · have := M.upds m id h1 h2 h3 h4
      rw [hρ]
      by_cases hi : id = (f k).H.length
      · simp only [hi, if_true]; exact hr
      · simp only [hi, if_false]; exact this
    · exact absurd h4 (hno id)

theorem Mix.stores {L : Nat → Prop} {ρ : Rho} {s : St} {k id : Nat} {o : Oper} {v : AV} {z z0 : Blk} (S : Stretch ops ios f b e) (M : Mix ops ios f b e L ρ s) (hb : b ≤ k) (he : k < e) (ho : ops[k]? = some o) (hput : (f (k + 1)).env = put (f k).env o.dst v) (hH : (f (k + 1)).H = (f k).H.set id (some z)) (hlt : id < (f k).H.length)
    (hord : ∀ m om t, m ≠ k → ops[m]? = some om → om.dst = some t → o.dst = some t → (m < k ↔ L m)) (hup : ∀ id', Upd ios f k id' → id' = id) (hord2 : ∀ m, m ≠ k → Upd ios f m id → (m < k ↔ L m)) (hs : s.H[id]? = some (some z0)) (he0 : z.e = z0.e) (hl0 : z.els.length = z0.els.length) (hρ : ρ id ≠ .no) :
    Mix ops ios f b e (fun m => L m ∨ m = k) ρ ⟨put s.env o.dst v, s.H.set id (some z)⟩ := by
  have hlts : id < s.H.length := (List.getElem?_eq_some_iff.mp hs).1
  refine ⟨by simpa [put_length] using M.len, fun id' => ?_, fun id' h => (M.made id' h).imp (fun x => x) (fun ⟨m, h1, h2, h3, h4⟩ => ⟨m, h1, h2, .inl h3, h4⟩), fun id' h => ?_, cutE_put S M hb he ho hput hord, fun m id' h1 h2 h3 h4 => ?_⟩
  · by_cases hi : id = id'
    · subst hi
      simp only [List.getElem?_set_self hlts]
      have := M.shape id
      rw [hs] at this
      obtain ⟨y, q1, q2, q3⟩ := this.some_r
      rw [q1]
      exact ⟨he0.trans q2, hl0.trans q3⟩
    · simp only [List.getElem?_set_ne hi]
      exact M.shape id'
  · by_cases hi : id = id'
    · subst hi
      refine ⟨k + 1, by omega, by omega, by rw [hH]; simpa using hlt, by rw [hH]; simp only [List.getElem?_set_self hlts, List.getElem?_set_self hlt], fun m q1 q2 q3 => ?_⟩
      by_cases hmk : m = k
      · subst hmk; simp
      · have := hord2 m hmk q3
        rw [← this]; omega
    · obtain ⟨c, h1, h2, h3, h4, h5⟩ := M.cutH id' h
      refine ⟨c, h1, h2, h3, by simp only [List.getElem?_set_ne hi]; exact h4, fun m q1 q2 q3 => ?_⟩
      have hmk : m ≠ k := fun hh => hi (hup id' (hh ▸ q3)).symm
      rw [h5 m q1 q2 q3]; simp [hmk]
  · rcases h3 with h3 | rfl
    · exact M.upds m id' h1 h2 h3 h4
    · rw [hup id' h4]; exact hρ
end
end Go.Proofs.Ytbcbaidnamebkaa.AE
