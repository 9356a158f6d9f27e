/- The small evaluator's operations that write nothing are the model's. No conditions. -/
import Derived.Test.YtbcbaidnamebkaaAEsnd2
namespace Go.Proofs.Ytbcbaidnamebkaa.AE
set_option linter.unusedVariables false
set_option linter.unusedSimpArgs false
set_option linter.constructorNameAsVariable false
open Go Go.RowKit

def isPure : IOp → Bool
  | .box .. | .alloc .. | .mkrow .. | .store .. | .s2b .. | .mkslice .. | .call .. | .app .. | .eqv .. => false
  | _ => true

theorem agree_of {H : Heap} {id : Nat} {b : Blk} (h : hget H id = some b) : H[id]? = some (some b) := by
  unfold hget at h
  split at h
  · cases h; assumption
  · cases h
theorem hget_of {H : Heap} {id : Nat} {b : Blk} (h : H[id]? = some (some b)) : hget H id = some b := by simp [hget, h]

section
variable {P : Program} {w : World} {bad D : Nat → Prop} {ρ : Rho} {a : Act} {ev : Opd → AV} {o : Oper}

/-- The operands stand for what the frame holds. -/
def OpsOk (w : World) (bad D : Nat → Prop) (ρ : Rho) (a : Act) (ev : Opd → AV) (xs : List Operand) : Prop :=
  ∀ x ∈ xs, ∀ y, cOpd x = some y → Rep w bad D ρ (ev y) (a.eval x)

theorem opt_some {α β : Type} {o : Option α} {f : α → β} {b : β} (h : o.map f = some b) : ∃ a, o = some a ∧ f a = b := by
  cases o with
  | none => simp at h
  | some a => exact ⟨a, rfl, by simpa using h⟩

theorem getD_some {cs : List Value} {i : Nat} (h : i < cs.length) : cs[i]? = some (cs.getD i undef) := by
  rw [List.getD_eq_getElem?_getD, List.getElem?_eq_getElem h]; rfl

/-- Several operands. -/
theorem opds_rep {xs : List Operand} {ys : List Opd} (h : cOpds xs = some ys) (hO : OpsOk w bad D ρ a ev xs) :
    (ys.map ev).length = (xs.map a.eval).length ∧ ∀ (i : Nat) (c : AV) (u : Value), (ys.map ev)[i]? = some c → (xs.map a.eval)[i]? = some u → Rep w bad D ρ c u := by
  obtain ⟨h1, h2⟩ := optAll_spec h
  refine ⟨by simp [h1], fun i c u hc hu => ?_⟩
  rw [List.getElem?_map] at hc hu
  obtain ⟨x, hx, rfl⟩ := Option.map_eq_some_iff.mp hu
  obtain ⟨y, hy, he⟩ := h2 i x hx
  rw [hy] at hc
  simp at hc
  subst hc
  exact hO x (List.mem_of_getElem? hx) y he

/-- An operand that may be missing. -/
def OptRep (w : World) (bad D : Nat → Prop) (ρ : Rho) (x : Option AV) (v : Option Value) : Prop := (x = none ∧ v = none) ∨ ∃ y u, x = some y ∧ v = some u ∧ Rep w bad D ρ y u

theorem optOpd_rep {x : Option Operand} {y : Option Opd} {xs : List Operand} (h : cOptOpd x = some y) (hO : OpsOk w bad D ρ a ev xs) (hx : ∀ z, x = some z → z ∈ xs) : OptRep w bad D ρ (y.map ev) (x.map a.eval) := by
  cases x with
  | none => simp [cOptOpd] at h; subst h; exact .inl ⟨rfl, rfl⟩
  | some z =>
    simp only [cOptOpd] at h
    cases hz : cOpd z with
    | none => simp [hz] at h
    | some z' =>
      simp [hz] at h
      subst h
      exact .inr ⟨_, _, rfl, rfl, hO z (hx z rfl) z' hz⟩

theorem bound_run {x : Option AV} {v : Option Value} {d top n : Nat} (h : bound x d top = some n) (hv : OptRep w bad D ρ x v) :
    (x = none ∧ v = none ∧ n = d) ∨ (∃ k i, v = some (.int k i) ∧ 0 ≤ i ∧ i ≤ (top : Int) ∧ n = i.toNat ∧ x.isSome = true) := by
  rcases hv with ⟨rfl, rfl⟩ | ⟨y, u, rfl, rfl, hr⟩
  · simp [bound] at h; exact .inl ⟨rfl, rfl, h.symm⟩
  · right
    simp only [bound] at h
    cases y <;> simp [aInt] at h
    rename_i k i
    obtain rfl := rep_int hr
    exact ⟨k, i, rfl, h.1.1, h.1.2, h.2.symm, rfl⟩

theorem sliceBounds_run {isSlice : Bool} {n cap l h m : Nat} {lo hi mx : Option AV} {lo' hi' mx' : Option Value} (hm : bound mx n n = some m) (hh : bound hi n m = some h) (hl : bound lo 0 h = some l) (hc : n ≤ cap)
    (rl : OptRep w bad D ρ lo lo') (rh : OptRep w bad D ρ hi hi') (rm : OptRep w bad D ρ mx mx') (hx : mx.isSome = true → hi.isSome = true) :
    (Instr.sliceBounds isSlice n cap lo' hi' mx').run P w = .ok (l, h, if mx.isSome then m else cap) w ∧ l ≤ h ∧ h ≤ m ∧ m ≤ n := by
  have q1 := bound_run hm rm
  have q2 := bound_run hh rh
  have q3 := bound_run hl rl
  rcases q1 with ⟨rfl, rfl, rfl⟩ | ⟨k1, i1, rfl, a1, b1, rfl, c1⟩ <;> rcases q2 with ⟨rfl, rfl, rfl⟩ | ⟨k2, i2, rfl, a2, b2, rfl, c2⟩ <;> rcases q3 with ⟨rfl, rfl, rfl⟩ | ⟨k3, i3, rfl, a3, b3, rfl, c3⟩
  all_goals (try (simp at hx; simp [c1] at hx; done))
  all_goals
    simp only [Instr.sliceBounds, Instr.sliceBound, asIntOf, Sem.run_bind, Sem.run_pure, Result.andThen_ok]
  case inl.inl.inl => exact ⟨rfl, by omega, by omega, by omega⟩
  case inl.inl.inr => rw [if_pos ⟨a3, b3⟩]; exact ⟨rfl, by omega, by omega, by omega⟩
  case inl.inr.inl => rw [if_pos ⟨a2, by omega⟩]; exact ⟨rfl, by omega, by omega, by omega⟩
  case inl.inr.inr =>
    rw [if_pos ⟨a2, by omega⟩]
    simp only [Sem.run_pure, Result.andThen_ok]
    rw [if_pos ⟨a3, b3⟩]; exact ⟨rfl, by omega, by omega, by omega⟩
  case inr.inr.inl =>
    rw [if_pos ⟨a1, by omega⟩]
    simp only [Sem.run_pure, Result.andThen_ok]
    rw [if_pos ⟨a2, b2⟩]
    exact ⟨by simp [c1], by omega, by omega, by omega⟩
  case inr.inr.inr =>
    rw [if_pos ⟨a1, by omega⟩]
    simp only [Sem.run_pure, Result.andThen_ok]
    rw [if_pos ⟨a2, b2⟩]
    simp only [Sem.run_pure, Result.andThen_ok]
    rw [if_pos ⟨a3, b3⟩]
    exact ⟨by simp [c1], by omega, by omega, by omega⟩
  all_goals (exfalso; simp_all)

theorem lenOf_rep {H H' : Heap} {x : AV} {n : Nat} {v : Value} (h : lenOf H x = some n) (hD : ∀ id, D id ↔ H'[id]? = some none)
    (hsh : ∀ id b, hget H id = some b → ∃ b', hget H' id = some b' ∧ b'.els.length = b.els.length) (hv : Rep w bad D ρ x v) :
    ∃ ad c, v = .slice ad n c ∧ n ≤ c ∧ ((∃ b, x = .zsl b ∧ c = 0) ∨ (∃ l, x = .lst l ∧ n = l.length) ∨ ∃ id q, x = .slc id q n) := by
  cases x <;> simp [lenOf] at h
  · subst h
    cases hv with
    | frz hv => cases hv with
      | znil => exact ⟨_, _, rfl, Nat.le_refl _, .inl ⟨_, rfl, rfl⟩⟩
      | zsl a => exact ⟨_, _, rfl, Nat.le_refl _, .inl ⟨_, rfl, rfl⟩⟩
  · rename_i id q m
    cases hg : hget H id with
    | none => simp [hg] at h
    | some b =>
      simp [hg] at h
      subst h
      obtain ⟨b', hb', _⟩ := hsh id b hg
      cases hv with
      | frz hv => cases hv
      | slc hρ hc hn => exact ⟨_, _, rfl, hn, .inr (.inr ⟨_, _, rfl⟩)⟩
      | slcV ad hρ => exact ⟨_, _, rfl, Nat.le_refl _, .inr (.inr ⟨_, _, rfl⟩)⟩
      | slcD ad c hd => rw [hD, agree_of hb'] at hd; cases hd
  · subst h
    cases hv with
    | frz hv => cases hv with
      | lst0 a c => exact ⟨_, _, rfl, Nat.zero_le _, .inr (.inl ⟨_, rfl, rfl⟩)⟩
      | lst l b o es c vs hn he hb hl hs hc hr => exact ⟨_, _, rfl, hn, .inr (.inl ⟨_, rfl, rfl⟩)⟩

theorem shift_rep {x y : AV} {d : Nat} {v : Value} (h : aShift d x = some y) (hv : Rep w bad D ρ x v) : ∃ b o, v = .pointer (some ⟨b, o, none⟩) ∧ Rep w bad D ρ y (.pointer (some ⟨b, o + d, none⟩)) := by
  cases x <;> simp [aShift] at h
  · subst h
    cases hv with
    | frz hv => cases hv
    | ptr hρ => exact ⟨_, _, rfl, by rw [Nat.add_assoc]; exact .ptr hρ⟩
    | ptrD b o hd => exact ⟨_, _, rfl, .ptrD _ _ hd⟩
  · subst h
    cases hv with
    | frz hv => cases hv with
      | fptr y b o j vs hb hl hc hr => exact ⟨_, _, rfl, by rw [Nat.add_assoc]; exact .frz (.fptr _ _ _ _ _ hb hl hc hr)⟩

theorem opd_rep {x : Operand} {y : Opd} {xs : List Operand} (h : cOpd x = some y) (hO : OpsOk w bad D ρ a ev xs) (hx : x ∈ xs) : Rep w bad D ρ (ev y) (a.eval x) := hO x hx y h

theorem min_run : ∀ (l : List AV) (vs : List Value) (k : IntKind) (x : Int) (r : AV), l.length = vs.length → (∀ (i : Nat) (c : AV) (u : Value), l[i]? = some c → vs[i]? = some u → Rep w bad D ρ c u) →
    l.foldl minStep (some (.int k x)) = some r → ∃ v, (vs.foldlM Builtin.min2 (.int k x) : Sem Value).run P w = .ok v w ∧ Rep w bad D ρ r v
  | [], vs, k, x, r, hl, _, h => by
    cases vs with
    | nil => simp at h; subst h; exact ⟨_, rfl, .frz (.int _ _)⟩
    | cons v vs => simp at hl
  | c :: l, vs, k, x, r, hl, hp, h => by
    cases vs with
    | nil => simp at hl
    | cons u vs =>
      have h0 := hp 0 c u rfl rfl
      simp only [List.foldl_cons] at h
      have hn : ∀ l : List AV, l.foldl minStep none = none := fun l => by induction l with
        | nil => rfl
        | cons b l ih => exact ih
      cases c <;> (try (simp only [minStep, hn] at h; cases h; done))
      rename_i k' y
      obtain rfl := rep_int h0
      simp only [minStep] at h
      split at h
      · rename_i hk
        subst hk
        obtain ⟨v, h1, h2⟩ := min_run l vs k _ r (by simpa using hl) (fun i c u hc hu => hp (i + 1) c u (by simpa using hc) (by simpa using hu)) h
        exact ⟨v, by simp only [List.foldlM_cons, Builtin.min2, Sem.run_bind, Sem.run_pure, Result.andThen_ok]; exact h1, h2⟩
      · simp only [hn] at h; cases h

theorem max_run : ∀ (l : List AV) (vs : List Value) (k : IntKind) (x : Int) (r : AV), l.length = vs.length → (∀ (i : Nat) (c : AV) (u : Value), l[i]? = some c → vs[i]? = some u → Rep w bad D ρ c u) →
    l.foldl maxStep (some (.int k x)) = some r → ∃ v, (vs.foldlM Builtin.max2 (.int k x) : Sem Value).run P w = .ok v w ∧ Rep w bad D ρ r v
  | [], vs, k, x, r, hl, _, h => by
    cases vs with
    | nil => simp at h; subst h; exact ⟨_, rfl, .frz (.int _ _)⟩
    | cons v vs => simp at hl
  | c :: l, vs, k, x, r, hl, hp, h => by
    cases vs with
    | nil => simp at hl
    | cons u vs =>
      have h0 := hp 0 c u rfl rfl
      simp only [List.foldl_cons] at h
      have hn : ∀ l : List AV, l.foldl maxStep none = none := fun l => by induction l with
        | nil => rfl
        | cons b l ih => exact ih
      cases c <;> (try (simp only [maxStep, hn] at h; cases h; done))
      rename_i k' y
      obtain rfl := rep_int h0
      simp only [maxStep] at h
      split at h
      · rename_i hk
        subst hk
        obtain ⟨v, h1, h2⟩ := max_run l vs k _ r (by simpa using hl) (fun i c u hc hu => hp (i + 1) c u (by simpa using hc) (by simpa using hu)) h
        exact ⟨v, by simp only [List.foldlM_cons, Builtin.max2, Sem.run_bind, Sem.run_pure, Result.andThen_ok]; exact h1, h2⟩
      · simp only [hn] at h; cases h

/-- A row of cells, laid into an array. -/
theorem zip_fold (off : Nat) : ∀ (l : List Value) (k : Nat) (cs : Array Value), off + k + l.length ≤ cs.size →
    ((l.zipIdx k).foldl (fun (cs : Array Value) (x : Value × Nat) => cs.setIfInBounds (off + x.2) x.1) cs).toList = cs.toList.take (off + k) ++ l ++ cs.toList.drop (off + k + l.length)
  | [], k, cs, _ => by simp
  | v :: l, k, cs, h => by
    simp only [List.zipIdx_cons, List.foldl_cons]
    rw [zip_fold off l (k + 1) _ (by simp at h ⊢; omega)]
    simp at h
    apply List.ext_getElem?
    intro i
    simp only [Array.toList_setIfInBounds, List.getElem?_append, List.length_append, List.length_take, List.length_set, List.getElem?_take, List.getElem?_drop, List.getElem?_set, Array.length_toList, List.length_cons, List.getElem?_cons]
    repeat' split
    all_goals (try rfl)
    all_goals (try omega)
    all_goals (try (congr 1; omega))
    all_goals (first | (simp_all; done) | (exfalso; omega) | skip)

/-- Parts of a struct or an array, laid into its cells. -/
theorem fill_run (place : Nat → Option (Nat × Nat)) : ∀ (ps : List (Nat × Nat × AV)) (qs : List (Nat × Value)) (cs : List AV) (vs : List Value) (cs' : List AV), ps.length = qs.length → cs.length = vs.length →
    (∀ (i : Nat) (c : AV) (u : Value), cs[i]? = some c → vs[i]? = some u → Rep w bad D ρ c u) →
    (∀ (i : Nat) (p : Nat × Nat × AV) (q : Nat × Value), ps[i]? = some p → qs[i]? = some q → place q.1 = some (p.1, p.2.1) ∧ Rep w bad D ρ p.2.2 q.2) → fillP cs ps = some cs' →
    ∃ vs' : List Value, Instr.fill place vs.toArray qs = some vs'.toArray ∧ cs'.length = vs'.length ∧ cs'.length = cs.length ∧ ∀ (i : Nat) (c : AV) (u : Value), cs'[i]? = some c → vs'[i]? = some u → Rep w bad D ρ c u
  | [], qs, cs, vs, cs', hl, hn, hp, _, h => by
    cases qs with
    | nil => simp [fillP] at h; subst h; exact ⟨vs, rfl, hn, rfl, hp⟩
    | cons q qs => simp at hl
  | (off, n, x) :: ps, qs, cs, vs, cs', hl, hn, hp, hq, h => by
    cases qs with
    | nil => simp at hl
    | cons q qs =>
      obtain ⟨h1, h2⟩ := hq 0 _ _ rfl rfl
      simp only [fillP] at h
      split at h
      · rename_i hx
        obtain ⟨hx, hsc⟩ := hx
        split at h
        · rename_i hle
          have hxx : isSc x = true ∨ ∃ c, x = .agg c := by
            cases x <;> simp_all [AV.cells, isSc]
          obtain ⟨e1, e2⟩ := rep_cells h2 hxx
          obtain ⟨i0, u⟩ := q
          simp only at h1 h2 e1 e2
          have hz : (u.cells.zipIdx.foldl (fun (cs : Array Value) (x : Value × Nat) => cs.setIfInBounds (off + x.2) x.1) vs.toArray) = (vs.take off ++ u.cells.toList ++ vs.drop (off + n)).toArray := by
            obtain ⟨ul⟩ : Nonempty (∃ l : List Value, u.cells = l.toArray) := ⟨⟨u.cells.toList, by simp⟩⟩
            obtain ⟨ul, hul⟩ := ul
            have hlen : ul.length = n := by rw [hul] at e1; simp at e1; omega
            have z := zip_fold off ul 0 vs.toArray (by simp; omega)
            rw [hul]
            apply Array.ext'
            have e3 : ul.toArray.zipIdx = (ul.zipIdx 0).toArray := by simp
            rw [e3, List.foldl_toArray]
            simpa [hlen] using z
          obtain ⟨vs', f1, f2, f3, f4⟩ := fill_run place ps qs (cs.take off ++ x.cells ++ cs.drop (off + n)) (vs.take off ++ u.cells.toList ++ vs.drop (off + n)) cs' (by simpa using hl) (by simp [hn]; omega)
            (by
              intro i c z hc hz'
              by_cases h1 : i < off
              · rw [List.append_assoc, List.getElem?_append_left (by simp; omega), List.getElem?_take_of_lt h1] at hc hz'
                exact hp i c z hc hz'
              · by_cases h3 : i < off + n
                · rw [List.append_assoc, List.getElem?_append_right (by simp; omega), List.getElem?_append_left (by simp; omega)] at hc
                  rw [List.append_assoc, List.getElem?_append_right (by simp; omega), List.getElem?_append_left (by simp; omega)] at hz'
                  have q1 : min off cs.length = off := by omega
                  have q2 : min off vs.length = off := by omega
                  simp only [List.length_take, q1, q2] at hc hz'
                  exact e2 (i - off) c z hc (by simpa using hz')
                · rw [List.getElem?_append_right (by simp; omega)] at hc hz'
                  simp only [List.length_append, List.length_take, List.getElem?_drop, Array.length_toList] at hc hz'
                  have q1 : off + n + (i - (min off cs.length + x.cells.length)) = i := by omega
                  have q2 : off + n + (i - (min off vs.length + u.cells.size)) = i := by omega
                  rw [q1] at hc; rw [q2] at hz'
                  exact hp i c z hc hz') (fun i p q hp hq' => hq (i + 1) p q (by simpa using hp) (by simpa using hq')) h
          refine ⟨vs', ?_, f2, by rw [f3]; simp; omega, f4⟩
          unfold Instr.fill
          simp only [h1]
          rw [if_neg (by simp; omega)]
          exact (congrArg (fun z => Instr.fill place z qs) hz).trans f1
        · cases h
      · cases h
end
end Go.Proofs.Ytbcbaidnamebkaa.AE
