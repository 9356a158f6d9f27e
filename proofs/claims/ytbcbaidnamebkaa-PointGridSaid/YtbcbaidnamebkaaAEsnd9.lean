/- Values held against each other: the small evaluator's answer is the model's. No conditions. -/
import Derived.Test.YtbcbaidnamebkaaAEsnd8
import Derived.ChangeKeysEq
namespace Go.Proofs.Ytbcbaidnamebkaa.AE
set_option linter.unusedVariables false
set_option linter.unusedSimpArgs false
set_option linter.constructorNameAsVariable false
open Go Go.RowKit

section
variable {P : Program} {w : World} {bad D : Nat → Prop} {ρ : Rho} {a : Act} {ev : Opd → AV} {o : Oper}

theorem eqL_len : ∀ {sh : List Sh} {l m : List AV} {r : Bool}, eqL sh l m = some r → l.length = sh.length ∧ m.length = sh.length
  | [], l, m, r, h => by
    cases l <;> cases m <;> simp [eqL] at h ⊢
  | s :: sh, l, m, r, h => by
    cases l with
    | nil => cases s <;> simp [eqL] at h
    | cons x l =>
      cases m with
      | nil => cases s <;> cases x <;> simp [eqL] at h
      | cons y m =>
        unfold eqL at h
        split at h <;> (try (cases h; done))
        all_goals (rename_i e1 e2 e3; first | (cases e1; done) | skip)
        all_goals
          cases e1; cases e2; cases e3
          first
            | (split at h <;> (try (cases h; done))
               split at h <;> (try (cases h; done))
               rename_i r' hr
               obtain ⟨h1, h2⟩ := eqL_len hr
               simp [h1, h2])
            | (split at h <;> (try (cases h; done))
               rename_i r' hr
               obtain ⟨h1, h2⟩ := eqL_len hr
               simp [h1, h2])

theorem eqL_app : ∀ (s1 : List Sh) {s2 : List Sh} {l m : List AV} {r : Bool}, eqL (s1 ++ s2) l m = some r →
    ∃ r1 r2, eqL s1 (l.take s1.length) (m.take s1.length) = some r1 ∧ eqL s2 (l.drop s1.length) (m.drop s1.length) = some r2 ∧ r = (r1 && r2)
  | [], s2, l, m, r, h => ⟨true, r, by simp [eqL], by simpa using h, by simp⟩
  | s :: s1, s2, l, m, r, h => by
    cases l with
    | nil => cases s <;> simp [eqL] at h
    | cons x l =>
      cases m with
      | nil => cases s <;> cases x <;> simp [eqL] at h
      | cons y m =>
        simp only [List.cons_append] at h
        unfold eqL at h
        split at h <;> (try (cases h; done))
        all_goals (rename_i e1 e2 e3; first | (cases e1; done) | skip)
        all_goals
          cases e1; cases e2; cases e3
          first
            | (split at h <;> (try (cases h; done))
               rename_i hk
               split at h <;> (try (cases h; done))
               rename_i r' hr
               obtain ⟨r1, r2, h1, h2, h3⟩ := eqL_app s1 hr
               subst hk
               refine ⟨_, r2, by simp [eqL, h1]; rfl, by simpa using h2, ?_⟩
               simp only [Option.some.injEq] at h
               rw [← h, h3, Bool.and_assoc])
            | (split at h <;> (try (cases h; done))
               rename_i r' hr
               obtain ⟨r1, r2, h1, h2, h3⟩ := eqL_app s1 hr
               refine ⟨_, r2, by simp [eqL, h1]; rfl, by simpa using h2, ?_⟩
               simp only [Option.some.injEq] at h
               rw [← h, h3, Bool.and_assoc])

/-- Cells that stand for cells. -/
def CellsRep (w : World) (bad D : Nat → Prop) (ρ : Rho) (l : List AV) (xs : List Value) : Prop := l.length = xs.length ∧ ∀ (i : Nat) (c : AV) (u : Value), l[i]? = some c → xs[i]? = some u → Rep w bad D ρ c u

theorem CellsRep.sub {l : List AV} {xs : List Value} (h : CellsRep w bad D ρ l xs) (o n : Nat) : CellsRep w bad D ρ ((l.drop o).take n) ((xs.drop o).take n) := by
  refine ⟨by simp [h.1], fun i c u hc hu => ?_⟩
  have hi : i < n := by have := (List.getElem?_eq_some_iff.mp hc).1; simp at this; omega
  rw [List.getElem?_take_of_lt hi, List.getElem?_drop] at hc hu
  exact h.2 _ c u hc hu

/-- What is asked of a type's comparison. -/
def EqAt (P : Program) (w : World) (bad D : Nat → Prop) (ρ : Rho) (n : Nat) (t : TypeId) (sh : List Sh) : Prop :=
  ∀ (l m : List AV) (xs ys : List Value) (off : Nat) (r : Bool), CellsRep w bad D ρ l xs → CellsRep w bad D ρ m ys → eqL sh ((l.drop off).take sh.length) ((m.drop off).take sh.length) = some r →
    ∃ va vb, (part t xs.toArray off).run P w = .ok va w ∧ (part t ys.toArray off).run P w = .ok vb w ∧ (Op.equalIn n t va vb).run P w = .ok r w

theorem fields_run {n : Nat} {g : TypeId → Option (List Sh)} (hg : ∀ t sh, g t = some sh → EqAt P w bad D ρ n t sh) : ∀ (fs : List Field) (o : Nat) (sh : List Sh) (l m : List AV) (xs ys : List Value) (r : Bool), eqFs g fs o = some sh → CellsRep w bad D ρ l xs → CellsRep w bad D ρ m ys →
    eqL sh (l.drop o) (m.drop o) = some r → (Op.eqFields n xs.toArray ys.toArray fs).run P w = .ok r w
  | [], o, sh, l, m, xs, ys, r, h, _, _, he => by
    simp only [eqFs, Option.some.injEq] at h
    subst h
    obtain ⟨h1, h2⟩ := eqL_len he
    simp only [List.length_nil] at h1 h2
    rw [List.eq_nil_of_length_eq_zero h1, List.eq_nil_of_length_eq_zero h2] at he
    simp [eqL] at he
    subst he
    rfl
  | f :: fs, o, sh, l, m, xs, ys, r, h, hl, hm, he => by
    simp only [eqFs] at h
    split at h <;> (try (cases h; done))
    rename_i hf
    split at h <;> (try (cases h; done))
    rename_i l1 hl1
    split at h <;> (try (cases h; done))
    rename_i l2 hl2
    obtain rfl := Option.some.inj h
    obtain ⟨r1, r2, h1, h2, rfl⟩ := eqL_app l1 he
    obtain ⟨va, vb, p1, p2, p3⟩ := hg _ _ hl1 l m xs ys o r1 hl hm h1
    rw [List.drop_drop, List.drop_drop] at h2
    have ih := fields_run hg fs (o + l1.length) l2 l m xs ys r2 hl2 hl hm h2
    simp only [Op.eqFields, ne_eq, hf.1, not_false_eq_true, if_true, hf.2, Sem.run_bind, p1, p2, p3, Result.andThen_ok]
    cases r1 with
    | true => simpa using ih
    | false => simp

theorem items_run {n : Nat} {e : TypeId} {sh : List Sh} (hg : EqAt P w bad D ρ n e sh) (l m : List AV) (xs ys : List Value) (hl : CellsRep w bad D ρ l xs) (hm : CellsRep w bad D ρ m ys) : ∀ (k s : Nat) (r : Bool),
    eqL ((List.replicate k sh).flatten) (l.drop (s * sh.length)) (m.drop (s * sh.length)) = some r → (Op.eqItems n e sh.length xs.toArray ys.toArray (List.range' s k)).run P w = .ok r w
  | 0, s, r, he => by
    simp only [List.replicate_zero, List.flatten_nil] at he
    obtain ⟨h1, h2⟩ := eqL_len he
    simp only [List.length_nil] at h1 h2
    rw [List.eq_nil_of_length_eq_zero h1, List.eq_nil_of_length_eq_zero h2] at he
    simp [eqL] at he
    subst he
    rfl
  | k + 1, s, r, he => by
    simp only [List.replicate_succ, List.flatten_cons] at he
    obtain ⟨r1, r2, h1, h2, rfl⟩ := eqL_app sh he
    obtain ⟨va, vb, p1, p2, p3⟩ := hg l m xs ys _ r1 hl hm h1
    rw [List.drop_drop, List.drop_drop, show s * sh.length + sh.length = (s + 1) * sh.length by rw [Nat.succ_mul]] at h2
    have ih := items_run hg l m xs ys hl hm k (s + 1) r2 h2
    simp only [List.range'_succ, Op.eqItems, Sem.run_bind, p1, p2, p3, Result.andThen_ok]
    cases r1 with
    | true => simpa using ih
    | false => simp

theorem array_run {n len : Nat} {t e : TypeId} {sh : List Sh} (ht : P.underlying t = some (.array len e)) (hg : EqAt P w bad D ρ n e sh) {i : TypeInfo} (hi : P.info? e = some i) (hsz : i.size = sh.length) (l m : List AV) (xs ys : List Value) (r : Bool) (hl : CellsRep w bad D ρ l xs) (hm : CellsRep w bad D ρ m ys)
    (he : eqL ((List.replicate len sh).flatten) l m = some r) : (Op.equalIn (n + 1) t (.agg xs.toArray) (.agg ys.toArray)).run P w = .ok r w := by
  rw [run_equalIn_array (P := P) w n _ _ ht hi, show P.cellsOf e = sh.length by rw [← hsz]; simp [Program.cellsOf, hi], List.range_eq_range']
  exact items_run hg l m xs ys hl hm len 0 r (by simpa using he)

theorem eqSh_run : ∀ (d : Nat) (t : TypeId) (sh : List Sh), eqSh P d t = some sh → ∀ n, d ≤ n → EqAt P w bad D ρ n t sh
  | 0, t, sh, h, n, _ => by simp [eqSh] at h
  | d + 1, t, sh, h, n, hn => by
    obtain ⟨n, rfl⟩ : ∃ k, n = k + 1 := ⟨n - 1, by omega⟩
    intro l m xs ys off r hl hm he
    have one : ∀ (kd : Sh), (agB P t = some false) → eqL [kd] ((l.drop off).take 1) ((m.drop off).take 1) = some r → ∃ c1 c2 va vb, l[off]? = some c1 ∧ m[off]? = some c2 ∧ eqL [kd] [c1] [c2] = some r ∧ Rep w bad D ρ c1 va ∧ Rep w bad D ρ c2 vb ∧
        (part t xs.toArray off).run P w = .ok va w ∧ (part t ys.toArray off).run P w = .ok vb w := by
      intro kd ha he
      obtain ⟨h1, h2⟩ := eqL_len he
      simp only [List.length_take, List.length_drop, List.length_cons, List.length_nil] at h1 h2
      have o1 : off < l.length := by omega
      have o2 : off < m.length := by omega
      have e1 : (l.drop off).take 1 = [l[off]] := by rw [List.drop_eq_getElem_cons o1, List.take_succ_cons, List.take_zero]
      have e2 : (m.drop off).take 1 = [m[off]] := by rw [List.drop_eq_getElem_cons o2, List.take_succ_cons, List.take_zero]
      rw [e1, e2] at he
      have x1 : off < xs.length := by rw [← hl.1]; exact o1
      have x2 : off < ys.length := by rw [← hm.1]; exact o2
      refine ⟨l[off], m[off], xs[off], ys[off], List.getElem?_eq_getElem o1, List.getElem?_eq_getElem o2, he, hl.2 _ _ _ (List.getElem?_eq_getElem o1) (List.getElem?_eq_getElem x1), hm.2 _ _ _ (List.getElem?_eq_getElem o2) (List.getElem?_eq_getElem x2), ?_, ?_⟩
      · simp only [part, Sem.run_bind, run_ag ha, Result.andThen_ok, Bool.false_eq_true, if_false]
        simp [x1]
      · simp only [part, Sem.run_bind, run_ag ha, Result.andThen_ok, Bool.false_eq_true, if_false]
        simp [x2]
    have agg : ∀ (i : TypeInfo), P.info? t = some i → agB P t = some true → i.size = sh.length → ∀ ys : List Value, (part t ys.toArray off).run P w = .ok (.agg ((ys.drop off).take sh.length).toArray) w := by
      intro i hi ha hsz ys
      rw [run_part hi ha, if_pos rfl, hsz]
      congr 2
      apply Array.ext'
      simp
    simp only [eqSh] at h
    split at h <;> (try (cases h; done))
    · rename_i fs hfs
      split at h <;> (try (cases h; done))
      rename_i hst
      split at h <;> (try (cases h; done))
      rename_i sh' hsh
      split at h <;> (try (cases h; done))
      rename_i hsz
      obtain rfl := Option.some.inj h
      obtain ⟨i, hi⟩ : ∃ i, P.info? t = some i := by
        cases hq : P.info? t with
        | none => simp [Program.underlying, hq] at hfs
        | some i => exact ⟨i, rfl⟩
      have hsz' : i.size = sh'.length := by rw [← hsz]; simp [Program.cellsOf, hi]
      have ha : agB P t = some true := by simp [agB, hfs]
      refine ⟨_, _, agg i hi ha hsz' xs, agg i hi ha hsz' ys, ?_⟩
      have hfo : P.fieldsOf t = fs := by simp [Program.fieldsOf, hfs]
      rw [run_equalIn_struct (P := P) w n t _ _ (by rw [hfo]; exact hfs) (by simpa using hst), hfo]
      exact fields_run (fun t' sh'' h' => eqSh_run d t' sh'' h' n (by omega)) fs.toList 0 sh' _ _ _ _ r hsh (hl.sub off sh'.length) (hm.sub off sh'.length) (by simpa using he)
    · rename_i len e hfs
      split at h <;> (try (cases h; done))
      rename_i sh' hsh
      split at h <;> (try (cases h; done))
      rename_i hsz
      obtain rfl := Option.some.inj h
      obtain ⟨i, hi⟩ : ∃ i, P.info? t = some i := by
        cases hq : P.info? t with
        | none => simp [Program.underlying, hq] at hfs
        | some i => exact ⟨i, rfl⟩
      have hlen : ((List.replicate len sh').flatten).length = len * sh'.length := by simp
      have hsz' : i.size = ((List.replicate len sh').flatten).length := by rw [hlen, ← hsz.1]; simp [Program.cellsOf, hi]
      have ha : agB P t = some true := by simp [agB, hfs]
      refine ⟨_, _, agg i hi ha hsz' xs, agg i hi ha hsz' ys, ?_⟩
      have heq := eqSh_run d e sh' hsh n (by omega)
      cases hie : P.info? e with
      | none =>
        exfalso
        cases d with
        | zero => simp [eqSh] at hsh
        | succ d => simp [eqSh, Program.underlying, hie] at hsh
      | some ie => exact array_run hfs heq hie (by rw [← hsz.2]; simp [Program.cellsOf, hie]) _ _ _ _ r (hl.sub off _) (hm.sub off _) he
    · rename_i k hfs
      split at h <;> (try (cases h; done))
      obtain rfl := Option.some.inj h
      obtain ⟨c1, c2, va, vb, q1, q2, q3, q4, q5, q6, q7⟩ := one _ (by simp [agB, hfs]) he
      refine ⟨va, vb, q6, q7, ?_⟩
      cases c1 <;> cases c2 <;> simp [eqL] at q3
      obtain ⟨rfl, rfl⟩ := q3
      rw [rep_int q4, rep_int q5]
      exact run_equalIn_int w n t _ k _ _ hfs
    · rename_i hfs
      split at h <;> (try (cases h; done))
      obtain rfl := Option.some.inj h
      obtain ⟨c1, c2, va, vb, q1, q2, q3, q4, q5, q6, q7⟩ := one _ (by simp [agB, hfs]) he
      refine ⟨va, vb, q6, q7, ?_⟩
      cases c1 <;> cases c2 <;> simp [eqL] at q3
      subst q3
      rw [rep_bool q4, rep_bool q5]
      exact run_equalIn_bool' w n t _ _ hfs
    · rename_i hfs
      split at h <;> (try (cases h; done))
      obtain rfl := Option.some.inj h
      obtain ⟨c1, c2, va, vb, q1, q2, q3, q4, q5, q6, q7⟩ := one _ (by simp [agB, hfs]) he
      refine ⟨va, vb, q6, q7, ?_⟩
      cases c1 <;> cases c2 <;> simp [eqL] at q3
      subst q3
      rw [rep_str q4, rep_str q5, run_equalIn_string w n t _ _ hfs]
      simp [ByteArray.toList_eq]

theorem eqIn_ptr (d : Nat) {t e : TypeId} (hu : P.underlying t = some (.pointer e)) (p q : Option Addr) (h : p = none ∨ q = none) : (Op.equalIn (d + 1) t (.pointer p) (.pointer q)).run P w = .ok (p.isNone && q.isNone) w := by
  cases p <;> cases q <;> simp at h <;> simp [Op.equalIn, run_underlying hu]
theorem eqIn_slc (d : Nat) {t e : TypeId} (hu : P.underlying t = some (.slice e)) (p : Option Addr) (n c : Nat) : (Op.equalIn (d + 1) t (.slice p n c) (.slice none 0 0)).run P w = .ok p.isNone w := by
  cases p <;> simp [Op.equalIn, run_underlying hu]
theorem eqIn_fn (d : Nat) {t : TypeId} {ps rs : Array TypeId} {v : Bool} (hu : P.underlying t = some (.func ps rs v)) : (Op.equalIn (d + 1) t .nilFunc .nilFunc).run P w = .ok true w ∧
    (∀ f p q, (Op.equalIn (d + 1) t .nilFunc (.func f p q)).run P w = .ok false w) ∧ (∀ f p q, (Op.equalIn (d + 1) t (.func f p q) .nilFunc).run P w = .ok false w) := by
  refine ⟨?_, fun f p q => ?_, fun f p q => ?_⟩ <;> simp [Op.equalIn, run_underlying hu]

theorem part_all {t : TypeId} {i : TypeInfo} (hi : P.info? t = some i) (ha : agB P t = some true) (xs : List Value) (h : i.size = xs.length) : (part t xs.toArray 0).run P w = .ok (.agg xs.toArray) w := by
  rw [run_part hi ha, if_pos rfl]
  congr 2
  apply Array.ext'
  simp [h]

theorem eqSh_size {d : Nat} {t : TypeId} {sh : List Sh} (h : eqSh P (d + 1) t = some sh) (ha : agB P t = some true) : P.cellsOf t = sh.length := by
  simp only [eqSh] at h
  split at h <;> (try (cases h; done))
  · split at h <;> (try (cases h; done))
    split at h <;> (try (cases h; done))
    split at h <;> (try (cases h; done))
    rename_i hc
    obtain rfl := Option.some.inj h
    exact hc
  · split at h <;> (try (cases h; done))
    split at h <;> (try (cases h; done))
    rename_i hc
    obtain rfl := Option.some.inj h
    rw [hc.1]; simp
  all_goals
    rename_i hu
    simp [agB, hu] at ha

/-- '==' or '!='. -/
theorem says_eqv {op : BinOp} {neg : Bool} {t u : TypeId} {k : Nat} {sh : List Sh} {x y : Operand} {x' y' : Opd} {b : Bool} (hop : (op = .eql ∧ neg = false) ∨ (op = .neq ∧ neg = true)) (ho : o.op = .binOp op t x y u) (hk : eqKind P t = some (k, sh)) (hx : cOpd x = some x') (hy : cOpd y = some y')
    (hv : eqV k sh (ev x') (ev y') = some b) (hO : OpsOk w bad D ρ a ev o.op.operands.toList) : Says P w bad D ρ a o (.bool (xor neg b)) := by
  have h2 := hO x (by simp [ho, Op.operands]) x' hx
  have h3 := hO y (by simp [ho, Op.operands]) y' hy
  generalize ev x' = X at *
  generalize ev y' = Y at *
  have fin : ∀ (va vb : Value), a.eval x = va → a.eval y = vb → (eqGuard op t x y va vb).run P w = .ok () w → (∀ op', op' = .eql ∨ op' = .neq → (binOp op' t va vb).run P w = ((Op.equal t va vb).run P w).andThen fun r w' => .ok (.bool (if op' = .eql then r else !r)) w') → (Op.equal t va vb).run P w = .ok b w → Says P w bad D ρ a o (.bool (xor neg b)) := by
    intro va vb e1 e2 hg hbin heq
    have hb : (binOp op t va vb).run P w = .ok (.bool (xor neg b)) w := by
      rcases hop with ⟨rfl, rfl⟩ | ⟨rfl, rfl⟩
      · rw [hbin _ (.inl rfl), heq]; simp
      · rw [hbin _ (.inr rfl), heq]; simp
    refine ⟨.bool (xor neg b), ?_, .frz (.bool _)⟩
    simp only [execOp, ho, e1, e2, Sem.run_bind, hg, hb, Result.andThen_ok, Sem.run_pure]
  have max1 : Op.maxDepth = 9999 + 1 := rfl
  unfold eqKind at hk
  split at hk <;> (try (cases hk; done))
  · rename_i hu
    cases hk
    simp only [eqV] at hv
    unfold eqB at hv
    split at hv <;> (try (cases hv; done))
    obtain rfl := Option.some.inj hv
    refine fin _ _ (rep_bool h2) (rep_bool h3) (by rw [eqGuard_off _ _ _ _ _ _ (by simp) (by simp)]; rfl) (fun op' h => by rcases h with rfl | rfl <;> simp [binOp]) ?_
    rw [Op.equal, max1, run_equalIn_bool' w 9999 t _ _ hu]
  · rename_i e hu
    cases hk
    have hp : ∀ {v : AV} {c : Value}, Rep w bad D ρ v c → ((∃ i j q, v = .ptr i j q) ∨ ∃ z j, v = .fptr z j) → ∃ ad, c = .pointer (some ad) := by
      intro v c h hh
      rcases hh with ⟨i, j, q, rfl⟩ | ⟨z, j, rfl⟩
      · cases h with
        | frz h => cases h
        | ptr h => exact ⟨_, rfl⟩
        | ptrD b o h => exact ⟨_, rfl⟩
      · cases h with
        | frz h => cases h with
          | fptr => exact ⟨_, rfl⟩
    have run : ∀ (p q : Option Addr), (p = none ∨ q = none) → b = (p.isNone && q.isNone) → a.eval x = .pointer p → a.eval y = .pointer q → Says P w bad D ρ a o (.bool (xor neg b)) := by
      intro p q hpq hb e1 e2
      refine fin _ _ e1 e2 (by rw [eqGuard_off _ _ _ _ _ _ (by simp) (by simp)]; rfl) (fun op' h => by rcases h with rfl | rfl <;> simp [binOp]) ?_
      rw [Op.equal, max1, hb]
      exact eqIn_ptr 9999 hu p q hpq
    simp only [eqV] at hv
    unfold eqP at hv
    split at hv <;> (try (cases hv; done))
    · exact run none none (.inl rfl) (by simpa using hv.symm) (rep_nilp h2) (rep_nilp h3)
    · obtain ⟨ad, e⟩ := hp h3 (.inl ⟨_, _, _, rfl⟩)
      exact run none (some ad) (.inl rfl) (by simpa using hv.symm) (rep_nilp h2) e
    · obtain ⟨ad, e⟩ := hp h2 (.inl ⟨_, _, _, rfl⟩)
      exact run (some ad) none (.inr rfl) (by simpa using hv.symm) e (rep_nilp h3)
    · obtain ⟨ad, e⟩ := hp h3 (.inr ⟨_, _, rfl⟩)
      exact run none (some ad) (.inl rfl) (by simpa using hv.symm) (rep_nilp h2) e
    · obtain ⟨ad, e⟩ := hp h2 (.inr ⟨_, _, rfl⟩)
      exact run (some ad) none (.inr rfl) (by simpa using hv.symm) e (rep_nilp h3)
  · rename_i e hu
    cases hk
    have nil3 : ∀ {c : Value}, Rep w bad D ρ (.zsl true) c → c = .slice none 0 0 := by
      intro c h
      cases h with
      | frz h => cases h; rfl
    have run : ∀ (p : Option Addr) (n c : Nat), b = p.isNone → a.eval x = .slice p n c → a.eval y = .slice none 0 0 → Says P w bad D ρ a o (.bool (xor neg b)) := by
      intro p n c hb e1 e2
      refine fin _ _ e1 e2 (by rw [eqGuard_off _ _ _ _ _ _ (by simp) (by simp)]; rfl) (fun op' h => by rcases h with rfl | rfl <;> simp [binOp]) ?_
      rw [Op.equal, max1, hb]
      exact eqIn_slc 9999 hu p n c
    simp only [eqV] at hv
    unfold eqS at hv
    split at hv <;> (try (cases hv; done))
    · exact run none 0 0 (by simpa using hv.symm) (nil3 h2) (nil3 h3)
    · have : ∃ ad n c, a.eval x = .slice (some ad) n c := by
        generalize a.eval x = V at *
        cases h2 with
        | frz h => cases h
        | slc h _ _ => exact ⟨_, _, _, rfl⟩
        | slcD ad c hd hn ha =>
          cases ad with
          | none => exact absurd rfl (ha (by simp))
          | some ad => exact ⟨_, _, _, rfl⟩
      obtain ⟨ad, n, c, e1⟩ := this
      exact run (some ad) n c (by simpa using hv.symm) e1 (nil3 h3)
    · have : ∃ ad n c, a.eval x = .slice (some ad) n c := by
        generalize a.eval x = V at *
        cases h2 with
        | frz h => cases h with
          | lst => exact ⟨_, _, _, rfl⟩
      obtain ⟨ad, n, c, e1⟩ := this
      exact run (some ad) n c (by simpa using hv.symm) e1 (nil3 h3)
  · rename_i hu
    cases hk
    have run : ∀ (va vb : Value), (va = .nilFunc ∨ ∃ f p q, va = .func f p q) → (vb = .nilFunc ∨ ∃ f p q, vb = .func f p q) → (va = .nilFunc ∨ vb = .nilFunc) → (b = true ↔ va = .nilFunc ∧ vb = .nilFunc) → a.eval x = va → a.eval y = vb → Says P w bad D ρ a o (.bool (xor neg b)) := by
      intro va vb h1 h2 h3 hb e1 e2
      rcases h1 with rfl | ⟨f, p, q, rfl⟩ <;> rcases h2 with rfl | ⟨f', p', q', rfl⟩
      · refine fin _ _ e1 e2 (by rw [eqGuard_off _ _ _ _ _ _ (by simp) (by simp)]; rfl) (fun op' h => by rcases h with rfl | rfl <;> simp [binOp]) ?_
        rw [Op.equal, max1, hb.mpr ⟨rfl, rfl⟩]
        exact (eqIn_fn 9999 hu).1
      · have hb' : b = false := by cases b; rfl; simp at hb
        refine fin _ _ e1 e2 (by rw [eqGuard_off _ _ _ _ _ _ (by simp) (by simp)]; rfl) (fun op' h => by rcases h with rfl | rfl <;> simp [binOp]) ?_
        rw [Op.equal, max1, hb']
        exact (eqIn_fn 9999 hu).2.1 _ _ _
      · have hb' : b = false := by cases b; rfl; simp at hb
        refine fin _ _ e1 e2 (by rw [eqGuard_off _ _ _ _ _ _ (by simp) (by simp)]; rfl) (fun op' h => by rcases h with rfl | rfl <;> simp [binOp]) ?_
        rw [Op.equal, max1, hb']
        exact (eqIn_fn 9999 hu).2.2 _ _ _
      · simp at h3
    simp only [eqV] at hv
    unfold eqF at hv
    split at hv <;> (try (cases hv; done))
    · exact run _ _ (.inl rfl) (.inl rfl) (.inl rfl) (by simp only [Option.some.injEq] at hv; simp [← hv]) (rep_nilf h2) (rep_nilf h3)
    · obtain ⟨va, vb, e, _⟩ := rep_fn h3
      exact run _ _ (.inl rfl) (.inr ⟨_, _, _, rfl⟩) (.inl rfl) (by simp only [Option.some.injEq] at hv; simp [← hv]) (rep_nilf h2) e
    · obtain ⟨va, vb, e, _⟩ := rep_fn h2
      exact run _ _ (.inr ⟨_, _, _, rfl⟩) (.inl rfl) (.inr rfl) (by simp only [Option.some.injEq] at hv; simp [← hv]) e (rep_nilf h3)
  all_goals
    split at hk <;> (try (cases hk; done))
    rename_i hg
    split at hk <;> (try (cases hk; done))
    rename_i sh' hsh
    cases hk
    simp only [eqV] at hv
    unfold eqA at hv
    split at hv <;> (try (cases hv; done))
    rename_i cs ds
    obtain ⟨xs, e1, l1, p1⟩ := rep_agg h2
    obtain ⟨ys, e2, l2, p2⟩ := rep_agg h3
    have hlen := eqL_len hv
    refine fin _ _ e1 e2 (run_eqGuard_agg w op t x y _ _ (by simpa using hg)) (fun op' h => by rcases h with rfl | rfl <;> simp [binOp]) ?_
    rw [Op.equal, max1]
    obtain ⟨va, vb, q1, q2, q3⟩ := eqSh_run (w := w) (bad := bad) (D := D) (ρ := ρ) 5 t sh hsh (9999 + 1) (by omega) cs ds xs ys 0 b ⟨l1, p1⟩ ⟨l2, p2⟩ (by simp only [List.drop_zero]; rw [List.take_of_length_le (by omega), List.take_of_length_le (by omega)]; exact hv)
    have ha : agB P t = some true := by simp [agB, *]
    obtain ⟨i, hi⟩ : ∃ i, P.info? t = some i := info_of_underlying (by assumption)
    have hsz : i.size = sh.length := by
      rw [← eqSh_size hsh ha]; simp [Program.cellsOf, hi]
    rw [part_all hi ha xs (by omega)] at q1
    rw [part_all hi ha ys (by omega)] at q2
    cases q1; cases q2
    exact q3
end
end Go.Proofs.Ytbcbaidnamebkaa.AE
