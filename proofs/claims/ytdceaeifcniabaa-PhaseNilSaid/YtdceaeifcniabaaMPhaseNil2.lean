/- The texts that the law PhaseNil needs, part 2. No conditions. -/
import Derived.ChangeArms
import Derived.WideShapes
import Derived.OpenShut
import Derived.Deep.Slices
import Derived.Test.YtdceaeifcniabaaMPhaseNil1
namespace Go.Proofs.Ytdceaeifcniabaa.AE
set_option linter.unusedVariables false
set_option linter.unusedSimpArgs false
set_option linter.constructorNameAsVariable false
open Go Go.RowKit

theorem sops_at {ios : List IOper} {ps : List Nat} {k : Nat} {o : SOp} (h : (sopsOf ios ps)[k]? = some o) : ios[k]? = some o.op := by
  simp only [sopsOf, List.getElem?_map, List.getElem?_zipIdx, Nat.zero_add, Option.map_map, Option.map_eq_some_iff] at h
  obtain ⟨a, ha, rfl⟩ := h
  exact ha
theorem sops_len (ios : List IOper) (ps : List Nat) : (sopsOf ios ps).length = ios.length := by simp [sopsOf]

/-- What lies at a kept number's place. -/
def preB (o : SOp) : Blk := match o.op.op with
  | .alloc e => ⟨e, [e.zero]⟩
  | _ => rjunk
def kindOk (o : SOp) : Prop := (∃ e, o.op.op = .alloc e ∧ e.es ≠ 0) ∨ (∃ e x, o.op.op = .box e x ∧ e.bytes ≠ 0) ∨ ∃ e n q, o.op.op = .mkrow e n q ∧ e.bytes ≠ 0
theorem slots_spec : ∀ (l : List SOp) (c : Nat), slotsOk l c = true → ∀ (m : Nat) (a : SOp) (j : Nat), l[m]? = some a → a.slot = some j →
    c ≤ j ∧ a.op.guard = none ∧ kindOk a ∧ (preH l)[j - c]? = some (some (preB a)) ∧ ∀ (m' : Nat) (a' : SOp) (j' : Nat), m < m' → l[m']? = some a' → a'.slot = some j' → j < j'
  | [], c, h, m, a, j, hm, _ => by simp at hm
  | o :: l, c, h, m, a, j, hm, hj => by
    simp only [slotsOk] at h
    cases hs : o.slot with
    | none =>
      rw [hs] at h
      cases m with
      | zero =>
        simp only [List.getElem?_cons_zero, Option.some.injEq] at hm
        subst hm; rw [hs] at hj; cases hj
      | succ m =>
        simp only [List.getElem?_cons_succ] at hm
        obtain ⟨q1, q2, q3, q4, q5⟩ := slots_spec l c h m a j hm hj
        refine ⟨q1, q2, q3, by simp only [preH, hs]; exact q4, fun m' a' j' hlt ha' hj' => ?_⟩
        cases m' with
        | zero => omega
        | succ m' => exact q5 m' a' j' (by omega) (by simpa using ha') hj'
    | some s =>
      rw [hs] at h
      simp only [Bool.and_eq_true, beq_iff_eq] at h
      obtain ⟨⟨⟨h1, h2⟩, h3⟩, h4⟩ := h
      subst h1
      cases m with
      | zero =>
        simp only [List.getElem?_cons_zero, Option.some.injEq] at hm
        subst hm
        rw [hs] at hj; cases hj
        refine ⟨Nat.le_refl _, by simpa using h2, ?_, ?_, fun m' a' j' hlt ha' hj' => ?_⟩
        · split at h3
          · rename_i e he; exact .inl ⟨e, he, by simpa using h3⟩
          · rename_i e x he; exact .inr (.inl ⟨e, x, he, by simpa using h3⟩)
          · rename_i e n q he; exact .inr (.inr ⟨e, n, q, he, by simpa using h3⟩)
          · cases h3
        · simp only [preH, hs, Nat.sub_self, List.getElem?_cons_zero]
          unfold preB
          cases o.op.op <;> rfl
        · cases m' with
          | zero => omega
          | succ m' =>
            have := (slots_spec l _ h4 m' a' j' (by simpa using ha') hj').1
            omega
      | succ m =>
        simp only [List.getElem?_cons_succ] at hm
        obtain ⟨q1, q2, q3, q4, q5⟩ := slots_spec l _ h4 m a j hm hj
        refine ⟨by omega, q2, q3, ?_, fun m' a' j' hlt ha' hj' => ?_⟩
        · simp only [preH, hs]
          rw [show j - s = (j - (s + 1)) + 1 by omega, List.getElem?_cons_succ]; exact q4
        · cases m' with
          | zero => omega
          | succ m' => exact q5 m' a' j' (by omega) (by simpa using ha') hj'

/-- It changes memory, in the text's order. -/
def hv (o : SOp) : Prop := chgS o = true ∧ o.slot = none
/-- Its block's number is kept, it is made there. -/
def mkF (o : SOp) : Prop := o.slot ≠ none ∧ allocOp o.op.op = false

structure GS (P : Program) (call : CallF) (base : Nat) (ops : Array Oper) (l : List SOp) (ps : List Nat) (f : Nat → St) : Prop where
  size : l.length = ops.size
  ts : TS call base l f
  at_ : ∀ k, k < ops.size → ∃ (o : Oper) (so : SOp), ops[k]? = some o ∧ l[k]? = some so ∧ cOper P ops.toList o = some so.op
  slots : ∀ (m k : Nat) (om ok : Oper) (t : Nat), m ≠ k → ops[m]? = some om → ops[k]? = some ok → om.dst = some t → (t ∈ ok.looksAt ops ∨ ok.dst = some t) → Ord ps m k
  heavy : ∀ (m k : Nat) (a b : SOp), m ≠ k → l[m]? = some a → l[k]? = some b → hv a → hv b → Ord ps m k
  mkcall : ∀ (m k : Nat) (a b : SOp), m ≠ k → l[m]? = some a → l[k]? = some b → mkF a → hv b → stApp b.op.op = false → Ord ps m k
  chk : ∀ (i k : Nat) (a b : SOp), i < k → l[i]? = some a → l[k]? = some b → meetsS a b = true → Ord ps i k ∨ b.chk.contains i = true
  kp : ∀ (m k : Nat) (a b : SOp) (s : Nat), l[m]? = some a → l[k]? = some b → a.slot = some s → hv b → (ps.getD k 0).testBit m = true ∨ b.kp.contains s = true
  slot : ∀ (m : Nat) (a : SOp) (j : Nat), l[m]? = some a → a.slot = some j → a.op.guard = none ∧ kindOk a ∧ (preH l)[j]? = some (some (preB a))
  inj : ∀ (m m' : Nat) (a a' : SOp) (j : Nat), l[m]? = some a → l[m']? = some a' → a.slot = some j → a'.slot = some j → m = m'
  low : ∀ (m i : Nat), (ps.getD m 0).testBit i = true → i < m
  trans : ∀ (m h k : Nat), k < ops.size → (ps.getD k 0).testBit h = true → (ps.getD h 0).testBit m = true → (ps.getD k 0).testBit m = true

theorem predsOf_low {ops : Array Oper} (hed : edgesOk ops = true) : ∀ m i, ((predsOf ops.toList []).getD m 0).testBit i = true → i < m := by
  intro m
  induction m using Nat.strongRecOn with
  | _ m ih =>
    intro i hi
    rcases Nat.lt_or_ge m ops.size with hlt | hge
    · have ho : ops.toList[m]? = some ops[m] := by simp [hlt]
      obtain ⟨x, h1, h2, h3⟩ := predsOf_bits ops.toList [] m i ops[m] ho (by simpa using hi)
      have := List.all_eq_true.mp hed (ops[m], m) (by rw [List.mem_zipIdx_iff_getElem?]; simp [hlt])
      have := List.all_eq_true.mp this x (by simpa using h1)
      have hx : x.on < m := by simpa [h2] using this
      rcases h3 with rfl | h3
      · exact hx
      · have := ih x.on hx i h3; omega
    · have hl := predsOf_len ops.toList []
      rw [List.getD_eq_getElem?_getD, List.getElem?_eq_none (by simp at hl; omega)] at hi
      simp at hi

theorem gs_of {P : Program} {call : CallF} {base : Nat} {ops : Array Oper} {ios : List IOper} {f : Nat → St} (hc : optAll (cOper P ops.toList) ops.toList = some ios)
    (hd : drawSOk ops (sopsOf ios (predsOf ops.toList [])) (predsOf ops.toList []) = true) (hed : edgesOk ops = true) (ht : TS call base (sopsOf ios (predsOf ops.toList [])) f) :
    GS P call base ops (sopsOf ios (predsOf ops.toList [])) (predsOf ops.toList []) f := by
  have hlow := predsOf_low hed
  generalize hps : predsOf ops.toList [] = ps at *
  obtain ⟨hl, hat⟩ := optAll_spec hc
  have hlen : ios.length = ops.size := by simpa using hl
  have hsz : (sopsOf ios ps).length = ops.size := by rw [sops_len, hlen]
  have hop : ∀ (k : Nat) (so : SOp), (sopsOf ios ps)[k]? = some so → ios[k]? = some so.op := fun k so h => sops_at h
  generalize sopsOf ios ps = l at *
  simp only [drawSOk, Bool.and_eq_true] at hd
  obtain ⟨⟨⟨htr, hs⟩, hd⟩, hk⟩ := hd
  have lt_of : ∀ (k : Nat) (so : SOp), l[k]? = some so → k < ops.size := fun k so h => by rw [← hsz]; exact (List.getElem?_eq_some_iff.mp h).1
  have lt_of2 : ∀ (k : Nat) (o : Oper), ops[k]? = some o → k < ops.size := fun k o h => (Array.getElem?_eq_some_iff.mp h).1
  have hat' : ∀ k, k < ops.size → ∃ (o : Oper) (so : SOp), ops[k]? = some o ∧ l[k]? = some so ∧ cOper P ops.toList o = some so.op := by
    intro k hk
    obtain ⟨io, e1, e2⟩ := hat k ops[k] (by simp [hk])
    have h1 : l[k]? = some l[k] := List.getElem?_eq_getElem (by omega)
    have h2 := hop k _ h1
    rw [e1] at h2
    injection h2 with h2
    exact ⟨ops[k], l[k], by simp [hk], h1, by rw [← h2]; exact e2⟩
  have hpair : ∀ (i j : Nat) (o p : Oper) (a b : SOp), i < j → ops[i]? = some o → ops[j]? = some p → l[i]? = some a → l[j]? = some b → (ps.getD j 0).testBit i = true ∨ pairS ops o p a b i = true := by
    intro i j o p a b hij ho hp ha hb
    have := List.all_eq_true.mp (List.all_eq_true.mp hd j (List.mem_range.mpr (lt_of j b hb))) i (List.mem_range.mpr hij)
    simp only [Bool.or_eq_true, ho, hp, ha, hb] at this
    exact this
  have ordOf : ∀ m k, m ≠ k → ((m < k → (ps.getD k 0).testBit m = true) ∧ (k < m → (ps.getD m 0).testBit k = true)) → Ord ps m k := fun m k _ h => h
  have two : ∀ (m k : Nat) (om ok : Oper) (a b : SOp), m ≠ k → ops[m]? = some om → ops[k]? = some ok → l[m]? = some a → l[k]? = some b → (∀ o p x y i, pairS ops o p x y i = true → (o = om ∧ p = ok ∧ x = a ∧ y = b ∨ o = ok ∧ p = om ∧ x = b ∧ y = a) → False) → Ord ps m k := by
    intro m k om ok a b hmk hm hk ha hb hno
    constructor
    · intro hlt
      exact (hpair m k om ok a b hlt hm hk ha hb).resolve_right fun h => hno _ _ _ _ _ h (.inl ⟨rfl, rfl, rfl, rfl⟩)
    · intro hlt
      exact (hpair k m ok om b a hlt hk hm hb ha).resolve_right fun h => hno _ _ _ _ _ h (.inr ⟨rfl, rfl, rfl, rfl⟩)
  have opsAt : ∀ (k : Nat) (so : SOp), l[k]? = some so → ∃ o, ops[k]? = some o := fun k so h => ⟨ops[k]'(lt_of k so h), by simp [lt_of k so h]⟩
  have lAt : ∀ (k : Nat) (o : Oper), ops[k]? = some o → ∃ so, l[k]? = some so := fun k o h => ⟨l[k]'(by have := lt_of2 k o h; omega), List.getElem?_eq_getElem _⟩
  have hvl : ∀ a : SOp, hv a → lightOp a.op.op = false := by
    rintro a ⟨h1, h2⟩
    simp only [chgS, h2, Option.isSome_none, Bool.false_and, Bool.not_false, Bool.and_true, Bool.not_eq_true'] at h1
    exact h1
  have hsp := slots_spec l 0 hs
  have mkl : ∀ (m : Nat) (a : SOp), l[m]? = some a → a.slot ≠ none → lightOp a.op.op = false := by
    intro m a ha hn
    cases hsl : a.slot with
    | none => exact absurd hsl hn
    | some j =>
      obtain ⟨_, _, hkd, _⟩ := hsp m a j ha hsl
      rcases hkd with ⟨e, he, _⟩ | ⟨e, x, he, _⟩ | ⟨e, n, q, he, _⟩ <;> rw [he] <;> rfl
  refine ⟨hsz, ht, hat', ?_, ?_, ?_, ?_, ?_, ?_, ?_, hlow, ?_⟩
  rotate_right
  · intro m h k hk h1 h2
    have := List.all_eq_true.mp (List.all_eq_true.mp htr k (List.mem_range.mpr hk)) h (List.mem_range.mpr (hlow k h h1))
    simp only [h1, Bool.not_true, Bool.false_or, beq_iff_eq] at this
    have := congrArg (fun z => z.testBit m) this
    simp only [Nat.testBit_and, h2, Bool.true_and] at this
    exact this
  · intro m k om ok t hmk hm hk hdst hlook
    obtain ⟨a, ha⟩ := lAt m om hm
    obtain ⟨b, hb⟩ := lAt k ok hk
    refine two m k om ok a b hmk hm hk ha hb fun o p x y i h hh => ?_
    simp only [pairS, Bool.and_eq_true] at h
    obtain ⟨a1, a2, a3⟩ := Oper.apart_spec h.1.1
    rcases hh with ⟨rfl, rfl, _, _⟩ | ⟨rfl, rfl, _, _⟩
    · rcases hlook with hl | hl
      · exact a1 t hdst hl
      · exact a2 t hdst hl
    · rcases hlook with hl | hl
      · exact a3 t hdst hl
      · exact a2 t hl hdst
  · intro m k a b hmk ha hb hva hvb
    obtain ⟨om, hm⟩ := opsAt m a ha
    obtain ⟨ok, hk⟩ := opsAt k b hb
    refine two m k om ok a b hmk hm hk ha hb fun o p x y i h hh => ?_
    simp only [pairS, Bool.and_eq_true] at h
    have h := h.1.2
    have e1 := hvl a hva
    have e2 := hvl b hvb
    rcases hh with ⟨_, _, rfl, rfl⟩ | ⟨_, _, rfl, rfl⟩ <;> simp [e1, e2, hva.2, hvb.2] at h
  · intro m k a b hmk ha hb hma hvb hns
    obtain ⟨om, hm⟩ := opsAt m a ha
    obtain ⟨ok, hk⟩ := opsAt k b hb
    refine two m k om ok a b hmk hm hk ha hb fun o p x y i h hh => ?_
    simp only [pairS, Bool.and_eq_true] at h
    have h := h.1.2
    have e1 := mkl m a ha hma.1
    have e2 := hvl b hvb
    rcases hh with ⟨_, _, rfl, rfl⟩ | ⟨_, _, rfl, rfl⟩ <;> simp [e1, e2, hvb.2, hns, hma.2] at h
  · intro i k a b hik ha hb hme
    obtain ⟨oi, hi⟩ := opsAt i a ha
    obtain ⟨ok, hk⟩ := opsAt k b hb
    rcases hpair i k oi ok a b hik hi hk ha hb with h | h
    · exact .inl ⟨fun _ => h, fun h' => by omega⟩
    · right
      simp only [pairS, Bool.and_eq_true, hme, Bool.not_true, Bool.false_or] at h
      exact h.2
  · intro m k a b s ha hb hsl hvb
    have := List.all_eq_true.mp (List.all_eq_true.mp hk k (List.mem_range.mpr (lt_of k b hb))) m (List.mem_range.mpr (lt_of m a ha))
    simp only [ha, hb, hsl, hvb.1, hvb.2, Option.isNone_none, Bool.and_self, Bool.not_true, Bool.or_false, Bool.or_eq_true] at this
    exact this
  · intro m a j ha hj
    obtain ⟨_, q2, q3, q4, _⟩ := hsp m a j ha hj
    exact ⟨q2, q3, by simpa using q4⟩
  · intro m m' a a' j ha ha' hj hj'
    rcases Nat.lt_trichotomy m m' with h | h | h
    · have := (hsp m a j ha hj).2.2.2.2 m' a' j h ha' hj'; omega
    · exact h
    · have := (hsp m' a' j ha' hj').2.2.2.2 m a j h ha hj; omega
end Go.Proofs.Ytdceaeifcniabaa.AE

namespace Go.Proofs.Ytdceaeifcniabaa.AE
set_option linter.unusedVariables false
set_option linter.unusedSimpArgs false
set_option linter.constructorNameAsVariable false
open Go Go.RowKit

theorem names_has {ev : Opd → AV} {io : IOp} {x : AV} (h : x ∈ namesOf ev io) : hasNames io = true := by
  cases io <;> simp [namesOf, hasNames] at h ⊢
  case bk b args => cases b <;> simp [namesOf, hasNames] at h ⊢
theorem kind_not {a : SOp} (h : kindOk a) : lightOp a.op.op = false := by
  rcases h with ⟨e, he, _⟩ | ⟨e, x, he, _⟩ | ⟨e, n, q, he, _⟩ <;> rw [he] <;> rfl
/-- A made block is none that isn't made yet. -/
theorem make_not {ev : Opd → AV} {id : Nat} {a : SOp} {v : AV} {k : Blk} (h : kindOk a) (hm : makeAt ev id a.op.op = some (v, k)) : k ≠ rjunk := by
  rcases h with ⟨e, he, _⟩ | ⟨e, x, he, hb⟩ | ⟨e, n, q, he, hb⟩ <;> rw [he] at hm <;> simp only [makeAt] at hm
  · cases hm
  · split at hm <;> cases hm
    intro hk
    have := congrArg (fun b : Blk => b.e.bytes) hk
    exact hb this
  · split at hm <;> cases hm
    intro hk
    have := congrArg (fun b : Blk => b.e.bytes) hk
    exact hb this

section
variable {P : Program} {call : CallF} {base : Nat} {ops : Array Oper} {l : List SOp} {ps : List Nat} {f : Nat → St}

theorem GS.lt (G : GS P call base ops l ps f) {k : Nat} {o : SOp} (h : l[k]? = some o) : k < ops.size := by rw [← G.size]; exact (List.getElem?_eq_some_iff.mp h).1
theorem GS.get (G : GS P call base ops l ps f) {k : Nat} (h : k < ops.size) : ∃ o : SOp, l[k]? = some o := ⟨l[k]'(by rw [G.size]; exact h), List.getElem?_eq_getElem _⟩
theorem mkF_chg {a : SOp} (h : mkF a) (hk : kindOk a) : chgS a = true := by simp [chgS, h.2, kind_not hk]

/-- A step that isn't heavy. -/
theorem GS.soft (G : GS P call base ops l ps f) {k : Nat} {o : SOp} (h : l[k]? = some o) (hn : ¬ hv o) : (f (k + 1)).H.length = (f k).H.length ∧ ∀ id, (∀ j, o.slot = some j → mkF o → id ≠ base + j) → (f k).H[id]? = (f (k + 1)).H[id]? := by
  rcases G.ts.step k o h with ⟨hw, v, H', hs, he⟩ | ⟨hw, he⟩
  · rw [he]
    simp only
    cases hsl : o.slot with
    | none =>
      simp only [stepS, hsl] at hs
      have hlt : lightOp o.op.op = true := by
        cases hl : lightOp o.op.op with
        | true => rfl
        | false => exact absurd ⟨by simp [chgS, hsl, hl], hsl⟩ hn
      obtain ⟨rfl, _⟩ := light_op hlt hs
      exact ⟨rfl, fun _ _ => rfl⟩
    | some j =>
      simp only [stepS, hsl] at hs
      split at hs
      · cases hs; exact ⟨rfl, fun _ _ => rfl⟩
      · rename_i hal
        split at hs <;> (try (cases hs; done))
        cases hs
        refine ⟨by simp, fun id hid => ?_⟩
        rw [List.getElem?_set_ne (Ne.symm (hid j rfl ⟨by simp [hsl], hal⟩))]
  · rw [he]; exact ⟨rfl, fun _ _ => rfl⟩
/-- A heavy step keeps what is not made ahead of it for sure. -/
theorem GS.keeps (G : GS P call base ops l ps f) {k m : Nat} {o a : SOp} {j : Nat} (h : l[k]? = some o) (hh : hv o) (ha : l[m]? = some a) (hj : a.slot = some j) (hb : (ps.getD k 0).testBit m = false) : (f k).H[base + j]? = (f (k + 1)).H[base + j]? := by
  rcases G.kp m k a o j ha h hj hh with h1 | h1
  · rw [hb] at h1; cases h1
  · rcases G.ts.step k o h with ⟨hw, _⟩ | ⟨hw, he⟩
    · exact G.ts.kp k o j h hw h1
    · rw [he]
theorem path {id y z : Nat} (h : ∀ m, y ≤ m → m < z → (f m).H[id]? = (f (m + 1)).H[id]?) (hyz : y ≤ z) : (f y).H[id]? = (f z).H[id]? := by
  induction z, hyz using le_ind with
  | base => rfl
  | succ z hz ih => rw [ih fun m h1 h2 => h m h1 (by omega)]; exact h z hz (by omega)
theorem path2 {id y z : Nat} (h : ∀ m, (y ≤ m ∧ m < z ∨ z ≤ m ∧ m < y) → (f m).H[id]? = (f (m + 1)).H[id]?) : (f y).H[id]? = (f z).H[id]? := by
  rcases Nat.le_total y z with hl | hl
  · exact path (fun m h1 h2 => h m (.inl ⟨h1, h2⟩)) hl
  · exact (path (fun m h1 h2 => h m (.inr ⟨h1, h2⟩)) hl).symm
theorem lens {y z : Nat} (h : ∀ m, (y ≤ m ∧ m < z ∨ z ≤ m ∧ m < y) → (f (m + 1)).H.length = (f m).H.length) : (f y).H.length = (f z).H.length := by
  have go : ∀ y z : Nat, y ≤ z → (∀ m, y ≤ m → m < z → (f (m + 1)).H.length = (f m).H.length) → (f y).H.length = (f z).H.length := by
    intro y z hyz
    induction z, hyz using le_ind with
    | base => intro _; rfl
    | succ z hz ih => intro h; rw [ih fun m h1 h2 => h m h1 (by omega)]; exact (h z hz (by omega)).symm
  rcases Nat.le_total y z with hl | hl
  · exact go y z hl fun m h1 h2 => h m (.inl ⟨h1, h2⟩)
  · exact (go z y hl fun m h1 h2 => h m (.inr ⟨h1, h2⟩)).symm
/-- Ahead of its making a block's place is as_ at first. -/
theorem GS.pre (G : GS P call base ops l ps f) {H0 : Heap} (h0 : (f 0).H = H0 ++ preH l) (hb : base = H0.length) {m : Nat} {a : SOp} {j : Nat} (ha : l[m]? = some a) (hj : a.slot = some j) : ∀ k, k ≤ m → (f k).H[base + j]? = some (some (preB a)) := by
  intro k
  induction k with
  | zero =>
    intro _
    rw [h0, hb, List.getElem?_append_right (by omega), show H0.length + j - H0.length = j by omega]
    exact (G.slot m a j ha hj).2.2
  | succ k ih =>
    intro hk
    rw [← ih (by omega)]
    obtain ⟨o, ho⟩ := G.get (k := k) (by have := G.lt ha; omega)
    by_cases hh : hv o
    · refine (G.keeps ho hh ha hj ?_).symm
      cases hx : (ps.getD k 0).testBit m with
      | false => rfl
      | true => have := G.low k m hx; omega
    · refine ((G.soft ho hh).2 _ fun j' hj' hm e => ?_).symm
      have : j' = j := by omega
      subst this
      have := G.inj k m o a _ ho ha hj' hj
      omega
/-- A block that is made stays so, as_ long as_ nothing comes that is behind it for sure. -/
theorem GS.made (G : GS P call base ops l ps f) {m : Nat} {a : SOp} {j : Nat} (ha : l[m]? = some a) (hj : a.slot = some j) {y : Nat} (hy : m < y) (hyn : y ≤ ops.size) (hno : ∀ (h : Nat) (b : SOp), m < h → h < y → l[h]? = some b → hv b → (ps.getD h 0).testBit m = false) :
    (f (m + 1)).H[base + j]? = (f y).H[base + j]? := by
  refine path (fun h h1 h2 => ?_) hy
  obtain ⟨b, hb⟩ := G.get (k := h) (by omega)
  by_cases hh : hv b
  · exact G.keeps hb hh ha hj (hno h b (by omega) h2 hb hh)
  · refine (G.soft hb hh).2 _ fun j' hj' _ e => ?_
    have : j' = j := by omega
    subst this
    have := G.inj h m b a _ hb ha hj' hj
    omega
/-- What an operation looks at, what is in no order with it keeps. -/
theorem GS.names (G : GS P call base ops l ps f) {k m : Nat} {o a : SOp} (h : l[k]? = some o) (hw : want (f k).env o.op.guard = some true) (ha : l[m]? = some a) (hc : chgS a = true) (hmk : m ≠ k) (hno : ¬ Ord ps m k)
    {x : AV} (hx : x ∈ namesOf (evO (f k).env) o.op.op) {id : Nat} (hi : id ∈ idsOf x) : (f m).H[id]? = (f (m + 1)).H[id]? := by
  rcases G.ts.step m a ha with ⟨hwm, _⟩ | ⟨_, he⟩
  · have hn := names_has hx
    rcases Nat.lt_or_ge m k with hlt | hge
    · rcases G.chk m k a o hlt ha h (by simp [meetsS, hc, hn]) with h1 | h1
      · exact absurd h1 hno
      · have := G.ts.log m k a o hlt ha h hwm hw h1
        simp only [logC, entS, hc, Bool.and_eq_true] at this
        exact keepL_ok this.1 hx hi
    · rcases G.chk k m o a (by omega) h ha (by simp [meetsS, hc, hn]) with h1 | h1
      · exact absurd ⟨h1.2, h1.1⟩ hno
      · have := G.ts.log k m o a (by omega) h ha hw hwm h1
        simp only [logC, entS, hc, Bool.and_eq_true] at this
        exact keepL_ok this.2 hx hi
  · rw [he]

/-- A state in between. -/
structure InvX (G : GS P call base ops l ps f) (L : Nat → Prop) (ρ0 ρ : Rho) (s : St) (x : Nat) : Prop where
  len : s.env.length = (f 0).env.length
  env : ∀ t, ∃ c, c ≤ ops.size ∧ s.env.getD t .undef = (f c).env.getD t .undef ∧ ∀ (m : Nat) (o : Oper), ops[m]? = some o → o.dst = some t → (m < c ↔ L m)
  xle : x ≤ ops.size
  hx : ∀ (m : Nat) (a : SOp), l[m]? = some a → hv a → (m < x ↔ L m)
  hlen : s.H.length = (f x).H.length
  a : ∀ id, (∀ (m : Nat) (o : SOp) (j : Nat), l[m]? = some o → o.slot = some j → mkF o → id ≠ base + j) → s.H[id]? = (f x).H[id]?
  b : ∀ (m : Nat) (o : SOp) (j : Nat), l[m]? = some o → o.slot = some j → mkF o → (L m → s.H[base + j]? = (f (max x (m + 1))).H[base + j]?) ∧ (¬ L m → s.H[base + j]? = some (some rjunk))
  c : ∀ (m : Nat) (o : SOp) (j : Nat), l[m]? = some o → o.slot = some j → ¬ L m → ρ (base + j) = .res
  d : ∀ (m : Nat) (o : SOp) (j : Nat), l[m]? = some o → o.slot = some j → ρ0 (base + j) = .no

theorem InvX.to {G : GS P call base ops l ps f} {L : Nat → Prop} {ρ0 ρ : Rho} {s : St} {x : Nat} (I : InvX G L ρ0 ρ s x) {y : Nat} (hy : y ≤ ops.size) (hx : ∀ (m : Nat) (a : SOp), l[m]? = some a → hv a → (m < y ↔ L m)) : InvX G L ρ0 ρ s y := by
  have soft : ∀ (m : Nat) (o : SOp), l[m]? = some o → (x ≤ m ∧ m < y ∨ y ≤ m ∧ m < x) → ¬ hv o := by
    intro m o ho hm hh
    have h1 := I.hx m o ho hh
    have h2 := hx m o ho hh
    rcases hm with ⟨q1, q2⟩ | ⟨q1, q2⟩
    · have := h1.mpr (h2.mp q2); omega
    · have := h2.mpr (h1.mp q2); omega
  have xl := I.xle
  refine ⟨I.len, I.env, hy, hx, ?_, fun id hid => ?_, fun m o j ho hj hm => ⟨fun hl => ?_, (I.b m o j ho hj hm).2⟩, I.c, I.d⟩
  · rw [I.hlen]
    refine lens fun m hm => ?_
    obtain ⟨o, ho⟩ := G.get (k := m) (by omega)
    exact (G.soft ho (soft m o ho hm)).1
  · rw [I.a id hid]
    refine path2 fun m hm => ?_
    obtain ⟨o, ho⟩ := G.get (k := m) (by omega)
    exact (G.soft ho (soft m o ho hm)).2 id fun j hj hmk => hid m o j ho hj hmk
  · rw [(I.b m o j ho hj hm).1 hl]
    refine path2 fun m' hm' => ?_
    have hlt : m < ops.size := G.lt ho
    obtain ⟨o', ho'⟩ := G.get (k := m') (by omega)
    refine (G.soft ho' (soft m' o' ho' (by omega))).2 _ fun j' hj' hmk e => ?_
    have : j' = j := by omega
    subst this
    have := G.inj m' m o' o _ ho' ho hj' hj
    omega
end
end Go.Proofs.Ytdceaeifcniabaa.AE

namespace Go.Proofs.Ytdceaeifcniabaa.AE
set_option linter.unusedVariables false
set_option linter.unusedSimpArgs false
set_option linter.constructorNameAsVariable false
open Go Go.RowKit

/-- Stores and appends: told over memory that agrees where they look. -/
def updH (G : Heap) : Option (Nat × Option Blk) → Heap
  | some (id, x) => G.set id x
  | none => G
theorem updH_len (G : Heap) (u : Option (Nat × Option Blk)) : (updH G u).length = G.length := by cases u <;> simp [updH]
theorem updH_at {G : Heap} {u : Option (Nat × Option Blk)} {id : Nat} (h : ∀ x, u ≠ some (id, x)) : (updH G u)[id]? = G[id]? := by
  cases u with
  | none => rfl
  | some p =>
    obtain ⟨i, x⟩ := p
    have : i ≠ id := fun e => h x (by rw [e])
    simp only [updH, List.getElem?_set_ne this]
theorem updH_hit {G G' : Heap} {id : Nat} {x : Option Blk} (h : G.length = G'.length) : (updH G (some (id, x)))[id]? = (updH G' (some (id, x)))[id]? := by
  simp only [updH, List.getElem?_set, h, if_true]
theorem stApp_op {call : CallF} {ev : Opd → AV} {H H' : Heap} {io : IOp} {v : AV} (hl : stApp io = true) (h : aop call ev H io = some (v, H')) :
    ∃ (u : Option (Nat × Option Blk)) (Z : Heap), H' = updH H u ++ Z ∧ (∀ id y, u = some (id, y) → ∃ x ∈ namesOf ev io, id ∈ idsOf x) ∧
      ∀ G : Heap, G.length = H.length → (∀ x ∈ namesOf ev io, ∀ id ∈ idsOf x, H[id]? = G[id]?) → aop call ev G io = some (v, updH G u ++ Z) := by
  cases io <;> simp only [stApp, Bool.false_eq_true] at hl
  case store n a x =>
    simp only [aop] at h
    cases hp : aStore H n (ev x) (ev a) with
    | none => rw [hp] at h; cases h
    | some Hn =>
      rw [hp] at h
      simp only [Option.some.injEq, Prod.mk.injEq] at h
      obtain ⟨rfl, rfl⟩ := h
      cases he : ev a <;> rw [he] at hp <;> simp only [aStore] at hp <;> (try (cases hp; done))
      rename_i id i j
      cases hg : hget H id with
      | none => rw [hg] at hp; cases hp
      | some b =>
        rw [hg] at hp
        simp only at hp
        split at hp <;> (try (cases hp; done))
        rename_i el hel
        split at hp <;> (try (cases hp; done))
        rename_i el' hel'
        simp only [Option.some.injEq] at hp
        subst hp
        refine ⟨some (id, some { b with els := b.els.set i el' }), [], by simp [updH], fun id' y hu => ?_, fun G hG hn => ?_⟩
        · simp only [Option.some.injEq, Prod.mk.injEq] at hu
          exact ⟨ev a, by simp [namesOf], by simp [he, idsOf, hu.1]⟩
        · have := hn (ev a) (by simp [namesOf]) id (by simp [he, idsOf])
          rw [hget_eq this] at hg
          simp only [aop, he, aStore, hg, hel, hel', updH, List.append_nil]
  case app e sv x =>
    simp only [aop] at h
    cases hx : elsOf H (ev x) with
    | none => rw [hx] at h; cases h
    | some xs =>
      rw [hx] at h
      simp only at h
      cases he : ev sv <;> rw [he] at h <;> simp only [aApp] at h <;> (try (cases h; done))
      · split at h <;> (try (cases h; done))
        rename_i hc
        simp only [Option.some.injEq, Prod.mk.injEq] at h
        obtain ⟨rfl, rfl⟩ := h
        refine ⟨none, _, rfl, by simp, fun G hG hn => ?_⟩
        have e1 := elsOf_eq (hn (ev x) (by simp [namesOf]))
        simp only [aop, ← e1, hx, he, aApp, if_pos hc, updH, hG]
      · rename_i id o n
        cases o with
        | succ o => simp only [aApp] at h; cases h
        | zero =>
          simp only [aApp] at h
          cases hg : hget H id with
          | none => rw [hg] at h; cases h
          | some b =>
            rw [hg] at h
            simp only at h
            split at h <;> (try (cases h; done))
            rename_i hc
            simp only [Option.some.injEq, Prod.mk.injEq] at h
            obtain ⟨rfl, rfl⟩ := h
            refine ⟨some (id, none), _, rfl, fun id' y hu => ?_, fun G hG hn => ?_⟩
            · simp only [Option.some.injEq, Prod.mk.injEq] at hu
              exact ⟨ev sv, by simp [namesOf], by simp [he, idsOf, hu.1]⟩
            · have e1 := elsOf_eq (hn (ev x) (by simp [namesOf]))
              have e2 := hn (ev sv) (by simp [namesOf]) id (by simp [he, idsOf])
              rw [hget_eq e2] at hg
              simp only [aop, ← e1, hx, he, aApp, hg, if_pos hc, updH, hG]

/-- A number that is kept is given up. -/
theorem Rep.drop {w : World} {bad D : Nat → Prop} {ρ : Rho} {id : Nat} (hr : ρ id = .res) {v : AV} {c : Value} (h : Rep w bad D ρ v c) : Rep w bad D (fun i => if i = id then .no else ρ i) v c := by
  have ne : ∀ {i : Nat} {x : RB}, ρ i = x → x ≠ .res → i ≠ id := by rintro i x h1 h2 rfl; exact h2 (h1.symm.trans hr)
  induction h with
  | frz h => exact .frz (h.mono (Nat.le_refl _) (fun _ _ _ => rfl) (fun b _ hb => hb.elim .inl (fun ⟨i, es, cap, x⟩ => .inr (by
      simp only at x
      split at x
      · cases x
      · exact ⟨i, es, cap, x⟩))))
  | ptr h => exact .ptr (by simp only [ne h (by simp), if_false]; exact h)
  | ptrD b o h => exact .ptrD b o h
  | slc h hc hn => exact .slc (by simp only [ne h (by simp), if_false]; exact h) hc hn
  | slcV a h => exact .slcV a (by simp only [ne h (by simp), if_false]; exact h)
  | slcD a c h hn ha => exact .slcD a c h hn ha
  | agg cs vs hl h ih => exact .agg cs vs hl fun i c v hc hv => ih i c v hc hv
  | tup cs vs hl h ih => exact .tup cs vs hl fun i c v hc hv => ih i c v hc hv
  | fn g a b va vb hla hlb ha hb iha ihb => exact .fn g a b va vb hla hlb (fun i c v hc hv => iha i c v hc hv) (fun i c v hc hv => ihb i c v hc hv)
theorem HRel.drop {w : World} {bad : Nat → Prop} {ρ : Rho} {B : Nat} {H : Heap} {id : Nat} (hr : ρ id = .res) (h : HRel w bad ρ B H) : HRel w bad (fun i => if i = id then .no else ρ i) B H := by
  refine ⟨fun i b es cap hi => ?_, fun i hi => ?_, fun i i' b es cap es' cap' hi hi' => ?_, fun i hi => ?_⟩
  · try simp only at hi
    split at hi
    · cases hi
    · obtain ⟨k, hk, hb⟩ := h.real i b es cap hi
      obtain ⟨cur, fz, q1, q2, q3, q4⟩ := hb.mem
      exact ⟨k, hk, hb.hes, hb.pos, hb.low, hb.len, hb.ok, cur, fz, q1, q2, q3, fun i el j c hel hj => let ⟨u, hu, hp⟩ := q4 i el j c hel hj; ⟨u, hu, hp.drop hr⟩⟩
  · try simp only at hi
    split at hi
    · cases hi
    · exact h.virt i hi
  · try simp only at hi hi'
    split at hi
    · cases hi
    · split at hi'
      · cases hi'
      · exact h.inj _ _ _ _ _ _ _ hi hi'
  · try simp only at hi
    split at hi
    · cases hi
    · exact h.res i hi

section
variable {P : Program} {call : CallF} {base : Nat} {ops : Array Oper} {l : List SOp} {ps : List Nat} {f : Nat → St}
variable {w w0 : World} {bad D0 : Nat → Prop} {ρ ρ0 : Rho} {a : Act} {B : Nat} {s : St} {Q : Exit → Act → World → Prop}

theorem Sim.drop {id : Nat} (hr : ρ id = .res) (h0 : ρ0 id = .no) (h : Sim w0 D0 ρ0 bad B ρ s a w) : Sim w0 D0 ρ0 bad B (fun i => if i = id then .no else ρ i) s a w := by
  refine ⟨h.defers, h.size, fun t ht => (h.env t ht).drop hr, h.heap.drop hr, h.low, h.st.grow, ⟨fun b hb => ?_⟩, h.st.dead, fun i hi => ?_⟩
  · obtain ⟨i, es, cap, x⟩ := hb
    simp only at x
    split at x
    · cases x
    · exact h.st.rle.keep b ⟨i, es, cap, x⟩
  · have : i ≠ id := by rintro rfl; exact hi h0
    simp only [this, if_false]
    exact h.st.keep i hi
theorem Sim.rebase (h : Sim w0 D0 ρ0 bad B ρ s a w) : Sim w (dead s.H) ρ bad B ρ s a w := ⟨h.defers, h.size, h.env, h.heap, h.low, Step.refl _ _ _⟩
theorem Sim.back {w' : World} {ρ' : Rho} {s' : St} {a' : Act} (h : Sim w0 D0 ρ0 bad B ρ s a w) (h' : Sim w (dead s.H) ρ bad B ρ' s' a' w') : Sim w0 D0 ρ0 bad B ρ' s' a' w' := ⟨h'.defers, h'.size, h'.env, h'.heap, h'.low, h.st.trans h'.st⟩

theorem GS.lenE (G : GS P call base ops l ps f) {k : Nat} (h : k ≤ ops.size) : (f k).env.length = (f 0).env.length := by
  induction k with
  | zero => rfl
  | succ k ih =>
    obtain ⟨o, ho⟩ := G.get (k := k) (by omega)
    rcases G.ts.step k o ho with ⟨_, v, H', _, he⟩ | ⟨_, he⟩ <;> rw [he] <;> simp only [put_length] <;> exact ih (by omega)
theorem env_put {G : GS P call base ops l ps f} {L : Nat → Prop} {x : Nat} (I : InvX G L ρ0 ρ s x) {k : Nat} {o : Oper} {v : AV} (he : k < ops.size) (ho : ops[k]? = some o) (hput : (f (k + 1)).env = put (f k).env o.dst v)
    (hord : ∀ (m : Nat) (om : Oper) (t : Nat), m ≠ k → ops[m]? = some om → om.dst = some t → o.dst = some t → (m < k ↔ L m)) :
    ∀ t, ∃ c, c ≤ ops.size ∧ (put s.env o.dst v).getD t .undef = (f c).env.getD t .undef ∧ ∀ (m : Nat) (om : Oper), ops[m]? = some om → om.dst = some t → (m < c ↔ (L m ∨ m = k)) := by
  intro t
  by_cases hd : o.dst = some t
  · refine ⟨k + 1, by omega, ?_, fun m om h3 h4 => ?_⟩
    · rw [hput, hd]
      simp only [put, List.getD_eq_getElem?_getD]
      rcases Nat.lt_or_ge t s.env.length with hlt | hge
      · rw [List.getElem?_set_self hlt, List.getElem?_set_self (by rw [G.lenE (by omega), ← I.len]; exact hlt)]
      · rw [List.getElem?_eq_none (by simpa using hge), List.getElem?_eq_none (by simp; rw [G.lenE (by omega), ← I.len]; exact hge)]
    · by_cases hmk : m = k
      · subst hmk; simp
      · have := hord m om t hmk h3 h4 hd
        rw [← this]
        omega
  · obtain ⟨c, h2, h3, h4⟩ := I.env t
    refine ⟨c, h2, by rw [put_getD_ne hd, h3], fun m om q3 q4 => ?_⟩
    have hmk : m ≠ k := by
      rintro rfl
      rw [ho] at q3; cases q3
      exact hd q4
    rw [h4 m om q3 q4]
    simp [hmk]
/-- A number that is kept stays so. -/
theorem res_stays {w' : World} {ρ' : Rho} {s' : St} {a' : Act} {D : Nat → Prop} {id : Nat} (h' : Sim w D ρ bad B ρ' s' a' w') (hr : ρ id = .res) (hd : s'.H[id]? ≠ some none) : ρ' id = .res := by
  rcases h'.st.keep id (by rw [hr]; simp) with h1 | h1
  · rw [h1, hr]
  · exact absurd h1 hd
theorem res_alive (h : Sim w0 D0 ρ0 bad B ρ s a w) {id : Nat} (hr : ρ id = .res) : s.H[id]? ≠ some none := by
  obtain ⟨k, hk, _⟩ := h.heap.res id hr
  rw [hk]; simp
end
end Go.Proofs.Ytdceaeifcniabaa.AE

namespace Go.Proofs.Ytdceaeifcniabaa.AE
set_option linter.unusedVariables false
set_option linter.unusedSimpArgs false
set_option linter.constructorNameAsVariable false
open Go Go.RowKit

section
variable {P : Program} {call : CallF} {base : Nat} {ops : Array Oper} {l : List SOp} {ps : List Nat} {f : Nat → St}
variable {w w0 : World} {bad D0 : Nat → Prop} {ρ ρ0 : Rho} {a : Act} {B : Nat} {s : St} {Q : Exit → Act → World → Prop}

def noCallS : CallF := fun _ _ _ => none
/-- Making a block at a number that is kept. -/
theorem float_makes {o : Oper} {io : IOp} {ev : Opd → AV} {G : Heap} {id : Nat} {v : AV} {k : Blk} (hc : cOp P o.type o.op = some io) (hbad : ∀ b, bad b → b < B) (hR : HRel w bad ρ B G) (hB : B ≤ w.heap.size)
    (hO : OpsOk w bad (dead G) ρ a ev o.op.operands.toList) (hev : ∀ x, ev (.v x) = x) (hmk : mkOp io = true) (hv : aop noCallS ev (List.replicate id none) io = some (v, List.replicate id none ++ [some k])) : Makes P w bad (dead G) ρ a o v id k := by
  have hn : ∀ i b, hget (List.replicate id (none : Option Blk)) i ≠ some b := by
    intro i b h
    have := (hget_lt h).1
    rw [List.getElem?_replicate] at this
    split at this <;> cases this
  have hcall : PCallOK P noCallS := by intro g args H v H' h; cases h
  have h1 : fullOp io = false := by cases io <;> first | rfl | (cases hmk; done)
  have h2 : storeOp io = false := by cases io <;> first | rfl | (cases hmk; done)
  have h3 : isCall io = false := by cases io <;> first | rfl | (cases hmk; done)
  rcases op_drawn (ev := ev) hc hcall h1 hbad hR hB hO (fun i b h => absurd h (hn i b)) (fun i b h => absurd h (hn i b)) (fun i _ b h _ => absurd h (hn i b)) (fun i _ => by
      cases h : hget (List.replicate id (none : Option Blk)) i with
      | none => rfl
      | some b => exact absurd h (hn i b)) hev hv with ⟨_, h, _⟩ | ⟨z, hm, hH, _⟩ | ⟨_, _, _, _, _, _, _, _, _, _, hs, _⟩ | ⟨_, hca, _⟩
  · have := congrArg List.length h; simp at this
  · have := List.append_cancel_left hH
    simp only [List.cons.injEq, Option.some.injEq, and_true] at this
    subst this
    simpa using hm
  · rw [h2] at hs; cases hs
  · rw [h3] at hca; cases hca
theorem make_aop {io : IOp} {ev : Opd → AV} {id : Nat} {v : AV} {k : Blk} (h : makeAt ev id io = some (v, k)) : mkOp io = true ∧ aop noCallS ev (List.replicate id none) io = some (v, List.replicate id none ++ [some k]) := by
  cases io <;> simp only [makeAt] at h <;> (try (cases h; done))
  · split at h <;> (try (cases h; done))
    rename_i ho
    cases h
    simp [aop, ho, mkOp]
  · split at h <;> (try (cases h; done))
    rename_i els he
    cases h
    simp [aop, he, mkOp]

theorem s_step (G : GS P call base ops l ps f) {H0 : Heap} (h00 : (f 0).H = H0 ++ preH l) (hb0 : base = H0.length) (hcall : CallOK P call) (hbad : ∀ b, bad b → b < B) {L : Nat → Prop} {k x : Nat} (he : k < ops.size) (hk : ¬ L k) (hready : ∀ m, (ps.getD k 0).testBit m = true → L m)
    (hclosed : ∀ m, L m → ∀ i, (ps.getD m 0).testBit i = true → L i) (h : Sim w0 D0 ρ0 bad B ρ s a w) (I : InvX G L ρ0 ρ s x) {K : Act → World → Prop}
    (hK : ∀ a' w' ρ' s' x', Sim w0 D0 ρ0 bad B ρ' s' a' w' → InvX G (fun m => L m ∨ m = k) ρ0 ρ' s' x' → K a' w') : wpOp P ops Q k K a w := by
  obtain ⟨o, so, e1, e2, e3⟩ := G.at_ k he
  obtain ⟨hop, hdst⟩ := cOper_op e3
  have ordL : ∀ m, m ≠ k → Ord ps m k → (m < k ↔ L m) := by
    intro m hmk ho
    constructor
    · intro hlt; exact hready m (ho.1 hlt)
    · intro hl
      rcases Nat.lt_or_ge m k with hlt | hge
      · exact hlt
      · exact absurd (hclosed m hl k (ho.2 (by omega))) hk
  have hord : ∀ (m : Nat) (om : Oper) (t : Nat), m ≠ k → ops[m]? = some om → om.dst = some t → o.dst = some t → (m < k ↔ L m) := fun m om t h1 h2 h3 h4 => ordL m h1 (G.slots m k om o t h1 h2 e1 h3 (.inr h4))
  have hslot : ∀ t, t ∈ o.looksAt ops → s.env.getD t .undef = (f k).env.getD t .undef := by
    intro t ht
    obtain ⟨c, h2, h3, h4⟩ := I.env t
    rw [h3]
    have keep : ∀ y z : Nat, (∀ m, (y ≤ m ∧ m < z) → m < ops.size ∧ ∀ om, ops[m]? = some om → om.dst ≠ some t) → y ≤ z → (f y).env.getD t .undef = (f z).env.getD t .undef := by
      intro y z hno hyz
      induction z, hyz using le_ind with
      | base => rfl
      | succ z hz ih =>
        rw [ih fun m hm => hno m (by omega)]
        obtain ⟨hzs, hno'⟩ := hno z (by omega)
        obtain ⟨oz, soz, q1, q2, q3⟩ := G.at_ z hzs
        have hd := (cOper_op q3).2
        rcases G.ts.step z soz q2 with ⟨_, v, H', _, he'⟩ | ⟨_, he'⟩ <;> rw [he'] <;> simp only <;> rw [put_getD_ne (by rw [hd]; exact hno' oz q1)]
    have bad : ∀ m, (c ≤ m ∧ m < k ∨ k ≤ m ∧ m < c) → m < ops.size ∧ ∀ om, ops[m]? = some om → om.dst ≠ some t := by
      intro m hm
      refine ⟨by omega, fun om hom hd => ?_⟩
      have h5 := h4 m om hom hd
      by_cases hmk : m = k
      · subst hmk
        rcases hm with ⟨q1, q2⟩ | ⟨q1, q2⟩
        · omega
        · exact hk (h5.mp q2)
      · have h6 := ordL m hmk (G.slots m k om o t hmk hom e1 hd (.inl ht))
        rcases hm with ⟨q1, q2⟩ | ⟨q1, q2⟩
        · have := h5.mpr (h6.mp q2); omega
        · have := h6.mpr (h5.mp q2); omega
    rcases Nat.le_total c k with hl | hl
    · exact keep c k (fun m hm => bad m (.inl hm)) hl
    · exact (keep k c (fun m hm => bad m (.inr hm)) hl).symm
  have hwant : want s.env so.op.guard = want (f k).env so.op.guard := want_congr e3 hslot
  have hOf : ∀ {w1 : World} {D1 : Nat → Prop} {r0 r1 : Rho}, Sim w1 D1 r0 bad B r1 s a w → OpsOk w bad (dead s.H) r1 a (evO (f k).env) o.op.operands.toList := by
    intro w1 D1 r0 r1 h y hy z hz
    have h1 := evO_rep h o.op.operands.toList y hy z hz
    have : evO (f k).env z = evO s.env z := by
      cases z with
      | v _ => rfl
      | t t =>
        have hxt : y = .tmp t := by
          cases y with
          | tmp t' => simp [cOpd] at hz; rw [hz]
          | const u => cases hu : cv u <;> simp [cOpd, hu] at hz
          | global g => simp [cOpd] at hz
          | func g => simp [cOpd] at hz
        subst hxt
        exact (hslot t (by simp only [Oper.looksAt, List.mem_append, List.mem_filterMap]; exact .inl ⟨.tmp t, hy, rfl⟩)).symm
    rw [this]; exact h1
  have hO := hOf h
  -- an order that is heavy comes when all that is heavy ahead of it is done
  have hcut : hv so → ∀ (m : Nat) (b : SOp), l[m]? = some b → hv b → (m < k ↔ L m) := by
    intro hh m b hb hhb
    by_cases hmk : m = k
    · subst hmk; simp [hk]
    · exact ordL m hmk (G.heavy m k b so hmk hb e2 hhb hh)
  have hcut' : hv so → ∀ (m : Nat) (b : SOp), l[m]? = some b → hv b → (m < k + 1 ↔ (L m ∨ m = k)) := by
    intro hh m b hb hhb
    rw [← hcut hh m b hb hhb]; omega
  have hpre := fun (m : Nat) (b : SOp) (j : Nat) (hb : l[m]? = some b) (hj : b.slot = some j) => G.pre h00 hb0 hb hj
  have hmkpre : ∀ (b : SOp), kindOk b → mkF b → preB b = rjunk := by
    rintro b hkd ⟨_, hal⟩
    rcases hkd with ⟨e, he', _⟩ | ⟨e, y, he', _⟩ | ⟨e, n, q, he', _⟩
    · rw [he'] at hal; cases hal
    · unfold preB; rw [he']
    · unfold preB; rw [he']
  unfold wpOp
  rw [e1]
  simp only
  rcases G.ts.step k so e2 with ⟨hw, v, H', hvv, e5⟩ | ⟨hw, e5⟩
  · rw [want_spec e3 h (hwant.trans hw), if_pos rfl]
    have hput : (f (k + 1)).env = put (f k).env o.dst v := by rw [e5, ← hdst]
    have hHk : (f (k + 1)).H = H' := by rw [e5]
    have henv := env_put I he e1 hput hord
    have hlenE : (put s.env o.dst v).length = (f 0).env.length := by rw [put_length]; exact I.len
    have made1 : ∀ (m : Nat) (b : SOp) (j : Nat), l[m]? = some b → b.slot = some j → mkF b → ∃ kk, (f (m + 1)).H[base + j]? = some (some kk) ∧ kk ≠ rjunk ∧ ∃ vk, makeAt (evO (f m).env) (base + j) b.op.op = some (vk, kk) := by
      intro m b j hb hj hmk
      have h2 := hpre m b j hb hj m (Nat.le_refl _)
      rcases G.ts.step m b hb with ⟨_, v', H'', hs', he'⟩ | ⟨hw', _⟩
      · simp only [stepS, hj, hmk.2] at hs'
        split at hs' <;> (try (cases hs'; done))
        rename_i vk kk hmke
        cases hs'
        have hlt : base + j < (f m).H.length := (List.getElem?_eq_some_iff.mp h2).1
        exact ⟨kk, by rw [he']; simp only [List.getElem?_set_self hlt], make_not (G.slot m b j hb hj).2.1 hmke, _, hmke⟩
      · rw [(G.slot m b j hb hj).1] at hw'; cases hw'
    -- names of an operation in no order with a block's making
    have nameNo : ∀ (m : Nat) (b : SOp) (j : Nat), l[m]? = some b → b.slot = some j → mkF b → m ≠ k → ¬ Ord ps m k → ∀ y ∈ namesOf (evO (f k).env) so.op.op, ∀ id ∈ idsOf y, id ≠ base + j := by
      rintro m b j hb hj hmk hne hno y hy id hid rfl
      have h1 := G.names e2 hw hb (mkF_chg hmk (G.slot m b j hb hj).2.1) hne hno hy hid
      have h2 := hpre m b j hb hj m (Nat.le_refl _)
      rw [hmkpre b (G.slot m b j hb hj).2.1 hmk] at h2
      obtain ⟨kk, q1, q2, _⟩ := made1 m b j hb hj hmk
      rw [h2, q1] at h1
      simp only [Option.some.injEq] at h1
      exact q2 h1.symm
    by_cases hh : hv so
    · -- heavy
      have J := I.to (y := k) (by omega) (hcut hh)
      simp only [stepS, hh.2] at hvv
      -- memory agrees but where blocks are made in no order with it
      have agree : ∀ id, (∀ (m : Nat) (b : SOp) (j : Nat), l[m]? = some b → b.slot = some j → mkF b → ¬ Ord ps m k → m ≠ k → id ≠ base + j) → s.H[id]? = (f k).H[id]? := by
        intro id hid
        by_cases hex : ∃ (m : Nat) (b : SOp) (j : Nat), l[m]? = some b ∧ b.slot = some j ∧ mkF b ∧ id = base + j
        · obtain ⟨m, b, j, hb, hj, hmk, rfl⟩ := hex
          have hmk' : m ≠ k := by rintro rfl; rw [e2] at hb; cases hb; rw [hh.2] at hj; cases hj
          have hor : Ord ps m k := Classical.byContradiction fun hn => hid m b j hb hj hmk hn hmk' rfl
          have hml := ordL m hmk' hor
          by_cases hl : L m
          · rw [(J.b m b j hb hj hmk).1 hl, show max k (m + 1) = k by have := hml.mpr hl; omega]
          · rw [(J.b m b j hb hj hmk).2 hl, hpre m b j hb hj k (by have := mt hml.mp hl; omega), hmkpre b (G.slot m b j hb hj).2.1 hmk]
        · exact J.a id fun m b j hb hj hmk e => hex ⟨m, b, j, hb, hj, hmk, e⟩
      -- it steps over memory as_ it is
      obtain ⟨H2, hv2, hlen2, hsame, hunord⟩ : ∃ H2, aop call (evO (f k).env) s.H so.op.op = some (v, H2) ∧ H2.length = H'.length ∧ (∀ id, s.H[id]? = (f k).H[id]? → H2[id]? = H'[id]?) ∧
          ∀ (m : Nat) (b : SOp) (j : Nat), l[m]? = some b → b.slot = some j → mkF b → m ≠ k → ¬ Ord ps m k → H2[base + j]? = s.H[base + j]? ∧ H'[base + j]? = (f k).H[base + j]? := by
        cases hsa : stApp so.op.op with
        | false =>
          have : s.H = (f k).H := List.ext_getElem? fun id => agree id fun m b j hb hj hmk hno hmk' => absurd (G.mkcall m k b so hmk' hb e2 hmk hh hsa) hno
          refine ⟨H', by rw [this]; exact hvv, rfl, fun _ _ => rfl, fun m b j hb hj hmk hmk' hno => absurd (G.mkcall m k b so hmk' hb e2 hmk hh hsa) hno⟩
        | true =>
          obtain ⟨u, Z, q1, q2, q3⟩ := stApp_op hsa hvv
          have hln : s.H.length = (f k).H.length := J.hlen
          have hn : ∀ y ∈ namesOf (evO (f k).env) so.op.op, ∀ id ∈ idsOf y, (f k).H[id]? = s.H[id]? := fun y hy id hid => (agree id fun m b j hb hj hmk hno hmk' => nameNo m b j hb hj hmk hmk' hno y hy id hid).symm
          refine ⟨updH s.H u ++ Z, q3 s.H hln hn, by rw [q1]; simp [updH_len, hln], fun id hid => ?_, fun m b j hb hj hmk hmk' hno => ?_⟩
          · rw [q1]
            rcases Nat.lt_or_ge id (f k).H.length with hlt | hge
            · rw [List.getElem?_append_left (by rw [updH_len, hln]; exact hlt), List.getElem?_append_left (by rw [updH_len]; exact hlt)]
              by_cases hu : ∃ x, u = some (id, x)
              · obtain ⟨x', rfl⟩ := hu
                exact updH_hit hln
              · rw [updH_at fun x' e => hu ⟨x', e⟩, updH_at fun x' e => hu ⟨x', e⟩]; exact hid
            · rw [List.getElem?_append_right (by rw [updH_len, hln]; exact hge), List.getElem?_append_right (by rw [updH_len]; exact hge), updH_len, updH_len, hln]
          · have hu : ∀ x', u ≠ some (base + j, x') := by
              rintro x' rfl
              obtain ⟨y, hy, hid⟩ := q2 _ _ rfl
              exact nameNo m b j hb hj hmk hmk' hno y hy _ hid rfl
            have hlt : base + j < (f k).H.length := by
              rcases Nat.lt_or_ge k m with hlt | hge
              · exact (List.getElem?_eq_some_iff.mp (hpre m b j hb hj k (by omega))).1
              · obtain ⟨kk, hkk, _⟩ := made1 m b j hb hj hmk
                have h1 := G.made hb hj (y := k) (by omega) (by omega) fun g c q1 q2 hc hhc => by
                  cases hx : (ps.getD g 0).testBit m with
                  | false => rfl
                  | true =>
                    have hor := G.heavy g k c so (by omega) hc e2 hhc hh
                    exact absurd ⟨fun _ => G.trans m g k he (hor.1 q2) hx, fun h' => by omega⟩ hno
                rw [hkk] at h1
                exact (List.getElem?_eq_some_iff.mp h1.symm).1
            rw [q1]
            rw [List.getElem?_append_left (by rw [updH_len, hln]; exact hlt), List.getElem?_append_left (by rw [updH_len]; exact hlt), updH_at hu, updH_at hu]
            exact ⟨rfl, rfl⟩
      refine .inl (op_stepE (fun _ => rfl) hO hop hcall hbad h.rebase hv2 fun a' w' ρ' h' => hK a' w' ρ' ⟨put s.env o.dst v, H2⟩ (k + 1) (h.back h') ?_)
      have hb2 : ∀ (m : Nat) (b : SOp) (j : Nat), l[m]? = some b → b.slot = some j → mkF b → ((L m ∨ m = k) → H2[base + j]? = (f (max (k + 1) (m + 1))).H[base + j]?) ∧ (¬ (L m ∨ m = k) → H2[base + j]? = some (some rjunk)) := by
        intro m b j hb hj hmk
        have hmk' : m ≠ k := by rintro rfl; rw [e2] at hb; cases hb; rw [hh.2] at hj; cases hj
        by_cases hor : Ord ps m k
        · have hml := ordL m hmk' hor
          have hag : s.H[base + j]? = (f k).H[base + j]? := agree _ fun m' b' j' hb' hj' _ hno _ e => by
            have : j = j' := by omega
            subst this
            have := G.inj m m' b b' _ hb hb' hj hj'
            subst this
            exact hno hor
          have h1 := hsame _ hag
          rw [← hHk] at h1
          refine ⟨fun hl => ?_, fun hl => ?_⟩
          · have := hml.mpr (hl.resolve_right hmk')
            rw [h1, show max (k + 1) (m + 1) = k + 1 by omega]
          · have : k < m := by
              rcases Nat.lt_or_ge m k with h' | h'
              · exact absurd (.inl (hml.mp h')) hl
              · omega
            rw [h1, hpre m b j hb hj (k + 1) (by omega), hmkpre b (G.slot m b j hb hj).2.1 hmk]
        · obtain ⟨h1, h2⟩ := hunord m b j hb hj hmk hmk' hor
          refine ⟨fun hl => ?_, fun hl => ?_⟩
          · have hl := hl.resolve_right hmk'
            rw [h1, (J.b m b j hb hj hmk).1 hl]
            rcases Nat.lt_or_ge m k with h' | h'
            · rw [show max k (m + 1) = k by omega, show max (k + 1) (m + 1) = k + 1 by omega, hHk, h2]
            · rw [show max k (m + 1) = m + 1 by omega, show max (k + 1) (m + 1) = m + 1 by omega]
          · rw [h1]; exact (J.b m b j hb hj hmk).2 fun hl' => hl (.inl hl')
      refine ⟨hlenE, henv, by omega, hcut' hh, by rw [hHk]; exact hlen2, fun id hid => by rw [hHk]; exact hsame id (J.a id hid), hb2, fun m b j hb hj hl => ?_, I.d⟩
      have hnl : ¬ L m := fun hl' => hl (.inl hl')
      have hmk' : m ≠ k := fun e => hl (.inr e)
      refine res_stays h' (I.c m b j hb hj hnl) ?_
      simp only
      by_cases hmk : mkF b
      · rw [(hb2 m b j hb hj hmk).2 hl]; simp
      · have hag : s.H[base + j]? = (f k).H[base + j]? := J.a _ fun m' b' j' hb' hj' hm' e => by
          have : j = j' := by omega
          subst this
          have := G.inj m m' b b' _ hb hb' hj hj'
          subst this
          rw [hb] at hb'; cases hb'
          exact hmk hm'
        rw [hsame _ hag, ← hHk, ← G.keeps e2 hh hb hj (by
          cases hx : (ps.getD k 0).testBit m with
          | false => rfl
          | true => exact absurd (hready m hx) hnl), ← hag]
        exact res_alive h (I.c m b j hb hj hnl)
    · cases hsl : so.slot with
      | none =>
        -- light
        simp only [stepS, hsl] at hvv
        have hlt : lightOp so.op.op = true := by
          cases hl : lightOp so.op.op with
          | true => rfl
          | false => exact absurd ⟨by simp [chgS, hsl, hl], hsl⟩ hh
        obtain ⟨rfl, hG⟩ := light_op hlt hvv
        have between : ∀ (y : Nat) (id : Nat), (∃ z ∈ namesOf (evO (f k).env) so.op.op, id ∈ idsOf z) → (∀ g, (y ≤ g ∧ g < k) → x ≤ g) → (∀ g, (k ≤ g ∧ g < y) → g < x) → y ≤ ops.size →
            (∀ (g : Nat) (c : SOp) (j' : Nat), (y ≤ g ∧ g < k ∨ k ≤ g ∧ g < y) → l[g]? = some c → c.slot = some j' → mkF c → id ≠ base + j') → (f y).H[id]? = (f k).H[id]? := by
          rintro y id ⟨z, hz, hid⟩ hlo hhi hyn hno
          refine path2 fun g hg => ?_
          obtain ⟨c, hc⟩ := G.get (k := g) (by omega)
          by_cases hhc : hv c
          · have hgk : g ≠ k := by rintro rfl; rw [e2] at hc; cases hc; exact hh hhc
            have hxg := I.hx g c hc hhc
            have hnor : ¬ Ord ps g k := by
              intro hor
              have := ordL g hgk hor
              rcases hg with hg | hg
              · have h1 := hlo g hg
                have := hxg.mpr (this.mp hg.2); omega
              · have h1 := hhi g hg
                have := this.mpr (hxg.mp h1); omega
            exact G.names e2 hw hc hhc.1 hgk hnor hz hid
          · exact (G.soft hc hhc).2 _ fun j' hj' hm' => hno g c j' hg hc hj' hm'
        have hn : ∀ y ∈ namesOf (evO (f k).env) so.op.op, ∀ id ∈ idsOf y, (f k).H[id]? = s.H[id]? := by
          intro y hy id hid
          by_cases hex : ∃ (m : Nat) (b : SOp) (j : Nat), l[m]? = some b ∧ b.slot = some j ∧ mkF b ∧ id = base + j
          · obtain ⟨m, b, j, hb, hj, hmk, rfl⟩ := hex
            have hmk' : m ≠ k := by rintro rfl; rw [e2] at hb; cases hb; rw [hsl] at hj; cases hj
            have hor : Ord ps m k := Classical.byContradiction fun hno => nameNo m b j hb hj hmk hmk' hno y hy _ hid rfl
            have hml := ordL m hmk' hor
            by_cases hl : L m
            · have hmk2 := hml.mpr hl
              rw [(I.b m b j hb hj hmk).1 hl]
              have xl := I.xle
              refine (between _ _ ⟨y, hy, hid⟩ (fun g hg => by omega) (fun g hg => by omega) (by omega) fun g c j' hg hc hj' _ e => ?_).symm
              have : j = j' := by omega
              subst this
              have := G.inj m g b c _ hb hc hj hj'
              omega
            · rw [(I.b m b j hb hj hmk).2 hl, hpre m b j hb hj k (by have := mt hml.mp hl; omega), hmkpre b (G.slot m b j hb hj).2.1 hmk]
          · rw [I.a id fun m b j hb hj hmk e => hex ⟨m, b, j, hb, hj, hmk, e⟩]
            exact (between x id ⟨y, hy, hid⟩ (fun g hg => hg.1) (fun g hg => hg.2) I.xle fun g c j' _ hc hj' hm' e => hex ⟨g, c, j', hc, hj', hm', e⟩).symm
        refine .inl (op_stepE (fun _ => rfl) hO hop hcall hbad h.rebase (hG s.H hn) fun a' w' ρ' h' => hK a' w' ρ' ⟨put s.env o.dst v, s.H⟩ x (h.back h') ?_)
        have nek : ∀ (m : Nat) (b : SOp) (j : Nat), l[m]? = some b → b.slot = some j → m ≠ k := by rintro m b j hb hj rfl; rw [e2] at hb; cases hb; rw [hsl] at hj; cases hj
        refine ⟨hlenE, henv, I.xle, fun m b hb hhb => ?_, I.hlen, I.a, fun m b j hb hj hmk => ?_, fun m b j hb hj hl => ?_, I.d⟩
        · rw [I.hx m b hb hhb]
          have : m ≠ k := by rintro rfl; rw [e2] at hb; cases hb; exact hh hhb
          simp [this]
        · have := nek m b j hb hj
          refine ⟨fun hl => (I.b m b j hb hj hmk).1 (hl.resolve_right this), fun hl => (I.b m b j hb hj hmk).2 fun hl' => hl (.inl hl')⟩
        · have hr := I.c m b j hb hj fun hl' => hl (.inl hl')
          exact res_stays h' hr (res_alive h hr)
      | some j =>
        have hkd := (G.slot k so j e2 hsl).2.1
        have hres := I.c k so j e2 hsl hk
        have hno0 := I.d k so j e2 hsl
        have hs1 := h.drop hres hno0
        obtain ⟨zz, hzz, _⟩ := h.heap.res _ hres
        have hlts : base + j < s.H.length := (List.getElem?_eq_some_iff.mp hzz).1
        have nej : ∀ (m : Nat) (b : SOp) (j' : Nat), m ≠ k → l[m]? = some b → b.slot = some j' → base + j ≠ base + j' := by
          intro m b j' hmk hb hj' e
          have : j = j' := by omega
          subst this
          exact hmk (G.inj m k b so _ hb e2 hj' hsl)
        have fin : ∀ z : Blk, Makes P w bad (dead s.H) (fun i => if i = base + j then .no else ρ i) a o v (base + j) z → (mkF so → some (some z) = (f (max x (k + 1))).H[base + j]?) → (¬ mkF so → s.H[base + j]? = some (some z)) → o.wp P a w K Q := by
          intro z hm hzk hzs
          obtain ⟨cv, w', cur, fz, cap, hr, h1, h2, h3, ⟨h4, h5, h6⟩, h7, h8, h9, h10, h11, h12, h13⟩ := hm
          obtain ⟨ρ', hρ', st, hR⟩ := alloc_upd (H' := s.H.set (base + j) (some z)) hs1.heap hs1.low (by simp) (List.getElem?_set_self hlts) (fun i hi _ => List.getElem?_set_ne (Ne.symm hi)) (fun i hi => by
            have : i ≠ base + j := by rintro rfl; rw [hzz] at hi; cases hi
            rw [List.getElem?_set_ne (Ne.symm this)]; exact hi) h1 h2 h3 h4 h5 h6 h7 h8 h9 h10 h11 h12
          unfold Oper.wp
          rw [hr]
          refine hK _ _ ρ' ⟨put s.env o.dst v, s.H.set (base + j) (some z)⟩ x (put_sim (v := v) o.dst hs1 st hR ?_) ⟨hlenE, henv, I.xle, fun m b hb hhb => ?_, ?_, fun id hid => ?_, fun m b j' hb hj' hmk => ?_, fun m b j' hb hj' hl => ?_, I.d⟩
          · rcases h13 with ⟨rfl, rfl⟩ | ⟨n, c, rfl, q1, q2, rfl⟩
            · have := Rep.ptr (w := w') (bad := bad) (D := dead (s.H.set (base + j) (some z))) (ρ := ρ') (id := base + j) (i := 0) (j := 0) (b := w.heap.size) (es := z.e.es) (cap := cap) (by subst hρ'; simp)
              simpa using this
            · have := Rep.slc (w := w') (bad := bad) (D := dead (s.H.set (base + j) (some z))) (ρ := ρ') (id := base + j) (o := 0) (n := n) (c := c) (b := w.heap.size) (es := z.e.es) (cap := cap) (by subst hρ'; simp) (by omega) q1
              simpa using this
          · rw [I.hx m b hb hhb]
            have : m ≠ k := by rintro rfl; rw [e2] at hb; cases hb; exact hh hhb
            simp [this]
          · simp only [List.length_set]; exact I.hlen
          · simp only
            by_cases hmk : mkF so
            · rw [List.getElem?_set_ne (Ne.symm (hid k so j e2 hsl hmk))]; exact I.a id hid
            · by_cases hi : base + j = id
              · subst hi
                rw [List.getElem?_set_self hlts, ← I.a _ hid, hzs hmk]
              · rw [List.getElem?_set_ne hi]; exact I.a id hid
          · simp only
            by_cases hmk' : m = k
            · subst hmk'
              rw [e2] at hb; cases hb
              rw [hsl] at hj'; cases hj'
              refine ⟨fun _ => by rw [List.getElem?_set_self hlts]; exact hzk hmk, fun hl => absurd (.inr rfl) hl⟩
            · rw [List.getElem?_set_ne (nej m b j' hmk' hb hj')]
              exact ⟨fun hl => (I.b m b j' hb hj' hmk).1 (hl.resolve_right hmk'), fun hl => (I.b m b j' hb hj' hmk).2 fun hl' => hl (.inl hl')⟩
          · have hmk' : m ≠ k := fun e => hl (.inr e)
            have hne := Ne.symm (nej m b j' hmk' hb hj')
            subst hρ'
            simp only [hne, if_false]
            exact I.c m b j' hb hj' fun hl' => hl (.inl hl')
        have noP : ∀ (g : Nat) (c : SOp), g < x → l[g]? = some c → hv c → (ps.getD g 0).testBit k = false := by
          intro g c hg hc hhc
          cases hx : (ps.getD g 0).testBit k with
          | false => rfl
          | true => exact absurd (hclosed g ((I.hx g c hc hhc).mp hg) k hx) hk
        simp only [stepS, hsl] at hvv
        split at hvv
        · rename_i hal
          obtain ⟨rfl, rfl⟩ : _ = v ∧ _ = H' := by simpa using hvv
          obtain ⟨e, hee, hes⟩ : ∃ e, so.op.op = .alloc e ∧ e.es ≠ 0 := by
            rcases hkd with hx | ⟨e, y, he', _⟩ | ⟨e, n, q, he', _⟩
            · exact hx
            · rw [he'] at hal; cases hal
            · rw [he'] at hal; cases hal
          refine .inl (fin ⟨e, [e.zero]⟩ (float_makes hop hbad hs1.heap hs1.low (hOf hs1) (fun _ => rfl) (by rw [hee]; rfl) (by rw [hee]; simp [aop])) (fun hm => by rw [hm.2] at hal; cases hal) fun hnm => ?_)
          have hpb : preB so = ⟨e, [e.zero]⟩ := by unfold preB; rw [hee]
          rw [I.a _ fun m b j' hb hj' hm' e' => hnm (by
            have : j = j' := by omega
            subst this
            have := G.inj k m so b _ e2 hb hsl hj'
            subst this
            rw [e2] at hb; cases hb
            exact hm'), ← hpb]
          rcases Nat.lt_or_ge k x with hlt | hge
          · have h1 := path (f := f) (id := base + j) (y := k) (z := x) (fun g hg1 hg2 => by
              obtain ⟨c, hc⟩ := G.get (k := g) (by have := I.xle; omega)
              by_cases hhc : hv c
              · exact G.keeps hc hhc e2 hsl (noP g c hg2 hc hhc)
              · refine (G.soft hc hhc).2 _ fun j' hj' hm' e' => ?_
                have : j = j' := by omega
                subst this
                have := G.inj k g so c _ e2 hc hsl hj'
                subst this
                rw [e2] at hc; cases hc
                exact hnm hm') (by omega)
            rw [← h1]
            exact hpre k so j e2 hsl k (Nat.le_refl _)
          · exact hpre k so j e2 hsl x hge
        · rename_i hal
          split at hvv <;> (try (cases hvv; done))
          rename_i vk kk hmke
          obtain ⟨rfl, rfl⟩ : _ = v ∧ _ = H' := by simpa using hvv
          obtain ⟨hm1, hm2⟩ := make_aop hmke
          have hmkF : mkF so := ⟨by rw [hsl]; simp, hal⟩
          refine .inl (fin kk (float_makes hop hbad hs1.heap hs1.low (hOf hs1) (fun _ => rfl) hm1 hm2) (fun _ => ?_) fun hnm => absurd hmkF hnm)
          have hlt : base + j < (f k).H.length := (List.getElem?_eq_some_iff.mp (hpre k so j e2 hsl k (Nat.le_refl _))).1
          have h1 : (f (k + 1)).H[base + j]? = some (some kk) := by rw [hHk, List.getElem?_set_self hlt]
          rw [← h1]
          rcases Nat.lt_or_ge (k + 1) x with hlt' | hge
          · rw [show max x (k + 1) = x by omega]
            exact G.made e2 hsl (by omega) I.xle fun g c _ hg2 hc hhc => noP g c hg2 hc hhc
          · rw [show max x (k + 1) = k + 1 by omega]
  · rw [want_spec e3 h (hwant.trans hw), if_neg (by simp)]
    have hput : (f (k + 1)).env = put (f k).env o.dst (.tup []) := by rw [e5, ← hdst]
    have henv := env_put I he e1 hput hord
    have hlenE : (put s.env o.dst (.tup [])).length = (f 0).env.length := by rw [put_length]; exact I.len
    have hHk : (f (k + 1)).H = (f k).H := by rw [e5]
    have hsl : so.slot = none := by
      cases hx : so.slot with
      | none => rfl
      | some j => rw [(G.slot k so j e2 hx).1] at hw; cases hw
    have nek : ∀ (m : Nat) (b : SOp) (j : Nat), l[m]? = some b → b.slot = some j → m ≠ k := by rintro m b j hb hj rfl; rw [e2] at hb; cases hb; rw [hsl] at hj; cases hj
    by_cases hh : hv so
    · have J := I.to (y := k) (by omega) (hcut hh)
      refine hK _ _ ρ _ (k + 1) (skip_sim o.dst h) ⟨hlenE, henv, by omega, hcut' hh, by rw [hHk]; exact J.hlen, fun id hid => by rw [hHk]; exact J.a id hid, fun m b j hb hj hmk => ?_, fun m b j hb hj hl => I.c m b j hb hj fun hl' => hl (.inl hl'), I.d⟩
      refine ⟨fun hl => ?_, fun hl => (J.b m b j hb hj hmk).2 fun hl' => hl (.inl hl')⟩
      rw [(J.b m b j hb hj hmk).1 (hl.resolve_right (nek m b j hb hj))]
      rcases Nat.lt_or_ge m k with h' | h'
      · rw [show max k (m + 1) = k by omega, show max (k + 1) (m + 1) = k + 1 by omega, hHk]
      · have := nek m b j hb hj
        rw [show max k (m + 1) = m + 1 by omega, show max (k + 1) (m + 1) = m + 1 by omega]
    · refine hK _ _ ρ _ x (skip_sim o.dst h) ⟨hlenE, henv, I.xle, fun m b hb hhb => ?_, I.hlen, I.a, fun m b j hb hj hmk => ?_, fun m b j hb hj hl => I.c m b j hb hj fun hl' => hl (.inl hl'), I.d⟩
      · rw [I.hx m b hb hhb]
        have : m ≠ k := by rintro rfl; rw [e2] at hb; cases hb; exact hh hhb
        simp [this]
      · exact ⟨fun hl => (I.b m b j hb hj hmk).1 (hl.resolve_right (nek m b j hb hj)), fun hl => (I.b m b j hb hj hmk).2 fun hl' => hl (.inl hl')⟩
end
end Go.Proofs.Ytdceaeifcniabaa.AE

namespace Go.Proofs.Ytdceaeifcniabaa.AE
set_option linter.unusedVariables false
set_option linter.unusedSimpArgs false
set_option linter.constructorNameAsVariable false
open Go Go.RowKit

theorem preH_es : ∀ (l : List SOp) (c : Nat), slotsOk l c = true → ∀ i, i < (preH l).length → ∃ k : Blk, (preH l)[i]? = some (some k) ∧ k.e.es ≠ 0
  | [], _, _, i, h => by simp [preH] at h
  | o :: l, c, hs, i, h => by
    simp only [slotsOk] at hs
    cases hsl : o.slot with
    | none =>
      rw [hsl] at hs
      simp only [preH, hsl] at h ⊢
      exact preH_es l c hs i h
    | some j =>
      rw [hsl] at hs
      simp only [Bool.and_eq_true, beq_iff_eq] at hs
      obtain ⟨⟨⟨_, _⟩, h3⟩, h4⟩ := hs
      simp only [preH, hsl] at h ⊢
      cases i with
      | zero =>
        cases ho : o.op.op <;> rw [ho] at h3 <;> simp only [Bool.false_eq_true] at h3 <;> simp only [List.getElem?_cons_zero, Option.some.injEq]
        case alloc e => exact ⟨_, rfl, by simpa using h3⟩
        case box e x => exact ⟨_, rfl, by simp [rjunk]⟩
        case mkrow e n q => exact ⟨_, rfl, by simp [rjunk]⟩
      | succ i =>
        simp only [List.getElem?_cons_succ]
        exact preH_es l _ h4 i (by simpa using h)

section
variable {P : Program} {call : CallF} {base : Nat} {ops : Array Oper} {l : List SOp} {ps : List Nat} {f : Nat → St}
variable {w w0 : World} {bad D0 : Nat → Prop} {ρ ρ0 : Rho} {a : Act} {B : Nat} {s : St} {Q : Exit → Act → World → Prop}

theorem inv_end {G : GS P call base ops l ps f} {L : Nat → Prop} {x : Nat} (I : InvX G L ρ0 ρ s x) (hL : ∀ m, m < ops.size → L m) : s = f ops.size := by
  have J := I.to (y := ops.size) (Nat.le_refl _) fun m b hb _ => ⟨fun h => hL m h, fun _ => G.lt hb⟩
  have hH : s.H = (f ops.size).H := by
    refine List.ext_getElem? fun id => ?_
    by_cases hex : ∃ (m : Nat) (b : SOp) (j : Nat), l[m]? = some b ∧ b.slot = some j ∧ mkF b ∧ id = base + j
    · obtain ⟨m, b, j, hb, hj, hmk, rfl⟩ := hex
      have hlt := G.lt hb
      rw [(J.b m b j hb hj hmk).1 (hL m hlt), show max ops.size (m + 1) = ops.size by omega]
    · exact J.a id fun m b j hb hj hmk e => hex ⟨m, b, j, hb, hj, hmk, e⟩
  have hE : s.env = (f ops.size).env := by
    refine List.ext_getElem? fun t => ?_
    have hlen : s.env.length = (f ops.size).env.length := by rw [I.len, G.lenE (Nat.le_refl _)]
    obtain ⟨c, h2, h3, h4⟩ := I.env t
    have keep : ∀ z, c ≤ z → z ≤ ops.size → (f c).env.getD t .undef = (f z).env.getD t .undef := by
      intro z hz
      induction z, hz using le_ind with
      | base => intro _; rfl
      | succ z hz ih =>
        intro hzn
        rw [ih (by omega)]
        obtain ⟨oz, soz, q1, q2, q3⟩ := G.at_ z (by omega)
        have hd := (cOper_op q3).2
        have hne : oz.dst ≠ some t := fun e => by have := (h4 z oz q1 e).mpr (hL z (by omega)); omega
        rcases G.ts.step z soz q2 with ⟨_, v, H', _, he'⟩ | ⟨_, he'⟩ <;> rw [he'] <;> simp only <;> rw [put_getD_ne (by rw [hd]; exact hne)]
    rw [keep ops.size h2 (Nat.le_refl _)] at h3
    simp only [List.getD_eq_getElem?_getD] at h3
    rcases Nat.lt_or_ge t s.env.length with hlt | hge
    · rw [List.getElem?_eq_getElem hlt, List.getElem?_eq_getElem (by omega)] at h3 ⊢
      simpa using h3
    · rw [List.getElem?_eq_none hge, List.getElem?_eq_none (by omega)]
  cases s; cases hf : f ops.size
  rw [hf] at hH hE
  simp only at hH hE
  rw [hH, hE]

theorem drawnS_main (G : GS P call base ops l (predsOf ops.toList []) f) {H0 : Heap} (h00 : (f 0).H = H0 ++ preH l) (hb0 : base = H0.length) (hcall : CallOK P call) (hbad : ∀ b, bad b → b < B) (hed : edgesOk ops = true) (hQ : ∀ a w ρ, Sim w0 D0 ρ0 bad B ρ (f ops.size) a w → Q .normal a w) :
    ∀ (fuel : Nat) (listed : Array Bool) (ρ : Rho) (s : St) (a : Act) (w : World) (x : Nat), listed.size = ops.size → open_ listed ≤ fuel →
      (∀ m, listed.getD m false = true → ∀ i, ((predsOf ops.toList []).getD m 0).testBit i = true → listed.getD i false = true) →
      Sim w0 D0 ρ0 bad B ρ s a w → InvX G (fun m => listed.getD m false = true) ρ0 ρ s x → wpAny P .any ops Q fuel listed a w := by
  intro fuel
  induction fuel with
  | zero =>
    intro listed ρ s a w x hls hop hcl h I
    have hall := open_zero (Nat.le_zero.mp hop)
    have hall2 : ∀ k, k < ops.size → listed.getD k false = true := by
      intro k hk
      have := hall k
      simpa [hls ▸ hk] using this
    refine ⟨?_, ?_⟩
    · cases hr : Region.ready .any ops listed with
      | nil => rfl
      | cons j l =>
        have hj : j ∈ Region.ready .any ops listed := by rw [hr]; simp
        have := (mem_ready.1 hj).1
        rw [hall j] at this; cases this
    · exact hQ _ _ ρ (inv_end I hall2 ▸ h)
  | succ fuel ih =>
    intro listed ρ s a w x hls hop hcl h I
    have hedge : ∀ (k : Nat) (o : Oper), ops[k]? = some o → ∀ x ∈ o.after, Region.binds .any x = true → x.on < k := by
      intro k o ho x hx hb
      have := List.all_eq_true.mp hed (o, k) (by rw [List.mem_zipIdx_iff_getElem?]; simpa using ho)
      have := List.all_eq_true.mp this x (by simpa using hx)
      simpa [hb] using this
    refine ⟨fun hnil => ?_, fun i hi => ?_⟩
    · have hall2 : ∀ k, k < ops.size → listed.getD k false = true := by
        intro k
        induction k using Nat.strongRecOn with
        | _ k ihk =>
          intro hk
          cases hx : listed.getD k false with
          | true => rfl
          | false =>
            exfalso
            have : k ∈ Region.ready .any ops listed := mem_ready.2 ⟨by simpa [hls ▸ hk] using hx, ops[k], by simp [hk], fun x hx hb => by
              have hlt := hedge k ops[k] (by simp [hk]) x hx hb
              exact ihk x.on hlt (by omega)⟩
            rw [hnil] at this
            simp at this
      exact hQ _ _ ρ (inv_end I hall2 ▸ h)
    · obtain ⟨hi0, o, ho, haft⟩ := mem_ready.1 hi
      have hlt : i < ops.size := (Array.getElem?_eq_some_iff.1 ho).1
      have hlt' : i < listed.size := hls ▸ hlt
      have hi1 : listed.getD i false = false := by simpa [hlt'] using hi0
      have hready : ∀ m, ((predsOf ops.toList []).getD i 0).testBit m = true → listed.getD m false = true := by
        intro m hm
        obtain ⟨x, h1, h2, h3⟩ := predsOf_bits ops.toList [] i m o (by simpa using ho) (by simpa using hm)
        have hl := haft x (by simpa using h1) h2
        rcases h3 with rfl | h3
        · exact hl
        · exact hcl x.on hl m h3
      have hop' : open_ (listed.setIfInBounds i true) ≤ fuel := by have := open_set hi0; omega
      have hcl' : ∀ m, (listed.setIfInBounds i true).getD m false = true → ∀ j, ((predsOf ops.toList []).getD m 0).testBit j = true → (listed.setIfInBounds i true).getD j false = true := by
        intro m hm j hj
        rw [getD_set hlt'] at hm ⊢
        rcases hm with hm | rfl
        · exact .inl (hcl m hm j hj)
        · exact .inl (hready j hj)
      have hfun : (fun m => listed.getD m false = true ∨ m = i) = fun m => (listed.setIfInBounds i true).getD m false = true := by
        funext m
        exact propext (getD_set hlt').symm
      refine s_step G h00 hb0 hcall hbad hlt (by simp [hi1]) hready hcl h I fun a' w' ρ' s' x' h' I' => ?_
      rw [hfun] at I'
      exact ih _ ρ' s' a' w' x' (by simpa using hls) hop' hcl' h' I'
end

theorem drawS_law {P : Program} {call : CallF} (hcall : CallOK P call) : DrawS P call := by
  intro ops ios id hc hd he hns hmo w w0 bad D0 ρ ρ0 a B s s' Q hbad h hr hq
  have hso : slotsOk (sopsOf ios (predsOf ops.toList [])) 0 = true := by
    simp only [drawSOk, Bool.and_eq_true] at hd
    exact hd.1.1.2
  obtain ⟨f, h0, h1, ht⟩ := ts_of hr
  have G := gs_of hc hd he ht
  have hsz := G.size
  generalize hl : sopsOf ios (predsOf ops.toList []) = l at *
  rw [hsz] at h1
  have h00 : (f 0).H = s.H ++ preH l := by rw [h0]
  refine wp_region_any hmo ?_
  have hnew : ∀ i, s.H.length ≤ i → ρ i = .no := by
    intro i hi
    cases hx : ρ i with
    | no => rfl
    | _ => exact absurd (lt_of_no h.heap (by rw [hx]; simp)) (by omega)
  have hpos : ∀ (m : Nat) (o : SOp) (j : Nat), l[m]? = some o → o.slot = some j → j < (preH l).length := fun m o j ho hj => (List.getElem?_eq_some_iff.mp (G.slot m o j ho hj).2.2).1
  let ρ2 : Rho := fun i => if s.H.length ≤ i ∧ i < s.H.length + (preH l).length then .res else ρ i
  have e2 : ∀ i, ρ i ≠ .no → ρ2 i = ρ i := fun i hi => if_neg fun hh => hi (hnew i hh.1)
  have hd' := h.draw
  have hst : Step { w with drawn := w.drawn + 1 } { w with drawn := w.drawn + 1 } (dead s.H) (dead (s.H ++ preH l)) ρ ρ2 := by
    refine ⟨Grow.refl _ _, ⟨fun b hb => ?_⟩, fun i hi => ?_, fun i hi => .inl (e2 i hi)⟩
    · obtain ⟨i, es, cap, hx⟩ := hb
      simp only [ρ2] at hx
      split at hx
      · cases hx
      · exact .inl ⟨i, es, cap, hx⟩
    · simp only [dead] at *
      rw [List.getElem?_append_left (List.getElem?_eq_some_iff.mp hi).1]; exact hi
  have hR : HRel { w with drawn := w.drawn + 1 } bad ρ2 B (s.H ++ preH l) := by
    refine ⟨fun i b es cap hx => ?_, fun i hx => ?_, fun i i' b es cap es' cap' hx hx' => ?_, fun i hx => ?_⟩
    · simp only [ρ2] at hx
      split at hx
      · cases hx
      · obtain ⟨k, hk, hb⟩ := hd'.heap.real i b es cap hx
        exact ⟨k, by rw [List.getElem?_append_left (List.getElem?_eq_some_iff.mp hk).1]; exact hk, hb.step hst rfl⟩
    · simp only [ρ2] at hx
      split at hx
      · cases hx
      · obtain ⟨k, hk, hb⟩ := hd'.heap.virt i hx
        exact ⟨k, by rw [List.getElem?_append_left (List.getElem?_eq_some_iff.mp hk).1]; exact hk, hb⟩
    · simp only [ρ2] at hx hx'
      split at hx
      · cases hx
      · split at hx'
        · cases hx'
        · exact hd'.heap.inj _ _ _ _ _ _ _ hx hx'
    · simp only [ρ2] at hx
      split at hx
      · rename_i hi
        obtain ⟨k, hk, hes⟩ := preH_es l 0 hso (i - s.H.length) (by omega)
        exact ⟨k, by rw [List.getElem?_append_right hi.1]; exact hk, hes⟩
      · obtain ⟨k, hk, hb⟩ := hd'.heap.res i hx
        exact ⟨k, by rw [List.getElem?_append_left (List.getElem?_eq_some_iff.mp hk).1]; exact hk, hb⟩
  have hsim : Sim w0 D0 ρ0 bad B ρ2 (f 0) a { w with drawn := w.drawn + 1 } := by
    rw [h0]
    exact ⟨hd'.defers, hd'.size, fun t ht => (hd'.env t ht).step hst, hR, hd'.low, hd'.st.trans hst⟩
  have hoff : ∀ k, (Array.replicate ops.size false).getD k false = false := by
    intro k
    rcases Nat.lt_or_ge k ops.size with h | h
    · simp [h]
    · simp [Array.getElem?_eq_none (xs := Array.replicate ops.size false) (by simpa using h)]
  have hI : InvX G (fun m => (Array.replicate ops.size false).getD m false = true) ρ0 ρ2 (f 0) 0 := by
    refine ⟨rfl, fun t => ⟨0, Nat.zero_le _, rfl, fun m o _ _ => by simp only [hoff]; simp⟩, Nat.zero_le _, fun m b _ _ => by simp only [hoff]; simp, rfl, fun _ _ => rfl, fun m b j hb hj hmk => ⟨fun hx => absurd hx (by rw [hoff]; simp), fun _ => ?_⟩, fun m b j hb hj _ => ?_, fun m b j hb hj => ?_⟩
    · rw [G.pre h00 rfl hb hj 0 (Nat.zero_le _)]
      have hkd := (G.slot m b j hb hj).2.1
      rcases hkd with ⟨e, he', _⟩ | ⟨e, y, he', _⟩ | ⟨e, n, q, he', _⟩
      · have := hmk.2; rw [he'] at this; cases this
      · unfold preB; rw [he']
      · unfold preB; rw [he']
    · have := hpos m b j hb hj
      simp only [ρ2]
      rw [if_pos (by omega)]
    · cases hx : ρ0 (s.H.length + j) with
      | no => rfl
      | _ =>
        exfalso
        rcases h.st.keep (s.H.length + j) (by rw [hx]; simp) with h1 | h1
        · rw [hnew _ (by omega), hx] at h1; cases h1
        · have := (List.getElem?_eq_some_iff.mp h1).1; omega
  refine drawnS_main G h00 rfl hcall hbad he (fun a w ρ hs => hq _ _ ρ (h1 ▸ hs)) ops.size _ ρ2 _ a _ 0 (by simp) ?_ (fun m hm => by rw [hoff m] at hm; cases hm) hsim hI
  unfold open_
  exact Nat.le_trans List.countP_le_length (by simp)

theorem draw_law (P : Program) : DrawLaw P := fun _ _ h1 h2 => ⟨draw_lawD h1 h2, drawS_law h1⟩

/-- THE LAW OF THE SMALL EVALUATOR. -/
theorem pcall_law {P : Program} {M : Mod} (hM : ModOK P M) (d : Nat) (g : FuncId) (args : List AV) (v : AV) (h : pcall M d g args = some v) : PureOK P g args v :=
  pcall_sound hM (draw_law P) d g args v h
end Go.Proofs.Ytdceaeifcniabaa.AE

namespace Go.Proofs.Ytdceaeifcniabaa.AE
set_option linter.unusedVariables false
set_option linter.unusedSimpArgs false
set_option linter.constructorNameAsVariable false
open Go

abbrev Ans := Option AV

def cnd (t : Bool) (a b : Ans) : Ans := match t with
  | true => a
  | false => b

/-- What is asked at a value that is not told. -/
inductive TV where
  | no
  | addr (v : AV)
  | all (l : List AV)
structure Cb where
  int : IntKind → Option AV → (Int → Ans) → Ans
  bool : Option AV → (Bool → Ans) → Ans
  str : Option AV → (List UInt8 → Ans) → Ans
  lst : Option AV → (List AV → Ans) → (Bool → Ans) → Ans
  agg : Nat → Option AV → (List AV → Ans) → Ans
  tup : Nat → Option AV → (List AV → Ans) → Ans
  any : Option AV → (AV → Ans) → Ans
  same : Option AV → AV → Ans → Ans
  sameH : Heap → Heap → Ans → Ans
  hop : Heap → IOp → (AV → Heap → Ans) → Ans
  snp : Heap → List AV → (List AV → Bool → Ans) → Ans
  disj : TV → TV → Ans → Ans
  fin : Heap → AV → Ans
  iter : (St → (Ex → St → Ans) → Ans) → Nat → St → List Nat → List (St → Ans) → (St → Ans) → Ans
  cal : Mod → (FuncId → List AV → Option AV) → Nat → Bool → FuncId → List AV → Heap → (AV → Heap → Ans) → Ans
  grow : Heap → Heap → (Nat → Heap → Ans) → Ans
  keep : Heap → Heap → List AV → Ans → Ans
  mkat : Heap → Nat → IOp → (AV → Heap → Ans) → Ans

/-- How a function is told: are its loops unrolled; is its memory not told (then what looks at memory is asked); shapes of what it puts where; are calls of it told as_ they are. -/
structure XU where
  un : Bool
  hm : Bool
  hs : List (Nat × Sh)
  jn : Bool
  ca : Bool

def hsGet : List (Nat × Sh) → Nat → Sh
  | [], _ => .any
  | (n, s) :: l, i => match Nat.beq n i with
    | true => s
    | false => hsGet l i
mutual
/-- A shape that says nothing of slices. -/
def relax : Sh → Sh
  | .i k => .i k
  | .b => .b
  | .s => .s
  | .agg l => .agg (relaxL l)
  | .tup l => .tup (relaxL l)
  | .l => .any
  | .any => .any
  | .lo => .any
  | .z => .any
def relaxL : List Sh → List Sh
  | [] => []
  | s :: l => relax s :: relaxL l
end
mutual
/-- What a call gives that gets what it gets alone: its slices are told as_ lists. -/
def loSh : Sh → Sh
  | .i k => .i k
  | .b => .b
  | .s => .s
  | .agg l => .agg (loShL l)
  | .tup l => .tup (loShL l)
  | .l => .lo
  | .any => .any
  | .lo => .lo
  | .z => .z
def loShL : List Sh → List Sh
  | [] => []
  | s :: l => loSh s :: loShL l
end
mutual
/-- Is what has it free of memory? -/
def shFree : Sh → Bool
  | .i _ => true
  | .b => true
  | .s => true
  | .agg l => shFreeL l
  | .tup l => shFreeL l
  | .l => false
  | .any => false
  | .lo => false
  | .z => false
def shFreeL : List Sh → Bool
  | [] => true
  | s :: l => match shFree s with
    | true => shFreeL l
    | false => false
end
def freeOps (hs : List (Nat × Sh)) : List Opd → Bool
  | [] => true
  | .v _ :: l => freeOps hs l
  | .t n :: l => match shFree (hsGet hs n) with
    | true => freeOps hs l
    | false => false

/-- Operations that look at memory, or at a place that isn't told. -/
def isH : IOp → Bool
  | .load .. | .store .. | .nilck _ | .box .. | .alloc _ | .mkrow .. | .mkslice .. | .s2b .. | .b2s _ | .subV .. | .fldA .. | .ixAS .. | .ixAA .. | .ixA .. | .app .. => true
  | .bk .lenV _ => true
  | .eqv _ k _ _ _ => Nat.beq k 1 || (Nat.beq k 2 || Nat.beq k 3)
  | _ => false
/-- An operation whose operands are values. -/
def close (ev : Opd → AV) : IOp → IOp
  | .load ag n a => .load ag n (.v (ev a))
  | .store n a x => .store n (.v (ev a)) (.v (ev x))
  | .nilck x => .nilck (.v (ev x))
  | .box e x => .box e (.v (ev x))
  | .alloc e => .alloc e
  | .mkrow e n ps => .mkrow e n (ps.map fun p => (p.1, .v (ev p.2)))
  | .mkslice e n c => .mkslice e (.v (ev n)) (.v (ev c))
  | .build z ps => .build z (ps.map fun p => (p.1, p.2.1, .v (ev p.2.2)))
  | .s2b e x => .s2b e (.v (ev x))
  | .b2s x => .b2s (.v (ev x))
  | .subV es x lo hi mx => .subV es (.v (ev x)) (lo.map fun y => .v (ev y)) (hi.map fun y => .v (ev y)) (mx.map fun y => .v (ev y))
  | .fldA off x => .fldA off (.v (ev x))
  | .ixAS _ es x i => .ixAS .any es (.v (ev x)) (.v (ev i))
  | .ixAA len es x i => .ixAA len es (.v (ev x)) (.v (ev i))
  | .ixA ag len es x i => .ixA ag len es (.v (ev x)) (.v (ev i))
  | .app e s x => .app e (.v (ev s)) (.v (ev x))
  | .bk b args => .bk b (args.map fun y => .v (ev y))
  | .eqv neg k sh x y => .eqv neg k sh (.v (ev x)) (.v (ev y))
  | io => io
/-- A value that is built of parts that are not told. -/
def bigB (hs : List (Nat × Sh)) : IOp → Bool
  | .build _ ps => ps.any fun p => match p.2.2 with
    | .t n => !shFree (hsGet hs n)
    | .v _ => false
  | _ => false
def isHu (hs : List (Nat × Sh)) (io : IOp) : Bool := isH io || bigB hs io
def noCall : CallF := fun _ _ _ => none
theorem close_ok {call : CallF} {ev : Opd → AV} {H : Heap} {io : IOp} (h : isH io = true) : aop call ev H io = aop noCall (evO []) H (close ev io) := by
  cases io <;> first | (cases h; done) | skip
  case bk b args =>
    cases b <;> first | (cases h; done) | skip
    cases args with
    | nil => rfl
    | cons x l => cases l <;> rfl
  case mkrow e n ps => simp only [close, aop, List.map_map]; rfl
  case subV es x lo hi mx => cases lo <;> cases hi <;> cases mx <;> rfl
  all_goals rfl

theorem close_okB {call : CallF} {ev : Opd → AV} {H : Heap} {hs : List (Nat × Sh)} {io : IOp} (h : isHu hs io = true) : aop call ev H io = aop noCall (evO []) H (close ev io) := by
  unfold isHu at h
  rcases Bool.or_eq_true_iff.mp h with h | h
  · exact close_ok h
  · cases io <;> first | (cases h; done) | skip
    case build z ps => simp only [close, aop, List.map_map]; rfl

def xiter (g : St → (Ex → St → Ans) → Ans) : Nat → St → (Ex → St → Ans) → Ans
  | 0, _, _ => none
  | n + 1, s, K => g s fun e s' => match e with
    | .normal => xiter g n s' K
    | .exit i => K (.exit i) s'
    | .ret => K .ret s'

def xgo (i : Nat) : List Nat → List (St → Ans) → St → Ans
  | id :: ids, k :: ks, s => if i = id then k s else xgo i ids ks s
  | _, _, _ => none

def isInt (k : IntKind) : Option AV → Option Int
  | some (.int k' n) => if k' = k then some n else none
  | _ => none
def isBool : Option AV → Option Bool
  | some (.bool b) => some b
  | _ => none
def isStr : Option AV → Option (List UInt8)
  | some (.str b) => some b
  | _ => none
def isAgg (n : Nat) : Option AV → Option (List AV)
  | some (.agg l) => if l.length = n then some l else none
  | _ => none
def isTup (n : Nat) : Option AV → Option (List AV)
  | some (.tup l) => if l.length = n then some l else none
  | _ => none

/-- Do they look at no memory both? -/
def disjB : TV → TV → Bool
  | .addr v, .addr w => (idsOf v).all fun i => !(idsOf w).contains i
  | .all l, .addr _ => l.all (noId DEPTH)
  | .addr _, .all l => l.all (noId DEPTH)
  | .all l, .all _ => l.all (noId DEPTH)
  | .no, _ => true
  | _, .no => true
/-- What they are. -/
noncomputable def C0 : Cb where
  grow H Z K := K H.length (H ++ Z)
  keep A B l K := match keepL A B l with
    | true => K
    | false => none
  mkat H id io K := match makeAt (evO []) id io with
    | some (v, k) => K v (H.set id (some k))
    | none => none
  cal M pc n b g args H K := match callB M pc n b g args H with
    | some (v, H') => K v H'
    | none => none
  disj a b K := match disjB a b with
    | true => K
    | false => none
  fin H v := some (snap DEPTH H v)
  hop H io K := match aop noCall (evO []) H io with
    | some (v, H') => K v H'
    | none => none
  snp H args K := match args.all (noId DEPTH) with
    | true => K args true
    | false => K (args.map (snap DEPTH H)) false
  int k o K := (isInt k o).bind K
  bool o K := (isBool o).bind K
  str o K := (isStr o).bind K
  lst o K Z := match o with
    | some (.lst l) => K l
    | some (.zsl b) => Z b
    | _ => none
  agg n o K := (isAgg n o).bind K
  tup n o K := (isTup n o).bind K
  any o K := o.bind K
  same o v K := @ite _ (o = some v) (Classical.propDecidable _) K none
  sameH a b K := @ite _ (a = b) (Classical.propDecidable _) K none
  iter g n s ids ks kr := xiter g n s fun e s' => match e with
    | .ret => kr s'
    | .exit i => xgo i ids ks s'
    | .normal => none

section
variable (C : Cb)

mutual
/-- A value of a shape: taken apart. -/
def destr : Sh → Option AV → (AV → Ans) → Ans
  | .i k, o, K => C.int k o fun n => K (.int k n)
  | .b, o, K => C.bool o fun b => K (.bool b)
  | .s, o, K => C.str o fun b => K (.str b)
  | .l, o, K => C.lst o (fun l => K (.lst l)) (fun b => K (.zsl b))
  | .agg l, o, K => C.agg l.length o fun cs => destrL l cs 0 fun vs => K (.agg vs)
  | .tup l, o, K => C.tup l.length o fun cs => destrL l cs 0 fun vs => K (.tup vs)
  | .any, o, K => C.any o K
  | .lo, o, K => C.lst o (fun l => K (.lst l)) (fun _ => none)
  | .z, o, K => C.lst o (fun _ => none) (fun b => K (.zsl b))
def destrL : List Sh → List AV → Nat → (List AV → Ans) → Ans
  | [], _, _, K => K []
  | s :: l, cs, i, K => destr s cs[i]? fun v => destrL l cs (i + 1) fun vs => K (v :: vs)
end

abbrev PC := FuncId → List AV → Option AV

/-- A call with what it gets alone. -/
def xpure (pc : PC) (sn : Bool) (sh : Sh) (g : FuncId) (args : List AV) (H : Heap) (K : AV → Heap → Ans) : Ans :=
  match sn with
  | true => C.snp H args fun as_ fr => destr C (loSh sh) (pc g as_) fun v => cnd (fr || noMem DEPTH v) (K v H) none
  | false => match args.all (noId DEPTH) with
    | true => destr C (loSh sh) (pc g args) fun v => K v H
    | false => destr C (loSh sh) (pc g (args.map (snap DEPTH H))) fun v => cnd (noMem DEPTH v) (K v H) none

def xext (sh : Sh) (e : List AV → Option AV) (args : List AV) (H : Heap) (K : AV → Heap → Ans) : Ans := destr C sh (e args) fun v => K v H

abbrev XCall := Bool → Sh → FuncId → List AV → Heap → (AV → Heap → Ans) → Ans

/-- What comes of nothing. -/
def xempty (M : Mod) (pc : PC) (g : FuncId) (args : List AV) (H : Heap) (K : AV → Heap → Ans) (rest : Ans) : Ans := match M.cl g with
  | true => match args with
    | [x] => C.bool (clr x) fun b => cnd b (C.same (emptyQ pc g) (.lst []) (K (.lst []) H)) rest
    | _ => rest
  | false => rest

def xcallZ (M : Mod) (pc : PC) : XCall := fun sn sh g args H K =>
  match M.ext g with
  | some e => xext C sh e args H K
  | none => match M.inl g with
    | true => xempty C M pc g args H K (xpure C pc sn sh g args H K)
    | false => xpure C pc sn sh g args H K

/-- A place in a list by a number that may not be told. -/
def xat (sh : Sh) (l : List AV) (q : Int) (K : AV → Ans) : Ans :=
  cnd (decide (0 ≤ q)) (destr C sh l[q.toNat]? K) none

def xpick (c : AV) (x y : AV) (K : AV → Ans) : Ans := match c with
  | .bool t => match x, y with
    | .int k n, .int k' n' => match decide (k = k') with
      | true => K (.int k (bif t then n else n'))
      | false => cnd t (K (.int k n)) (K (.int k' n'))
    | .bool n, .bool n' => K (.bool (bif t then n else n'))
    | x, y => cnd t (K x) (K y)
  | _ => none

def xbin (op : BinOp) (x y : AV) (K : AV → Ans) : Ans := match x, y with
  | .int k a, .int k' b => match op with
    | .shl => cnd (decide (b < 0)) none (K (.int k (k.wrap (a * 2 ^ min b.toNat k.bits))))
    | .shr => cnd (decide (b < 0)) none (K (.int k (a.fdiv (2 ^ min b.toNat k.bits))))
    | .quo => match decide (k = k') with
      | true => cnd (decide (b = 0)) none (K (.int k (k.wrap (a.tdiv b))))
      | false => none
    | .rem => match decide (k = k') with
      | true => cnd (decide (b = 0)) none (K (.int k (a.tmod b)))
      | false => none
    | op => match aBin op (.int k a) (.int k' b) with
      | some v => K v
      | none => none
  | x, y => match op with
    | .add => match x, y with
      | .str a, .str b => cnd (decide ((a.length + b.length) ≤ 9223372036854775807)) (K (.str (a ++ b))) none
      | _, _ => none
    | op => match aBin op x y with
      | some v => K v
      | none => none

def xbound (x : Option AV) (d top : Nat) (K : Nat → Ans) : Ans := match x with
  | none => K d
  | some v => match aInt v with
    | some i => cnd (decide (0 ≤ i ∧ i ≤ (top : Int))) (K i.toNat) none
    | none => none

/-- One operation, of what is told. -/
def xop0 (u : XU) (call : XCall) (ev : Opd → AV) (H : Heap) (io : IOp) (K : AV → Heap → Ans) : Ans := match io with
  | .pick c a b => xpick (ev c) (ev a) (ev b) fun v => K v H
  | .bin op x y => xbin op (ev x) (ev y) fun v => K v H
  | .eqv neg 0 sh x y => match eqV 0 sh (ev x) (ev y) with
    | some b => K (.bool (xor neg b)) H
    | none => none
  | .eqv neg 4 sh x y => match eqV 4 sh (ev x) (ev y) with
    | some b => K (.bool (xor neg b)) H
    | none => none
  | .eqv neg 2 sh x y => match ev x, ev y with
    | .lst l, .zsl true => cnd l.isEmpty none (K (.bool (xor neg false)) H)
    | x, y => match eqV 2 sh x y with
      | some b => K (.bool (xor neg b)) H
      | none => none
  | .call sh f args => match ev f with
    | .fn g a b => match u.hm with
      | true => call (!freeOps u.hs args) (relax sh) g (a ++ args.map ev ++ b) H K
      | false => call false sh g (a ++ args.map ev ++ b) H K
    | _ => none
  | .subS x lo hi => match ev x with
    | .str s => xbound (hi.map ev) s.length s.length fun h => xbound (lo.map ev) 0 h fun l => K (.str ((s.take h).drop l)) H
    | _ => none
  | .ixS x i => match ev x, aInt (ev i) with
    | .str s, some q => cnd (decide (0 ≤ q)) (C.int .u8 ((s[q.toNat]?).map fun b => .int .u8 b.toNat) fun n => K (.int .u8 n) H) none
    | _, _ => none
  | .ixAS sh es x i => match aInt (ev i) with
    | some q => match ev x with
      | .lst l => xat C sh l q fun v => match decide (v.cells.length = es) with
        | true => K (.fptr v 0) H
        | false => none
      | .slc id o n => match hget H id with
        | some b => match decide (b.e.es = es) with
          | true => cnd (decide (0 ≤ q ∧ q < (n : Int))) (K (.ptr id (o + q.toNat) 0) H) none
          | false => none
        | none => none
      | _ => none
    | none => none
  | io => match aop (fun _ _ _ => none) ev H io with
    | some (v, H') => K v H'
    | none => none

def xop (u : XU) (sh : Sh) (call : XCall) (ev : Opd → AV) (H : Heap) (io : IOp) (K : AV → Heap → Ans) : Ans := match u.hm with
  | true => match isHu u.hs io with
    | true => C.hop H (close ev io) fun v H' => match sh with
      | .any => K v H'
      | sh => destr C sh (some v) fun v' => K v' H'
    | false => xop0 C u call ev H io K
  | false => xop0 C u call ev H io K

def dhs (u : XU) : Option Nat → Sh
  | some d => hsGet u.hs d
  | none => .any

def xwant (env : List AV) (g : Option (Option Nat × Bool)) (A B : List AV → Ans) : Ans := match g with
  | none => A env
  | some (some t, b) => match env.getD t .undef with
    | .bool c => match b with
      | true => cnd c (A (env.set t (.bool true))) (B (env.set t (.bool false)))
      | false => cnd c (B (env.set t (.bool true))) (A (env.set t (.bool false)))
    | .tup [] => B env
    | _ => none
  | some (none, _) => B env

def xrunOps (u : XU) (call : XCall) : List IOper → St → (St → Ans) → Ans
  | [], s, K => K s
  | o :: l, s, K => xwant s.env o.guard (fun env => xop C u (dhs u o.dst) call (evO env) s.H o.op fun v H => xrunOps u call l ⟨put env o.dst v, H⟩ K) (fun env => xrunOps u call l ⟨put env o.dst (.tup []), s.H⟩ K)

/-- What an operation looks at. -/
def tvOf (ev : Opd → AV) : IOp → TV
  | .load _ _ a => .addr (ev a)
  | .store _ a _ => .addr (ev a)
  | .b2s x => .addr (ev x)
  | .call _ f args => match ev f with
    | .fn _ p q => .all (p ++ args.map ev ++ q)
    | _ => .all []
  | _ => .no
def xdisj (chk : List Nat) (t : TV) : List (Nat × TV) → Ans → Ans
  | [], K => K
  | (i, s) :: l, K => match chk.contains i with
    | true => match s, t with
      | .no, _ => xdisj chk t l K
      | _, .no => xdisj chk t l K
      | s, t => C.disj s t (xdisj chk t l K)
    | false => xdisj chk t l K
/-- Operations in any order, where memory isn't told. -/
def xrunOpsH (u : XU) (call callP : XCall) : List (IOper × List Nat) → Nat → List (Nat × TV) → St → (St → Ans) → Ans
  | [], _, _, s, K => K s
  | (o, chk) :: l, i, log, s, K => xwant s.env o.guard
      (fun env => xdisj C chk (tvOf (evO env) o.op) log (xop C u (dhs u o.dst) (match isFull chk with | true => call | false => callP) (evO env) s.H o.op fun v H => xrunOpsH u call callP l (i + 1) ((i, tvOf (evO env) o.op) :: log) ⟨put env o.dst v, H⟩ K))
      (fun env => xrunOpsH u call callP l (i + 1) log ⟨put env o.dst (.tup []), s.H⟩ K)

def xrunOpsD (u : XU) (call callP : XCall) : List (IOper × List Nat) → Nat → List (Nat × Nat) → St → (St → Ans) → Ans
  | [], _, _, s, K => K s
  | (o, chk) :: l, i, log, s, K => xwant s.env o.guard
      (fun env => match chk.isEmpty || log.all (fun p => !(chk.contains p.1) || !((touch (evO env) s.H o.op).contains p.2)) with
        | true => xop C u (dhs u o.dst) (match isFull chk with | true => call | false => callP) (evO env) s.H o.op fun v H => xrunOpsD u call callP l (i + 1) (log ++ (touch (evO env) s.H o.op).map fun id => (i, id)) ⟨put env o.dst v, H⟩ K
        | false => none)
      (fun env => xrunOpsD u call callP l (i + 1) log ⟨put env o.dst (.tup []), s.H⟩ K)

/-- Operations of a drawn region where calls may do anything. -/
def xstepS (u : XU) (call : XCall) (base : Nat) (o : SOp) (env : List AV) (H : Heap) (K : AV → Heap → Ans) : Ans := match o.slot with
  | none => xop C u (dhs u o.op.dst) call (evO env) H o.op.op K
  | some j => match allocOp o.op.op with
    | true => K (.ptr (base + j) 0 0) H
    | false => C.mkat H (base + j) (close (evO env) o.op.op) K
def xkeep (A B : Heap) (l : List AV) (K : Ans) : Ans := match l with
  | [] => K
  | x :: l => C.keep A B (x :: l) K
def xlogS (o : SOp) (nm : List AV) (H H' : Heap) : List LogE → Ans → Ans
  | [], K => K
  | e :: l, K => match o.chk.contains e.idx with
    | true => (match e.chg with
      | some (A, B) => xkeep C A B nm (match chgS o with
        | true => xkeep C H H' e.nm (xlogS o nm H H' l K)
        | false => xlogS o nm H H' l K)
      | none => match chgS o with
        | true => xkeep C H H' e.nm (xlogS o nm H H' l K)
        | false => xlogS o nm H H' l K)
    | false => xlogS o nm H H' l K
def xrunOpsS (u : XU) (call : XCall) (base : Nat) : List SOp → Nat → List LogE → St → (St → Ans) → Ans
  | [], _, _, s, K => K s
  | o :: l, i, log, s, K => xwant s.env o.op.guard
      (fun env => xstepS C u call base o env s.H fun v H' => xlogS C o (namesOf (evO env) o.op.op) s.H H' log (xkeep C s.H H' (o.kp.map fun j => .ptr (base + j) 0 0)
        (xrunOpsS u call base l (i + 1) (entS i o (evO env) s.H H' :: log) ⟨put env o.op.dst v, H'⟩ K)))
      (fun env => xrunOpsS u call base l (i + 1) log ⟨put env o.op.dst (.tup []), s.H⟩ K)

/-- A value's shape: what may be told of it in another round, too. -/
def shOf : Nat → AV → Sh
  | 0, _ => .any
  | d + 1, v => match v with
    | .int k _ => .i k
    | .bool _ => .b
    | .str _ => .s
    | .lst _ => .lo
    | .zsl _ => .z
    | .agg cs => .agg (cs.map (shOf d))
    | _ => .any

/-- What code puts somewhere. -/
def dstsOf : IC → List Nat
  | .reg l => l.filterMap (·.dst)
  | .regD l => l.filterMap (·.1.dst)
  | .regS l => l.filterMap (·.op.dst)
  | .seq a b => dstsOf a ++ dstsOf b
  | .cond _ a b => dstsOf a ++ dstsOf b
  | .block _ a => dstsOf a
  | .loop a => dstsOf a
  | _ => []

def noMake : IOp → Bool
  | .store .. | .box .. | .alloc .. | .mkrow .. | .s2b .. | .mkslice .. | .app .. => false
  | _ => true
/-- Does it leave own memory as_ it is? -/
def noMakes : IC → Bool
  | .reg l => l.all fun o => noMake o.op
  | .regD l => l.all fun o => noMake o.1.op
  | .regS _ => false
  | .seq a b => noMakes a && noMakes b
  | .cond _ a b => noMakes a && noMakes b
  | .block _ a => noMakes a
  | .loop a => noMakes a
  | _ => true

def meetL (a b : List Nat) : List Nat := a.filter fun x => b.contains x
def joinO : Option (List Nat) → Option (List Nat) → Option (List Nat)
  | none, b => b
  | a, none => a
  | some a, some b => some (meetL a b)
def daOp (da : List Nat) (o : IOper) : List Nat := match o.guard, o.dst with
  | none, some d => d :: da
  | _, _ => da
def exAt (id : Nat) : List (Nat × List Nat) → Option (List Nat)
  | [] => none
  | (i, s) :: l => match Nat.beq i id with
    | true => joinO (some s) (exAt id l)
    | false => exAt id l
def RETID : Nat := 1000000
/-- What is put for sure: where code ends, and at each of its exits. -/
def daA : IC → List Nat → Option (List Nat) × List (Nat × List Nat)
  | .skip, s => (some s, [])
  | .reg l, s => (some (l.foldl daOp s), [])
  | .regD l, s => (some (l.foldl (fun s o => daOp s o.1) s), [])
  | .regS l, s => (some (l.foldl (fun s o => daOp s o.op) s), [])
  | .seq a b, s => match daA a s with
    | (none, e) => (none, e)
    | (some s', e) => match daA b s' with
      | (n, e2) => (n, e ++ e2)
  | .cond _ a b, s => match daA a s, daA b s with
    | (n, e), (n2, e2) => (joinO n n2, e ++ e2)
  | .block id a, s => match daA a s with
    | (n, e) => (joinO n (exAt id e), e.filter fun p => !(Nat.beq p.1 id))
  | .loop a, s => match daA a s with
    | (_, e) => (none, e)
  | .exit id, s => (none, [(id, s)])
  | .ret, s => (none, [(RETID, s)])
def daN (a : IC) (s : List Nat) : List Nat := match (daA a s).1 with
  | some s => s
  | none => []
def daX (a : IC) (s : List Nat) (i : Nat) : List Nat := match exAt i (daA a s).2 with
  | some s => s
  | none => []

/-- What is not put anew stays; the rest is taken apart as_ it was ahead ('da': what was put ahead), or as_ it is told to be ('db': what is put behind). -/
def destrV (u : XU) (ds da db : List Nat) : List AV → List AV → Nat → (List AV → Ans) → Ans
  | [], _, _, K => K []
  | v :: l, cs, i, K => match ds.contains i with
    | true => destr C (match da.contains i with
        | true => match u.hm with
          | true => hsGet u.hs i
          | false => shOf 3 v
        | false => match db.contains i with
          | true => relax (hsGet u.hs i)
          | false => .any) cs[i]? fun w => destrV u ds da db l cs (i + 1) fun us => K (w :: us)
    | false => C.same cs[i]? v (destrV u ds da db l cs (i + 1) fun us => K (v :: us))

def destrE (u : XU) (da db : List Nat) (a : IC) (s0 s : St) (K : St → Ans) : Ans := cnd (s.env.length == s0.env.length) (destrV C u (dstsOf a) da db s0.env s.env 0 fun env => match noMakes a with
  | true => match u.hm with
    | true => K ⟨env, s.H⟩
    | false => C.sameH s.H s0.H (K ⟨env, s0.H⟩)
  | false => K ⟨env, s.H⟩) none

/-- Where a loop may leave to. -/
def exitsOf : IC → List Nat
  | .seq a b => exitsOf a ++ exitsOf b
  | .cond _ a b => exitsOf a ++ exitsOf b
  | .block id a => (exitsOf a).filter (· != id)
  | .loop a => exitsOf a
  | .exit id => [id]
  | _ => []

/-- How often does code end (two: often)? -/
def exN (id : Nat) : IC → Nat
  | .seq a b => exN id a + exN id b
  | .cond _ a b => exN id a + exN id b
  | .block i a => match Nat.beq i id with
    | true => 0
    | false => exN id a
  | .loop a => min 1 (exN id a)
  | .exit i => match Nat.beq i id with
    | true => 1
    | false => 0
  | _ => 0
def endN : IC → Nat
  | .skip => 1
  | .reg l => match l.all (fun o => o.guard.isNone) with
    | true => 1
    | false => 2
  | .regD l => match l.all (fun o => o.1.guard.isNone) with
    | true => 1
    | false => 2
  | .regS l => match l.all (fun o => o.op.guard.isNone) with
    | true => 1
    | false => 2
  | .seq a b => match endN a with
    | 0 => 0
    | _ => endN b
  | .cond _ a b => endN a + endN b
  | .block id a => endN a + exN id a
  | _ => 0
/-- Is what comes behind told once, for all its ends? -/
def joins (u : XU) (a : IC) : Bool := u.jn && (Nat.ble 2 (endN a) && (u.hm || noMakes a))
def JID : Nat := 2000000
def hasRet (a : IC) : Bool := (exAt RETID (daA a []).2).isSome

def xexec (u : XU) (call callP : XCall) (fu : Nat) : IC → List Nat → St → (Ex → St → Ans) → Ans
  | .skip, _, s, K => K .normal s
  | .regD ops, _, s, K => match u.hm with
    | true => xrunOpsH C u call callP ops 0 [] s fun s' => K .normal s'
    | false => xrunOpsD C u call callP ops 0 [] s fun s' => K .normal s'
  | .regS ops, _, s, K => match u.hm with
    | true => C.grow s.H (preH ops) fun n H => xrunOpsS C u call n ops 0 [] ⟨s.env, H⟩ fun s' => K .normal s'
    | false => none
  | .reg ops, _, s, K => xrunOps C u call ops s fun s' => K .normal s'
  | .seq a b, da, s, K => match joins u a with
    | false => xexec u call callP fu a da s fun e s' => match e with
      | .normal => xexec u call callP fu b (daN a da) s' K
      | .exit i => K (.exit i) s'
      | .ret => K .ret s'
    | true => C.iter (fun s1 Kn => destrE C u da [] a s s1 fun s2 => xexec u call callP fu a da s2 fun e s' => match e with
      | .normal => Kn (.exit JID) s'
      | .exit i => match decide (i = JID) with
        | true => none
        | false => Kn (.exit i) s'
      | .ret => Kn .ret s') 1 s (JID :: (exitsOf a).eraseDups) ((fun s1 => destrE C u da (daN a da) a s s1 fun s2 => xexec u call callP fu b (daN a da) s2 K) :: (exitsOf a).eraseDups.map fun i s1 => destrE C u da (daX a da i) a s s1 fun s2 => K (.exit i) s2) fun s1 => destrE C u da (daX a da RETID) a s s1 fun s2 => match hasRet a with
      | true => K .ret s2
      | false => none
  | .cond (.t n) a b, da, s, K => match s.env.getD n .undef with
    | .bool t => cnd t (xexec u call callP fu a da ⟨s.env.set n (.bool true), s.H⟩ K) (xexec u call callP fu b da ⟨s.env.set n (.bool false), s.H⟩ K)
    | _ => none
  | .cond (.v c) a b, da, s, K => match c with
    | .bool t => cnd t (xexec u call callP fu a da s K) (xexec u call callP fu b da s K)
    | _ => none
  | .block id a, da, s, K => xexec u call callP fu a da s fun e s' => match e with
    | .normal => K .normal s'
    | .exit i => match decide (i = id) with
      | true => K .normal s'
      | false => K (.exit i) s'
    | .ret => K .ret s'
  | .loop a, da, s, K => match u.un with
    | true => xiter (fun s1 Kn => xexec u call callP fu a da s1 Kn) fu s K
    | false => C.iter (fun s1 Kn => destrE C u da [] a s s1 fun s2 => xexec u call callP fu a da s2 Kn) fu s (exitsOf a).eraseDups ((exitsOf a).eraseDups.map fun i s1 => destrE C u da (daX a da i) a s s1 fun s2 => K (.exit i) s2) fun s1 => destrE C u da (daX a da RETID) a s s1 fun s2 => K .ret s2
  | .exit id, _, s, K => K (.exit id) s
  | .ret, _, s, K => K .ret s

/-- Results, where memory isn't told. -/
def xresAll (s : St) : List RV → (List AV → Ans) → Ans
  | [], K => K []
  | .tmp t :: l, K => xresAll s l fun vs => K (s.env.getD t .undef :: vs)
  | .cell ag n t :: l, K => C.hop s.H (.load ag n (.v (s.env.getD t .undef))) fun v _ => xresAll s l fun vs => K (v :: vs)

def xrunFn (u : XU) (call callP : XCall) (fu : Nat) (fn : AFn) (args : List AV) (H : Heap) (K : AV → Heap → Ans) : Ans :=
  xexec C u call callP fu fn.body (List.range args.length) ⟨args ++ List.replicate (fn.ntmps - args.length) (.tup []), H⟩ fun e s => match e with
    | .exit _ => none
    | _ => match u.hm with
      | true => xresAll C s fn.results fun vs => K (packRes vs) s.H
      | false => match resAll s fn.results with
        | some vs => K (packRes vs) s.H
        | none => none

/-- A run in new memory. -/
def xfresh (u : XU) (call callP : XCall) (fu : Nat) (fn : AFn) (args : List AV) (H : Heap) (K : AV → Heap → Ans) : Ans :=
  xrunFn C u call callP fu fn args (padH H.length) fun v H1 => match padOk H.length H1 with
    | true => K v (H ++ H1.drop H.length)
    | false => none

def xcallB (M : Mod) (U : FuncId → XU) (pc : PC) : Nat → Bool → XCall
  | 0, _ => xcallZ C M pc
  | n + 1, b => fun sn sh g args H K =>
    match M.ext g with
    | some e => xext C sh e args H K
    | none => match M.inl g with
      | true => match (U g).ca with
        | true => C.cal M pc (n + 1) b g args H fun v H' => destr C sh (some v) fun v' => K v' H'
        | false => xempty C M pc g args H K (match b with
          | true => match M.code g args.length with
            | some fn => xrunFn C (U g) (xcallB M U pc n true) (xcallB M U pc n false) M.fu fn args H K
            | none => none
          | false => match M.fr g && args.all (noId DEPTH) with
            | true => match M.code g args.length with
              | some fn => xfresh C (U g) (xcallB M U pc n true) (xcallB M U pc n false) M.fu fn args H K
              | none => none
            | false => xpure C pc sn sh g args H K)
      | false => xpure C pc sn sh g args H K

/-- A call of a function, told forwards. -/
def xcall (M : Mod) (U : FuncId → XU) (d : Nat) (g : FuncId) (args : List AV) : Ans := match M.code g args.length with
  | none => none
  | some fn => xrunFn C (U g) (xcallB C M U (pcall M d) IDEPTH true) (xcallB C M U (pcall M d) IDEPTH false) M.fu fn args [] fun v H' => match (U g).hm with
    | true => C.fin H' v
    | false => some (snap DEPTH H' v)
/-- A call in the caller's own memory, told forwards. -/
def xmeth (M : Mod) (U : FuncId → XU) (d n : Nat) (g : FuncId) (args : List AV) (H : Heap) (K : AV → Heap → Ans) : Ans := match M.code g args.length with
  | none => none
  | some fn => xrunFn C (U g) (xcallB C M U (pcall M d) n true) (xcallB C M U (pcall M d) n false) M.fu fn args H K
end

/-! ### It says what the other one says -/
section
mutual
theorem destr_sound : ∀ (sh : Sh) (o : Option AV) (K : AV → Ans) (r : AV), destr C0 sh o K = some r → ∃ v, o = some v ∧ K v = some r
  | .i k, o, K, r, h => by
    simp only [destr, C0] at h
    obtain ⟨n, h1, h2⟩ := Option.bind_eq_some_iff.mp h
    unfold isInt at h1
    split at h1 <;> (try (cases h1; done))
    split at h1 <;> (try (cases h1; done))
    rename_i k' n' hk
    cases h1; subst hk
    exact ⟨_, rfl, h2⟩
  | .b, o, K, r, h => by
    simp only [destr, C0] at h
    obtain ⟨n, h1, h2⟩ := Option.bind_eq_some_iff.mp h
    unfold isBool at h1
    split at h1 <;> (try (cases h1; done))
    cases h1
    exact ⟨_, rfl, h2⟩
  | .s, o, K, r, h => by
    simp only [destr, C0] at h
    obtain ⟨n, h1, h2⟩ := Option.bind_eq_some_iff.mp h
    unfold isStr at h1
    split at h1 <;> (try (cases h1; done))
    cases h1
    exact ⟨_, rfl, h2⟩
  | .l, o, K, r, h => by
    simp only [destr, C0] at h
    split at h <;> (try (cases h; done))
    · exact ⟨_, rfl, h⟩
    · exact ⟨_, rfl, h⟩
  | .agg l, o, K, r, h => by
    simp only [destr, C0] at h
    obtain ⟨cs, h1, h2⟩ := Option.bind_eq_some_iff.mp h
    unfold isAgg at h1
    split at h1 <;> (try (cases h1; done))
    split at h1 <;> (try (cases h1; done))
    rename_i hl
    cases h1
    obtain ⟨vs, q1, q2, q3⟩ := destrL_sound l cs 0 _ r h2
    have : vs = cs := by
      apply List.ext_getElem?
      intro i
      rcases Nat.lt_or_ge i l.length with hlt | hge
      · have := q2 i hlt; simpa using this.symm
      · rw [List.getElem?_eq_none (by omega), List.getElem?_eq_none (by omega)]
    subst this
    exact ⟨_, rfl, q3⟩
  | .tup l, o, K, r, h => by
    simp only [destr, C0] at h
    obtain ⟨cs, h1, h2⟩ := Option.bind_eq_some_iff.mp h
    unfold isTup at h1
    split at h1 <;> (try (cases h1; done))
    split at h1 <;> (try (cases h1; done))
    rename_i hl
    cases h1
    obtain ⟨vs, q1, q2, q3⟩ := destrL_sound l cs 0 _ r h2
    have : vs = cs := by
      apply List.ext_getElem?
      intro i
      rcases Nat.lt_or_ge i l.length with hlt | hge
      · have := q2 i hlt; simpa using this.symm
      · rw [List.getElem?_eq_none (by omega), List.getElem?_eq_none (by omega)]
    subst this
    exact ⟨_, rfl, q3⟩
  | .any, o, K, r, h => by
    simp only [destr, C0] at h
    exact Option.bind_eq_some_iff.mp h
  | .lo, o, K, r, h => by
    simp only [destr, C0] at h
    split at h <;> (try (cases h; done))
    exact ⟨_, rfl, h⟩
  | .z, o, K, r, h => by
    simp only [destr, C0] at h
    split at h <;> (try (cases h; done))
    exact ⟨_, rfl, h⟩
theorem destrL_sound : ∀ (l : List Sh) (cs : List AV) (i : Nat) (K : List AV → Ans) (r : AV), destrL C0 l cs i K = some r → ∃ vs, vs.length = l.length ∧ (∀ j, j < l.length → cs[i + j]? = vs[j]?) ∧ K vs = some r
  | [], cs, i, K, r, h => ⟨[], rfl, by simp, h⟩
  | s :: l, cs, i, K, r, h => by
    simp only [destrL] at h
    obtain ⟨v, h1, h2⟩ := destr_sound s _ _ r h
    obtain ⟨vs, q1, q2, q3⟩ := destrL_sound l cs (i + 1) _ r h2
    refine ⟨v :: vs, by simp [q1], fun j hj => ?_, q3⟩
    cases j with
    | zero => simpa using h1
    | succ j =>
      have := q2 j (by simpa using hj)
      simpa [show i + 1 + j = i + (j + 1) by omega] using this
end

theorem cnd_some {t : Bool} {a b : Ans} {r : AV} (h : cnd t a b = some r) : (t = true ∧ a = some r) ∨ (t = false ∧ b = some r) := by
  cases t <;> simp [cnd] at h <;> simp [h]

theorem destrV_sound (U0 : XU) (ds da db : List Nat) : ∀ (l cs : List AV) (i : Nat) (K : List AV → Ans) (r : AV), destrV C0 U0 ds da db l cs i K = some r → ∃ vs, vs.length = l.length ∧ (∀ j, j < l.length → cs[i + j]? = vs[j]?) ∧ K vs = some r
  | [], cs, i, K, r, h => ⟨[], rfl, by simp, h⟩
  | v :: l, cs, i, K, r, h => by
    simp only [destrV] at h
    have fin : ∀ u, cs[i]? = some u → destrV C0 U0 ds da db l cs (i + 1) (fun us => K (u :: us)) = some r → ∃ vs, vs.length = (v :: l).length ∧ (∀ j, j < (v :: l).length → cs[i + j]? = vs[j]?) ∧ K vs = some r := by
      intro u h1 h2
      obtain ⟨vs, q1, q2, q3⟩ := destrV_sound U0 ds da db l cs (i + 1) _ r h2
      refine ⟨u :: vs, by simp [q1], fun j hj => ?_, q3⟩
      cases j with
      | zero => simpa using h1
      | succ j =>
        have := q2 j (by simpa using hj)
        simpa [show i + 1 + j = i + (j + 1) by omega] using this
    split at h
    · obtain ⟨u, h1, h2⟩ := destr_sound _ _ _ r h
      exact fin u h1 h2
    · simp only [C0] at h
      split at h
      · rename_i he; exact fin v he h
      · cases h

theorem destrE_sound {u : XU} {da db : List Nat} {a : IC} {s0 s : St} {K : St → Ans} {r : AV} (h : destrE C0 u da db a s0 s K = some r) : K s = some r := by
  unfold destrE at h
  rcases cnd_some h with ⟨hl, h⟩ | ⟨_, h⟩
  · obtain ⟨vs, q1, q2, q3⟩ := destrV_sound _ _ _ _ _ _ _ _ _ h
    have hl : s.env.length = s0.env.length := by simpa using hl
    have : vs = s.env := by
      apply List.ext_getElem?
      intro i
      rcases Nat.lt_or_ge i s0.env.length with hlt | hge
      · have := q2 i hlt; simpa using this.symm
      · rw [List.getElem?_eq_none (by omega), List.getElem?_eq_none (by omega)]
    subst this
    split at q3
    · split at q3
      · exact q3
      · simp only [C0] at q3
        split at q3
        · rename_i he; rw [← he] at q3; exact q3
        · cases q3
    · exact q3
  · cases h

theorem xgo_ok {i : Nat} {s : St} {r : AV} {f : Nat → St → Ans} : ∀ ids : List Nat, xgo i ids (ids.map f) s = some r → f i s = some r
  | [], h => by cases h
  | id :: ids, h => by
    simp only [List.map_cons, xgo] at h
    split at h
    · rename_i he; rw [he]; exact h
    · exact xgo_ok ids h

/-- Calls told forwards. -/
def XOK (x : XCall) (call : CallF) : Prop := ∀ sn sh g args H K r, x sn sh g args H K = some r → ∃ v H', call g args H = some (v, H') ∧ K v H' = some r

theorem xpure_ok (pc : PC) : XOK (xpure C0 pc) (pureCall pc) := by
  intro sn sh g args H K r h
  unfold xpure at h
  unfold pureCall
  cases sn with
  | true =>
    simp only [C0] at h
    cases ha : args.all (noId DEPTH) <;> simp only [ha] at h
    · obtain ⟨v, h1, h2⟩ := destr_sound _ _ _ _ h
      rcases cnd_some h2 with ⟨h3, h2⟩ | ⟨_, h2⟩
      · simp only [Bool.false_or] at h3
        exact ⟨v, H, by simp [h1, h3], h2⟩
      · cases h2
    · obtain ⟨v, h1, h2⟩ := destr_sound _ _ _ _ h
      rcases cnd_some h2 with ⟨h3, h2⟩ | ⟨h3, h2⟩
      · exact ⟨v, H, by simp [h1], h2⟩
      · cases h2
  | false =>
    cases ha : args.all (noId DEPTH) <;> simp only [ha] at h
    · obtain ⟨v, h1, h2⟩ := destr_sound _ _ _ _ h
      rcases cnd_some h2 with ⟨h3, h2⟩ | ⟨_, h2⟩
      · exact ⟨v, H, by simp [h1, h3], h2⟩
      · cases h2
    · obtain ⟨v, h1, h2⟩ := destr_sound _ _ _ _ h
      exact ⟨v, H, by simp [h1], h2⟩

theorem xbound_ok {x : Option AV} {d top : Nat} {K : Nat → Ans} {r : AV} (h : xbound x d top K = some r) : ∃ n, bound x d top = some n ∧ K n = some r := by
  unfold xbound at h
  split at h
  · exact ⟨_, rfl, h⟩
  · split at h <;> (try (cases h; done))
    rename_i v i hi
    rcases cnd_some h with ⟨h0, h⟩ | ⟨_, h⟩
    · have h0 := of_decide_eq_true h0
      exact ⟨_, by simp only [bound, hi]; rw [if_pos h0], h⟩
    · cases h

theorem xpick_ok {c x y : AV} {K : AV → Ans} {r : AV} (h : xpick c x y K = some r) : ∃ t, c = .bool t ∧ K (bif t then x else y) = some r := by
  unfold xpick at h
  split at h <;> (try (cases h; done))
  rename_i t
  refine ⟨t, rfl, ?_⟩
  split at h
  · split at h
    · rename_i hk
      have hk := of_decide_eq_true hk
      subst hk
      cases t <;> exact h
    · rcases cnd_some h with ⟨rfl, h⟩ | ⟨rfl, h⟩ <;> exact h
  · cases t <;> exact h
  · rcases cnd_some h with ⟨rfl, h⟩ | ⟨rfl, h⟩ <;> exact h

theorem xbin_ok {op : BinOp} {x y : AV} {K : AV → Ans} {r : AV} (h : xbin op x y K = some r) : ∃ v, aBin op x y = some v ∧ K v = some r := by
  unfold xbin at h
  split at h
  · rename_i k a k' b
    split at h
    · rcases cnd_some h with ⟨_, h⟩ | ⟨hb, h⟩
      · cases h
      · have hb := of_decide_eq_false hb
        exact ⟨_, by simp [aBin, hb], h⟩
    · rcases cnd_some h with ⟨_, h⟩ | ⟨hb, h⟩
      · cases h
      · have hb := of_decide_eq_false hb
        exact ⟨_, by simp [aBin, hb], h⟩
    · split at h
      · rename_i hk
        have hk := of_decide_eq_true hk
        rcases cnd_some h with ⟨_, h⟩ | ⟨hb, h⟩
        · cases h
        · have hb := of_decide_eq_false hb
          exact ⟨_, by simp [aBin, hk, hb], h⟩
      · cases h
    · split at h
      · rename_i hk
        have hk := of_decide_eq_true hk
        rcases cnd_some h with ⟨_, h⟩ | ⟨hb, h⟩
        · cases h
        · have hb := of_decide_eq_false hb
          exact ⟨_, by simp [aBin, hk, hb], h⟩
      · cases h
    · split at h
      · rename_i v hv; exact ⟨v, hv, h⟩
      · cases h
  · split at h
    · split at h
      · rcases cnd_some h with ⟨hb, h⟩ | ⟨_, h⟩
        · have hb := of_decide_eq_true hb
          exact ⟨_, by simp [aBin, hb], h⟩
        · cases h
      · cases h
    · split at h
      · rename_i v hv; exact ⟨v, hv, h⟩
      · cases h
end
end Go.Proofs.Ytdceaeifcniabaa.AE

namespace Go.Proofs.Ytdceaeifcniabaa.AE
set_option linter.unusedVariables false
set_option linter.unusedSimpArgs false
set_option linter.constructorNameAsVariable false
open Go

theorem aop_call_irr {call call' : CallF} {ev : Opd → AV} {H : Heap} {io : IOp} (h : ∀ sh f args, io ≠ .call sh f args) : aop call ev H io = aop call' ev H io := by
  cases io <;> first | rfl | exact absurd rfl (h _ _ _) | skip
  all_goals (rename_i b _; cases b <;> rfl)

theorem xop0_ok {u : XU} {x : XCall} {call : CallF} (hx : XOK x call) {ev : Opd → AV} {H : Heap} {io : IOp} {K : AV → Heap → Ans} {r : AV} (h : xop0 C0 u x ev H io K = some r) : ∃ v H', aop call ev H io = some (v, H') ∧ K v H' = some r := by
  unfold xop0 at h
  split at h
  · obtain ⟨t, h1, h2⟩ := xpick_ok h
    exact ⟨_, H, by simp [aop, h1], h2⟩
  · obtain ⟨v, h1, h2⟩ := xbin_ok h
    exact ⟨v, H, by simp [aop, h1], h2⟩
  · split at h <;> (try (cases h; done))
    rename_i b hb
    exact ⟨_, H, by simp only [aop, hb], h⟩
  · split at h <;> (try (cases h; done))
    rename_i b hb
    exact ⟨_, H, by simp only [aop, hb], h⟩
  · split at h
    · rename_i l h1 h2
      rcases cnd_some h with ⟨_, h⟩ | ⟨h0, h⟩
      · cases h
      · cases l with
        | nil => simp at h0
        | cons a l => exact ⟨_, H, by simp only [aop, h1, h2, eqV, eqS], h⟩
    · split at h <;> (try (cases h; done))
      rename_i b hb
      exact ⟨_, H, by simp only [aop, hb], h⟩
  · split at h <;> (try (cases h; done))
    rename_i g a b hf
    split at h
    · obtain ⟨v, H', h1, h2⟩ := hx _ _ _ _ _ _ _ h
      exact ⟨v, H', by simp only [aop, hf, h1], h2⟩
    · obtain ⟨v, H', h1, h2⟩ := hx _ _ _ _ _ _ _ h
      exact ⟨v, H', by simp only [aop, hf, h1], h2⟩
  · split at h <;> (try (cases h; done))
    rename_i s hs
    obtain ⟨hh, h1, h2⟩ := xbound_ok h
    obtain ⟨l, h3, h4⟩ := xbound_ok h2
    exact ⟨_, H, by simp only [aop, aSubS, hs, h1, h3], h4⟩
  · split at h <;> (try (cases h; done))
    rename_i s q hs hq
    rcases cnd_some h with ⟨h0, h⟩ | ⟨_, h⟩
    · have h0 := of_decide_eq_true h0
      simp only [C0] at h
      obtain ⟨n, h1, h2⟩ := Option.bind_eq_some_iff.mp h
      cases hb : s[q.toNat]? with
      | none => simp [hb, isInt] at h1
      | some b =>
        simp [hb, isInt] at h1
        subst h1
        exact ⟨_, H, by simp [aop, hs, hq, h0, hb], h2⟩
    · cases h
  · split at h <;> (try (cases h; done))
    rename_i q hq
    split at h <;> (try (cases h; done))
    · rename_i l hl
      unfold xat at h
      rcases cnd_some h with ⟨h0, h⟩ | ⟨_, h⟩
      · have h0 := of_decide_eq_true h0
        obtain ⟨v, h1, h2⟩ := destr_sound _ _ _ _ h
        split at h2 <;> (try (cases h2; done))
        rename_i hc
        have hc := of_decide_eq_true hc
        exact ⟨_, H, by simp [aop, hq, hl, aIx, h0, h1, hc], h2⟩
      · cases h
    · rename_i id o n hl
      split at h <;> (try (cases h; done))
      rename_i b hb
      split at h <;> (try (cases h; done))
      rename_i he
      have he := of_decide_eq_true he
      rcases cnd_some h with ⟨h0, h⟩ | ⟨_, h⟩
      · have h0 := of_decide_eq_true h0
        exact ⟨_, H, by simp [aop, hq, hl, aIx, hb, h0, he], h⟩
      · cases h
  · rename_i hne
    split at h <;> (try (cases h; done))
    rename_i v H' hv
    exact ⟨v, H', by rw [← hv]; exact aop_call_irr (fun sh f args he => by subst he; simp_all), h⟩

theorem xop_ok {u : XU} {sh : Sh} {x : XCall} {call : CallF} (hx : XOK x call) {ev : Opd → AV} {H : Heap} {io : IOp} {K : AV → Heap → Ans} {r : AV} (h : xop C0 u sh x ev H io K = some r) : ∃ v H', aop call ev H io = some (v, H') ∧ K v H' = some r := by
  unfold xop at h
  split at h
  · split at h
    · rename_i hi
      rw [close_okB hi]
      simp only [C0] at h
      split at h
      · rename_i v H' hv
        split at h
        · exact ⟨v, H', hv, h⟩
        · obtain ⟨w, h1, h2⟩ := destr_sound _ _ _ _ h
          cases h1
          exact ⟨v, H', hv, h2⟩
      · cases h
    · exact xop0_ok hx h
  · exact xop0_ok hx h

theorem set_same {env : List AV} {t : Nat} {v : AV} (h : env.getD t .undef = v) (hv : v ≠ .undef) : env.set t v = env := by
  apply List.ext_getElem?
  intro i
  by_cases hi : t = i
  · subst hi
    rcases Nat.lt_or_ge t env.length with hlt | hge
    · rw [List.getElem?_set_self hlt, List.getElem?_eq_getElem hlt, ← h]
      simp [List.getD_eq_getElem?_getD, hlt]
    · exact absurd (by rw [← h]; simp [List.getD_eq_getElem?_getD, List.getElem?_eq_none hge]) hv
  · rw [List.getElem?_set_ne hi]

theorem xwant_ok {env : List AV} {g : Option (Option Nat × Bool)} {A B : List AV → Ans} {r : AV} (h : xwant env g A B = some r) : (want env g = some true ∧ A env = some r) ∨ (want env g = some false ∧ B env = some r) := by
  unfold xwant at h
  split at h
  · exact .inl ⟨rfl, h⟩
  · rename_i t b
    split at h <;> (try (cases h; done))
    · rename_i c hc
      split at h
      · rcases cnd_some h with ⟨h0, h⟩ | ⟨h0, h⟩
        · subst h0; rw [set_same hc (by simp)] at h; exact .inl ⟨by simp only [want, hc]; rfl, h⟩
        · subst h0; rw [set_same hc (by simp)] at h; exact .inr ⟨by simp only [want, hc]; rfl, h⟩
      · rcases cnd_some h with ⟨h0, h⟩ | ⟨h0, h⟩
        · subst h0; rw [set_same hc (by simp)] at h; exact .inr ⟨by simp only [want, hc]; rfl, h⟩
        · subst h0; rw [set_same hc (by simp)] at h; exact .inl ⟨by simp only [want, hc]; rfl, h⟩
    · rename_i hc
      exact .inr ⟨by simp only [want, hc], h⟩
  · exact .inr ⟨rfl, h⟩

theorem xrunOps_ok {u : XU} {x : XCall} {call : CallF} (hx : XOK x call) : ∀ (l : List IOper) (s : St) (K : St → Ans) (r : AV), xrunOps C0 u x l s K = some r → ∃ s', runOps call l s = some s' ∧ K s' = some r
  | [], s, K, r, h => ⟨s, rfl, h⟩
  | o :: l, s, K, r, h => by
    simp only [xrunOps] at h
    rcases xwant_ok h with ⟨hw, h⟩ | ⟨hw, h⟩
    · obtain ⟨v, H', h1, h2⟩ := xop_ok hx h
      obtain ⟨s', h3, h4⟩ := xrunOps_ok hx l _ K r h2
      exact ⟨s', by simp only [runOps, hw, h1, h3], h4⟩
    · obtain ⟨s', h3, h4⟩ := xrunOps_ok hx l _ K r h
      exact ⟨s', by simp only [runOps, hw, h3], h4⟩

theorem XOK.sel {x y : XCall} {call callP : CallF} (hx : XOK x call) (hy : XOK y callP) (b : Bool) : XOK (match b with | true => x | false => y) (bif b then call else callP) := by cases b <;> assumption
theorem xrunOpsD_ok {u : XU} {x y : XCall} {call callP : CallF} (hx : XOK x call) (hy : XOK y callP) : ∀ (l : List (IOper × List Nat)) (i : Nat) (log : List (Nat × Nat)) (s : St) (K : St → Ans) (r : AV), xrunOpsD C0 u x y l i log s K = some r → ∃ s', runOpsD call callP l i log s = some s' ∧ K s' = some r
  | [], i, log, s, K, r, h => ⟨s, rfl, h⟩
  | (o, chk) :: l, i, log, s, K, r, h => by
    simp only [xrunOpsD] at h
    rcases xwant_ok h with ⟨hw, h⟩ | ⟨hw, h⟩
    · split at h <;> (try (cases h; done))
      rename_i hl
      obtain ⟨v, H', h1, h2⟩ := xop_ok (hx.sel hy (isFull chk)) h
      obtain ⟨s', h3, h4⟩ := xrunOpsD_ok hx hy l _ _ _ K r h2
      refine ⟨s', ?_, h4⟩
      simp only [runOpsD, hw]
      split
      · simp only [h1, h3]
      · rename_i hn
        rw [Bool.or_eq_true] at hl
        rcases hl with hl | hl
        · exact absurd (by rw [List.isEmpty_iff] at hl; subst hl; simp) hn
        · exact absurd hl hn
    · obtain ⟨s', h3, h4⟩ := xrunOpsD_ok hx hy l _ _ _ K r h
      exact ⟨s', by simp only [runOpsD, hw, h3], h4⟩

theorem xdisj_ok {chk : List Nat} {t : TV} {K : Ans} {r : AV} : ∀ {l : List (Nat × TV)}, xdisj C0 chk t l K = some r → K = some r ∧ ∀ e ∈ l, chk.contains e.1 = true → disjB e.2 t = true
  | [], h => ⟨h, fun e he => by cases he⟩
  | (i, s) :: l, h => by
    simp only [xdisj] at h
    split at h
    · rename_i hc
      split at h
      · obtain ⟨h1, h2⟩ := xdisj_ok h
        refine ⟨h1, fun e he hk => ?_⟩
        rcases List.mem_cons.mp he with rfl | he
        · rfl
        · exact h2 e he hk
      · obtain ⟨h1, h2⟩ := xdisj_ok h
        refine ⟨h1, fun e he hk => ?_⟩
        rcases List.mem_cons.mp he with rfl | he
        · cases s <;> rfl
        · exact h2 e he hk
      · simp only [C0] at h
        split at h
        · rename_i hd
          obtain ⟨h1, h2⟩ := xdisj_ok h
          refine ⟨h1, fun e he hk => ?_⟩
          rcases List.mem_cons.mp he with rfl | he
          · exact hd
          · exact h2 e he hk
        · cases h
    · rename_i hc
      obtain ⟨h1, h2⟩ := xdisj_ok h
      refine ⟨h1, fun e he hk => ?_⟩
      rcases List.mem_cons.mp he with rfl | he
      · rw [hc] at hk; cases hk
      · exact h2 e he hk

/-- It may name that memory. -/
def tmem (id : Nat) : TV → Prop
  | .no => False
  | .addr v => id ∈ idsOf v
  | .all l => l.all (noId DEPTH) = false
theorem touch_tv {ev : Opd → AV} {H : Heap} {io : IOp} {id : Nat} (h : id ∈ touch ev H io) : tmem id (tvOf ev io) := by
  cases io <;> first | (cases h; done) | skip
  case load ag n a =>
    simp only [touch] at h
    simp only [tvOf, tmem]
    split at h
    · rename_i he; rw [he]; exact h
    · cases h
  case store n a v =>
    simp only [touch] at h
    simp only [tvOf, tmem]
    split at h
    · rename_i he; rw [he]; exact h
    · cases h
  case b2s x =>
    simp only [touch] at h
    simp only [tvOf, tmem]
    split at h
    · rename_i he; rw [he]; exact h
    · cases h
  case call sh f args =>
    simp only [touch] at h
    simp only [tvOf]
    split at h
    · rename_i he
      rw [he]
      simp only [tmem]
      split at h
      · cases h
      · rename_i hn; simpa using hn
    · cases h
theorem disj_no {id : Nat} {a b : TV} (h : disjB a b = true) (ha : tmem id a) (hb : tmem id b) : False := by
  cases a <;> cases b <;> simp only [tmem] at ha hb <;> try exact ha.elim
  all_goals (try exact hb.elim)
  · rename_i v w
    simp only [disjB, List.all_eq_true] at h
    have := h id ha
    simp [hb] at this
  · simp only [disjB] at h; rw [hb] at h; cases h
  · simp only [disjB] at h; rw [ha] at h; cases h
  · simp only [disjB] at h; rw [ha] at h; cases h
theorem xrunOpsH_ok {u : XU} {x y : XCall} {call callP : CallF} (hx : XOK x call) (hy : XOK y callP) : ∀ (l : List (IOper × List Nat)) (i : Nat) (lg : List (Nat × TV)) (log : List (Nat × Nat)) (s : St) (K : St → Ans) (r : AV), (∀ p ∈ log, ∃ e ∈ lg, e.1 = p.1 ∧ tmem p.2 e.2) →
    xrunOpsH C0 u x y l i lg s K = some r → ∃ s', runOpsD call callP l i log s = some s' ∧ K s' = some r
  | [], i, lg, log, s, K, r, _, h => ⟨s, rfl, h⟩
  | (o, chk) :: l, i, lg, log, s, K, r, hl, h => by
    simp only [xrunOpsH] at h
    rcases xwant_ok h with ⟨hw, h⟩ | ⟨hw, h⟩
    · obtain ⟨h, hd⟩ := xdisj_ok h
      obtain ⟨v, H', h1, h2⟩ := xop_ok (hx.sel hy (isFull chk)) h
      have hok : log.all (fun p => !(chk.contains p.1) || !((touch (evO s.env) s.H o.op).contains p.2)) = true := by
        rw [List.all_eq_true]
        intro p hp
        obtain ⟨e, he, h3, h4⟩ := hl p hp
        cases hc : chk.contains p.1 with
        | false => rfl
        | true =>
          cases ht : (touch (evO s.env) s.H o.op).contains p.2 with
          | false => rfl
          | true => exact (disj_no (hd e he (by rw [h3]; exact hc)) h4 (touch_tv (by simpa using ht))).elim
      obtain ⟨s', h3, h4⟩ := xrunOpsH_ok hx hy l _ _ (log ++ (touch (evO s.env) s.H o.op).map fun id => (i, id)) _ K r (by
        intro p hp
        rcases List.mem_append.mp hp with hp | hp
        · obtain ⟨e, he, h3, h4⟩ := hl p hp
          exact ⟨e, List.mem_cons_of_mem _ he, h3, h4⟩
        · obtain ⟨id, hid, rfl⟩ := List.mem_map.mp hp
          exact ⟨_, List.mem_cons_self .., rfl, touch_tv hid⟩) h2
      refine ⟨s', ?_, h4⟩
      simp only [runOpsD, hw]
      rw [if_pos hok]
      simp only [h1, h3]
    · obtain ⟨s', h3, h4⟩ := xrunOpsH_ok hx hy l _ _ log _ K r hl h
      exact ⟨s', by simp only [runOpsD, hw, h3], h4⟩

theorem xkeep_ok {A B : Heap} {l : List AV} {K : Ans} {r : AV} (h : xkeep C0 A B l K = some r) : keepL A B l = true ∧ K = some r := by
  unfold xkeep at h
  split at h
  · exact ⟨rfl, h⟩
  · simp only [C0] at h
    split at h
    · rename_i hk; exact ⟨hk, h⟩
    · cases h
theorem xlogS_ok {o : SOp} {ev : Opd → AV} {H H' : Heap} {K : Ans} {r : AV} : ∀ {log : List LogE}, xlogS C0 o (namesOf ev o.op.op) H H' log K = some r → (log.all fun e => !(o.chk.contains e.idx) || logC e o ev H H') = true ∧ K = some r
  | [], h => ⟨rfl, h⟩
  | e :: l, h => by
    simp only [xlogS] at h
    cases hc : o.chk.contains e.idx with
    | false =>
      rw [hc] at h
      obtain ⟨q1, q2⟩ := xlogS_ok (log := l) h
      exact ⟨by rw [List.all_cons, q1, hc]; rfl, q2⟩
    | true =>
      rw [hc] at h
      simp only at h
      have fin : ∀ {K' : Ans}, (match chgS o with
          | true => xkeep C0 H H' e.nm (xlogS C0 o (namesOf ev o.op.op) H H' l K)
          | false => xlogS C0 o (namesOf ev o.op.op) H H' l K) = some r → (match chgS o with
          | true => keepL H H' e.nm
          | false => true) = true ∧ (l.all fun e => !(o.chk.contains e.idx) || logC e o ev H H') = true ∧ K = some r := by
        intro K' h
        cases hg : chgS o with
        | true =>
          rw [hg] at h
          obtain ⟨q1, q2⟩ := xkeep_ok h
          obtain ⟨q3, q4⟩ := xlogS_ok (log := l) q2
          exact ⟨q1, q3, q4⟩
        | false =>
          rw [hg] at h
          obtain ⟨q3, q4⟩ := xlogS_ok (log := l) h
          exact ⟨rfl, q3, q4⟩
      have all : logC e o ev H H' = true → (l.all fun e => !(o.chk.contains e.idx) || logC e o ev H H') = true → ((e :: l).all fun e => !(o.chk.contains e.idx) || logC e o ev H H') = true := fun h1 h2 => by rw [List.all_cons, h2, h1]; simp
      cases hch : e.chg with
      | none =>
        rw [hch] at h
        obtain ⟨q1, q2, q3⟩ := fin (K' := none) h
        exact ⟨all (by unfold logC; rw [hch]; simp only [Bool.true_and]; exact q1) q2, q3⟩
      | some p =>
        obtain ⟨A, B⟩ := p
        rw [hch] at h
        obtain ⟨q0, h⟩ := xkeep_ok h
        obtain ⟨q1, q2, q3⟩ := fin (K' := none) h
        exact ⟨all (by unfold logC; rw [hch]; simp only [q0, Bool.true_and]; exact q1) q2, q3⟩
theorem makeAt_close {ev : Opd → AV} {id : Nat} {io : IOp} : makeAt (evO []) id (close ev io) = makeAt ev id io := by
  cases io <;> try rfl
  case mkrow e n ps => simp only [close, makeAt, List.map_map]; rfl
theorem xstepS_ok {u : XU} {x : XCall} {call : CallF} (hx : XOK x call) {base : Nat} {o : SOp} {env : List AV} {H : Heap} {K : AV → Heap → Ans} {r : AV} (h : xstepS C0 u x base o env H K = some r) : ∃ v H', stepS call base o ⟨env, H⟩ = some (v, H') ∧ K v H' = some r := by
  unfold xstepS at h
  unfold stepS
  cases hs : o.slot with
  | none =>
    rw [hs] at h
    exact xop_ok hx h
  | some j =>
    rw [hs] at h
    simp only at h ⊢
    cases ha : allocOp o.op.op with
    | true => rw [ha] at h; exact ⟨_, _, rfl, h⟩
    | false =>
      rw [ha] at h
      simp only [C0, makeAt_close] at h
      split at h
      · rename_i v k hk
        exact ⟨v, _, by simp only [hk], h⟩
      · cases h
theorem xrunOpsS_ok {u : XU} {x : XCall} {call : CallF} (hx : XOK x call) {base : Nat} : ∀ (l : List SOp) (i : Nat) (log : List LogE) (s : St) (K : St → Ans) (r : AV), xrunOpsS C0 u x base l i log s K = some r → ∃ s', runOpsS call base l i log s = some s' ∧ K s' = some r
  | [], i, log, s, K, r, h => ⟨s, rfl, h⟩
  | o :: l, i, log, s, K, r, h => by
    simp only [xrunOpsS] at h
    rcases xwant_ok h with ⟨hw, h⟩ | ⟨hw, h⟩
    · obtain ⟨v, H', h1, h2⟩ := xstepS_ok hx h
      obtain ⟨h3, h4⟩ := xlogS_ok h2
      obtain ⟨h5, h6⟩ := xkeep_ok h4
      obtain ⟨s', h7, h8⟩ := xrunOpsS_ok hx l _ _ _ K r h6
      refine ⟨s', ?_, h8⟩
      have hkp : (o.kp.all fun j => keepB s.H H' (base + j)) = true := by
        rw [List.all_eq_true]
        intro j hj
        have := List.all_eq_true.mp (List.all_eq_true.mp h5 (.ptr (base + j) 0 0) (List.mem_map.mpr ⟨j, hj, rfl⟩)) (base + j) (by simp [idsOf])
        exact this
      simp only [runOpsS, hw]
      have hs : stepS call base o s = some (v, H') := h1
      simp only [hs, h3, hkp, Bool.and_self]
      exact h7
    · obtain ⟨s', h3, h4⟩ := xrunOpsS_ok hx l _ _ _ K r h
      exact ⟨s', by simp only [runOpsS, hw, h3], h4⟩

theorem xexec_ok {x y : XCall} {call callP : CallF} (hx : XOK x call) (hy : XOK y callP) (u : XU) (fu : Nat) : ∀ (c : IC) (da : List Nat) (s : St) (K : Ex → St → Ans) (r : AV), xexec C0 u x y fu c da s K = some r → ∃ e s', exec call callP fu c s = some (e, s') ∧ K e s' = some r := by
  intro c
  induction c with
  | skip => intro da s K r h; exact ⟨_, _, rfl, h⟩
  | reg ops =>
    intro da s K r h
    obtain ⟨s', h1, h2⟩ := xrunOps_ok hx ops s _ r h
    exact ⟨.normal, s', by simp only [exec, h1], h2⟩
  | regD ops =>
    intro da s K r h
    simp only [xexec] at h
    split at h
    · obtain ⟨s', h1, h2⟩ := xrunOpsH_ok hx hy ops 0 [] [] s _ r (fun p hp => by cases hp) h
      exact ⟨.normal, s', by simp only [exec, h1], h2⟩
    · obtain ⟨s', h1, h2⟩ := xrunOpsD_ok hx hy ops 0 [] s _ r h
      exact ⟨.normal, s', by simp only [exec, h1], h2⟩
  | regS ops =>
    intro da s K r h
    simp only [xexec] at h
    split at h
    · simp only [C0] at h
      obtain ⟨s', h1, h2⟩ := xrunOpsS_ok hx ops 0 [] _ _ r h
      exact ⟨.normal, s', by simp only [exec, h1], h2⟩
    · cases h
  | seq a b iha ihb =>
    intro da s K r h
    simp only [xexec] at h
    split at h
    case h_2 =>
      simp only [C0, xiter] at h
      obtain ⟨e, s1, h1, h2⟩ := iha _ s _ r (destrE_sound h)
      cases e with
      | normal =>
        simp only [xgo, if_true] at h2
        obtain ⟨e, s', h3, h4⟩ := ihb _ s1 K r (destrE_sound h2)
        exact ⟨e, s', by simp only [exec, h1, h3], h4⟩
      | exit i =>
        simp only at h2
        split at h2
        · cases h2
        · rename_i hi
          have hi := of_decide_eq_false hi
          simp only [xgo, if_neg hi] at h2
          exact ⟨_, s1, by simp only [exec, h1], destrE_sound (xgo_ok (f := fun i s1 => destrE C0 u da (daX a da i) a s s1 fun s2 => K (.exit i) s2) _ h2)⟩
      | ret =>
        have h3 := destrE_sound h2
        split at h3
        · exact ⟨_, s1, by simp only [exec, h1], h3⟩
        · cases h3
    obtain ⟨e, s1, h1, h2⟩ := iha _ s _ r h
    cases e with
    | normal =>
      obtain ⟨e, s', h3, h4⟩ := ihb _ s1 K r h2
      exact ⟨e, s', by simp only [exec, h1, h3], h4⟩
    | exit i => exact ⟨.exit i, s1, by simp only [exec, h1], h2⟩
    | ret => exact ⟨.ret, s1, by simp only [exec, h1], h2⟩
  | cond c a b iha ihb =>
    intro da s K r h
    cases c with
    | t n =>
      simp only [xexec] at h
      split at h <;> (try (cases h; done))
      rename_i t ht
      rcases cnd_some h with ⟨h0, h⟩ | ⟨h0, h⟩
      · subst h0; rw [set_same ht (by simp)] at h
        obtain ⟨e, s', h1, h2⟩ := iha _ s K r h
        exact ⟨e, s', by simp only [exec, evO, ht, cond_true, h1], h2⟩
      · subst h0; rw [set_same ht (by simp)] at h
        obtain ⟨e, s', h1, h2⟩ := ihb _ s K r h
        exact ⟨e, s', by simp only [exec, evO, ht, cond_false, h1], h2⟩
    | v c =>
      simp only [xexec] at h
      split at h <;> (try (cases h; done))
      rename_i t
      rcases cnd_some h with ⟨h0, h⟩ | ⟨h0, h⟩
      · subst h0
        obtain ⟨e, s', h1, h2⟩ := iha _ s K r h
        exact ⟨e, s', by simp only [exec, evO, cond_true, h1], h2⟩
      · subst h0
        obtain ⟨e, s', h1, h2⟩ := ihb _ s K r h
        exact ⟨e, s', by simp only [exec, evO, cond_false, h1], h2⟩
  | block id a iha =>
    intro da s K r h
    obtain ⟨e, s1, h1, h2⟩ := iha _ s _ r h
    cases e with
    | normal => exact ⟨.normal, s1, by simp only [exec, h1], h2⟩
    | ret => exact ⟨.ret, s1, by simp only [exec, h1], h2⟩
    | exit i =>
      simp only at h2
      split at h2
      · rename_i hi
        have hi := of_decide_eq_true hi
        exact ⟨.normal, s1, by simp only [exec, h1, hi, if_true], h2⟩
      · rename_i hi
        have hi := of_decide_eq_false hi
        exact ⟨.exit i, s1, by simp only [exec, h1, hi, if_false], h2⟩
  | loop a iha =>
    intro da s K r h
    have key2 : ∀ (n : Nat) (s0 : St) (K' : Ex → St → Ans), xiter (fun s1 Kn => xexec C0 u x y fu a da s1 Kn) n s0 K' = some r → ∃ e s', iter (exec call callP fu a) n s0 = some (e, s') ∧ K' e s' = some r := by
      intro n
      induction n with
      | zero => intro s0 K' h; simp [xiter] at h
      | succ n ih =>
        intro s0 K' h
        simp only [xiter] at h
        obtain ⟨e, s1, h1, h2⟩ := iha _ s0 _ r h
        cases e with
        | normal =>
          obtain ⟨e, s', h3, h4⟩ := ih s1 K' h2
          exact ⟨e, s', by simp only [iter, h1, h3], h4⟩
        | exit i => exact ⟨.exit i, s1, by simp only [iter, h1], h2⟩
        | ret => exact ⟨.ret, s1, by simp only [iter, h1], h2⟩
    have key : ∀ (n : Nat) (s0 : St) (K' : Ex → St → Ans), xiter (fun s1 Kn => destrE C0 u da [] a s s1 fun s2 => xexec C0 u x y fu a da s2 Kn) n s0 K' = some r → ∃ e s', iter (exec call callP fu a) n s0 = some (e, s') ∧ K' e s' = some r := by
      intro n
      induction n with
      | zero => intro s0 K' h; simp [xiter] at h
      | succ n ih =>
        intro s0 K' h
        simp only [xiter] at h
        obtain ⟨e, s1, h1, h2⟩ := iha _ s0 _ r (destrE_sound h)
        cases e with
        | normal =>
          obtain ⟨e, s', h3, h4⟩ := ih s1 K' h2
          exact ⟨e, s', by simp only [iter, h1, h3], h4⟩
        | exit i => exact ⟨.exit i, s1, by simp only [iter, h1], h2⟩
        | ret => exact ⟨.ret, s1, by simp only [iter, h1], h2⟩
    simp only [xexec] at h
    cases hun : u.un with
    | true => rw [hun] at h; exact key2 fu s K h
    | false =>
      rw [hun] at h
      obtain ⟨e, s', h1, h2⟩ := key fu s _ h
      cases e with
      | normal => cases h2
      | exit i => exact ⟨_, s', h1, destrE_sound (xgo_ok (f := fun i s1 => destrE C0 u da (daX a da i) a s s1 fun s2 => K (.exit i) s2) _ h2)⟩
      | ret => exact ⟨_, s', h1, destrE_sound h2⟩
  | exit id => intro da s K r h; exact ⟨_, _, rfl, h⟩
  | ret => intro da s K r h; exact ⟨_, _, rfl, h⟩

theorem xresAll_ok {s : St} : ∀ {l : List RV} {K : List AV → Ans} {r : AV}, xresAll C0 s l K = some r → ∃ vs, resAll s l = some vs ∧ K vs = some r
  | [], K, r, h => ⟨[], rfl, h⟩
  | .tmp t :: l, K, r, h => by
    obtain ⟨vs, h1, h2⟩ := xresAll_ok (l := l) h
    exact ⟨_, by simp only [resAll, resOf, h1], h2⟩
  | .cell ag n t :: l, K, r, h => by
    have h : (match (match aLoad s.H ag n (s.env.getD t .undef) with
        | some v => some (v, s.H)
        | none => none : Option (AV × Heap)) with
      | some (v, _) => xresAll C0 s l fun vs => K (v :: vs)
      | none => none) = some r := h
    cases ha : aLoad s.H ag n (s.env.getD t .undef) with
    | none => rw [ha] at h; cases h
    | some v =>
      rw [ha] at h
      obtain ⟨vs, h1, h2⟩ := xresAll_ok (l := l) h
      exact ⟨_, by simp only [resAll, resOf, ha, h1], h2⟩

theorem xrunFn_ok {un : XU} {x y : XCall} {call callP : CallF} (hx : XOK x call) (hy : XOK y callP) {fu : Nat} {fn : AFn} {args : List AV} {H : Heap} {K : AV → Heap → Ans} {r : AV} (h : xrunFn C0 un x y fu fn args H K = some r) :
    ∃ v H', runFn call callP fu fn args H = some (v, H') ∧ K v H' = some r := by
  unfold xrunFn at h
  obtain ⟨e, s', h1, h2⟩ := xexec_ok hx hy un fu _ _ _ _ r h
  unfold runFn
  rw [h1]
  cases e with
  | exit i => cases h2
  | normal =>
    simp only at h2 ⊢
    cases hm : un.hm <;> simp only [hm] at h2
    · cases hr : resAll s' fn.results with
      | none => simp [hr] at h2
      | some vs => simp only [hr] at h2; exact ⟨_, _, rfl, h2⟩
    · obtain ⟨vs, h3, h4⟩ := xresAll_ok h2
      simp only [h3]; exact ⟨_, _, rfl, h4⟩
  | ret =>
    simp only at h2 ⊢
    cases hm : un.hm <;> simp only [hm] at h2
    · cases hr : resAll s' fn.results with
      | none => simp [hr] at h2
      | some vs => simp only [hr] at h2; exact ⟨_, _, rfl, h2⟩
    · obtain ⟨vs, h3, h4⟩ := xresAll_ok h2
      simp only [h3]; exact ⟨_, _, rfl, h4⟩

theorem xempty_ok {M : Mod} {pc : PC} {g : FuncId} {args : List AV} {H : Heap} {K : AV → Heap → Ans} {rest : Ans} {r : AV} (h : xempty C0 M pc g args H K rest = some r) :
    (∃ v, emptyR M pc g args = some v ∧ K v H = some r) ∨ (emptyR M pc g args = none ∧ rest = some r) := by
  unfold xempty at h
  unfold emptyR
  cases hc : M.cl g with
  | false => simp only [hc] at h; exact .inr ⟨rfl, h⟩
  | true =>
    simp only [hc] at h
    match args, h with
    | [], h => exact .inr ⟨rfl, h⟩
    | [x], h =>
      simp only [C0] at h
      obtain ⟨b, hb, h⟩ := Option.bind_eq_some_iff.mp h
      have hx : clr x = some (.bool b) := by
        unfold isBool at hb
        split at hb <;> (try (cases hb; done))
        cases hb; assumption
      simp only [hx]
      cases b with
      | false => exact .inr ⟨rfl, h⟩
      | true =>
        simp only [cnd] at h
        split at h
        · rename_i he
          exact .inl ⟨_, he, h⟩
        · cases h
    | _ :: _ :: _, h => exact .inr ⟨rfl, h⟩

theorem xcallZ_ok (M : Mod) (pc : PC) : XOK (xcallZ C0 M pc) (callZ M pc) := by
  intro sn sh g args H K r h
  unfold xcallZ at h
  unfold callZ
  cases he : M.ext g with
  | some e =>
    simp only [he, xext] at h
    obtain ⟨v, h1, h2⟩ := destr_sound _ _ _ _ h
    exact ⟨v, H, by simp [extCall, h1], h2⟩
  | none =>
    simp only [he] at h
    cases hi : M.inl g <;> simp only [hi] at h
    · obtain ⟨v, H', h1, h2⟩ := xpure_ok pc _ _ _ _ _ _ _ h
      exact ⟨v, H', by simp [h1], h2⟩
    · rcases xempty_ok h with ⟨v, h1, h2⟩ | ⟨h1, h⟩
      · exact ⟨v, H, by simp [h1], h2⟩
      · obtain ⟨v, H', h2, h3⟩ := xpure_ok pc _ _ _ _ _ _ _ h
        exact ⟨v, H', by simp [h1, h2], h3⟩

theorem xfresh_ok {un : XU} {x y : XCall} {call callP : CallF} (hx : XOK x call) (hy : XOK y callP) {fu : Nat} {fn : AFn} {args : List AV} {H : Heap} {K : AV → Heap → Ans} {r : AV} (h : xfresh C0 un x y fu fn args H K = some r) :
    ∃ v H', freshRun (runFn call callP fu fn) args H = some (v, H') ∧ K v H' = some r := by
  unfold xfresh at h
  obtain ⟨v, H1, h1, h2⟩ := xrunFn_ok hx hy h
  unfold freshRun
  rw [h1]
  simp only
  cases hp : padOk H.length H1 with
  | false => simp [hp] at h2
  | true => simp only [hp] at h2 ⊢; exact ⟨_, _, rfl, h2⟩

theorem xcallB_ok (M : Mod) (U : FuncId → XU) (pc : PC) : ∀ n b, XOK (xcallB C0 M U pc n b) (callB M pc n b)
  | 0, _ => xcallZ_ok M pc
  | n + 1, b => by
    intro sn sh g args H K r h
    simp only [xcallB] at h
    cases he : M.ext g with
    | some e =>
      simp only [he, xext] at h
      obtain ⟨v, h1, h2⟩ := destr_sound _ _ _ _ h
      exact ⟨v, H, by simp [callB, he, extCall, h1], h2⟩
    | none =>
      simp only [he] at h
      cases hi : M.inl g <;> simp only [hi] at h
      · obtain ⟨v, H', h1, h2⟩ := xpure_ok pc _ _ _ _ _ _ _ h
        exact ⟨v, H', by simp [callB, he, hi, h1], h2⟩
      · split at h
        · change (match callB M pc (n + 1) b g args H with
            | some (v, H') => destr C0 sh (some v) fun v' => K v' H'
            | none => none) = some r at h
          cases hc : callB M pc (n + 1) b g args H with
          | none => rw [hc] at h; cases h
          | some p =>
            rw [hc] at h
            obtain ⟨v', h1, h2⟩ := destr_sound _ _ _ _ h
            cases h1
            exact ⟨p.1, p.2, rfl, h2⟩
        · rcases xempty_ok h with ⟨v, hv, h2⟩ | ⟨hn, h⟩
          · exact ⟨v, H, by simp [callB, he, hi, hv], h2⟩
          · cases b with
            | true =>
              cases hc : M.code g args.length with
              | none => simp [hc] at h
              | some fn =>
                simp only [hc] at h
                obtain ⟨v, H', h1, h2⟩ := xrunFn_ok (xcallB_ok M U pc n true) (xcallB_ok M U pc n false) h
                exact ⟨v, H', by simp [callB, he, hi, hn, hc, h1], h2⟩
            | false =>
              simp only at h
              cases hf : (M.fr g && args.all (noId DEPTH)) with
              | false =>
                simp only [hf] at h
                obtain ⟨v, H', h1, h2⟩ := xpure_ok pc _ _ _ _ _ _ _ h
                exact ⟨v, H', by simp only [callB, he, hi, hn, hf, h1]; rfl, h2⟩
              | true =>
                simp only [hf] at h
                cases hc : M.code g args.length with
                | none => simp [hc] at h
                | some fn =>
                  simp only [hc] at h
                  obtain ⟨v, H', h1, h2⟩ := xfresh_ok (xcallB_ok M U pc n true) (xcallB_ok M U pc n false) h
                  exact ⟨v, H', by simp only [callB, he, hi, hn, hf, hc, h1]; rfl, h2⟩

/-- WHAT IS TOLD FORWARDS HOLDS. -/
theorem xcall_ok {M : Mod} {U : FuncId → XU} {d : Nat} {g : FuncId} {args : List AV} {r : AV} (h : xcall C0 M U d g args = some r) : pcall M (d + 1) g args = some r := by
  unfold xcall at h
  simp only [pcall]
  cases hc : M.code g args.length with
  | none => simp [hc] at h
  | some fn =>
    simp only [hc] at h
    obtain ⟨v, H', h1, h2⟩ := xrunFn_ok (xcallB_ok M U (pcall M d) IDEPTH true) (xcallB_ok M U (pcall M d) IDEPTH false) h
    simp only [h1]
    split at h2
    · exact h2
    · exact h2
/-- Of a call in the caller's own memory. -/
theorem xmeth_ok {M : Mod} {U : FuncId → XU} {d n : Nat} {g : FuncId} {args : List AV} {H H' : Heap} {v : AV} (he : M.ext g = none) (hi : M.inl g = true) (hn : M.cl g = false) (h : ∀ K, xmeth C0 M U d n g args H K = K v H') : callB M (pcall M d) (n + 1) true g args H = some (v, H') := by
  classical
  have hk := h fun v' H1 => if v' = v ∧ H1 = H' then some .undef else none
  rw [if_pos ⟨rfl, rfl⟩] at hk
  unfold xmeth at hk
  have hem : emptyR M (pcall M d) g args = none := by simp [emptyR, hn]
  simp only [callB, he, hi, hem, if_true]
  cases hc : M.code g args.length with
  | none => simp [hc] at hk
  | some fn =>
    simp only [hc] at hk ⊢
    obtain ⟨v', H1, h1, h2⟩ := xrunFn_ok (xcallB_ok M U (pcall M d) n true) (xcallB_ok M U (pcall M d) n false) hk
    split at h2
    · rename_i hh
      obtain ⟨rfl, rfl⟩ := hh
      exact h1
    · cases h2
end Go.Proofs.Ytdceaeifcniabaa.AE

namespace Go.Proofs.Ytdceaeifcniabaa.AE
set_option linter.unusedVariables false
set_option linter.unusedSimpArgs false
set_option linter.constructorNameAsVariable false
open Go Go.RowKit
set_option maxRecDepth 100000
theorem szT : ∃ i, Try.prog.info? 2 = some i ∧ i.size = 1 := ⟨_, rfl, rfl⟩
def codes : FuncId → Nat → Option AFn
  | 6, _ => some c6
  | 7, _ => some c7
  | 9, _ => some c9
  | 11, _ => some c11
  | 13, _ => some c13
  | 15, _ => some c15
  | 16, _ => some c16
  | 17, _ => some c17
  | 18, _ => some c18
  | 19, _ => some c19
  | 20, _ => some c20
  | 21, _ => some c21
  | 22, _ => some c22
  | 23, _ => some c23
  | 24, _ => some c24
  | 27, _ => some c27
  | 28, _ => some c28
  | 29, _ => some c29
  | 30, _ => some c30
  | 31, _ => some c31
  | 32, _ => some c32
  | 33, _ => some c33
  | 34, _ => some c34
  | 35, _ => some c35
  | 37, _ => some c37
  | 38, _ => some c38
  | 39, _ => some c39
  | 40, _ => some c40
  | 41, _ => some c41
  | 42, _ => some c42
  | 43, _ => some c43
  | 44, _ => some c44
  | 45, _ => some c45
  | 47, _ => some c47
  | 50, _ => some c50
  | 51, _ => some c51
  | 57, _ => some c57
  | 58, _ => some c58
  | 59, _ => some c59
  | 61, _ => some c61
  | 62, _ => some c62
  | 63, _ => some c63
  | 64, _ => some c64
  | 67, _ => some c67
  | 68, _ => some c68
  | 69, _ => some c69
  | 70, _ => some c70
  | 74, _ => some c74
  | 75, _ => some c75
  | 76, _ => some c76
  | 79, _ => some c79
  | 80, _ => some c80
  | 81, _ => some c81
  | 82, _ => some c82
  | 83, _ => some c83
  | 84, _ => some c84
  | 85, _ => some c85
  | 86, _ => some c86
  | 87, _ => some c87
  | 48, 2 => some (storeC .i64)
  | 49, 1 => some (loadC .i64)
  | 56, 3 => some (casC .i64)
  | _, _ => none
def exts : FuncId → Option (List AV → Option AV)
  | _ => none
def clF (g : FuncId) : Bool := [34, 35].contains g
def frF (g : FuncId) : Bool := [23, 35, 24, 9].contains g
def M : Mod := { code := codes, inl := inlF, ext := exts, fu := 10000000000000000000, cl := clF, fr := frF }
def hm34 : List (Nat × Sh) := [(0, .any), (2, .any), (3, .any), (4, .b), (2, .any), (5, .any), (6, .any), (7, .any), (2, .any)]
def hm6 : List (Nat × Sh) := [(0, (.i .i64)), (1, (.i .i64)), (4, .b), (6, .b), (7, .b), (9, (.i .i64)), (10, .b), (11, .b), (12, .b), (13, .b), (15, .b), (16, .b), (17, .b), (18, .b), (20, (.agg [.any, (.i .i64), (.i .i64), (.i .i64), (.i .i64)])), (21, (.agg [.any, (.i .i64), (.i .i64), (.i .i64), (.i .i64)])), (22, .b), (23, .b), (24, .b), (26, (.i .i64)), (27, .b), (28, .b), (29, .b), (31, (.i .i64)), (32, .b), (33, .b), (34, .b), (36, (.i .i64)), (37, .b), (38, .b), (39, .b), (40, .b), (42, .b), (43, .b), (4, .b)]
def hm7 : List (Nat × Sh) := [(0, .b), (8, (.agg [.any, (.i .i64), (.i .i64), (.i .i64), (.i .i64), (.i .i64), (.i .i64), (.i .i64), (.i .i64)])), (11, .b), (12, .b), (13, (.agg [.any, (.i .i64), (.i .i64), (.i .i64), (.i .i64), (.i .i64), (.i .i64), (.i .i64), (.i .i64)])), (15, .b), (16, .b), (0, .b), (17, (.i .i64)), (18, .b), (20, .b), (21, .b), (24, .b), (25, .b), (26, .b), (0, .b), (27, (.i .i64)), (17, (.i .i64)), (29, .b), (31, .b), (33, .b), (2, .b), (3, .b), (4, .b), (35, .b), (5, .b), (37, .b), (6, .b), (39, .b), (7, .b), (40, .b), (41, .b), (42, .b), (43, .b), (44, .b), (45, .b), (46, .b), (47, .b), (48, .b), (49, .b), (50, .b), (51, .b), (52, .b), (53, .b), (54, .b), (55, .b), (56, .b), (58, (.i .i64)), (59, .b), (60, .b), (61, .b), (63, (.i .i64)), (64, .b), (65, .b), (66, .b), (68, .b), (69, .b), (70, .b), (71, .b), (72, .b), (73, .b), (74, .b), (76, .b), (77, .b), (78, .b), (80, (.i .i64)), (81, .b), (82, .b), (83, .b), (85, (.agg [.any, (.i .i64), (.i .i64), (.i .i64), (.i .i64)])), (86, (.i .i64)), (87, .b), (88, .b), (0, .b)]
def hm38 : List (Nat × Sh) := [(1, (.i .i64)), (7, (.i .i64))]
def hm39 : List (Nat × Sh) := [(2, (.i .i64)), (6, (.i .i64)), (2, (.i .i64))]
def hm47 : List (Nat × Sh) := [(1, (.i .i64)), (2, (.i .i64)), (6, .b), (10, (.i .i64)), (11, (.i .i64)), (12, .b), (6, .b)]
def hm9 : List (Nat × Sh) := [(0, (.agg [.any, (.i .i64), (.i .i64), (.i .i64), (.i .i64), (.i .i64), (.i .i64), (.i .i64), (.i .i64)])), (3, (.agg [.any, (.i .i64), (.i .i64), (.i .i64), (.i .i64), (.i .i64), (.i .i64), (.i .i64), (.i .i64)])), (4, .b), (5, .b), (6, (.agg [.any, (.i .i64), (.i .i64), (.i .i64), (.i .i64), (.i .i64), (.i .i64), (.i .i64), (.i .i64)])), (7, (.agg [.any, (.i .i64), (.i .i64), (.i .i64), (.i .i64), (.i .i64), (.i .i64), (.i .i64), (.i .i64)])), (9, (.agg [.any, (.i .i64), (.i .i64), (.i .i64), (.i .i64), (.i .i64), (.i .i64), (.i .i64), (.i .i64), (.i .i64), .any]))]
def hm11 : List (Nat × Sh) := [(1, (.i .i64)), (2, .b), (6, .b), (9, (.agg [.any, (.i .i64), (.i .i64), (.i .i64), (.i .i64)])), (10, .b), (11, .b), (13, .b), (14, .b), (15, .b), (16, .b), (18, (.i .i64)), (20, (.i .i64)), (21, .b), (22, .b), (23, .b), (24, (.i .i64)), (26, (.i .i64)), (27, .b), (28, .b), (6, .b)]
def hm13 : List (Nat × Sh) := [(1, .b), (2, .b), (6, .b), (8, .b), (6, .b), (9, .b), (10, .b), (11, .b), (12, .b), (13, .b), (14, .b), (15, .b), (17, .b), (18, .b), (23, (.i .i64)), (6, .b), (27, (.i .i64)), (28, (.i .i64)), (6, .b)]
def hm15 : List (Nat × Sh) := [(1, (.i .i64)), (2, (.i .i64)), (6, .b), (8, .b), (9, .b), (10, (.i .i64)), (11, .b), (12, .b), (13, .b), (14, (.i .i64)), (19, .any), (20, (.i .i64)), (21, .b), (22, .b), (23, .b), (24, (.i .i64)), (25, .b), (26, .b), (27, .b), (28, (.i .i64)), (29, .b), (30, .b), (6, .b), (32, (.i .i64)), (39, (.i .i64)), (6, .b)]
def hm16 : List (Nat × Sh) := [(2, (.i .i64)), (4, .b), (2, (.i .i64)), (8, (.i .i64)), (2, (.i .i64))]
def hm17 : List (Nat × Sh) := [(2, (.i .i64)), (4, .b), (2, (.i .i64)), (9, (.i .i64)), (2, (.i .i64))]
def hm18 : List (Nat × Sh) := [(2, .b), (4, .b), (5, .b), (9, (.i .i64)), (10, (.i .i64)), (15, .any), (16, (.i .i64)), (17, .b), (18, .b), (2, .b)]
def hm20 : List (Nat × Sh) := [(6, .b), (7, (.agg [.any, (.i .i64), (.i .i64), (.i .i64), (.i .i64)])), (12, (.agg [.any, (.i .i64), (.i .i64), (.i .i64), (.i .i64), (.i .i64), (.i .i64), (.i .i64), (.i .i64)])), (16, (.i .i64)), (17, (.tup [(.agg [.any, (.i .i64), (.i .i64), (.i .i64), (.i .i64)]), .b])), (8, (.tup [(.agg [.any, (.i .i64), (.i .i64), (.i .i64), (.i .i64)]), .b])), (18, (.agg [.any, (.i .i64), (.i .i64), (.i .i64), (.i .i64)])), (19, .b), (4, .b), (20, (.agg [.any, (.i .i64), (.i .i64), (.i .i64), (.i .i64)]))]
def hm23 : List (Nat × Sh) := [(0, (.agg [.any, (.i .i64), (.i .i64), (.i .i64), (.i .i64), (.i .i64), (.i .i64), (.i .i64), (.i .i64)])), (5, .any), (6, .any), (9, .any), (10, (.i .i64)), (11, (.i .i64)), (13, (.i .i64)), (3, (.i .i64)), (15, .any), (16, (.i .i64)), (18, .any), (19, (.i .i64)), (22, .any), (23, .any), (26, (.i .i64)), (11, (.i .i64)), (27, (.agg [.any, (.i .i64), (.i .i64), (.i .i64), (.i .i64), (.i .i64), (.i .i64), (.i .i64), (.i .i64)]))]
def hm32 : List (Nat × Sh) := [(0, (.agg [.any, (.i .i64), (.i .i64), (.i .i64), (.i .i64), (.i .i64), (.i .i64), (.i .i64), (.i .i64)])), (1, (.i .i64)), (5, .b), (6, (.i .i64)), (7, .b), (8, .b), (9, (.i .i64)), (11, .any), (12, (.i .i64)), (13, .b), (14, .b), (15, (.agg [.any, (.i .i64), (.i .i64), (.i .i64), (.i .i64)])), (5, .b), (17, .any), (18, (.i .i64)), (20, (.agg [.any, (.i .i64), (.i .i64), (.i .i64), (.i .i64)])), (22, .any), (23, .any), (25, (.agg [.any, (.i .i64), (.i .i64), (.i .i64), (.i .i64)])), (5, .b)]
def hm35 : List (Nat × Sh) := [(0, .any), (2, .any), (3, .any), (4, .b), (2, .any), (5, .any), (6, .any), (7, .any), (2, .any)]
def hm24 : List (Nat × Sh) := [(0, (.i .i64)), (3, (.i .i64)), (4, (.i .i64)), (5, (.i .i64)), (6, (.agg [(.i .i64), (.i .i64)]))]
def hm27 : List (Nat × Sh) := [(2, (.i .i64)), (4, (.i .i64)), (2, (.i .i64))]
def hm28 : List (Nat × Sh) := []
def hm29 : List (Nat × Sh) := [(1, (.i .i64)), (5, .b), (9, (.i .i64)), (10, (.i .i64)), (14, (.i .i64)), (15, (.i .i64))]
def hm30 : List (Nat × Sh) := [(2, (.i .i64)), (4, .b), (2, (.i .i64)), (8, (.i .i64)), (2, (.i .i64))]
def hm37 : List (Nat × Sh) := [(1, (.i .i64)), (4, (.i .i64)), (8, .b), (4, (.i .i64)), (12, (.i .i64)), (5, (.i .i64)), (13, (.i .i64)), (14, (.i .i64)), (15, (.i .i64)), (19, (.i .i64)), (20, (.i .i64)), (21, (.i .i64)), (22, (.i .i64)), (23, (.i .i64)), (6, (.i .i64)), (27, (.i .i64)), (28, (.i .i64)), (29, .b), (30, (.i .i64)), (4, (.i .i64))]
def hm21 : List (Nat × Sh) := [(0, (.i .i64)), (4, (.i .i64)), (5, (.agg [.any, (.i .i64), (.i .i64), (.i .i64), (.i .i64), (.i .i64), (.i .i64), (.i .i64), (.i .i64)])), (6, (.i .i64)), (7, (.i .i64)), (8, .b), (10, .any), (11, (.agg [(.i .i64), (.i .i64)])), (12, (.agg [(.i .i64), (.i .i64)])), (13, (.agg [(.i .i64), (.i .i64)])), (14, (.agg [(.i .i64), (.i .i64)])), (15, .any), (16, (.agg [.any, (.i .i64), (.i .i64), (.i .i64), (.i .i64)])), (17, .any), (18, .any), (20, (.i .i64)), (7, (.i .i64)), (21, (.agg [.any, (.i .i64), (.i .i64), (.i .i64), (.i .i64), (.i .i64), (.i .i64), (.i .i64), (.i .i64)]))]
def unr : FuncId → XU
  | 6 => ⟨false, true, hm6, false, false⟩
  | 7 => ⟨false, true, hm7, false, false⟩
  | 9 => ⟨false, true, hm9, false, true⟩
  | 11 => ⟨false, true, hm11, false, true⟩
  | 13 => ⟨false, true, hm13, false, true⟩
  | 15 => ⟨false, true, hm15, false, true⟩
  | 16 => ⟨false, true, hm16, false, true⟩
  | 17 => ⟨false, true, hm17, false, true⟩
  | 18 => ⟨false, true, hm18, false, true⟩
  | 19 => ⟨false, false, h19, false, false⟩
  | 20 => ⟨false, true, hm20, false, true⟩
  | 21 => ⟨false, true, hm21, false, false⟩
  | 22 => ⟨false, false, h22, false, false⟩
  | 23 => ⟨false, true, hm23, false, true⟩
  | 24 => ⟨false, true, hm24, false, true⟩
  | 27 => ⟨false, true, hm27, false, true⟩
  | 28 => ⟨false, true, hm28, false, true⟩
  | 29 => ⟨false, true, hm29, false, true⟩
  | 30 => ⟨false, true, hm30, false, true⟩
  | 31 => ⟨false, false, h31, false, false⟩
  | 32 => ⟨false, true, hm32, false, true⟩
  | 33 => ⟨false, false, h33, false, false⟩
  | 34 => ⟨false, true, hm34, false, false⟩
  | 35 => ⟨false, true, hm35, false, true⟩
  | 37 => ⟨false, true, hm37, false, true⟩
  | 38 => ⟨false, true, hm38, false, false⟩
  | 39 => ⟨false, true, hm39, false, false⟩
  | 40 => ⟨false, false, h40, false, false⟩
  | 41 => ⟨false, false, h41, false, false⟩
  | 42 => ⟨false, false, h42, false, false⟩
  | 43 => ⟨false, false, h43, false, false⟩
  | 44 => ⟨false, false, h44, false, false⟩
  | 45 => ⟨false, false, h45, false, false⟩
  | 47 => ⟨false, true, hm47, false, false⟩
  | 50 => ⟨false, false, h50, false, false⟩
  | 51 => ⟨false, false, h51, false, false⟩
  | 57 => ⟨false, false, h57, false, false⟩
  | 58 => ⟨false, false, h58, false, false⟩
  | 59 => ⟨false, false, h59, false, false⟩
  | 61 => ⟨false, false, h61, false, false⟩
  | 62 => ⟨false, false, h62, false, false⟩
  | 63 => ⟨false, false, h63, false, false⟩
  | 64 => ⟨false, false, h64, false, false⟩
  | 67 => ⟨false, false, h67, false, false⟩
  | 68 => ⟨false, false, h68, false, false⟩
  | 69 => ⟨false, false, h69, false, false⟩
  | 70 => ⟨false, false, h70, false, false⟩
  | 74 => ⟨false, false, h74, false, false⟩
  | 75 => ⟨false, false, h75, false, false⟩
  | 76 => ⟨false, false, h76, false, false⟩
  | 79 => ⟨false, false, h79, false, false⟩
  | 80 => ⟨false, false, h80, false, false⟩
  | 81 => ⟨false, false, h81, false, false⟩
  | 82 => ⟨false, false, h82, false, false⟩
  | 83 => ⟨false, false, h83, false, false⟩
  | 84 => ⟨false, false, h84, false, false⟩
  | 85 => ⟨false, false, h85, false, false⟩
  | 86 => ⟨false, false, h86, false, false⟩
  | 87 => ⟨false, false, h87, false, false⟩
  | 48 => ⟨false, true, [], false, false⟩
  | 49 => ⟨false, true, [(1, .i .i64)], false, false⟩
  | 56 => ⟨false, true, [(3, .i .i64)], false, false⟩
  | _ => ⟨false, false, [], false, false⟩
theorem modOK : ModOK Try.prog M := by
  constructor
  · intro g n fn h
    change codes g n = some fn at h
    unfold codes at h
    split at h <;> (try (cases h; done))
    · cases h; exact fnOK_of c6_ok
    · cases h; exact fnOK_of c7_ok
    · cases h; exact fnOK_of c9_ok
    · cases h; exact fnOK_of c11_ok
    · cases h; exact fnOK_of c13_ok
    · cases h; exact fnOK_of c15_ok
    · cases h; exact fnOK_of c16_ok
    · cases h; exact fnOK_of c17_ok
    · cases h; exact fnOK_of c18_ok
    · cases h; exact fnOK_of c19_ok
    · cases h; exact fnOK_of c20_ok
    · cases h; exact fnOK_of c21_ok
    · cases h; exact fnOK_of c22_ok
    · cases h; exact fnOK_of c23_ok
    · cases h; exact fnOK_of c24_ok
    · cases h; exact fnOK_of c27_ok
    · cases h; exact fnOK_of c28_ok
    · cases h; exact fnOK_of c29_ok
    · cases h; exact fnOK_of c30_ok
    · cases h; exact fnOK_of c31_ok
    · cases h; exact fnOK_of c32_ok
    · cases h; exact fnOK_of c33_ok
    · cases h; exact fnOK_of c34_ok
    · cases h; exact fnOK_of c35_ok
    · cases h; exact fnOK_of c37_ok
    · cases h; exact fnOK_of c38_ok
    · cases h; exact fnOK_of c39_ok
    · cases h; exact fnOK_of c40_ok
    · cases h; exact fnOK_of c41_ok
    · cases h; exact fnOK_of c42_ok
    · cases h; exact fnOK_of c43_ok
    · cases h; exact fnOK_of c44_ok
    · cases h; exact fnOK_of c45_ok
    · cases h; exact fnOK_of c47_ok
    · cases h; exact fnOK_of c50_ok
    · cases h; exact fnOK_of c51_ok
    · cases h; exact fnOK_of c57_ok
    · cases h; exact fnOK_of c58_ok
    · cases h; exact fnOK_of c59_ok
    · cases h; exact fnOK_of c61_ok
    · cases h; exact fnOK_of c62_ok
    · cases h; exact fnOK_of c63_ok
    · cases h; exact fnOK_of c64_ok
    · cases h; exact fnOK_of c67_ok
    · cases h; exact fnOK_of c68_ok
    · cases h; exact fnOK_of c69_ok
    · cases h; exact fnOK_of c70_ok
    · cases h; exact fnOK_of c74_ok
    · cases h; exact fnOK_of c75_ok
    · cases h; exact fnOK_of c76_ok
    · cases h; exact fnOK_of c79_ok
    · cases h; exact fnOK_of c80_ok
    · cases h; exact fnOK_of c81_ok
    · cases h; exact fnOK_of c82_ok
    · cases h; exact fnOK_of c83_ok
    · cases h; exact fnOK_of c84_ok
    · cases h; exact fnOK_of c85_ok
    · cases h; exact fnOK_of c86_ok
    · cases h; exact fnOK_of c87_ok
    · cases h; exact store_fnOK Try.func48 (by kernel_rfl) (by kernel_rfl) (by kernel_rfl) szT (by kernel_rfl)
    · cases h; exact load_fnOK Try.func49 (by kernel_rfl) (by kernel_rfl) (by kernel_rfl) (by kernel_rfl)
    · cases h; exact cas_fnOK Try.func56 (by kernel_rfl) (by kernel_rfl) (by kernel_rfl) szT (by kernel_rfl)
  · intro g e h
    change exts g = some e at h
    unfold exts at h
    split at h <;> (try (cases h; done))
end Go.Proofs.Ytdceaeifcniabaa.AE

namespace Go.Proofs.Ytdceaeifcniabaa.AE
set_option linter.unusedVariables false
set_option linter.unusedSimpArgs false
set_option linter.constructorNameAsVariable false
open Go

theorem C0_int (k : IntKind) (n : Int) (K : Int → Ans) : C0.int k (some (.int k n)) K = K n := by simp [C0, isInt]
theorem C0_bool (b : Bool) (K : Bool → Ans) : C0.bool (some (.bool b)) K = K b := by simp [C0, isBool]
theorem C0_str (b : List UInt8) (K : List UInt8 → Ans) : C0.str (some (.str b)) K = K b := by simp [C0, isStr]
theorem C0_lst (l : List AV) (K : List AV → Ans) (Z : Bool → Ans) : C0.lst (some (.lst l)) K Z = K l := rfl
theorem C0_lstz (b : Bool) (K : List AV → Ans) (Z : Bool → Ans) : C0.lst (some (.zsl b)) K Z = Z b := rfl
theorem C0_agg (n : Nat) (l : List AV) (h : l.length = n) (K : List AV → Ans) : C0.agg n (some (.agg l)) K = K l := by simp [C0, isAgg, h]
theorem C0_tup (n : Nat) (l : List AV) (h : l.length = n) (K : List AV → Ans) : C0.tup n (some (.tup l)) K = K l := by simp [C0, isTup, h]
theorem C0_agg2 (a b : AV) (K : List AV → Ans) : C0.agg 2 (some (.agg [a, b])) K = K [a, b] := C0_agg 2 _ rfl K
theorem C0_tup2 (a b : AV) (K : List AV → Ans) : C0.tup 2 (some (.tup [a, b])) K = K [a, b] := C0_tup 2 _ rfl K
theorem C0_any (v : AV) (K : AV → Ans) : C0.any (some v) K = K v := by simp [C0]
theorem C0_same (v : AV) (K : Ans) : C0.same (some v) v K = K := by simp [C0]
theorem C0_sameH (H : Heap) (K : Ans) : C0.sameH H H K = K := by simp [C0]
theorem cnd_t (a b : Ans) : cnd true a b = a := rfl
theorem cnd_f (a b : Ans) : cnd false a b = b := rfl
theorem pl_len {t : Bool} {a b : Ans} (h : t = true) : cnd t a b = a := by subst h; rfl
theorem pl_f {t : Bool} {a b : Ans} (h : t = false) : cnd t a b = b := by subst h; rfl
theorem pl_same {o : Option AV} {v : AV} {K : Ans} (h : o = some v) : C0.same o v K = K := by subst h; simp [C0]
theorem pl_sameH {H : Heap} {K : Ans} : C0.sameH H H K = K := by simp [C0]
theorem pl_int {k : IntKind} {o : Option AV} {n : Int} {K : Int → Ans} (h : o = some (.int k n)) : C0.int k o K = K n := by subst h; simp [C0, isInt]
theorem pl_bool {o : Option AV} {n : Bool} {K : Bool → Ans} (h : o = some (.bool n)) : C0.bool o K = K n := by subst h; simp [C0, isBool]
theorem pl_str {o : Option AV} {n : List UInt8} {K : List UInt8 → Ans} (h : o = some (.str n)) : C0.str o K = K n := by subst h; simp [C0, isStr]
theorem pl_any {o : Option AV} {v : AV} {K : AV → Ans} (h : o = some v) : C0.any o K = K v := by subst h; simp [C0]
theorem pl_agg {n : Nat} {o : Option AV} {l : List AV} {K : List AV → Ans} (h : o = some (.agg l)) (h2 : l.length = n) : C0.agg n o K = K l := by subst h; simp [C0, isAgg, h2]
theorem pl_tup {n : Nat} {o : Option AV} {l : List AV} {K : List AV → Ans} (h : o = some (.tup l)) (h2 : l.length = n) : C0.tup n o K = K l := by subst h; simp [C0, isTup, h2]
theorem pl_lst {o : Option AV} {l : List AV} {K : List AV → Ans} {Z : Bool → Ans} (h : o = some (.lst l)) : C0.lst o K Z = K l := by subst h; rfl
/-- What comes behind a round; what comes behind a loop. -/
def kIter (R : St → (Ex → St → Ans) → Ans) (n : Nat) (K : Ex → St → Ans) : Ex → St → Ans := fun e s' => match e with
  | .normal => xiter R n s' K
  | .exit i => K (.exit i) s'
  | .ret => K .ret s'
def kOut (ids : List Nat) (ks : List (St → Ans)) (kr : St → Ans) : Ex → St → Ans := fun e s' => match e with
  | .ret => kr s'
  | .exit i => xgo i ids ks s'
  | .normal => none
theorem kIter_n (R : St → (Ex → St → Ans) → Ans) (n : Nat) (K : Ex → St → Ans) (s : St) : kIter R n K .normal s = xiter R n s K := rfl
theorem kIter_x (R : St → (Ex → St → Ans) → Ans) (n : Nat) (K : Ex → St → Ans) (i : Nat) (s : St) : kIter R n K (.exit i) s = K (.exit i) s := rfl
theorem kIter_r (R : St → (Ex → St → Ans) → Ans) (n : Nat) (K : Ex → St → Ans) (s : St) : kIter R n K .ret s = K .ret s := rfl
theorem kOut_x (ids : List Nat) (ks : List (St → Ans)) (kr : St → Ans) (i : Nat) (s : St) : kOut ids ks kr (.exit i) s = xgo i ids ks s := rfl
theorem kOut_r (ids : List Nat) (ks : List (St → Ans)) (kr : St → Ans) (s : St) : kOut ids ks kr .ret s = kr s := rfl
theorem it_ret (R : St → (Ex → St → Ans) → Ans) (n : Nat) (s : St) (ids : List Nat) (ks : List (St → Ans)) (kr : St → Ans) : C0.iter R n s ids ks kr = xiter R n s (kOut ids ks kr) := rfl
theorem xiter_s (R : St → (Ex → St → Ans) → Ans) (n : Nat) (s : St) (K : Ex → St → Ans) : xiter R (n + 1) s K = R s (kIter R n K) := rfl
theorem xgo_hit (i : Nat) (ids : List Nat) (k : St → Ans) (ks : List (St → Ans)) (s : St) : xgo i (i :: ids) (k :: ks) s = k s := by simp [xgo]
theorem xgo_miss {i j : Nat} (ids : List Nat) (k : St → Ans) (ks : List (St → Ans)) (s : St) (h : (i == j) = false) : xgo i (j :: ids) (k :: ks) s = xgo i ids ks s := by
  simp only [xgo]; rw [if_neg]; intro he; subst he; simp at h
theorem C0_hop (H : Heap) (io : IOp) (K : AV → Heap → Ans) : C0.hop H io K = match aop noCall (evO []) H io with
    | some (v, H') => K v H'
    | none => none := rfl
theorem hop_eq {H H' : Heap} {io : IOp} {v : AV} {K : AV → Heap → Ans} (h : aop noCall (evO []) H io = some (v, H')) : C0.hop H io K = K v H' := by rw [C0_hop, h]
theorem cal_eq {M : Mod} {pc : FuncId → List AV → Option AV} {n : Nat} {b : Bool} {g : FuncId} {args : List AV} {H H' : Heap} {v : AV} {K : AV → Heap → Ans} (h : callB M pc n b g args H = some (v, H')) : C0.cal M pc n b g args H K = K v H' := by
  change (match callB M pc n b g args H with
    | some (v, H') => K v H'
    | none => none) = _
  rw [h]
theorem C0_fin (H : Heap) (v : AV) : C0.fin H v = some (snap 12 H v) := rfl
theorem C0_disj {a b : TV} {K : Ans} (h : disjB a b = true) : C0.disj a b K = K := by simp only [C0, h]
theorem snp_free {H : Heap} {args : List AV} {K : List AV → Bool → Ans} (h : args.all (noId DEPTH) = true) : C0.snp H args K = K args true := by simp [C0, h]
theorem snp_id {H : Heap} {args : List AV} {K : List AV → Bool → Ans} (h : args.all (noId DEPTH) = false) : C0.snp H args K = K (args.map (snap DEPTH H)) false := by simp [C0, h]
theorem at0 (a : AV) (l : List AV) : (a :: l)[0]? = some a := rfl
theorem at1 (a b : AV) (l : List AV) : (a :: b :: l)[1]? = some b := rfl
theorem at2 (a b c : AV) (l : List AV) : (a :: b :: c :: l)[2]? = some c := rfl
theorem at3 (a b c d : AV) (l : List AV) : (a :: b :: c :: d :: l)[3]? = some d := rfl
theorem at4 (a b c d e : AV) (l : List AV) : (a :: b :: c :: d :: e :: l)[4]? = some e := rfl
theorem at5 (a b c d e f : AV) (l : List AV) : (a :: b :: c :: d :: e :: f :: l)[5]? = some f := rfl
theorem at6 (a b c d e f g : AV) (l : List AV) : (a :: b :: c :: d :: e :: f :: g :: l)[6]? = some g := rfl
theorem at7 (a b c d e f g h : AV) (l : List AV) : (a :: b :: c :: d :: e :: f :: g :: h :: l)[7]? = some h := rfl
/-- From what is told forwards. -/
theorem told {d g : Nat} {args : List AV} {r : AV} {t : Ans} (h : xcall C0 M unr d g args = t) (h2 : t = some r) : pcall M (d + 1) g args = some r := xcall_ok (h.trans h2)
theorem up {k d : Nat} {p : Nat → Prop} (h : ∀ d, p (d + k)) (hd : k ≤ d) : p d := by
  have := h (d - k)
  rwa [Nat.sub_add_cancel hd] at this
theorem yt {a b c : Ans} (h : a = b) (k : b = c) : a = c := h.trans k
theorem yS {o : Option AV} {v : AV} {K : Ans} (h : o = some v := by rfl) : C0.same o v K = K := pl_same h
theorem yA {o : Option AV} {v : AV} {K : AV → Ans} (h : o = some v := by rfl) : C0.any o K = K v := pl_any h
theorem yI {k : IntKind} {o : Option AV} {n : Int} {K : Int → Ans} (h : o = some (.int k n) := by rfl) : C0.int k o K = K n := pl_int h
theorem yB {o : Option AV} {n : Bool} {K : Bool → Ans} (h : o = some (.bool n) := by rfl) : C0.bool o K = K n := pl_bool h
theorem yG {n : Nat} {o : Option AV} {l : List AV} {K : List AV → Ans} (h : o = some (.agg l) := by rfl) (h2 : l.length = n := by rfl) : C0.agg n o K = K l := pl_agg h h2
theorem yT {n : Nat} {o : Option AV} {l : List AV} {K : List AV → Ans} (h : o = some (.tup l) := by rfl) (h2 : l.length = n := by rfl) : C0.tup n o K = K l := pl_tup h h2
end Go.Proofs.Ytdceaeifcniabaa.AE

namespace Go.Proofs.Ytdceaeifcniabaa.AE
open Go
set_option maxRecDepth 100000
theorem awake : pcall M 40 7 [] = some (.bool true) := ran (by kernel_rfl)
end Go.Proofs.Ytdceaeifcniabaa.AE

namespace Go.Proofs.Ytdceaeifcniabaa.AE
set_option linter.unusedVariables false
set_option linter.unusedSimpArgs false
set_option linter.constructorNameAsVariable false
open Go
set_option maxRecDepth 100000
set_option maxHeartbeats 0
/-- apogee/apogeelaw21.PhaseNil -/
theorem r6 (C : Cb) (d : Nat) (a0 a1 : Int) : xcall C M unr d 6 [(iz a0), (iz a1)] =
 C.bool (pcall M d 7 []) fun b0 =>
 cnd b0
 (C.cal M (pcall M d) 12 true 11 [.nilp, (iz a0), bt] [] fun v1 h2 =>
 C.bool (some v1) fun b3 =>
 cnd (!b3)
 (C.cal M (pcall M d) 12 true 13 [.nilp, bt, bt] h2 fun v4 h5 =>
 C.bool (some v4) fun b6 =>
 cnd (!b6)
 (C.cal M (pcall M d) 12 true 20 [.nilp] h5 fun v7 h8 =>
 C.agg 5 (some v7) fun l9 =>
 C.any l9[0]? fun v10 =>
 C.int .i64 l9[1]? fun x11 =>
 C.int .i64 l9[2]? fun x12 =>
 C.int .i64 l9[3]? fun x13 =>
 C.int .i64 l9[4]? fun x14 =>
 C.snp h8 [(.agg [v10, (iz x11), (iz x12), (iz x13), (iz x14)]), (.agg [(.zsl true), (iz 0), (iz 0), (iz 0), (iz 0)])] fun l15 b16 =>
 C.bool (pcall M d 19 l15) fun b17 =>
 cnd (b16 || true)
 (cnd b17
 (C.cal M (pcall M d) 12 true 16 [.nilp] h8 fun v18 h19 =>
 C.int .i64 (some v18) fun x20 =>
 cnd (x20 == 0)
 (C.cal M (pcall M d) 12 true 17 [.nilp] h19 fun v21 h22 =>
 C.int .i64 (some v21) fun x23 =>
 cnd (x23 == 0)
 (C.cal M (pcall M d) 12 true 15 [.nilp, (iz 0), (iz a1)] h22 fun v24 h25 =>
 C.bool (some v24) fun b26 =>
 cnd (!b26)
 (C.cal M (pcall M d) 12 true 18 [.nilp] h25 fun v27 h28 =>
 C.bool (some v27) fun b29 =>
 C.fin h28 (.bool b29))
 (C.fin h25 bf))
 (C.fin h22 bf))
 (C.fin h19 bf))
 (C.fin h8 bf))
 (none))
 (C.fin h5 bf))
 (C.fin h2 bf))
 (C.fin [] bf) := by kernel_rfl
end Go.Proofs.Ytdceaeifcniabaa.AE

namespace Go.Proofs.Ytdceaeifcniabaa.AE
set_option linter.unusedVariables false
set_option linter.unusedSimpArgs false
set_option linter.constructorNameAsVariable false
open Go
/-- It names that memory. -/
def names (v : AV) (id : Nat) : Prop := ∃ o n, v = .slc id o n
theorem ld_ptr {H : Heap} {id i j n : Nat} {ag : Bool} {b : Blk} {el v : AV} {K : AV → Heap → Ans} (h : hget H id = some b) (hi : b.els[i]? = some el) (hs : sub ag n j el = some v) :
    C0.hop H (.load ag n (.v (.ptr id i j))) K = K v H := hop_eq (by simp [aop, evO, aLoad, h, hi, hs])
theorem st_ptr {H : Heap} {id i j n : Nat} {b : Blk} {el el' x : AV} {K : AV → Heap → Ans} (h : hget H id = some b) (hi : b.els[i]? = some el) (hs : putSub n j x el = some el') :
    C0.hop H (.store n (.v (.ptr id i j)) (.v x)) K = K .undef (H.set id (some { b with els := b.els.set i el' })) := hop_eq (by simp [aop, evO, aStore, h, hi, hs])
end Go.Proofs.Ytdceaeifcniabaa.AE

namespace Go.Proofs.Ytdceaeifcniabaa.AE
set_option linter.unusedVariables false
set_option linter.unusedSimpArgs false
set_option linter.constructorNameAsVariable false
open Go
theorem hget_s {H S : Heap} {k : Nat} {b : Blk} (h : S[k]? = some (some b)) : hget (H ++ S) (H.length + k) = some b := by
  unfold hget; rw [List.getElem?_append_right (by omega), show H.length + k - H.length = k by omega, h]
theorem set_s {H S : Heap} {k : Nat} {x : Option Blk} : (H ++ S).set (H.length + k) x = H ++ S.set k x := by
  rw [List.set_append_right _ _ (by omega), show H.length + k - H.length = k by omega]
theorem al_n {H : Heap} {e : ETy} {K : AV → Heap → Ans} : C0.hop H (.alloc e) K = K (.ptr (H.length + 0) 0 0) (H ++ [some ⟨e, [e.zero]⟩]) := rfl
theorem al_s {H S : Heap} {e : ETy} {K : AV → Heap → Ans} : C0.hop (H ++ S) (.alloc e) K = K (.ptr (H.length + S.length) 0 0) (H ++ (S ++ [some ⟨e, [e.zero]⟩])) := by
  refine (hop_eq rfl).trans ?_
  simp only [evO, List.length_append, List.append_assoc]
theorem ld_s {H S : Heap} {k i j n : Nat} {ag : Bool} {b : Blk} {el v : AV} {K : AV → Heap → Ans} (h : S[k]? = some (some b)) (hi : b.els[i]? = some el) (hs : sub ag n j el = some v) :
    C0.hop (H ++ S) (.load ag n (.v (.ptr (H.length + k) i j))) K = K v (H ++ S) := ld_ptr (hget_s h) hi hs
theorem st_s {H S : Heap} {k i j n : Nat} {b : Blk} {el el' x : AV} {K : AV → Heap → Ans} (h : S[k]? = some (some b)) (hi : b.els[i]? = some el) (hs : putSub n j x el = some el') :
    C0.hop (H ++ S) (.store n (.v (.ptr (H.length + k) i j)) (.v x)) K = K .undef (H ++ S.set k (some { b with els := b.els.set i el' })) := by
  rw [st_ptr (hget_s h) hi hs, set_s]
end Go.Proofs.Ytdceaeifcniabaa.AE

namespace Go.Proofs.Ytdceaeifcniabaa.AE
set_option linter.unusedVariables false
set_option linter.unusedSimpArgs false
set_option linter.constructorNameAsVariable false
open Go
theorem hg_z {Z X : Heap} {k : Nat} {b : Blk} (h : Z[k]? = some (some b)) : hget (Z ++ X) k = some b := by
  unfold hget
  have hk : k < Z.length := by
    rcases Nat.lt_or_ge k Z.length with h1 | h1
    · exact h1
    · rw [List.getElem?_eq_none h1] at h; cases h
  rw [List.getElem?_append_left hk, h]
theorem ld_z {Z X : Heap} {k i j n : Nat} {ag : Bool} {b : Blk} {el v : AV} {K : AV → Heap → Ans} (h : Z[k]? = some (some b)) (hi : b.els[i]? = some el) (hs : sub ag n j el = some v) :
    C0.hop (Z ++ X) (.load ag n (.v (.ptr k i j))) K = K v (Z ++ X) := ld_ptr (hg_z h) hi hs
theorem sub_w {cs : List AV} {n : Nat} (h : cs.length = n) : sub true n 0 (.agg cs) = some (.agg cs) := by
  subst h; simp [sub]
theorem ld_zw {Z X : Heap} {k i n : Nat} {b : Blk} {cs : List AV} {K : AV → Heap → Ans} (h : Z[k]? = some (some b)) (hi : b.els[i]? = some (.agg cs)) (hn : cs.length = n) :
    C0.hop (Z ++ X) (.load true n (.v (.ptr k i 0))) K = K (.agg cs) (Z ++ X) := ld_z h hi (sub_w hn)
theorem gen_at {l : List AV} {i : Nat} {a : AV} (h : l[i]? = some a) : l[i]? = some a := h
theorem at8 (a b c d e f g h i : AV) (l : List AV) : (a :: b :: c :: d :: e :: f :: g :: h :: i :: l)[8]? = some i := rfl
theorem at9 (a b c d e f g h i j : AV) (l : List AV) : (a :: b :: c :: d :: e :: f :: g :: h :: i :: j :: l)[9]? = some j := rfl
theorem at10 (a b c d e f g h i j k : AV) (l : List AV) : (a :: b :: c :: d :: e :: f :: g :: h :: i :: j :: k :: l)[10]? = some k := rfl
theorem w2 {k : IntKind} {o : Option AV} {n : Int} {K : Int → Ans} (h : o = some (.int k n) := by first | with_reducible rfl | exact at0 _ _ | exact at1 _ _ _ | exact at2 _ _ _ _ | exact at3 _ _ _ _ _ | exact at4 _ _ _ _ _ _ | exact at5 _ _ _ _ _ _ _ | exact at6 _ _ _ _ _ _ _ _ | exact at7 _ _ _ _ _ _ _ _ _ | exact at8 _ _ _ _ _ _ _ _ _ _ | exact at9 _ _ _ _ _ _ _ _ _ _ _ | exact at10 _ _ _ _ _ _ _ _ _ _ _ _ | exact gen_at (by with_unfolding_all rfl)) : C0.int k o K = K n := pl_int h
theorem wf {Z X : Heap} {k i n : Nat} {b : Blk} {cs : List AV} {K : AV → Heap → Ans} (h : Z[k]? = some (some b) := by with_unfolding_all rfl) (hi : b.els[i]? = some (.agg cs) := by with_unfolding_all rfl) (hn : cs.length = n := by with_unfolding_all rfl) :
    C0.hop (Z ++ X) (.load true n (.v (.ptr k i 0))) K = K (.agg cs) (Z ++ X) := ld_zw h hi hn
end Go.Proofs.Ytdceaeifcniabaa.AE

namespace Go.Proofs.Ytdceaeifcniabaa.AE
set_option linter.unusedVariables false
set_option linter.unusedSimpArgs false
set_option linter.constructorNameAsVariable false
open Go
theorem gr_eq {H Z : Heap} {K : Nat → Heap → Ans} : C0.grow H Z K = K H.length (H ++ Z) := rfl
theorem gr_nil {H : Heap} {K : Nat → Heap → Ans} : C0.grow H [] K = K H.length H := by
  rw [gr_eq, List.append_nil]
end Go.Proofs.Ytdceaeifcniabaa.AE

namespace Go.Proofs.Ytdceaeifcniabaa.AE
set_option linter.unusedVariables false
set_option linter.unusedSimpArgs false
set_option linter.constructorNameAsVariable false
open Go
set_option maxRecDepth 100000
set_option maxHeartbeats 0
/-- apogee/phase.New -/
theorem r9 (C : Cb) (d : Nat) (a0 : AV) (a1 a2 a3 a4 a5 a6 a7 a8 : Int) (n0 : Nat) (H0 : Heap) (K0 : AV → Heap → Ans) : xmeth C M unr d (n0 + 8) 9 [(.agg [a0, (iz a1), (iz a2), (iz a3), (iz a4), (iz a5), (iz a6), (iz a7), (iz a8)])] H0 K0 =
 C.hop H0 (.box E24 (.v (.agg [a0, (iz a1), (iz a2), (iz a3), (iz a4), (iz a5), (iz a6), (iz a7), (iz a8)]))) fun v0 h1 =>
 C.hop h1 (.load true 9 (.v v0)) fun v2 h3 =>
 C.agg 9 (some v2) fun l4 =>
 C.any l4[0]? fun v5 =>
 C.int .i64 l4[1]? fun x6 =>
 C.int .i64 l4[2]? fun x7 =>
 C.int .i64 l4[3]? fun x8 =>
 C.int .i64 l4[4]? fun x9 =>
 C.int .i64 l4[5]? fun x10 =>
 C.int .i64 l4[6]? fun x11 =>
 C.int .i64 l4[7]? fun x12 =>
 C.int .i64 l4[8]? fun x13 =>
 C.snp h3 [(.agg [v5, (iz x6), (iz x7), (iz x8), (iz x9), (iz x10), (iz x11), (iz x12), (iz x13)])] fun l14 b15 =>
 C.bool (pcall M d 22 l14) fun b16 =>
 cnd (b15 || true)
 (cnd (!b16)
 (K0 .nilp h3)
 (C.hop h3 (.load true 9 (.v v0)) fun v17 h18 =>
 C.agg 9 (some v17) fun l19 =>
 C.any l19[0]? fun v20 =>
 C.int .i64 l19[1]? fun x21 =>
 C.int .i64 l19[2]? fun x22 =>
 C.int .i64 l19[3]? fun x23 =>
 C.int .i64 l19[4]? fun x24 =>
 C.int .i64 l19[5]? fun x25 =>
 C.int .i64 l19[6]? fun x26 =>
 C.int .i64 l19[7]? fun x27 =>
 C.int .i64 l19[8]? fun x28 =>
 C.cal M (pcall M d) (n0 + 8) true 23 [(.agg [v20, (iz x21), (iz x22), (iz x23), (iz x24), (iz x25), (iz x26), (iz x27), (iz x28)])] h18 fun v29 h30 =>
 C.agg 9 (some v29) fun l31 =>
 C.any l31[0]? fun v32 =>
 C.int .i64 l31[1]? fun x33 =>
 C.int .i64 l31[2]? fun x34 =>
 C.int .i64 l31[3]? fun x35 =>
 C.int .i64 l31[4]? fun x36 =>
 C.int .i64 l31[5]? fun x37 =>
 C.int .i64 l31[6]? fun x38 =>
 C.int .i64 l31[7]? fun x39 =>
 C.int .i64 l31[8]? fun x40 =>
 C.cal M (pcall M d) (n0 + 8) true 24 [(iz 1000000)] h30 fun v41 h42 =>
 C.any (some v41) fun v43 =>
 C.hop h42 (.build [(.zsl true), (iz 0), (iz 0), (iz 0), (iz 0), (iz 0), (iz 0), (iz 0), (iz 0), (iz 0), .nilp] [(0, 9, (.v (.agg [v32, (iz x33), (iz x34), (iz x35), (iz x36), (iz x37), (iz x38), (iz x39), (iz x40)]))), (10, 1, (.v v43))]) fun v44 h45 =>
 C.agg 11 (some v44) fun l46 =>
 C.any l46[0]? fun v47 =>
 C.int .i64 l46[1]? fun x48 =>
 C.int .i64 l46[2]? fun x49 =>
 C.int .i64 l46[3]? fun x50 =>
 C.int .i64 l46[4]? fun x51 =>
 C.int .i64 l46[5]? fun x52 =>
 C.int .i64 l46[6]? fun x53 =>
 C.int .i64 l46[7]? fun x54 =>
 C.int .i64 l46[8]? fun x55 =>
 C.int .i64 l46[9]? fun x56 =>
 C.any l46[10]? fun v57 =>
 C.hop h45 (.box E54 (.v (.agg [v47, (iz x48), (iz x49), (iz x50), (iz x51), (iz x52), (iz x53), (iz x54), (iz x55), (iz x56), v57]))) fun v58 h59 =>
 K0 v58 h59))
 (none) := by kernel_rfl
/-- (*apogee/phase.Machine).Wish -/
theorem r11 (C : Cb) (d : Nat) (a0 : AV) (a1 : Int) (a2 : Bool) (n0 : Nat) (H0 : Heap) (K0 : AV → Heap → Ans) : xmeth C M unr d (n0 + 8) 11 [a0, (iz a1), (.bool a2)] H0 K0 =
 C.cal M (pcall M d) (n0 + 8) true 20 [a0] H0 fun v0 h1 =>
 C.agg 5 (some v0) fun l2 =>
 C.any l2[0]? fun v3 =>
 C.int .i64 l2[1]? fun x4 =>
 C.int .i64 l2[2]? fun x5 =>
 C.int .i64 l2[3]? fun x6 =>
 C.int .i64 l2[4]? fun x7 =>
 C.hop h1 (.alloc E43) fun v8 h9 =>
 C.hop h9 (.store 5 (.v v8) (.v (.agg [v3, (iz x4), (iz x5), (iz x6), (iz x7)]))) fun v10 h11 =>
 C.grow h11 [] fun n12 h13 =>
 cnd a2
 (C.cal M (pcall M d) (n0 + 8) true 18 [a0] h13 fun v14 h15 =>
 C.bool (some v14) fun b16 =>
 cnd (!b16)
 (C.cal M (pcall M d) (n0 + 8) true 17 [a0] h15 fun v17 h18 =>
 C.int .i64 (some v17) fun x19 =>
 C.hop h18 (.fldA 3 (.v v8)) fun v20 h21 =>
 C.hop h21 (.load false 1 (.v v20)) fun v22 h23 =>
 C.int .i64 (some v22) fun x24 =>
 C.keep h15 h18 [v20] <|
 cnd (decide (x19 ≥ x24))
 (C.hop h23 (.fldA 4 (.v v8)) fun v25 h26 =>
 C.hop h26 (.load false 1 (.v v25)) fun v27 h28 =>
 C.int .i64 (some v27) fun x29 =>
 K0 (.bool (decide (a1 ≥ x29))) h28)
 (K0 bf h23))
 (K0 bf h15))
 (K0 bf h13) := by kernel_rfl
/-- (*apogee/phase.Machine).Cycle -/
theorem r13 (C : Cb) (d : Nat) (a0 : AV) (a1 a2 : Bool) (n0 : Nat) (H0 : Heap) (K0 : AV → Heap → Ans) : xmeth C M unr d (n0 + 8) 13 [a0, (.bool a1), (.bool a2)] H0 K0 =
 C.hop H0 (.eqv false 1 [] (.v a0) (.v .nilp)) fun v0 h1 =>
 C.bool (some v0) fun b2 =>
 cnd b2
 (K0 bf h1)
 (cnd (!a1)
 (C.hop h1 (.nilck (.v a0)) fun v3 h4 =>
 C.hop h4 (.fldA 10 (.v v3)) fun v5 h6 =>
 C.hop h6 (.load false 1 (.v v5)) fun v7 h8 =>
 C.cal M (pcall M d) (n0 + 8) true 27 [v7] h8 fun v9 h10 =>
 C.int .i64 (some v9) fun x11 =>
 K0 bf h10)
 (cnd (!a2)
 (C.hop h1 (.nilck (.v a0)) fun v12 h13 =>
 C.hop h13 (.fldA 10 (.v v12)) fun v14 h15 =>
 C.hop h15 (.load false 1 (.v v14)) fun v16 h17 =>
 C.cal M (pcall M d) (n0 + 8) true 27 [v16] h17 fun v18 h19 =>
 C.int .i64 (some v18) fun x20 =>
 K0 bf h19)
 (C.cal M (pcall M d) (n0 + 8) true 18 [a0] h1 fun v21 h22 =>
 C.bool (some v21) fun b23 =>
 cnd b23
 (C.hop h22 (.nilck (.v a0)) fun v24 h25 =>
 C.hop h25 (.fldA 10 (.v v24)) fun v26 h27 =>
 C.hop h27 (.load false 1 (.v v26)) fun v28 h29 =>
 C.cal M (pcall M d) (n0 + 8) true 27 [v28] h29 fun v30 h31 =>
 C.int .i64 (some v30) fun x32 =>
 K0 bf h31)
 (C.hop h22 (.nilck (.v a0)) fun v33 h34 =>
 C.hop h34 (.fldA 9 (.v v33)) fun v35 h36 =>
 C.hop h36 (.load false 1 (.v v35)) fun v37 h38 =>
 C.int .i64 (some v37) fun x39 =>
 C.hop h38 (.nilck (.v a0)) fun v40 h41 =>
 C.hop h41 (.fldA 9 (.v v40)) fun v42 h43 =>
 C.hop h43 (.store 1 (.v v42) (.v (iz (IntKind.wrap .i64 (x39 + 1))))) fun v44 h45 =>
 C.hop h45 (.nilck (.v a0)) fun v46 h47 =>
 C.hop h47 (.fldA 10 (.v v46)) fun v48 h49 =>
 C.hop h49 (.load false 1 (.v v48)) fun v50 h51 =>
 C.cal M (pcall M d) (n0 + 8) true 28 [v50] h51 fun v52 h53 =>
 C.tup 0 (some v52) fun l54 =>
 K0 bt h53)))) := by kernel_rfl
/-- (*apogee/phase.Machine).Set -/
theorem r15 (C : Cb) (d : Nat) (a0 : AV) (a1 a2 : Int) (n0 : Nat) (H0 : Heap) (K0 : AV → Heap → Ans) : xmeth C M unr d (n0 + 8) 15 [a0, (iz a1), (iz a2)] H0 K0 =
 C.hop H0 (.eqv false 1 [] (.v a0) (.v .nilp)) fun v0 h1 =>
 C.bool (some v0) fun b2 =>
 cnd b2
 (K0 bf h1)
 (cnd (decide (a1 < 0))
 (K0 bf h1)
 (C.hop h1 (.nilck (.v a0)) fun v3 h4 =>
 C.hop h4 (.fldA 0 (.v v3)) fun v5 h6 =>
 C.hop h6 (.fldA 0 (.v v5)) fun v7 h8 =>
 C.hop h8 (.load false 1 (.v v7)) fun v9 h10 =>
 C.hop h10 (.bk .lenV [(.v v9)]) fun v11 h12 =>
 C.int .i64 (some v11) fun x13 =>
 cnd (decide (a1 ≥ x13))
 (K0 bf h12)
 (cnd (decide (a2 < 0))
 (K0 bf h12)
 (cnd (decide (a2 > 1000000))
 (K0 bf h12)
 (C.hop h12 (.nilck (.v a0)) fun v14 h15 =>
 C.hop h15 (.fldA 9 (.v v14)) fun v16 h17 =>
 C.hop h17 (.store 1 (.v v16) (.v (iz a1))) fun v18 h19 =>
 C.hop h19 (.nilck (.v a0)) fun v20 h21 =>
 C.hop h21 (.fldA 10 (.v v20)) fun v22 h23 =>
 C.hop h23 (.load false 1 (.v v22)) fun v24 h25 =>
 C.cal M (pcall M d) (n0 + 8) true 29 [v24, (iz a2)] h25 fun v26 h27 =>
 C.tup 0 (some v26) fun l28 =>
 K0 bt h27))))) := by kernel_rfl
/-- (*apogee/phase.Machine).Phase -/
theorem r16 (C : Cb) (d : Nat) (a0 : AV) (n0 : Nat) (H0 : Heap) (K0 : AV → Heap → Ans) : xmeth C M unr d (n0 + 8) 16 [a0] H0 K0 =
 C.hop H0 (.eqv false 1 [] (.v a0) (.v .nilp)) fun v0 h1 =>
 C.bool (some v0) fun b2 =>
 cnd b2
 (K0 (iz 0) h1)
 (C.hop h1 (.nilck (.v a0)) fun v3 h4 =>
 C.hop h4 (.fldA 9 (.v v3)) fun v5 h6 =>
 C.hop h6 (.load false 1 (.v v5)) fun v7 h8 =>
 C.int .i64 (some v7) fun x9 =>
 K0 (iz x9) h8) := by kernel_rfl
/-- (*apogee/phase.Machine).In -/
theorem r17 (C : Cb) (d : Nat) (a0 : AV) (n0 : Nat) (H0 : Heap) (K0 : AV → Heap → Ans) : xmeth C M unr d (n0 + 8) 17 [a0] H0 K0 =
 C.hop H0 (.eqv false 1 [] (.v a0) (.v .nilp)) fun v0 h1 =>
 C.bool (some v0) fun b2 =>
 cnd b2
 (K0 (iz 0) h1)
 (C.hop h1 (.nilck (.v a0)) fun v3 h4 =>
 C.hop h4 (.fldA 10 (.v v3)) fun v5 h6 =>
 C.hop h6 (.load false 1 (.v v5)) fun v7 h8 =>
 C.cal M (pcall M d) (n0 + 8) true 30 [v7] h8 fun v9 h10 =>
 C.int .i64 (some v9) fun x11 =>
 K0 (iz x11) h10) := by kernel_rfl
/-- (*apogee/phase.Machine).Last -/
theorem r18 (C : Cb) (d : Nat) (a0 : AV) (n0 : Nat) (H0 : Heap) (K0 : AV → Heap → Ans) : xmeth C M unr d (n0 + 8) 18 [a0] H0 K0 =
 C.hop H0 (.eqv false 1 [] (.v a0) (.v .nilp)) fun v0 h1 =>
 C.bool (some v0) fun b2 =>
 cnd b2
 (K0 bt h1)
 (C.hop h1 (.nilck (.v a0)) fun v3 h4 =>
 C.hop h4 (.fldA 9 (.v v3)) fun v5 h6 =>
 C.hop h6 (.load false 1 (.v v5)) fun v7 h8 =>
 C.int .i64 (some v7) fun x9 =>
 C.hop h8 (.nilck (.v a0)) fun v10 h11 =>
 C.hop h11 (.fldA 0 (.v v10)) fun v12 h13 =>
 C.hop h13 (.fldA 0 (.v v12)) fun v14 h15 =>
 C.hop h15 (.load false 1 (.v v14)) fun v16 h17 =>
 C.hop h17 (.bk .lenV [(.v v16)]) fun v18 h19 =>
 C.int .i64 (some v18) fun x20 =>
 K0 (.bool ((IntKind.wrap .i64 (x9 + 1)) == x20)) h19) := by kernel_rfl
/-- (*apogee/phase.Machine).Now -/
theorem r20 (C : Cb) (d : Nat) (a0 : AV) (n0 : Nat) (H0 : Heap) (K0 : AV → Heap → Ans) : xmeth C M unr d (n0 + 8) 20 [a0] H0 K0 =
 C.hop H0 (.alloc E43) fun v0 h1 =>
 C.hop h1 (.eqv false 1 [] (.v a0) (.v .nilp)) fun v2 h3 =>
 C.bool (some v2) fun b4 =>
 cnd b4
 (C.hop h3 (.store 5 (.v v0) (.v (.agg [(.zsl true), (iz 0), (iz 0), (iz 0), (iz 0)]))) fun v5 h6 =>
 C.hop h6 (.load true 5 (.v v0)) fun v7 h8 =>
 K0 v7 h6)
 (C.grow h3 [some ⟨E43, [(.agg [(.zsl true), (iz 0), (iz 0), (iz 0), (iz 0)])]⟩] fun n9 h10 =>
 C.hop h10 (.nilck (.v a0)) fun v11 h12 =>
 C.hop h12 (.fldA 0 (.v v11)) fun v13 h14 =>
 C.hop h14 (.load true 9 (.v v13)) fun v15 h16 =>
 C.agg 9 (some v15) fun l17 =>
 C.any l17[0]? fun v18 =>
 C.int .i64 l17[1]? fun x19 =>
 C.int .i64 l17[2]? fun x20 =>
 C.int .i64 l17[3]? fun x21 =>
 C.int .i64 l17[4]? fun x22 =>
 C.int .i64 l17[5]? fun x23 =>
 C.int .i64 l17[6]? fun x24 =>
 C.int .i64 l17[7]? fun x25 =>
 C.int .i64 l17[8]? fun x26 =>
 C.hop h16 (.nilck (.v a0)) fun v27 h28 =>
 C.hop h28 (.fldA 9 (.v v27)) fun v29 h30 =>
 C.hop h30 (.load false 1 (.v v29)) fun v31 h32 =>
 C.int .i64 (some v31) fun x33 =>
 C.cal M (pcall M d) (n0 + 8) true 32 [(.agg [v18, (iz x19), (iz x20), (iz x21), (iz x22), (iz x23), (iz x24), (iz x25), (iz x26)]), (iz x33)] h32 fun v34 h35 =>
 C.tup 2 (some v34) fun l36 =>
 C.agg 5 l36[0]? fun l37 =>
 C.any l37[0]? fun v38 =>
 C.int .i64 l37[1]? fun x39 =>
 C.int .i64 l37[2]? fun x40 =>
 C.int .i64 l37[3]? fun x41 =>
 C.int .i64 l37[4]? fun x42 =>
 C.bool l36[1]? fun b43 =>
 C.keep h32 h35 [(.ptr (n9 + 0) 0 0)] <|
 C.hop h35 (.store 5 (.v (.ptr (n9 + 0) 0 0)) (.v (.agg [v38, (iz x39), (iz x40), (iz x41), (iz x42)]))) fun v44 h45 =>
 C.hop h45 (.load true 5 (.v (.ptr (n9 + 0) 0 0))) fun v46 h47 =>
 C.agg 5 (some v46) fun l48 =>
 C.any l48[0]? fun v49 =>
 C.int .i64 l48[1]? fun x50 =>
 C.int .i64 l48[2]? fun x51 =>
 C.int .i64 l48[3]? fun x52 =>
 C.int .i64 l48[4]? fun x53 =>
 C.hop h47 (.store 5 (.v v0) (.v (.agg [v49, (iz x50), (iz x51), (iz x52), (iz x53)]))) fun v54 h55 =>
 C.hop h55 (.load true 5 (.v v0)) fun v56 h57 =>
 K0 v56 h55) := by kernel_rfl
end Go.Proofs.Ytdceaeifcniabaa.AE

namespace Go.Proofs.Ytdceaeifcniabaa.AE
set_option linter.unusedVariables false
set_option linter.unusedSimpArgs false
set_option linter.constructorNameAsVariable false
open Go Go.WideShapes

/-- The form of a cell. -/
inductive CT where
  | i (k : IntKind)
  | b
  | s
  | sl (ag : Bool) (es : List CT)
mutual
def CTok : CT → AV → Prop
  | .i k, v => ∃ n, v = .int k n ∧ (Lit.int k n).wf = true
  | .b, v => ∃ x, v = .bool x
  | .s, v => ∃ x, v = .str x ∧ x.length ≤ maxLen
  | .sl ag es, v => ∃ l, v = .lst l ∧ l.length ≤ maxLen ∧ ∀ x ∈ l, ∃ cs, (match ag with
    | true => x = .agg cs
    | false => cs = [x]) ∧ CTall es cs
def CTall : List CT → List AV → Prop
  | [], l => l = []
  | c :: cs, l => ∃ x t, l = x :: t ∧ CTok c x ∧ CTall cs t
end
/-- An argument of a form: is it a struct or an array; its cells. -/
def TyOK (ag : Bool) (cs : List CT) (v : AV) : Prop := ∃ l, (match ag with
  | true => v = .agg l
  | false => l = [v]) ∧ CTall cs l
theorem CTall_len : ∀ {cs : List CT} {l : List AV}, CTall cs l → l.length = cs.length
  | [], l, h => by simp only [CTall] at h; subst h; rfl
  | c :: cs, l, h => by
    simp only [CTall] at h
    obtain ⟨x, t, rfl, _, h⟩ := h
    simp [CTall_len h]
theorem CTall_app : ∀ {a b : List CT} {l m : List AV}, CTall a l → CTall b m → CTall (a ++ b) (l ++ m)
  | [], b, l, m, h, h' => by simp only [CTall] at h; subst h; exact h'
  | c :: cs, b, l, m, h, h' => by
    simp only [CTall] at h
    obtain ⟨x, t, rfl, h1, h⟩ := h
    simp only [List.cons_append, CTall]
    exact ⟨x, t ++ m, rfl, h1, CTall_app h h'⟩

section
variable (P : Program)
def ctFs (g : TypeId → Option (List CT)) : List Field → Nat → Option (List CT)
  | [], _ => some []
  | f :: fs, off => if f.offset = off then match g f.type with
      | some l => if P.cellsOf f.type = l.length then match ctFs g fs (off + l.length) with
          | some m => some (l ++ m)
          | none => none
        else none
      | none => none
    else none
def ctOf : Nat → TypeId → Option (List CT)
  | 0, _ => none
  | d + 1, t => match P.underlying t with
    | some (.int k) => some [.i k]
    | some .bool => some [.b]
    | some .string => some [.s]
    | some (.slice e) => match ctOf d e, agB P e with
      | some l, some ag => if P.cellsOf e = l.length ∧ 0 < l.length ∧ (ag || l.length == 1) = true then some [.sl ag l] else none
      | _, _ => none
    | some (.struct fs) => match ctFs P (ctOf d) fs.toList 0 with
      | some l => if P.cellsOf t = l.length then some l else none
      | none => none
    | some (.array n e) => match ctOf d e with
      | some l => if P.cellsOf e = l.length ∧ P.cellsOf t = n * l.length then some (List.replicate n l).flatten else none
      | none => none
    | _ => none
end

section
variable {H : Type} {enc : TypeId × Value → H} {P : Program} {w : World} {base : Nat} {spare : Nat → Bool} {held : Bool}
abbrev noBad : Nat → Prop := fun _ => False

/-- Each cell is told. -/
def Cells (w : World) (avs : List AV) (cs : List Value) : Prop := ∀ (i : Nat) (c : AV) (u : Value), avs[i]? = some c → cs[i]? = some u → FRep w noBad c u

theorem cells_one {c : AV} {u : Value} (h : FRep w noBad c u) : Cells w [c] [u] := by
  intro i a b ha hb
  match i with
  | 0 => cases ha; cases hb; exact h
  | i + 1 => cases ha

theorem ctFs_open {g : TypeId → Option (List CT)} {cs : List Value} (hg : ∀ t l (ds : List Value) fuel x, g t = some l → DataW.trod enc P w base spare held fuel t ds = some x → ∃ avs, avs.length = ds.length ∧ CTall l avs ∧ Cells w avs ds) :
    ∀ (fs : List Field) (off : Nat) (l : List CT), ctFs P g fs off = some l → (∀ f ∈ fs, ∃ fuel y, DataW.trod enc P w base spare held fuel f.type ((cs.drop f.offset).take (P.cellsOf f.type)) = some y) →
      ∃ avs, CTall l avs ∧ Cells w avs (cs.drop off)
  | [], off, l, h, _ => by
    simp only [ctFs] at h; cases h
    exact ⟨[], rfl, fun i c u hc _ => by cases hc⟩
  | f :: fs, off, l, h, ht => by
    simp only [ctFs] at h
    split at h
    · rename_i ho
      split at h <;> (try (cases h; done))
      rename_i l1 h1
      split at h
      · rename_i hn
        split at h <;> (try (cases h; done))
        rename_i m hm
        cases h
        obtain ⟨fuel, y, hy⟩ := ht f (List.mem_cons_self ..)
        obtain ⟨a1, e1, e2, e3⟩ := hg _ _ _ _ _ h1 hy
        obtain ⟨a2, q1, q2⟩ := ctFs_open hg fs (off + l1.length) m hm (fun f hf => ht f (List.mem_cons_of_mem _ hf))
        refine ⟨a1 ++ a2, CTall_app e2 q1, ?_⟩
        have hl : a1.length = l1.length := CTall_len e2
        intro i c u hc hu
        by_cases hi : i < a1.length
        · rw [List.getElem?_append_left hi] at hc
          refine e3 i c u hc ?_
          rw [ho, hn, List.getElem?_take, if_pos (by omega)]; exact hu
        · rw [List.getElem?_append_right (by omega)] at hc
          refine q2 (i - a1.length) c u hc ?_
          rw [List.getElem?_drop] at hu ⊢
          rw [← hu]; congr 1; omega
      · cases h
    · cases h

theorem cells?_at {a : Addr} {n : Nat} {cs : List Value} (h : w.cells? base a n = some cs) : cs.length = n ∧ ∀ j u, cs[j]? = some u → w.cell? (a.add j) = some u := by
  unfold World.cells? at h
  split at h
  · have hl : cs.length = n := by simpa using mapM_some_length h
    refine ⟨hl, fun j u hu => ?_⟩
    have hj : j < n := by
      rcases Nat.lt_or_ge j n with h1 | h1
      · exact h1
      · rw [List.getElem?_eq_none (by omega)] at hu; cases hu
    have := mapM_some_get h j j (by simp [hj])
    rw [hu] at this
    exact this
  · cases h

theorem rng_at {n i j : Nat} (h : (List.range n)[i]? = some j) : i < n ∧ i = j := by
  rcases Nat.lt_or_ge i n with h1 | h1
  · rw [List.getElem?_range h1] at h; exact ⟨h1, Option.some.inj h⟩
  · rw [List.getElem?_eq_none (by simpa using h1)] at h; cases h
theorem add_pl (b o n : Nat) : (⟨b, o, none⟩ : Addr).add n = ⟨b, o + n, none⟩ := by
  unfold Addr.add; split <;> simp_all

theorem open_cells : ∀ (d : Nat) (t : TypeId) (l : List CT) (cs : List Value) (fuel : Nat) (x : DataW H × List MemPlace), ctOf P d t = some l → DataW.trod enc P w base spare held fuel t cs = some x →
    ∃ avs, avs.length = cs.length ∧ CTall l avs ∧ Cells w avs cs
  | 0, t, l, cs, fuel, x, h, _ => by cases h
  | d + 1, t, l, cs, fuel, x, h, ht => by
    simp only [ctOf] at h
    split at h <;> (try (cases h; done))
    · rename_i k hu
      cases h
      obtain ⟨n, rfl, _, hw⟩ := DataW.trod_int hu ht
      exact ⟨[.int k n], rfl, ⟨_, _, rfl, ⟨n, rfl, hw⟩, rfl⟩, cells_one (.int k n)⟩
    · rename_i hu
      cases h
      obtain ⟨b, rfl, _⟩ := DataW.trod_bool hu ht
      exact ⟨[.bool b], rfl, ⟨_, _, rfl, ⟨b, rfl⟩, rfl⟩, cells_one (.bool b)⟩
    · rename_i hu
      cases h
      obtain ⟨s, rfl, _, hs⟩ := DataW.trod_string hu ht
      refine ⟨[.str s.data.toList], rfl, ⟨_, _, rfl, ⟨_, rfl, by simpa using hs⟩, rfl⟩, cells_one ?_⟩
      have := FRep.str (w := w) (bad := noBad) s.data.toList
      simpa using this
    · rename_i e hu
      split at h <;> (try (cases h; done))
      rename_i le ag hle hag
      split at h
      · rename_i hc
        obtain ⟨hc1, hc2, hc3⟩ := hc
        cases h
        rcases DataW.trod_slice hu ht with ⟨rfl, _⟩ | ⟨a, len, cap, elems, rest, n, _, rfl, _, hb, hl, hm, hel, hat, _, _⟩
        · exact ⟨[.lst []], rfl, ⟨_, _, rfl, ⟨[], rfl, by simp, fun x hx => by cases hx⟩, rfl⟩, cells_one (.lst0 none 0 fun _ => rfl)⟩
        · have each : ∀ i, i < len → ∃ ex : List AV × List Value, w.cells? base (a.add (i * P.cellsOf e)) (P.cellsOf e) = some ex.2 ∧ CTall le ex.1 ∧ Cells w ex.1 ex.2 := by
            intro i hi
            have h1 := hat i hi
            rw [List.getElem?_eq_getElem (by omega)] at h1
            obtain ⟨ds, h2, h3⟩ := Option.bind_eq_some_iff.mp h1
            obtain ⟨avs, _, q2, q3⟩ := open_cells d e le ds n _ hle h3
            exact ⟨(avs, ds), h2, q2, q3⟩
          obtain ⟨f, hf⟩ := Go.Deep.choose_lt each
          let el : List AV → AV := fun cs => match ag with
            | true => .agg cs
            | false => cs.headD .undef
          have elc : ∀ cs, CTall le cs → (el cs).cells = cs ∨ (ag = false ∧ ∃ v, cs = [v] ∧ el cs = v) := by
            intro cs hcs
            cases ag with
            | true => exact .inl rfl
            | false =>
              have hl1 : le.length = 1 := by simpa using hc3
              have := CTall_len hcs
              match cs, this.trans hl1 with
              | [v], _ => exact .inr ⟨rfl, v, rfl, rfl⟩
          have scal : ∀ cs, CTall le cs → (el cs).cells = cs := by
            intro cs hcs
            rcases elc cs hcs with h1 | ⟨hag', v, rfl, h2⟩
            · exact h1
            · rw [h2]
              match v, hcs with
              | .agg l', hcs =>
                exfalso
                cases le with
                | nil => simp only [CTall] at hcs; cases hcs
                | cons c cs' =>
                  simp only [CTall] at hcs
                  obtain ⟨x', t', hx', hok, _⟩ := hcs
                  injection hx' with hx1 _
                  subst hx1
                  cases c <;> simp [CTok] at hok
              | .int .., _ | .bool _, _ | .str _, _ | .nilp, _ | .zsl _, _ | .ptr .., _ | .slc .., _ | .lst _, _ | .fptr .., _ | .tup _, _ | .fn .., _ | .nilf, _ | .undef, _ | .emp, _ => rfl
          have hlen : ∀ i, i < len → ((f i).1).length = P.cellsOf e := fun i hi => by rw [CTall_len (hf i hi).2.1, hc1]
          refine ⟨[.lst ((List.range len).map fun i => el (f i).1)], rfl, ⟨_, _, rfl, ⟨_, rfl, by simp; omega, ?_⟩, rfl⟩, cells_one ?_⟩
          · intro y hy
            obtain ⟨i, hi, rfl⟩ := List.mem_map.mp hy
            have hi := List.mem_range.mp hi
            refine ⟨(f i).1, ?_, (hf i hi).2.1⟩
            cases ag with
            | true => rfl
            | false =>
              rcases elc _ (hf i hi).2.1 with h1 | ⟨_, v, h1, h2⟩
              · have h3 := scal _ (hf i hi).2.1
                have hl1 : le.length = 1 := by simpa using hc3
                have h4 := (CTall_len (hf i hi).2.1).trans hl1
                show (f i).1 = [(f i).1.headD .undef]
                match (f i).1, h4 with
                | [v], _ => rfl
              · show (f i).1 = [(f i).1.headD .undef]
                rw [h1]; rfl
          · by_cases h0 : len = 0
            · subst h0; exact .lst0 (some a) cap (fun h => by cases h)
            · have hsp : a.spot = none ∧ a.block < w.heap.size := by
                obtain ⟨g1, g2, g3⟩ := hf 0 (by omega)
                obtain ⟨g4, g5⟩ := cells?_at g1
                have h6 : ∃ u, (f 0).2[0]? = some u := ⟨_, List.getElem?_eq_getElem (by omega)⟩
                obtain ⟨u, hu0⟩ := h6
                have := g5 0 u hu0
                rw [Nat.zero_mul, show (a.add 0).add 0 = a by simp [Addr.add]] at this
                unfold World.cell? at this
                split at this
                · rename_i c _ _ hh
                  split at this
                  · cases this
                  · rename_i hs
                    refine ⟨by simpa using hs, ?_⟩
                    rcases Nat.lt_or_ge a.block w.heap.size with h7 | h7
                    · exact h7
                    · rw [Array.getElem?_eq_none h7] at hh; cases hh
                · cases this
              obtain ⟨b, o, sp⟩ := a
              obtain ⟨hsp1, hsp2⟩ := hsp
              simp only at hsp1 hsp2
              subst hsp1
              have hlm : ((List.range len).map fun i => el (f i).1).length = len := by simp
              have key := FRep.lst (w := w) (bad := noBad) ((List.range len).map fun i => el (f i).1) b o (P.cellsOf e) cap (fun i j => (f i).2.getD j (.bool false)) (by rw [hlm]; exact hl) (by omega) (fun h => h) hsp2 ?_ ?_ ?_
              · rw [hlm] at key; exact key
              · intro i y hy
                rw [List.getElem?_map] at hy
                obtain ⟨i', h1, rfl⟩ := Option.map_eq_some_iff.mp hy
                obtain ⟨h2, rfl⟩ := rng_at h1
                rw [scal _ (hf _ h2).2.1, hlen _ h2]
              · intro i y j c hy hc
                rw [List.getElem?_map] at hy
                obtain ⟨i', h1, rfl⟩ := Option.map_eq_some_iff.mp hy
                obtain ⟨h2, rfl⟩ := rng_at h1
                rw [scal _ (hf _ h2).2.1] at hc
                obtain ⟨g4, g5⟩ := cells?_at (hf _ h2).1
                have hj : j < (f i).2.length := by
                  rw [g4, ← hlen _ h2]
                  rcases Nat.lt_or_ge j (f i).1.length with h7 | h7
                  · exact h7
                  · rw [List.getElem?_eq_none h7] at hc; cases hc
                have := g5 j _ (List.getElem?_eq_getElem hj)
                rw [add_pl, add_pl] at this
                rw [List.getD_eq_getElem?_getD, List.getElem?_eq_getElem hj]
                simp only [Option.getD_some]
                rw [← Nat.add_assoc]; exact this
              · intro i y j c hy hc
                rw [List.getElem?_map] at hy
                obtain ⟨i', h1, rfl⟩ := Option.map_eq_some_iff.mp hy
                obtain ⟨h2, rfl⟩ := rng_at h1
                rw [scal _ (hf _ h2).2.1] at hc
                obtain ⟨g4, g5⟩ := cells?_at (hf _ h2).1
                have hj : j < (f i).2.length := by
                  rw [g4, ← hlen _ h2]
                  rcases Nat.lt_or_ge j (f i).1.length with h7 | h7
                  · exact h7
                  · rw [List.getElem?_eq_none h7] at hc; cases hc
                refine (hf _ h2).2.2 j c _ hc ?_
                rw [List.getD_eq_getElem?_getD, List.getElem?_eq_getElem hj]; rfl
      · cases h
    · rename_i fs hu
      split at h <;> (try (cases h; done))
      rename_i l' hl'
      split at h
      · rename_i hc
        cases h
        obtain ⟨xs, n, _, _, hlen, hxs, hf⟩ := DataW.trod_struct hu ht
        obtain ⟨avs, q1, q2⟩ := ctFs_open (cs := cs) (enc := enc) (base := base) (spare := spare) (held := held) (fun t l ds fuel x => open_cells d t l ds fuel x) fs.toList 0 l hl' (fun f hfm => by
          obtain ⟨i, hi⟩ := List.getElem?_of_mem hfm
          have h1 := hf i f (by simpa using hi)
          have hi' : i < xs.length := by
            rw [hxs]
            rcases Nat.lt_or_ge i fs.size with h7 | h7
            · exact h7
            · rw [List.getElem?_eq_none (by simpa using h7)] at hi; cases hi
          exact ⟨n, _, h1.trans (List.getElem?_eq_getElem hi')⟩)
        exact ⟨avs, by rw [CTall_len q1, hlen, hc], q1, by simpa using q2⟩
      · cases h
    · rename_i n e hu
      split at h <;> (try (cases h; done))
      rename_i le hle
      split at h
      · rename_i hc
        obtain ⟨hc1, hc2⟩ := hc
        cases h
        obtain ⟨xs, m, _, _, hlen, hxs, hf⟩ := DataW.trod_array hu ht
        have key : ∀ k, k ≤ n → ∃ avs, CTall (List.replicate k le).flatten avs ∧ Cells w avs (cs.drop ((n - k) * le.length)) := by
          intro k
          induction k with
          | zero => intro _; exact ⟨[], rfl, fun i c u hc _ => by cases hc⟩
          | succ k ih =>
            intro hk
            obtain ⟨a2, q1, q2⟩ := ih (by omega)
            have h1 := hf (n - (k + 1)) (by omega)
            rw [List.getElem?_eq_getElem (by omega)] at h1
            obtain ⟨a1, e1, e2, e3⟩ := open_cells d e le _ m _ hle h1
            refine ⟨a1 ++ a2, by rw [List.replicate_succ, List.flatten_cons]; exact CTall_app e2 q1, ?_⟩
            have hl : a1.length = le.length := CTall_len e2
            intro i c u hc hu
            by_cases hi : i < a1.length
            · rw [List.getElem?_append_left hi] at hc
              refine e3 i c u hc ?_
              rw [hc1, List.getElem?_take, if_pos (by omega)]; exact hu
            · rw [List.getElem?_append_right (by omega)] at hc
              refine q2 (i - a1.length) c u hc ?_
              rw [List.getElem?_drop] at hu ⊢
              rw [← hu]; congr 1
              have : n - k = n - (k + 1) + 1 := by omega
              rw [this, Nat.add_mul]; omega
        obtain ⟨avs, q1, q2⟩ := key n (Nat.le_refl _)
        refine ⟨avs, ?_, q1, by simpa using q2⟩
        rw [CTall_len q1, hlen, hc2]; simp
      · cases h

theorem okWide_array {r : Reach} {n : Nat} {t e : TypeId} {v : Value} (ht : P.underlying t = some (.array n e)) (h : Value.okWide P w r base t v) : ∃ cs, v = .agg cs ∧ cs.size = P.cellsOf t := by
  simp only [Value.okWide, ht] at h
  obtain ⟨cs, h1, h2, _⟩ := h
  exact ⟨cs, h1, h2⟩
/-- A scalar argument. -/
theorem open_sc {t : TypeId} {v : Value} {d : DataW H} {ps : List MemPlace} {l : List CT} (hv : v.cells.toList = [v]) (hl : ctOf P 9 t = some l) (h : DataW.Trod enc P w base spare held t v d ps) :
    ∃ a, TyOK false l a ∧ FRep w noBad a v := by
  obtain ⟨fuel, h⟩ := h
  obtain ⟨avs, h1, h2, h3⟩ := open_cells 9 t l _ fuel _ hl h
  rw [hv] at h1 h3
  match avs, h1 with
  | [a], _ => exact ⟨a, ⟨_, rfl, h2⟩, h3 0 a v rfl rfl⟩
/-- A struct, or an array. -/
theorem open_ag {t : TypeId} {cs : Array Value} {d : DataW H} {ps : List MemPlace} {l : List CT} (hl : ctOf P 9 t = some l) (h : DataW.Trod enc P w base spare held t (.agg cs) d ps) :
    ∃ a, TyOK true l a ∧ FRep w noBad a (.agg cs) := by
  obtain ⟨fuel, h⟩ := h
  obtain ⟨avs, h1, h2, h3⟩ := open_cells 9 t l _ fuel _ hl h
  refine ⟨.agg avs, ⟨_, rfl, h2⟩, ?_⟩
  have := FRep.agg (w := w) (bad := noBad) avs cs.toList h1 h3
  simpa using this
end
end Go.Proofs.Ytdceaeifcniabaa.AE

namespace Go.Proofs.Ytdceaeifcniabaa.AE
set_option linter.unusedVariables false
set_option linter.unusedSimpArgs false
set_option linter.constructorNameAsVariable false
open Go
set_option maxRecDepth 100000
theorem zeroP : pcall M 40 19 [.agg [.zsl true, .int .i64 0, .int .i64 0, .int .i64 0, .int .i64 0], .agg [.zsl true, .int .i64 0, .int .i64 0, .int .i64 0, .int .i64 0]] = some (.bool true) := ran (by kernel_rfl)
attribute [local irreducible] pcall C0 callB
theorem finP {H : Heap} {b : Bool} : C0.fin H (.bool b) = some (.bool b) := by rw [C0_fin]; rfl
theorem nil_t {H : Heap} {K : AV → Heap → Ans} : C0.hop H (.eqv false 1 [] (.v .nilp) (.v .nilp)) K = K (.bool true) H := hop_eq rfl
abbrev zPA : AV := .agg [.zsl true, .int .i64 0, .int .i64 0, .int .i64 0, .int .i64 0]
theorem now_nil (d n0 : Nat) (H : Heap) : callB M (pcall M d) (n0 + 9) true 20 [.nilp] H = some (zPA, H ++ [some ⟨E43, [zPA]⟩]) := by
  refine xmeth_ok (U := unr) (n := n0 + 8) rfl rfl rfl fun K => ?_
  refine (r20 C0 d _ n0 _ K).trans ?_
  refine Eq.trans al_n ?_
  refine Eq.trans nil_t ?_
  refine Eq.trans (pl_bool (by rfl)) ?_
  refine Eq.trans (pl_len rfl) ?_
  refine Eq.trans (st_s rfl rfl rfl) ?_
  refine Eq.trans (ld_s rfl rfl rfl) ?_
  rfl
theorem last_nil (d n0 : Nat) (H : Heap) : callB M (pcall M d) (n0 + 9) true 18 [.nilp] H = some (.bool true, H) := by
  refine xmeth_ok (U := unr) (n := n0 + 8) rfl rfl rfl fun K => ?_
  refine (r18 C0 d _ n0 _ K).trans ?_
  refine Eq.trans nil_t ?_
  refine Eq.trans (pl_bool (by rfl)) ?_
  exact pl_len rfl
theorem phase_nil (d n0 : Nat) (H : Heap) : callB M (pcall M d) (n0 + 9) true 16 [.nilp] H = some (.int .i64 0, H) := by
  refine xmeth_ok (U := unr) (n := n0 + 8) rfl rfl rfl fun K => ?_
  refine (r16 C0 d _ n0 _ K).trans ?_
  refine Eq.trans nil_t ?_
  refine Eq.trans (pl_bool (by rfl)) ?_
  exact pl_len rfl
theorem in_nil (d n0 : Nat) (H : Heap) : callB M (pcall M d) (n0 + 9) true 17 [.nilp] H = some (.int .i64 0, H) := by
  refine xmeth_ok (U := unr) (n := n0 + 8) rfl rfl rfl fun K => ?_
  refine (r17 C0 d _ n0 _ K).trans ?_
  refine Eq.trans nil_t ?_
  refine Eq.trans (pl_bool (by rfl)) ?_
  exact pl_len rfl
theorem cycle_nil (d n0 : Nat) (a b : Bool) (H : Heap) : callB M (pcall M d) (n0 + 9) true 13 [.nilp, .bool a, .bool b] H = some (.bool false, H) := by
  refine xmeth_ok (U := unr) (n := n0 + 8) rfl rfl rfl fun K => ?_
  refine (r13 C0 d _ _ _ n0 _ K).trans ?_
  refine Eq.trans nil_t ?_
  refine Eq.trans (pl_bool (by rfl)) ?_
  exact pl_len rfl
theorem set_nil (d n0 : Nat) (a b : Int) (H : Heap) : callB M (pcall M d) (n0 + 9) true 15 [.nilp, .int .i64 a, .int .i64 b] H = some (.bool false, H) := by
  refine xmeth_ok (U := unr) (n := n0 + 8) rfl rfl rfl fun K => ?_
  refine (r15 C0 d _ _ _ n0 _ K).trans ?_
  refine Eq.trans nil_t ?_
  refine Eq.trans (pl_bool (by rfl)) ?_
  exact pl_len rfl
theorem wish_nil (d n0 : Nat) (h : Int) (H : Heap) : ∃ H', callB M (pcall M d) (n0 + 10) true 11 [.nilp, .int .i64 h, .bool true] H = some (.bool false, H') := by
  refine ⟨H ++ ([some ⟨E43, [zPA]⟩] ++ [some ⟨E43, [zPA]⟩]), xmeth_ok (U := unr) (n := n0 + 9) rfl rfl rfl fun K => ?_⟩
  refine (r11 C0 d _ _ _ (n0 + 1) _ K).trans ?_
  refine Eq.trans (cal_eq (now_nil d n0 H)) ?_
  refine Eq.trans (pl_agg (by rfl) (by rfl)) ?_; refine Eq.trans (pl_any (by rfl)) ?_; refine Eq.trans (pl_int (by rfl)) ?_; refine Eq.trans (pl_int (by rfl)) ?_; refine Eq.trans (pl_int (by rfl)) ?_; refine Eq.trans (pl_int (by rfl)) ?_
  refine Eq.trans al_s ?_
  refine Eq.trans (st_s rfl rfl rfl) ?_
  refine Eq.trans gr_nil ?_
  rw [cnd_t]
  refine Eq.trans (cal_eq (last_nil d n0 _)) ?_
  refine Eq.trans (pl_bool (by rfl)) ?_
  refine Eq.trans (pl_f rfl) ?_
  rfl
theorem nil_law (h i : Int) : pcall M 41 6 [.int .i64 h, .int .i64 i] = some (.bool true) := told (r6 C0 40 h i) (by
  refine Eq.trans (pl_bool awake) ?_
  rw [cnd_t]
  obtain ⟨H', e⟩ := wish_nil 40 2 h []
  refine Eq.trans (cal_eq e) ?_
  refine Eq.trans (pl_bool (by rfl)) ?_
  refine Eq.trans (pl_len rfl) ?_
  refine Eq.trans (cal_eq (cycle_nil 40 3 _ _ _)) ?_
  refine Eq.trans (pl_bool (by rfl)) ?_
  refine Eq.trans (pl_len rfl) ?_
  refine Eq.trans (cal_eq (now_nil 40 3 _)) ?_
  refine Eq.trans (pl_agg (by rfl) (by rfl)) ?_; refine Eq.trans (pl_any (by rfl)) ?_; refine Eq.trans (pl_int (by rfl)) ?_; refine Eq.trans (pl_int (by rfl)) ?_; refine Eq.trans (pl_int (by rfl)) ?_; refine Eq.trans (pl_int (by rfl)) ?_
  refine Eq.trans (snp_free (by rfl)) ?_
  refine Eq.trans (pl_bool zeroP) ?_
  refine Eq.trans (pl_len (by rfl)) ?_
  rw [cnd_t]
  refine Eq.trans (cal_eq (phase_nil 40 3 _)) ?_
  refine Eq.trans (pl_int (by rfl)) ?_
  refine Eq.trans (pl_len rfl) ?_
  refine Eq.trans (cal_eq (in_nil 40 3 _)) ?_
  refine Eq.trans (pl_int (by rfl)) ?_
  refine Eq.trans (pl_len rfl) ?_
  refine Eq.trans (cal_eq (set_nil 40 3 _ _ _)) ?_
  refine Eq.trans (pl_bool (by rfl)) ?_
  refine Eq.trans (pl_len rfl) ?_
  refine Eq.trans (cal_eq (last_nil 40 3 _)) ?_
  refine Eq.trans (pl_bool (by rfl)) ?_
  exact finP)
theorem law_PhaseNil (a0 : Int) (a1 : Int) (w0 : (Lit.int .i64 a0).wf = true) (w1 : (Lit.int .i64 a1).wf = true) :
    pcall M 41 6 [.int .i64 a0, .int .i64 a1] = some (.bool true) := by
  exact nil_law a0 a1
end Go.Proofs.Ytdceaeifcniabaa.AE

namespace Go.Proofs.Ytdceaeifcniabaa.AE
set_option linter.unusedVariables false
set_option linter.unusedSimpArgs false
set_option linter.constructorNameAsVariable false
open Go Go.RowKit

theorem frl_nil {w : World} {bad : Nat → Prop} : ∀ (i : Nat) (c : AV) (u : Value), ([] : List AV)[i]? = some c → ([] : List Value)[i]? = some u → FRep w bad c u := fun _ _ _ h => by cases h
theorem frl_cons {w : World} {bad : Nat → Prop} {c0 : AV} {u0 : Value} {cs : List AV} {us : List Value} (h0 : FRep w bad c0 u0) (h : ∀ (i : Nat) (c : AV) (u : Value), cs[i]? = some c → us[i]? = some u → FRep w bad c u) :
    ∀ (i : Nat) (c : AV) (u : Value), (c0 :: cs)[i]? = some c → (u0 :: us)[i]? = some u → FRep w bad c u
  | 0, c, u, hc, hu => by cases hc; cases hu; exact h0
  | i + 1, c, u, hc, hu => h i c u hc hu
theorem law_calls {d : Nat} {g : FuncId} {args : List AV} {vs : List Value} (h : pcall M d g args = some (.bool true)) (W : World) (hl : args.length = vs.length)
    (hr : ∀ (i : Nat) (c : AV) (u : Value), args[i]? = some c → vs[i]? = some u → FRep W (fun _ => False) c u) (hc : (cFn Try.prog g).isSome = true := by kernel_rfl) : Calls Try.prog g vs.toArray W fun e W' => e = .returned (.bool true) ∧ Below W.heap.size W W' := by
  obtain ⟨fn, hfn⟩ := Option.isSome_iff_exists.mp hc
  rcases pcall_law modOK d g args _ h W (fun _ => False) vs (fun _ h => h.elim) hl hr with ⟨cv, w', h1, _⟩ | ⟨_, h2⟩
  · rw [enter_run hfn] at h1; cases h1
  · refine h2.mono ?_
    rintro e W' ⟨cv, rfl, hf, hb⟩
    cases hf
    exact ⟨rfl, hb⟩
theorem str_size {w : World} {bad : Nat → Prop} {b : List UInt8} {s : ByteArray} (h : FRep w bad (.str b) (.string s)) : s.data.toList.length = b.length := by
  cases h
  rfl
end Go.Proofs.Ytdceaeifcniabaa.AE
