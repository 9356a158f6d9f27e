/- What the small evaluator's values stand for in the model's memory. No conditions. -/
import Derived.Test.YtbcbaidnamebkaaAEcomp
namespace Go.Proofs.Ytbcbaidnamebkaa.AE
set_option linter.unusedVariables false
set_option linter.unusedSimpArgs false
set_option linter.constructorNameAsVariable false
open Go Go.RowKit

/-- Where a block of own memory lies: nowhere yet (or no more), nowhere as it is empty, or there. -/
inductive RB where
  | no
  | virt
  | real (b es cap : Nat)

abbrev Rho := Nat → RB

def own (ρ : Rho) (b : Nat) : Prop := ∃ id es cap, ρ id = .real b es cap

/-- A value that names no own memory. -/
inductive FRep (w : World) (bad : Nat → Prop) : AV → Value → Prop where
  | int (k : IntKind) (n : Int) : FRep w bad (.int k n) (.int k n)
  | bool (b : Bool) : FRep w bad (.bool b) (.bool b)
  | str (s : List UInt8) : FRep w bad (.str s) (.string ⟨s.toArray⟩)
  | nilp : FRep w bad .nilp (.pointer none)
  | znil : FRep w bad (.zsl true) (.slice none 0 0)
  | zsl (a : Option Addr) : FRep w bad (.zsl false) (.slice a 0 0)
  | lst0 (a : Option Addr) (c : Nat) : FRep w bad (.lst []) (.slice a 0 c)
  | lst (l : List AV) (b o es c : Nat) (vs : Nat → Nat → Value) (hn : l.length ≤ c) (he : 0 < es) (hb : ¬ bad b) (hl : b < w.heap.size)
      (hs : ∀ (i : Nat) (x : AV), l[i]? = some x → x.cells.length = es)
      (hc : ∀ (i : Nat) (x : AV) (j : Nat) (c : AV), l[i]? = some x → x.cells[j]? = some c → w.cell? ⟨b, o + (i * es + j), none⟩ = some (vs i j))
      (hr : ∀ (i : Nat) (x : AV) (j : Nat) (c : AV), l[i]? = some x → x.cells[j]? = some c → FRep w bad c (vs i j)) : FRep w bad (.lst l) (.slice (some ⟨b, o, none⟩) l.length c)
  | fptr (v : AV) (b o j : Nat) (vs : Nat → Value) (hb : ¬ bad b) (hl : b < w.heap.size)
      (hc : ∀ (k : Nat) (c : AV), v.cells[k]? = some c → w.cell? ⟨b, o + k, none⟩ = some (vs k))
      (hr : ∀ (k : Nat) (c : AV), v.cells[k]? = some c → FRep w bad c (vs k)) : FRep w bad (.fptr v j) (.pointer (some ⟨b, o + j, none⟩))
  | agg (cs : List AV) (vs : List Value) (hl : cs.length = vs.length) (h : ∀ (i : Nat) (c : AV) (v : Value), cs[i]? = some c → vs[i]? = some v → FRep w bad c v) : FRep w bad (.agg cs) (.agg vs.toArray)
  | tup (cs : List AV) (vs : List Value) (hl : cs.length = vs.length) (h : ∀ (i : Nat) (c : AV) (v : Value), cs[i]? = some c → vs[i]? = some v → FRep w bad c v) : FRep w bad (.tup cs) (.tuple vs.toArray)
  | fn (g : FuncId) (a b : List AV) (va vb : List Value) (hla : a.length = va.length) (hlb : b.length = vb.length)
      (ha : ∀ (i : Nat) (c : AV) (v : Value), a[i]? = some c → va[i]? = some v → FRep w bad c v) (hb : ∀ (i : Nat) (c : AV) (v : Value), b[i]? = some c → vb[i]? = some v → FRep w bad c v) : FRep w bad (.fn g a b) (.func (.func g) va.toArray vb.toArray)
  | nilf : FRep w bad .nilf .nilFunc
  | undef (v : Value) : FRep w bad .undef v

/-- Any value. D: the numbers of own memory that are gone. -/
inductive Rep (w : World) (bad : Nat → Prop) (D : Nat → Prop) (ρ : Rho) : AV → Value → Prop where
  | frz {v : AV} {c : Value} (h : FRep w (fun b => bad b ∨ own ρ b) v c) : Rep w bad D ρ v c
  | ptr {id i j b es cap : Nat} (h : ρ id = .real b es cap) : Rep w bad D ρ (.ptr id i j) (.pointer (some ⟨b, i * es + j, none⟩))
  | ptrD {id i j : Nat} (b o : Nat) (h : D id) : Rep w bad D ρ (.ptr id i j) (.pointer (some ⟨b, o, none⟩))
  | slc {id o n b es cap c : Nat} (h : ρ id = .real b es cap) (hc : o + c ≤ cap) (hn : n ≤ c) : Rep w bad D ρ (.slc id o n) (.slice (some ⟨b, o * es, none⟩) n c)
  | slcV {id : Nat} (a : Option Addr) (h : ρ id = .virt) : Rep w bad D ρ (.slc id 0 0) (.slice a 0 0)
  | slcD {id o n : Nat} (a : Option Addr) (c : Nat) (h : D id) (hn : n ≤ c) (ha : n ≠ 0 → a ≠ none) : Rep w bad D ρ (.slc id o n) (.slice a n c)
  | agg (cs : List AV) (vs : List Value) (hl : cs.length = vs.length) (h : ∀ (i : Nat) (c : AV) (v : Value), cs[i]? = some c → vs[i]? = some v → Rep w bad D ρ c v) : Rep w bad D ρ (.agg cs) (.agg vs.toArray)
  | tup (cs : List AV) (vs : List Value) (hl : cs.length = vs.length) (h : ∀ (i : Nat) (c : AV) (v : Value), cs[i]? = some c → vs[i]? = some v → Rep w bad D ρ c v) : Rep w bad D ρ (.tup cs) (.tuple vs.toArray)
  | fn (g : FuncId) (a b : List AV) (va vb : List Value) (hla : a.length = va.length) (hlb : b.length = vb.length)
      (ha : ∀ (i : Nat) (c : AV) (v : Value), a[i]? = some c → va[i]? = some v → Rep w bad D ρ c v) (hb : ∀ (i : Nat) (c : AV) (v : Value), b[i]? = some c → vb[i]? = some v → Rep w bad D ρ c v) : Rep w bad D ρ (.fn g a b) (.func (.func g) va.toArray vb.toArray)

/-- The block's cells are what it says. -/
structure BlkRel (w : World) (bad D : Nat → Prop) (ρ : Rho) (B : Nat) (k : Blk) (b es cap : Nat) : Prop where
  hes : k.e.es = es
  pos : 0 < es
  low : B ≤ b
  len : k.els.length ≤ cap
  ok : ∀ (i : Nat) (el : AV), k.els[i]? = some el → elOk k.e el = true
  mem : ∃ cur fz, w.heap[b]? = some (.cells cur k.e.tid fz) ∧ cur.size = cap * es ∧ (∀ j, j < cur.size → ¬ (fz.1 ≤ j ∧ j < fz.2)) ∧
    ∀ (i : Nat) (el : AV) (j : Nat) (c : AV), k.els[i]? = some el → el.cells[j]? = some c → ∃ v, cur[i * es + j]? = some v ∧ Rep w bad D ρ c v

structure HRel (w : World) (bad : Nat → Prop) (ρ : Rho) (B : Nat) (H : Heap) : Prop where
  real : ∀ id b es cap, ρ id = .real b es cap → ∃ k, H[id]? = some (some k) ∧ BlkRel w bad (fun i => H[i]? = some none) ρ B k b es cap
  virt : ∀ id, ρ id = .virt → ∃ k, H[id]? = some (some k) ∧ k.els = []
  inj : ∀ id id' b es cap es' cap', ρ id = .real b es cap → ρ id' = .real b es' cap' → id = id'

/-- One step of the world: what is not own stays. -/
structure Grow (ρ : Rho) (w w' : World) : Prop where
  os : w'.os = w.os
  tape : w'.tape = w.tape
  output : w'.output = w.output
  size : w.heap.size ≤ w'.heap.size
  block : ∀ b, b < w.heap.size → ¬ own ρ b → w'.heap[b]? = w.heap[b]?

theorem Grow.refl (ρ : Rho) (w : World) : Grow ρ w w := ⟨rfl, rfl, rfl, Nat.le_refl _, fun _ _ _ => rfl⟩

/-- Numbers of own memory go on: to what they were, to none, or anew. -/
structure RLe (w : World) (ρ ρ' : Rho) : Prop where
  keep : ∀ b, own ρ' b → own ρ b ∨ w.heap.size ≤ b

theorem Grow.trans {ρ ρ' : Rho} {w w' w'' : World} (h : Grow ρ w w') (r : RLe w ρ ρ') (k : Grow ρ' w' w'') : Grow ρ w w'' :=
  ⟨k.os.trans h.os, k.tape.trans h.tape, k.output.trans h.output, Nat.le_trans h.size k.size, fun b hb ho => (k.block b (Nat.lt_of_lt_of_le hb h.size) (fun hh => (r.keep b hh).elim ho (fun x => by omega))).trans (h.block b hb ho)⟩
theorem RLe.refl (w : World) (ρ : Rho) : RLe w ρ ρ := ⟨fun _ h => .inl h⟩
theorem RLe.trans {w w' : World} {ρ ρ' ρ'' : Rho} (h : RLe w ρ ρ') (hs : w.heap.size ≤ w'.heap.size) (k : RLe w' ρ' ρ'') : RLe w ρ ρ'' :=
  ⟨fun b hb => (k.keep b hb).elim (fun x => h.keep b x) (fun x => .inr (by omega))⟩

theorem cell_of_heap {w w' : World} {b o : Nat} (h : w'.heap[b]? = w.heap[b]?) : w'.cell? ⟨b, o, none⟩ = w.cell? ⟨b, o, none⟩ := by simp [World.cell?, h]

theorem FRep.mono {w w' : World} {bad bad' : Nat → Prop} {v : AV} {c : Value} (h : FRep w bad v c) (hs : w.heap.size ≤ w'.heap.size) (hw : ∀ b, b < w.heap.size → ¬ bad b → w'.heap[b]? = w.heap[b]?)
    (hb : ∀ b, b < w.heap.size → bad' b → bad b) : FRep w' bad' v c := by
  induction h with
  | int k n => exact .int k n
  | bool b => exact .bool b
  | str s => exact .str s
  | nilp => exact .nilp
  | znil => exact .znil
  | zsl a => exact .zsl a
  | lst0 a c => exact .lst0 a c
  | lst l b o es c vs hn he hb' hl hs' hc hr ih =>
    exact .lst l b o es c vs hn he (fun h => hb' (hb b hl h)) (Nat.lt_of_lt_of_le hl hs) hs' (fun i x j c hx hj => (cell_of_heap (hw b hl hb')).trans (hc i x j c hx hj)) (fun i x j c hx hj => ih i x j c hx hj)
  | fptr v b o j vs hb' hl hc hr ih =>
    exact .fptr v b o j vs (fun h => hb' (hb b hl h)) (Nat.lt_of_lt_of_le hl hs) (fun k c hk => (cell_of_heap (hw b hl hb')).trans (hc k c hk)) (fun k c hk => ih k c hk)
  | agg cs vs hl h ih => exact .agg cs vs hl fun i c v hc hv => ih i c v hc hv
  | tup cs vs hl h ih => exact .tup cs vs hl fun i c v hc hv => ih i c v hc hv
  | fn g a b va vb hla hlb ha hb iha ihb => exact .fn g a b va vb hla hlb (fun i c v hc hv => iha i c v hc hv) (fun i c v hc hv => ihb i c v hc hv)
  | nilf => exact .nilf
  | undef v => exact .undef v

/-- What a step of the world leaves: the numbers' places stay, or are gone. -/
structure Step (w w' : World) (D D' : Nat → Prop) (ρ ρ' : Rho) : Prop where
  grow : Grow ρ w w'
  rle : RLe w ρ ρ'
  dead : ∀ id, D id → D' id
  keep : ∀ id, ρ id ≠ .no → ρ' id = ρ id ∨ D' id

theorem Step.refl (w : World) (D : Nat → Prop) (ρ : Rho) : Step w w D D ρ ρ := ⟨.refl _ _, .refl _ _, fun _ h => h, fun _ _ => .inl rfl⟩
theorem Step.trans {w w' w'' : World} {D D' D'' : Nat → Prop} {ρ ρ' ρ'' : Rho} (h : Step w w' D D' ρ ρ') (k : Step w' w'' D' D'' ρ' ρ'') : Step w w'' D D'' ρ ρ'' :=
  ⟨h.grow.trans h.rle k.grow, h.rle.trans h.grow.size k.rle, fun id hd => k.dead id (h.dead id hd), fun id hn => (h.keep id hn).elim (fun e => (k.keep id (e ▸ hn)).imp (fun x => x.trans e) (fun x => x)) (fun d => .inr (k.dead id d))⟩

theorem Rep.step {w w' : World} {bad D D' : Nat → Prop} {ρ ρ' : Rho} (s : Step w w' D D' ρ ρ') {v : AV} {c : Value} (h : Rep w bad D ρ v c) : Rep w' bad D' ρ' v c := by
  induction h with
  | frz h => exact .frz (h.mono s.grow.size (fun b hb hn => s.grow.block b hb (fun ho => hn (.inr ho))) (fun b hb hx => hx.imp (fun x => x) (fun ho => (s.rle.keep b ho).elim (fun x => x) (fun x => by omega))))
  | ptr h =>
    rename_i id i j b es cap
    rcases s.keep id (by simp [h]) with e | d
    · exact .ptr (e.trans h)
    · exact .ptrD _ _ d
  | ptrD b o h => exact .ptrD b o (s.dead _ h)
  | slc h hc hn =>
    rename_i id o n b es cap c
    rcases s.keep id (by simp [h]) with e | d
    · exact .slc (e.trans h) hc hn
    · exact .slcD _ _ d hn (fun _ => by simp)
  | slcV a h =>
    rename_i id
    rcases s.keep id (by simp [h]) with e | d
    · exact .slcV a (e.trans h)
    · exact .slcD _ _ d (Nat.le_refl _) (fun h => absurd rfl h)
  | slcD a c h hn ha => exact .slcD a c (s.dead _ h) hn ha
  | agg cs vs hl h ih => exact .agg cs vs hl fun i c v hc hv => ih i c v hc hv
  | tup cs vs hl h ih => exact .tup cs vs hl fun i c v hc hv => ih i c v hc hv
  | fn g a b va vb hla hlb ha hb iha ihb => exact .fn g a b va vb hla hlb (fun i c v hc hv => iha i c v hc hv) (fun i c v hc hv => ihb i c v hc hv)

/-! ### Constants -/
theorem optAll_spec {α β : Type} {f : α → Option β} : ∀ {l : List α} {m : List β}, optAll f l = some m → m.length = l.length ∧ ∀ (i : Nat) (a : α), l[i]? = some a → ∃ b, m[i]? = some b ∧ f a = some b
  | [], m, h => by simp [optAll] at h; subst h; simp
  | a :: l, m, h => by
    simp only [optAll] at h
    cases hf : f a with
    | none => simp [hf] at h
    | some b =>
      cases hl : optAll f l with
      | none => simp [hf, hl] at h
      | some m' =>
        simp [hf, hl] at h
        subst h
        obtain ⟨h1, h2⟩ := optAll_spec hl
        refine ⟨by simp [h1], fun i x hx => ?_⟩
        cases i with
        | zero => simp at hx; subst hx; exact ⟨b, rfl, hf⟩
        | succ i => exact h2 i x (by simpa using hx)

theorem cvS_rep {w : World} {bad : Nat → Prop} {v : Value} {x : AV} (h : cvS v = some x) : FRep w bad x v ∧ isSc x = true ∧ v.oneCell' = true := by
  unfold cvS at h
  split at h <;> first | (obtain rfl := Option.some.inj h) | (cases h; done)
  · exact ⟨.int _ _, rfl, rfl⟩
  · exact ⟨.bool _, rfl, rfl⟩
  · refine ⟨?_, rfl, rfl⟩
    rename_i s
    have : (⟨s.data.toList.toArray⟩ : ByteArray) = s := by simp
    conv => rhs; rw [← this]
    exact .str _
  · exact ⟨.nilp, rfl, rfl⟩
  · exact ⟨.znil, rfl, rfl⟩
  · exact ⟨.nilf, rfl, rfl⟩
  · exact ⟨.fn _ [] [] [] [] rfl rfl (by simp) (by simp), rfl, rfl⟩

theorem cv_rep {w : World} {bad : Nat → Prop} {v : Value} {x : AV} (h : cv v = some x) : FRep w bad x v := by
  unfold cv at h
  split at h
  · rename_i cs
    cases hm : optAll cvS cs with
    | none => simp [hm] at h
    | some l =>
      simp [hm] at h
      subst h
      obtain ⟨h1, h2⟩ := optAll_spec hm
      refine .agg l cs h1 fun i c v hc hv => ?_
      obtain ⟨b, hb, he⟩ := h2 i v hv
      rw [hb] at hc
      cases hc
      exact (cvS_rep he).1
  · exact (cvS_rep h).1

/-- The cells of a value. -/
theorem FRep.cells {w : World} {bad : Nat → Prop} {x : AV} {v : Value} (h : FRep w bad x v) (hu : (∃ cs, x = .agg cs) ∨ isSc x = true) :
    x.cells.length = v.cells.size ∧ ∀ (i : Nat) (c : AV) (u : Value), x.cells[i]? = some c → v.cells[i]? = some u → FRep w bad c u := by
  cases h with
  | agg cs vs hl h => exact ⟨by simpa [AV.cells, Value.cells] using hl, fun i c u hc hv => h i c u (by simpa [AV.cells] using hc) (by simpa [Value.cells] using hv)⟩
  | tup cs vs hl h => simp [isSc] at hu
  | undef v => simp [isSc] at hu
  | _ =>
    refine ⟨rfl, fun i c u hc hv => ?_⟩
    cases i with
    | zero =>
      simp only [AV.cells, List.getElem?_cons_zero, Option.some.injEq] at hc
      simp only [Value.cells, List.getElem?_toArray, List.getElem?_cons_zero, Option.some.injEq] at hv
      subst hc; subst hv
      first | exact .int _ _ | exact .bool _ | exact .str _ | exact .nilp | exact .znil | exact .zsl _ | exact .lst0 _ _ | (constructor <;> assumption) | exact .nilf
    | succ i => simp [AV.cells] at hc
end Go.Proofs.Ytbcbaidnamebkaa.AE
