/- Calls of a program's functions: what the small evaluator says comes of them. No conditions. -/
import Derived.Test.YtbcbaidnamebkaaAEsnd12
namespace Go.Proofs.Ytbcbaidnamebkaa.AE
set_option linter.unusedVariables false
set_option linter.unusedSimpArgs false
set_option linter.constructorNameAsVariable false
open Go Go.RowKit

/-- A function without a text, told by an own rule, at whole numbers alone. -/
def ExtOK (P : Program) (g : FuncId) (e : List AV → Option AV) : Prop :=
  ∀ args v, e args = some v → ∃ (ks : List (IntKind × Int)), args = ks.map (fun p => AV.int p.1 p.2) ∧ ∃ cv : Value, (∀ w, (callFunc g (ks.map fun p => Value.int p.1 p.2).toArray).run P w = .ok (.value cv) w) ∧ ∀ w bad, FRep w bad v cv

structure ModOK (P : Program) (M : Mod) : Prop where
  code : ∀ g fn, M.code g = some fn → cFn P g = some fn
  ext : ∀ g e, M.ext g = some e → ExtOK P g e

/-- What a call with what it gets alone comes to. -/
def PureOK (P : Program) (g : FuncId) (args : List AV) (v : AV) : Prop :=
  ∀ (w : World) (bad : Nat → Prop) (vs : List Value), (∀ b, bad b → b < w.heap.size) → args.length = vs.length → (∀ (i : Nat) (c : AV) (u : Value), args[i]? = some c → vs[i]? = some u → FRep w bad c u) →
    Calls P g vs.toArray w fun e w' => ∃ cv, e = .returned cv ∧ FRep w' bad v cv ∧ Below w.heap.size w w'

section
variable {P : Program} {w w0 : World} {bad D D0 : Nat → Prop} {ρ ρ0 : Rho} {a : Act} {B : Nat} {s : St} {M : Mod}

theorem noId_frz : ∀ (k : Nat) {v : AV} {cv : Value}, noId k v = true → Rep w bad D ρ v cv → FRep w (fun b => bad b ∨ own ρ b) v cv
  | 0, v, cv, h, _ => by simp [noId] at h
  | k + 1, v, cv, h, hv => by
    cases hv with
    | frz h => exact h
    | ptr _ => simp [noId] at h
    | ptrD _ _ _ => simp [noId] at h
    | slc _ _ _ => simp [noId] at h
    | slcV _ _ => simp [noId] at h
    | slcD _ _ _ _ _ => simp [noId] at h
    | agg cs vs hl hp =>
      simp only [noId, List.all_eq_true] at h
      exact .agg cs vs hl fun i c u hc hu => noId_frz k (h c (List.mem_of_getElem? hc)) (hp i c u hc hu)
    | tup cs vs hl hp =>
      simp only [noId, List.all_eq_true] at h
      exact .tup cs vs hl fun i c u hc hu => noId_frz k (h c (List.mem_of_getElem? hc)) (hp i c u hc hu)
    | fn g p q va vb l1 l2 r1 r2 =>
      simp only [noId, Bool.and_eq_true, List.all_eq_true] at h
      exact .fn g p q va vb l1 l2 (fun i c u hc hu => noId_frz k (h.1 c (List.mem_of_getElem? hc)) (r1 i c u hc hu)) (fun i c u hc hu => noId_frz k (h.2 c (List.mem_of_getElem? hc)) (r2 i c u hc hu))

theorem noMem_any {w2 : World} {bad2 : Nat → Prop} : ∀ (k : Nat) {v : AV} {cv : Value}, noMem k v = true → FRep w bad v cv → FRep w2 bad2 v cv
  | 0, v, cv, h, _ => by simp [noMem] at h
  | k + 1, v, cv, h, hv => by
    cases hv with
    | int a b => exact .int _ _
    | bool b => exact .bool _
    | str s => exact .str _
    | nilp => exact .nilp
    | znil => exact .znil
    | zsl a => exact .zsl a
    | lst0 a c => exact .lst0 a c
    | lst l b o es c vs hn he hb hl hs hc hr =>
      simp only [noMem, List.isEmpty_iff] at h
      subst h
      exact .lst0 _ _
    | fptr => simp [noMem] at h
    | nilf => exact .nilf
    | undef => exact .undef _
    | agg cs vs hl hp =>
      simp only [noMem, List.all_eq_true] at h
      exact .agg cs vs hl fun i c u hc hu => noMem_any k (h c (List.mem_of_getElem? hc)) (hp i c u hc hu)
    | tup cs vs hl hp =>
      simp only [noMem, List.all_eq_true] at h
      exact .tup cs vs hl fun i c u hc hu => noMem_any k (h c (List.mem_of_getElem? hc)) (hp i c u hc hu)
    | fn g p q va vb l1 l2 r1 r2 =>
      simp only [noMem, Bool.and_eq_true, List.all_eq_true] at h
      exact .fn g p q va vb l1 l2 (fun i c u hc hu => noMem_any k (h.1 c (List.mem_of_getElem? hc)) (r1 i c u hc hu)) (fun i c u hc hu => noMem_any k (h.2 c (List.mem_of_getElem? hc)) (r2 i c u hc hu))

theorem enter_run {g : FuncId} {fn : AFn} (h : cFn P g = some fn) (vs : Array Value) (w : World) : (callFunc g vs).run P w = .ok (.enter g vs) w := by
  unfold cFn at h
  split at h <;> (try (cases h; done))
  rename_i f hf
  split at h <;> (try (cases h; done))
  rename_i c hb
  split at h <;> (try (cases h; done))
  rename_i hn
  have hn' : (f.name == "runtime.NumGoroutine") = false := by simpa using hn
  unfold callFunc
  simp only [Sem.run_bind, run_program, Result.andThen_ok, hf]
  simp [hn', hb]

/-- A step that leaves own memory as it is. -/
theorem below_step {w' : World} {H : Heap} (hR : HRel w bad ρ B H) (hB : Below w.heap.size w w') : Step w w' (dead H) (dead H) ρ ρ ∧ HRel w' bad ρ B H := by
  have hst : Step w w' (dead H) (dead H) ρ ρ := ⟨⟨hB.os, hB.tape, hB.output, hB.size, fun b hb _ => hB.block b hb⟩, RLe.refl _ _, fun _ h => h, fun _ _ => .inl rfl⟩
  refine ⟨hst, ?_, hR.virt, hR.inj⟩
  intro id b es cap h
  obtain ⟨k, hk, hbr⟩ := hR.real id b es cap h
  exact ⟨k, hk, hbr.step hst (hB.block b (own_lt hR ⟨id, es, cap, h⟩).1)⟩

/-- Calls that leave own memory as it is, told rightly: by a heap that agrees where it matters. -/
def PCallOK (P : Program) (call : CallF) : Prop :=
  ∀ g args H v H', call g args H = some (v, H') → H' = H ∧ ∀ (w : World) (bad : Nat → Prop) (ρ : Rho) (B : Nat) (vs : List Value) (G : Heap), HRel w bad ρ B G → B ≤ w.heap.size → (∀ b, bad b → b < B) →
    (args.all (noId DEPTH) = true ∨ ((∀ id b, hget H id = some b → ρ id ≠ .no → hget G id = some b) ∧ ∀ id, dead G id → hget H id = none)) → args.length = vs.length →
    (∀ (i : Nat) (c : AV) (u : Value), args[i]? = some c → vs[i]? = some u → Rep w bad (dead G) ρ c u) →
    CallRes P g vs.toArray w fun cv w' => Below w.heap.size w w' ∧ Rep w' bad (dead G) ρ v cv

theorem PCallOK.call {call : CallF} (h : PCallOK P call) : CallOK P call := by
  intro g args H v H' hc w bad ρ B vs hR hB hbad hl hp
  obtain ⟨rfl, h2⟩ := h g args H v H' hc
  have := h2 w bad ρ B vs H' hR hB hbad (.inr ⟨fun id b hb _ => hb, fun id hd => by simp only [dead] at hd; simp [hget, hd]⟩) hl hp
  rcases this with ⟨cv, h1, hbw, hrep⟩ | ⟨h1, h3⟩
  · obtain ⟨hst, hR'⟩ := below_step hR hbw
    exact .inl ⟨cv, h1, ρ, hst, hR', hrep⟩
  · refine .inr ⟨h1, h3.mono ?_⟩
    rintro e w' ⟨cv, rfl, hbw, hrep⟩
    obtain ⟨hst, hR'⟩ := below_step hR hbw
    exact ⟨cv, rfl, ρ, hst, hR', hrep⟩

theorem pureCall_ok {pc : FuncId → List AV → Option AV} (hpc : ∀ g args v, pc g args = some v → PureOK P g args v) (hent : ∀ g args v, pc g args = some v → ∃ fn, cFn P g = some fn) : PCallOK P (pureCall pc) := by
  intro g args H v H' h
  unfold pureCall at h
  split at h
  · rename_i hno
    split at h <;> (try (cases h; done))
    rename_i r hr
    cases h
    refine ⟨rfl, fun w bad ρ B vs G hR hB hbad _ hl hp => ?_⟩
    obtain ⟨fn, hfn⟩ := hent _ _ _ hr
    refine .inr ⟨enter_run hfn _ _, ?_⟩
    refine (hpc _ _ _ hr w (fun b => bad b ∨ own ρ b) vs (fun b hb => hb.elim (fun x => Nat.lt_of_lt_of_le (hbad b x) hB) (fun x => (own_lt hR x).1)) hl (fun i c u hc hu => noId_frz DEPTH (List.all_eq_true.mp hno c (List.mem_of_getElem? hc)) (hp i c u hc hu))).mono ?_
    rintro e w' ⟨cv, rfl, hf, hbw⟩
    exact ⟨cv, rfl, hbw, .frz hf⟩
  · rename_i hno
    split at h <;> (try (cases h; done))
    rename_i r hr
    split at h <;> (try (cases h; done))
    rename_i hnm
    cases h
    refine ⟨rfl, fun w bad ρ B vs G hR hB hbad hag hl hp => ?_⟩
    obtain ⟨hag1, hag2⟩ := hag.resolve_left hno
    obtain ⟨fn, hfn⟩ := hent _ _ _ hr
    refine .inr ⟨enter_run hfn _ _, ?_⟩
    refine (hpc _ _ _ hr w bad vs (fun b hb => Nat.lt_of_lt_of_le (hbad b hb) hB) (by simpa using hl) (fun i c u hc hu => by
      rw [List.getElem?_map] at hc
      obtain ⟨c', hc', rfl⟩ := Option.map_eq_some_iff.mp hc
      exact snap_rep hbad hR hag1 hag2 DEPTH (hp i c' u hc' hu))).mono ?_
    rintro e w' ⟨cv, rfl, hf, hbw⟩
    exact ⟨cv, rfl, hbw, .frz (noMem_any DEPTH hnm hf)⟩

theorem extCall_ok {g : FuncId} {e : List AV → Option AV} (he : ExtOK P g e) {args : List AV} {H H' : Heap} {v : AV} (h : extCall e g args H = some (v, H')) : H' = H ∧ ∀ (w : World) (bad : Nat → Prop) (ρ : Rho) (vs : List Value) (G : Heap), args.length = vs.length →
    (∀ (i : Nat) (c : AV) (u : Value), args[i]? = some c → vs[i]? = some u → Rep w bad (dead G) ρ c u) → CallRes P g vs.toArray w fun cv w' => w' = w ∧ Rep w' bad (dead G) ρ v cv := by
  unfold extCall at h
  split at h <;> (try (cases h; done))
  rename_i r hr
  cases h
  refine ⟨rfl, fun w bad ρ vs G hl hp => ?_⟩
  obtain ⟨ks, rfl, cv, h1, h2⟩ := he _ _ hr
  have : vs = ks.map fun p => Value.int p.1 p.2 := by
    apply List.ext_getElem?
    intro i
    rcases Nat.lt_or_ge i ks.length with hlt | hge
    · have hvl : i < vs.length := by simp at hl; omega
      have := hp i (.int ks[i].1 ks[i].2) vs[i] (by simp [hlt]) (List.getElem?_eq_getElem hvl)
      rw [List.getElem?_eq_getElem hvl, rep_int this]
      simp [hlt]
    · rw [List.getElem?_eq_none (by simp at hl; omega), List.getElem?_eq_none (by simp; omega)]
  subst this
  exact .inl ⟨cv, h1 w, rfl, .frz (h2 _ _)⟩

theorem callP_ok (hM : ModOK P M) {pc : FuncId → List AV → Option AV} (hpc : ∀ g args v, pc g args = some v → PureOK P g args v) (hent : ∀ g args v, pc g args = some v → ∃ fn, cFn P g = some fn) : PCallOK P (callP M pc) := by
  intro g args H v H' h
  unfold callP at h
  split at h
  · rename_i e he
    obtain ⟨q1, q2⟩ := extCall_ok (hM.ext g e he) h
    refine ⟨q1, fun w bad ρ B vs G hR hB hbad hag hl hp => ?_⟩
    rcases q2 w bad ρ vs G hl hp with ⟨cv, h1, -, hrep⟩ | ⟨h1, h3⟩
    · exact .inl ⟨cv, h1, Below.refl _ _, hrep⟩
    · refine .inr ⟨h1, h3.mono ?_⟩
      rintro e w' ⟨cv, rfl, rfl, hrep⟩
      exact ⟨cv, rfl, Below.refl _ _, hrep⟩
  · split at h
    · cases h
    · exact pureCall_ok hpc hent g args H v H' h

/-- Regions that draw their order, where calls leave own memory as it is. -/
def DrawLaw (P : Program) : Prop := ∀ call : CallF, PCallOK P call → DrawOK P call

theorem callI_ok (hM : ModOK P M) (hD : DrawLaw P) {pc : FuncId → List AV → Option AV} (hpc : ∀ g args v, pc g args = some v → PureOK P g args v) (hent : ∀ g args v, pc g args = some v → ∃ fn, cFn P g = some fn) :
    ∀ n, CallOK P (callI M pc n)
  | 0 => (callP_ok hM hpc hent).call
  | n + 1 => by
    have q1 := callP_ok hM hpc hent
    have ih := callI_ok hM hD hpc hent n
    intro g args H v H' h w bad ρ B vs hR hB hbad hl hp
    simp only [callI] at h
    split at h
    · rename_i e he
      obtain ⟨r1, r2⟩ := extCall_ok (hM.ext g e he) h
      subst r1
      rcases r2 w bad ρ vs H' hl hp with ⟨cv, h1, -, hrep⟩ | ⟨h1, h3⟩
      · exact .inl ⟨cv, h1, ρ, Step.refl _ _ _, hR, hrep⟩
      · refine .inr ⟨h1, h3.mono ?_⟩
        rintro e w' ⟨cv, rfl, rfl, hrep⟩
        exact ⟨cv, rfl, ρ, Step.refl _ _ _, hR, hrep⟩
    · split at h
      · split at h <;> (try (cases h; done))
        rename_i fn hfn
        have hc := hM.code g fn hfn
        exact .inr ⟨enter_run hc _ _, runFn_sound ih (hD _ q1) hbad hc h hR hB hl hp⟩
      · exact (pureCall_ok hpc hent).call g args H v H' h w bad ρ B vs hR hB hbad hl hp

theorem pcall_ent (hM : ModOK P M) : ∀ (d : Nat) g args v, pcall M d g args = some v → ∃ fn, cFn P g = some fn
  | 0, g, args, v, h => by simp [pcall] at h
  | d + 1, g, args, v, h => by
    simp only [pcall] at h
    split at h <;> (try (cases h; done))
    rename_i fn hfn
    exact ⟨fn, hM.code g fn hfn⟩

/-- THE LAW OF THE SMALL EVALUATOR: what it says of a function is what the function comes to. -/
theorem pcall_sound (hM : ModOK P M) (hD : DrawLaw P) : ∀ (d : Nat) g args v, pcall M d g args = some v → PureOK P g args v
  | 0, g, args, v, h => by simp [pcall] at h
  | d + 1, g, args, v, h => by
    have ih := pcall_sound hM hD d
    have hent := pcall_ent hM d
    have q1 := callP_ok hM ih hent
    simp only [pcall] at h
    split at h <;> (try (cases h; done))
    rename_i fn hfn
    split at h <;> (try (cases h; done))
    rename_i r H' hr
    cases h
    intro w bad vs hbad hl hp
    have hR : HRel w bad (fun _ => .no) w.heap.size ([] : Heap) := ⟨(fun _ _ _ _ h => by cases h), (fun _ h => by cases h), (fun _ _ _ _ _ _ _ h => by cases h)⟩
    refine (runFn_sound (callI_ok hM hD ih hent IDEPTH) (hD _ q1) hbad (hM.code g fn hfn) hr hR (Nat.le_refl _) hl (fun i c u hc hu => .frz ((hp i c u hc hu).mono (Nat.le_refl _) (fun _ _ _ => rfl) (fun b _ hb => hb.elim (fun x => x) (fun ⟨_, _, _, x⟩ => by cases x))))).mono ?_
    rintro e w' ⟨cv, rfl, ρ', st, hR', hrep⟩
    refine ⟨cv, rfl, snap_rep hbad hR' (fun id b hb _ => hb) (fun id hd => by simp only [dead] at hd; simp [hget, hd]) DEPTH hrep, st.grow.os, st.grow.tape, st.grow.output, st.grow.size, fun b hb => st.grow.block b hb (fun ⟨_, _, _, x⟩ => by cases x)⟩
end
end Go.Proofs.Ytbcbaidnamebkaa.AE
