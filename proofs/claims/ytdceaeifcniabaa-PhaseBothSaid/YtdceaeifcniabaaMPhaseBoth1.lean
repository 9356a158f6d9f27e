/- The texts that the law PhaseBoth needs, part 1. No conditions. -/
import Derived.Orders
import Derived.Laws.LoneSync
import Derived.Test.YtdceaeifcniabaaMPhaseBoth0
namespace Go.Proofs.Ytdceaeifcniabaa.AE
set_option linter.unusedVariables false
set_option linter.unusedSimpArgs false
set_option linter.constructorNameAsVariable false
open Go Go.RowKit

section
variable {P : Program} {w w0 : World} {bad D0 : Nat → Prop} {ρ ρ0 : Rho} {a : Act} {B : Nat} {s : St}

theorem resAll_run : ∀ (rs : List ResultVar) (rv : List RV) (vs : List AV), optAll (cRV P) rs = some rv → resAll s rv = some vs → Sim w0 D0 ρ0 bad B ρ s a w →
    ∃ us : List Value, (rs.mapM fun
      | .tmp t => pure (a.tmps.getD t undef)
      | .cell x t => do loadVar t (← asAddr (a.tmps.getD x undef)) : Sem (List Value)).run P w = .ok us w ∧ vs.length = us.length ∧ ∀ (i : Nat) (c : AV) (u : Value), vs[i]? = some c → us[i]? = some u → Rep w bad (dead s.H) ρ c u
  | [], rv, vs, hc, hr, h => by
    simp only [optAll, Option.some.injEq] at hc
    subst hc
    simp only [resAll, Option.some.injEq] at hr
    subst hr
    exact ⟨[], rfl, rfl, by simp⟩
  | r :: rs, rv, vs, hc, hr, h => by
    simp only [optAll] at hc
    split at hc <;> (try (cases hc; done))
    rename_i r' hr'
    split at hc <;> (try (cases hc; done))
    rename_i rv' hrv
    cases hc
    simp only [resAll] at hr
    split at hr <;> (try (cases hr; done))
    rename_i v hv
    split at hr <;> (try (cases hr; done))
    rename_i vs' hvs
    cases hr
    obtain ⟨us, h1, h2, h3⟩ := resAll_run rs rv' vs' hrv hvs h
    have one : ∃ u, ((match r with
      | .tmp t => pure (a.tmps.getD t undef)
      | .cell x t => do loadVar t (← asAddr (a.tmps.getD x undef)) : Sem Value)).run P w = .ok u w ∧ Rep w bad (dead s.H) ρ v u := by
      cases r with
      | tmp t =>
        simp only [cRV, Option.some.injEq] at hr'
        subst hr'
        simp only [resOf, Option.some.injEq] at hv
        subst hv
        exact ⟨_, rfl, evO_rep h [.tmp t] (.tmp t) (by simp) (.t t) rfl⟩
      | cell x t =>
        simp only [cRV] at hr'
        split at hr' <;> (try (cases hr'; done))
        rename_i i ag hi ha
        cases hr'
        simp only [resOf] at hv
        have hx := evO_rep h [.tmp x] (.tmp x) (by simp) (.t x) rfl
        obtain ⟨u, hu, hru⟩ := aLoad_rep hi ha hv h.heap (fun _ => Iff.rfl) (fun _ _ _ _ _ hb _ => hb) (dead_get s.H) hx
        refine ⟨u, ?_, hru⟩
        simp only [Act.eval] at hu hx
        simp only [Sem.run_bind]
        generalize a.tmps.getD x undef = V at *
        generalize evO s.env (.t x) = X at *
        have : ∃ ad, V = .pointer (some ad) := by
          simp only [Instr.loadAt, Sem.run_bind] at hu
          cases V <;> simp [Instr.sureAddr, Result.andThen] at hu
          rename_i ad
          cases ad <;> simp at hu
          exact ⟨_, rfl⟩
        obtain ⟨ad, rfl⟩ := this
        simp only [Instr.loadAt, Instr.sureAddr, Sem.run_bind, Sem.run_pure, Result.andThen_ok] at hu
        simp only [asAddr, Sem.run_pure, Result.andThen_ok]
        exact hu
    obtain ⟨u, hu, hru⟩ := one
    refine ⟨u :: us, ?_, by simp [h2], fun i c z hc hz => ?_⟩
    · simp only [List.mapM_cons, Sem.run_bind, hu, Result.andThen_ok, h1, Sem.run_pure]
    · cases i with
      | zero => simp at hc hz; subst hc; subst hz; exact hru
      | succ i => exact h3 i c z (by simpa using hc) (by simpa using hz)

theorem results_run {fn : Func} {rv : List RV} {vs : List AV} (hc : optAll (cRV P) fn.results.toList = some rv) (hr : resAll s rv = some vs) (h : Sim w0 D0 ρ0 bad B ρ s a w) : ∃ cv, (results fn a.tmps).run P w = .ok cv w ∧ Rep w bad (dead s.H) ρ (packRes vs) cv := by
  obtain ⟨us, h1, h2, h3⟩ := resAll_run fn.results.toList rv vs hc hr h
  have hm : (fn.results.mapM fun
      | .tmp t => pure (a.tmps.getD t undef)
      | .cell x t => do loadVar t (← asAddr (a.tmps.getD x undef)) : Sem (Array Value)).run P w = .ok us.toArray w := by
    rw [Array.mapM_eq_mapM_toList, Sem.run_map, h1]; rfl
  have e : results fn a.tmps = ((fn.results.mapM fun
      | .tmp t => pure (a.tmps.getD t undef)
      | .cell x t => do loadVar t (← asAddr (a.tmps.getD x undef)) : Sem (Array Value)) >>= fun vs => pure (if h : vs.size = 1 then vs[0] else .tuple vs)) := rfl
  rw [e]
  simp only [Sem.run_bind, hm, Result.andThen_ok, Sem.run_pure]
  by_cases hl : us.length = 1
  · obtain ⟨u, rfl⟩ := List.length_eq_one_iff.mp hl
    obtain ⟨v, rfl⟩ := List.length_eq_one_iff.mp (h2.trans hl)
    exact ⟨u, by simp, h3 0 v u rfl rfl⟩
  · refine ⟨.tuple us.toArray, by simp [hl], ?_⟩
    have : packRes vs = .tup vs := by
      cases vs with
      | nil => rfl
      | cons v vs =>
        cases vs with
        | nil => simp at h2; omega
        | cons => rfl
    rw [this]
    exact .tup vs us h2 h3

/-- A function's own frame. -/
theorem runFn_sound {call callP : CallF} {fu : Nat} {g : FuncId} {fn : AFn} {args : List AV} {H H' : Heap} {v : AV} {vs : List Value} (hcall : CallOK P call) (hdraw : DrawOK P call callP) (hbad : ∀ b, bad b → b < B) {sq : Bool} (hfn : cFnQ P sq g = some fn) (hr : runFn call callP fu fn args H = some (v, H'))
    (hR : HRel w bad ρ B H) (hB : B ≤ w.heap.size) (hl : args.length = vs.length) (hargs : ∀ (i : Nat) (c : AV) (u : Value), args[i]? = some c → vs[i]? = some u → Rep w bad (dead H) ρ c u) :
    Calls P g vs.toArray w fun e w' => ∃ cv, e = .returned cv ∧ ∃ ρ', Step w w' (dead H) (dead H') ρ ρ' ∧ HRel w' bad ρ' B H' ∧ Rep w' bad (dead H') ρ' v cv := by
  unfold cFnQ at hfn
  split at hfn <;> (try (cases hfn; done))
  rename_i f hf
  split at hfn <;> (try (cases hfn; done))
  rename_i c hb
  split at hfn <;> (try (cases hfn; done))
  split at hfn <;> (try (cases hfn; done))
  rename_i ic rv hic hrv
  cases hfn
  unfold runFn at hr
  simp only at hr
  refine calls_of_wp hf hb ?_
  have h0 : Sim w (dead H) ρ bad B ρ ⟨args ++ List.replicate (f.ntmps - args.length) (.tup []), H⟩ { tmps := vs.toArray ++ Array.replicate (f.ntmps - vs.toArray.size) undef, defers := [] } w := by
    refine ⟨rfl, by simp [hl], fun t ht => ?_, hR, hB, Step.refl _ _ _⟩
    rw [List.getD_eq_getElem?_getD, Array.getD_eq_getD_getElem?]
    by_cases hlt : t < args.length
    · rw [List.getElem?_append_left hlt, Array.getElem?_append_left (by simp; omega)]
      rw [List.getElem?_eq_getElem hlt]
      have hlt2 : t < vs.length := by omega
      rw [List.getElem?_toArray, List.getElem?_eq_getElem hlt2]
      exact hargs t _ _ (List.getElem?_eq_getElem hlt) (List.getElem?_eq_getElem hlt2)
    · simp only [List.length_append, List.length_replicate] at ht
      rw [List.getElem?_append_right (by omega), Array.getElem?_append_right (by simp; omega)]
      rw [List.getElem?_replicate, if_pos (by omega)]
      simp only [List.size_toArray, Array.getElem?_replicate]
      rw [if_pos (by omega)]
      exact .frz (.tup [] [] rfl (by simp))
  split at hr
  · rename_i s1 h1
    split at hr <;> (try (cases hr; done))
    rename_i vs' hvs
    cases hr
    refine exec_sound hcall hdraw hbad sq c ic hic ρ _ .normal s1 _ w _ h1 h0 fun a' w' ρ' h' => ?_
    obtain ⟨cv, r1, r2⟩ := results_run hrv hvs h'
    exact ⟨h'.defers, cv, r1, cv, rfl, ρ', h'.st, h'.heap, r2⟩
  · rename_i s1 h1
    split at hr <;> (try (cases hr; done))
    rename_i vs' hvs
    cases hr
    refine exec_sound hcall hdraw hbad sq c ic hic ρ _ .ret s1 _ w _ h1 h0 fun a' w' ρ' h' => ?_
    obtain ⟨cv, r1, r2⟩ := results_run hrv hvs h'
    exact ⟨h'.defers, cv, r1, cv, rfl, ρ', h'.st, h'.heap, r2⟩
  · cases hr

/-! ### What is handed on alone -/
theorem snap_sc {k : Nat} {H : Heap} {v : AV} (h : isSc v = true) : ∀ cs, snap k H v ≠ .agg cs := by
  intro cs
  cases k with
  | zero => simp [snap]
  | succ k =>
    cases v <;> simp [isSc] at h <;> simp only [snap] <;> (try simp)
    · split <;> (try split) <;> (try split) <;> simp
    · split <;> (try split) <;> (try split) <;> simp
theorem snap_len {k : Nat} {H : Heap} {v : AV} (h : isSc v = true ∨ ∃ cs, v = .agg cs) : (snap (k + 1) H v).cells.length = v.cells.length := by
  rcases h with h | ⟨cs, rfl⟩
  · have h1 : v.cells = [v] := by cases v <;> first | rfl | (simp [isSc] at h; done)
    have h2 := snap_sc (k := k + 1) (H := H) h
    have : (snap (k + 1) H v).cells = [snap (k + 1) H v] := by
      generalize snap (k + 1) H v = x at *
      cases x <;> first | rfl | exact absurd rfl (h2 _)
    rw [this, h1]; rfl
  · simp [snap, AV.cells]
theorem snap_cells {k : Nat} {H : Heap} {v c : AV} {q : Nat} (h : isSc v = true ∨ ∃ cs, v = .agg cs) (hq : (snap (k + 1) H v).cells[q]? = some c) : ∃ c', v.cells[q]? = some c' ∧ (c = snap k H c' ∨ c = snap (k + 1) H c') := by
  rcases h with h | ⟨cs, rfl⟩
  · have h1 : v.cells = [v] := by cases v <;> first | rfl | (simp [isSc] at h; done)
    have h2 := snap_sc (k := k + 1) (H := H) h
    have h3 : (snap (k + 1) H v).cells = [snap (k + 1) H v] := by
      generalize snap (k + 1) H v = x at *
      cases x <;> first | rfl | exact absurd rfl (h2 _)
    rw [h3] at hq
    rw [h1]
    cases q with
    | zero => simp at hq; exact ⟨v, rfl, .inr hq.symm⟩
    | succ q => simp at hq
  · simp only [snap, AV.cells, List.getElem?_map] at hq ⊢
    obtain ⟨c', hc', rfl⟩ := Option.map_eq_some_iff.mp hq
    exact ⟨c', hc', .inl rfl⟩
theorem snap_rep (hbad : ∀ b, bad b → b < B) {H G : Heap} (hR : HRel w bad ρ B G) (hsame : ∀ id b, hget H id = some b → ρ id ≠ .no → hget G id = some b) (hdead : ∀ id, dead G id → hget H id = none) : ∀ (k : Nat) {v : AV} {cv : Value}, Rep w bad (dead G) ρ v cv → FRep w bad (snap k H v) cv
  | 0, v, cv, _ => .undef _
  | k + 1, v, cv, hv => by
    have lists : ∀ (cs : List AV) (us : List Value), (∀ (i : Nat) (c : AV) (u : Value), cs[i]? = some c → us[i]? = some u → Rep w bad (dead G) ρ c u) →
        ∀ (i : Nat) (c : AV) (u : Value), (cs.map (snap k H))[i]? = some c → us[i]? = some u → FRep w bad c u := by
      intro cs us h i c u hc hu
      rw [List.getElem?_map] at hc
      obtain ⟨c', hc', rfl⟩ := Option.map_eq_some_iff.mp hc
      exact snap_rep hbad hR hsame hdead k (h i c' u hc' hu)
    have down : ∀ {x : AV} {c : Value}, FRep w (fun b => bad b ∨ own ρ b) x c → FRep w bad x c := fun h => h.mono (Nat.le_refl _) (fun _ _ _ => rfl) (fun b _ hb => .inl hb)
    cases v with
    | int a b => cases rep_int hv; exact .int _ _
    | bool b => cases rep_bool hv; exact .bool _
    | str s => cases rep_str hv; exact .str _
    | nilp => cases rep_nilp hv; exact .nilp
    | zsl b =>
      simp only [snap]
      cases hv with
      | frz h => cases h <;> exact .lst0 _ _ (fun _ => rfl)
    | nilf => cases rep_nilf hv; exact .nilf
    | undef => exact .undef _
    | emp =>
      simp only [snap]
      cases hv with
      | frz h => cases h; exact .emp _ _
    | lst l =>
      simp only [snap]
      cases hv with
      | frz h => exact down h
    | fptr x j =>
      simp only [snap]
      cases hv with
      | frz h => exact down h
    | agg cs =>
      obtain ⟨us, rfl, hl, hp⟩ := rep_agg hv
      exact .agg _ _ (by simp [hl]) (lists cs us hp)
    | tup cs =>
      obtain ⟨us, rfl, hl, hp⟩ := rep_tup hv
      exact .tup _ _ (by simp [hl]) (lists cs us hp)
    | fn g p q =>
      obtain ⟨va, vb, rfl, l1, l2, r1, r2⟩ := rep_fn hv
      exact .fn g _ _ _ _ (by simp [l1]) (by simp [l2]) (lists p va r1) (lists q vb r2)
    | ptr id i j =>
      simp only [snap]
      split <;> (try exact .undef _)
      rename_i hk0
      obtain ⟨k, rfl⟩ : ∃ k', k = k' + 1 := ⟨k - 1, by omega⟩
      split <;> (try exact .undef _)
      rename_i b hg
      split <;> (try exact .undef _)
      rename_i el hel
      cases hv with
      | frz h => cases h
      | ptrD b' o hd => rw [hdead _ hd] at hg; cases hg
      | ptr hρ =>
        rename_i bb es cap
        obtain ⟨k2, hk2, hbr⟩ := hR.real _ _ _ _ hρ
        rw [agree_of (hsame _ _ hg (by simp [hρ]))] at hk2; cases hk2
        obtain ⟨cur, fz, m1, m2, m3, m4⟩ := hbr.mem
        have hlt : bb < w.heap.size := (Array.getElem?_eq_some_iff.mp m1).1
        have hcell : ∀ (q : Nat) (c : AV), (snap (k + 1) H el).cells[q]? = some c → ∃ u, w.cell? ⟨bb, i * es + q, none⟩ = some u ∧ FRep w bad c u := by
          intro q c hq
          obtain ⟨c', hc', hcc⟩ := snap_cells (elOk_sc (hbr.ok _ _ hel)).1 hq
          obtain ⟨u, hu, hru⟩ := m4 i el q c' hel hc'
          refine ⟨u, by simp only [World.cell?, m1]; simpa using hu, ?_⟩
          rcases hcc with rfl | rfl
          · exact snap_rep hbad hR hsame hdead k hru
          · exact snap_rep hbad hR hsame hdead (k + 1) hru
        exact .fptr _ bb (i * es) j (fun q => (w.cell? ⟨bb, i * es + q, none⟩).getD undef) (fun hb => by have := hbad _ hb; have := hbr.low; omega) hlt
          (fun q c hq => by obtain ⟨u, hu, _⟩ := hcell q c hq; simp [hu]) (fun q c hq => by obtain ⟨u, hu, hf⟩ := hcell q c hq; simpa [hu] using hf)
    | slc id o n =>
      simp only [snap]
      split <;> (try exact .undef _)
      rename_i hk0
      obtain ⟨k, rfl⟩ : ∃ k', k = k' + 1 := ⟨k - 1, by omega⟩
      split <;> (try exact .undef _)
      rename_i b hg
      split <;> (try exact .undef _)
      rename_i hle
      cases hv with
      | frz h => cases h
      | slcD a c hd => rw [hdead _ hd] at hg; cases hg
      | slcV a hρ => simp only [Nat.le_zero_eq, List.take_zero, List.map_nil]; exact .lst0 _ _ (fun _ => rfl)
      | slc hρ hcc hn =>
        rename_i bb es cap c
        obtain ⟨k2, hk2, hbr⟩ := hR.real _ _ _ _ hρ
        rw [agree_of (hsame _ _ hg (by simp [hρ]))] at hk2; cases hk2
        obtain ⟨cur, fz, m1, m2, m3, m4⟩ := hbr.mem
        have hlt : bb < w.heap.size := (Array.getElem?_eq_some_iff.mp m1).1
        have key : ∀ (i : Nat) (x : AV), (((b.els.drop o).take n).map (snap (k + 1) H))[i]? = some x → ∃ el, b.els[o + i]? = some el ∧ x = snap (k + 1) H el := by
          intro i x hx
          rw [List.getElem?_map] at hx
          obtain ⟨el, hel, rfl⟩ := Option.map_eq_some_iff.mp hx
          have hi : i < n := by have := (List.getElem?_eq_some_iff.mp hel).1; simp at this; omega
          rw [List.getElem?_take_of_lt hi, List.getElem?_drop] at hel
          exact ⟨el, hel, rfl⟩
        have hcell : ∀ (i : Nat) (x : AV) (q : Nat) (y : AV), (((b.els.drop o).take n).map (snap (k + 1) H))[i]? = some x → x.cells[q]? = some y → ∃ u, w.cell? ⟨bb, o * es + (i * es + q), none⟩ = some u ∧ FRep w bad y u := by
          intro i x q y hx hq
          obtain ⟨el, hel, rfl⟩ := key i x hx
          obtain ⟨c', hc', hcc⟩ := snap_cells (elOk_sc (hbr.ok _ _ hel)).1 hq
          obtain ⟨u, hu, hru⟩ := m4 _ el q c' hel hc'
          refine ⟨u, ?_, (by rcases hcc with rfl | rfl; exact snap_rep hbad hR hsame hdead k hru; exact snap_rep hbad hR hsame hdead (k + 1) hru)⟩
          rw [show o * es + (i * es + q) = (o + i) * es + q by rw [Nat.add_mul]; omega]
          simp only [World.cell?, m1]; simpa using hu
        have hlen : (((b.els.drop o).take n).map (snap (k + 1) H)).length = n := by simp; omega
        have := FRep.lst (w := w) (bad := bad) (((b.els.drop o).take n).map (snap (k + 1) H)) bb (o * es) es c (fun i q => (w.cell? ⟨bb, o * es + (i * es + q), none⟩).getD undef) (by omega) hbr.pos (fun hb => by have := hbad _ hb; have := hbr.low; omega) hlt
          (fun i x hx => by obtain ⟨el, hel, rfl⟩ := key i x hx; rw [snap_len (elOk_sc (hbr.ok _ _ hel)).1, (elOk_sc (hbr.ok _ _ hel)).2.1, hbr.hes])
          (fun i x q y hx hq => by obtain ⟨u, hu, _⟩ := hcell i x q y hx hq; simp [hu]) (fun i x q y hx hq => by obtain ⟨u, hu, hf⟩ := hcell i x q y hx hq; simpa [hu] using hf)
        rw [hlen] at this
        exact this
  termination_by k => k
end
end Go.Proofs.Ytdceaeifcniabaa.AE

namespace Go.Proofs.Ytdceaeifcniabaa.AE
set_option linter.unusedVariables false
set_option linter.unusedSimpArgs false
set_option linter.constructorNameAsVariable false
open Go Go.RowKit

/-- A function without a text, told by an own rule, at whole numbers alone. -/
def ExtOK (P : Program) (g : FuncId) (e : List AV → Option AV) : Prop :=
  ∀ args v, e args = some v → ∃ (ks : List (IntKind × Int)), args = ks.map (fun p => AV.int p.1 p.2) ∧ ∃ cv : Value, (∀ w, (callFunc g (ks.map fun p => Value.int p.1 p.2).toArray).run P w = .ok (.value cv) w) ∧ ∀ w bad, FRep w bad v cv

/-- A function is what its code says: of whatever is told of calls. -/
def FnOK (P : Program) (g : FuncId) (n : Nat) (fn : AFn) : Prop :=
  ∀ (call callP : CallF) (fu : Nat) (args : List AV) (H H' : Heap) (v : AV), args.length = n → CallOK P call → DrawOK P call callP → runFn call callP fu fn args H = some (v, H') →
    ∀ (w : World) (bad : Nat → Prop) (ρ : Rho) (B : Nat) (vs : List Value), HRel w bad ρ B H → B ≤ w.heap.size → (∀ b, bad b → b < B) → args.length = vs.length →
      (∀ (i : Nat) (c : AV) (u : Value), args[i]? = some c → vs[i]? = some u → Rep w bad (dead H) ρ c u) →
      CallRes P g vs.toArray w fun cv w' => ∃ ρ', Step w w' (dead H) (dead H') ρ ρ' ∧ HRel w' bad ρ' B H' ∧ Rep w' bad (dead H') ρ' v cv

structure ModOK (P : Program) (M : Mod) : Prop where
  code : ∀ g n fn, M.code g n = some fn → FnOK P g n fn
  ext : ∀ g e, M.ext g = some e → ExtOK P g e

theorem CallRes.mono {P : Program} {g : FuncId} {vs : Array Value} {w : World} {R R' : Value → World → Prop} (h : CallRes P g vs w R) (hi : ∀ cv w', R cv w' → R' cv w') : CallRes P g vs w R' := by
  rcases h with ⟨cv, w', h1, h2⟩ | ⟨h1, h2⟩
  · exact .inl ⟨cv, w', h1, hi _ _ h2⟩
  · refine .inr ⟨h1, h2.mono ?_⟩
    rintro e w' ⟨cv, rfl, h⟩
    exact ⟨cv, rfl, hi _ _ h⟩

/-- What a call with what it gets alone comes to. -/
def PureOK (P : Program) (g : FuncId) (args : List AV) (v : AV) : Prop :=
  ∀ (w : World) (bad : Nat → Prop) (vs : List Value), (∀ b, bad b → b < w.heap.size) → args.length = vs.length → (∀ (i : Nat) (c : AV) (u : Value), args[i]? = some c → vs[i]? = some u → FRep w bad c u) →
    CallRes P g vs.toArray w fun cv w' => FRep w' bad v cv ∧ Below w.heap.size w w'

section
variable {P : Program} {w w0 : World} {bad D D0 : Nat → Prop} {ρ ρ0 : Rho} {a : Act} {B : Nat} {s : St} {M : Mod}

theorem noId_frz : ∀ (k : Nat) {v : AV} {cv : Value}, noId k v = true → Rep w bad D ρ v cv → FRep w (fun b => bad b ∨ own ρ b) v cv
  | 0, v, cv, h, _ => by simp [noId] at h
  | k + 1, v, cv, h, hv => by
    cases hv with
    | frz h => exact h
    | ptr _ => simp [noId] at h
    | ptrD _ _ _ => simp [noId] at h
    | slc _ _ _ => simp [noId] at h
    | slcV _ _ => simp [noId] at h
    | slcD _ _ _ _ _ => simp [noId] at h
    | agg cs vs hl hp =>
      simp only [noId, List.all_eq_true] at h
      exact .agg cs vs hl fun i c u hc hu => noId_frz k (h c (List.mem_of_getElem? hc)) (hp i c u hc hu)
    | tup cs vs hl hp =>
      simp only [noId, List.all_eq_true] at h
      exact .tup cs vs hl fun i c u hc hu => noId_frz k (h c (List.mem_of_getElem? hc)) (hp i c u hc hu)
    | fn g p q va vb l1 l2 r1 r2 =>
      simp only [noId, Bool.and_eq_true, List.all_eq_true] at h
      exact .fn g p q va vb l1 l2 (fun i c u hc hu => noId_frz k (h.1 c (List.mem_of_getElem? hc)) (r1 i c u hc hu)) (fun i c u hc hu => noId_frz k (h.2 c (List.mem_of_getElem? hc)) (r2 i c u hc hu))

theorem noMem_any {w2 : World} {bad2 : Nat → Prop} : ∀ (k : Nat) {v : AV} {cv : Value}, noMem k v = true → FRep w bad v cv → FRep w2 bad2 v cv
  | 0, v, cv, h, _ => by simp [noMem] at h
  | k + 1, v, cv, h, hv => by
    cases hv with
    | int a b => exact .int _ _
    | bool b => exact .bool _
    | str s => exact .str _
    | nilp => exact .nilp
    | znil => exact .znil
    | zsl a => exact .zsl a
    | lst0 a c h0 => exact .lst0 a c h0
    | emp a c => exact .emp a c
    | lst l b o es c vs hn he hb hl hs hc hr =>
      simp only [noMem, List.isEmpty_iff] at h
      subst h
      exact .lst0 _ _ (fun h => by cases h)
    | fptr => simp [noMem] at h
    | nilf => exact .nilf
    | undef => exact .undef _
    | agg cs vs hl hp =>
      simp only [noMem, List.all_eq_true] at h
      exact .agg cs vs hl fun i c u hc hu => noMem_any k (h c (List.mem_of_getElem? hc)) (hp i c u hc hu)
    | tup cs vs hl hp =>
      simp only [noMem, List.all_eq_true] at h
      exact .tup cs vs hl fun i c u hc hu => noMem_any k (h c (List.mem_of_getElem? hc)) (hp i c u hc hu)
    | fn g p q va vb l1 l2 r1 r2 =>
      simp only [noMem, Bool.and_eq_true, List.all_eq_true] at h
      exact .fn g p q va vb l1 l2 (fun i c u hc hu => noMem_any k (h.1 c (List.mem_of_getElem? hc)) (r1 i c u hc hu)) (fun i c u hc hu => noMem_any k (h.2 c (List.mem_of_getElem? hc)) (r2 i c u hc hu))

theorem enter_run {sq : Bool} {g : FuncId} {fn : AFn} (h : cFnQ P sq g = some fn) (vs : Array Value) (w : World) : (callFunc g vs).run P w = .ok (.enter g vs) w := by
  unfold cFnQ at h
  split at h <;> (try (cases h; done))
  rename_i f hf
  split at h <;> (try (cases h; done))
  rename_i c hb
  split at h <;> (try (cases h; done))
  rename_i hn
  have hn' : (f.name == "runtime.NumGoroutine") = false := by simpa using hn
  unfold callFunc
  simp only [Sem.run_bind, run_program, Result.andThen_ok, hf]
  simp [hn', hb]

/-- A step that leaves own memory as_ it is. -/
theorem below_step {w' : World} {H : Heap} (hR : HRel w bad ρ B H) (hB : Below w.heap.size w w') : Step w w' (dead H) (dead H) ρ ρ ∧ HRel w' bad ρ B H := by
  have hst : Step w w' (dead H) (dead H) ρ ρ := ⟨⟨hB.os, hB.tape, hB.output, hB.size, fun b hb _ => hB.block b hb⟩, RLe.refl _ _, fun _ h => h, fun _ _ => .inl rfl⟩
  refine ⟨hst, ?_, hR.virt, hR.inj, hR.res⟩
  intro id b es cap h
  obtain ⟨k, hk, hbr⟩ := hR.real id b es cap h
  exact ⟨k, hk, hbr.step hst (hB.block b (own_lt hR ⟨id, es, cap, h⟩).1)⟩

theorem fnOK_of {sq : Bool} {g : FuncId} {n : Nat} {fn : AFn} (h : cFnQ P sq g = some fn) : FnOK P g n fn := by
  intro call callP fu args H H' v _ hcall hdraw hr w bad ρ B vs hR hB hbad hl hp
  exact .inr ⟨enter_run h _ _, runFn_sound hcall hdraw hbad h hr hR hB hl hp⟩

/-- New memory: it lies from n on; the rest stays. -/
structure Fits (n : Nat) (Z : Heap) (ρ : Rho) (G G' : Heap) : Prop where
  none : ∀ i : Nat, n ≤ i → i < n + Z.length → ρ i = .no
  new : ∀ (i : Nat) (z : Option Blk), Z[i]? = some z → G'[n + i]? = some z
  old : ∀ i : Nat, ¬ (n ≤ i ∧ i < n + Z.length) → ρ i ≠ .no → G'[i]? = G[i]?
  dead : ∀ i, dead G i → dead G' i

/-- Calls that leave own memory as_ it is, and make new one at most, told rightly: by a heap that agrees where it matters. -/
def PCallOK (P : Program) (call : CallF) : Prop :=
  ∀ g args H v H', call g args H = some (v, H') → ∃ Z : Heap, H' = H ++ Z ∧ ∀ (w : World) (bad : Nat → Prop) (ρ : Rho) (B : Nat) (vs : List Value) (G G' : Heap), HRel w bad ρ B G → B ≤ w.heap.size → (∀ b, bad b → b < B) →
    (args.all (noId DEPTH) = true ∨ ((∀ id b, hget H id = some b → ρ id ≠ .no → hget G id = some b) ∧ ∀ id, dead G id → hget H id = none)) → args.length = vs.length →
    (∀ (i : Nat) (c : AV) (u : Value), args[i]? = some c → vs[i]? = some u → Rep w bad (dead G) ρ c u) → Fits H.length Z ρ G G' →
    CallRes P g vs.toArray w fun cv w' => ∃ ρ' : Rho, (∀ i, ¬ (H.length ≤ i ∧ i < H.length + Z.length) → ρ' i = ρ i) ∧ Step w w' (dead G) (dead G') ρ ρ' ∧ HRel w' bad ρ' B G' ∧ Rep w' bad (dead G') ρ' v cv

theorem below_fits {w' : World} {G G' : Heap} {n : Nat} (hR : HRel w bad ρ B G) (hB : Below w.heap.size w w') (hf : Fits n [] ρ G G') : Step w w' (dead G) (dead G') ρ ρ ∧ HRel w' bad ρ B G' := by
  have hst : Step w w' (dead G) (dead G') ρ ρ := ⟨⟨hB.os, hB.tape, hB.output, hB.size, fun b hb _ => hB.block b hb⟩, RLe.refl _ _, hf.dead, fun _ _ => .inl rfl⟩
  have hold : ∀ i : Nat, ρ i ≠ .no → G'[i]? = G[i]? := fun i hi => hf.old i (by simp) hi
  refine ⟨hst, ?_, ?_, hR.inj, fun id h => let ⟨k, hk, he⟩ := hR.res id h; ⟨k, (hold id (by simp [h])).trans hk, he⟩⟩
  · intro id b es cap h
    obtain ⟨k, hk, hbr⟩ := hR.real id b es cap h
    exact ⟨k, (hold id (by simp [h])).trans hk, hbr.step hst (hB.block b (own_lt hR ⟨id, es, cap, h⟩).1)⟩
  · intro id h
    obtain ⟨k, hk, he⟩ := hR.virt id h
    exact ⟨k, (hold id (by simp [h])).trans hk, he⟩

theorem PCallOK.call {call : CallF} (h : PCallOK P call) : CallOK P call := by
  intro g args H v H' hc w bad ρ B vs hR hB hbad hl hp
  obtain ⟨Z, rfl, h2⟩ := h g args H v H' hc
  have hf : Fits H.length Z ρ H (H ++ Z) := by
    refine ⟨fun i h1 _ => ?_, fun i z hz => ?_, fun i h1 h2 => ?_, fun i hd => ?_⟩
    · cases hx : ρ i with
      | no => rfl
      | _ => exact absurd (lt_of_no hR (i := i) (by simp [hx])) (by omega)
    · rw [List.getElem?_append_right (by omega), show H.length + i - H.length = i by omega]; exact hz
    · exact List.getElem?_append_left (lt_of_no hR h2)
    · simp only [dead] at *
      rw [List.getElem?_append_left (List.getElem?_eq_some_iff.mp hd).1]; exact hd
  refine (h2 w bad ρ B vs H (H ++ Z) hR hB hbad (.inr ⟨fun id b hb _ => hb, fun id hd => by simp only [dead] at hd; simp [hget, hd]⟩) hl hp hf).mono ?_
  rintro cv w' ⟨ρ', _, hst, hR', hrep⟩
  exact ⟨ρ', hst, hR', hrep⟩

theorem pureCall_ok {pc : FuncId → List AV → Option AV} (hpc : ∀ g args v, pc g args = some v → PureOK P g args v) : PCallOK P (pureCall pc) := by
  intro g args H v H' h
  unfold pureCall at h
  split at h
  · rename_i hno
    split at h <;> (try (cases h; done))
    rename_i r hr
    cases h
    refine ⟨[], by simp, fun w bad ρ B vs G G' hR hB hbad _ hl hp hf => ?_⟩
    refine (hpc _ _ _ hr w (fun b => bad b ∨ own ρ b) vs (fun b hb => hb.elim (fun x => Nat.lt_of_lt_of_le (hbad b x) hB) (fun x => (own_lt hR x).1)) hl (fun i c u hc hu => noId_frz DEPTH (List.all_eq_true.mp hno c (List.mem_of_getElem? hc)) (hp i c u hc hu))).mono ?_
    rintro cv w' ⟨hfr, hbw⟩
    obtain ⟨hst, hR'⟩ := below_fits hR hbw hf
    exact ⟨ρ, fun _ _ => rfl, hst, hR', .frz hfr⟩
  · rename_i hno
    split at h <;> (try (cases h; done))
    rename_i r hr
    split at h <;> (try (cases h; done))
    rename_i hnm
    cases h
    refine ⟨[], by simp, fun w bad ρ B vs G G' hR hB hbad hag hl hp hf => ?_⟩
    obtain ⟨hag1, hag2⟩ := hag.resolve_left hno
    refine (hpc _ _ _ hr w bad vs (fun b hb => Nat.lt_of_lt_of_le (hbad b hb) hB) (by simpa using hl) (fun i c u hc hu => by
      rw [List.getElem?_map] at hc
      obtain ⟨c', hc', rfl⟩ := Option.map_eq_some_iff.mp hc
      exact snap_rep hbad hR hag1 hag2 DEPTH (hp i c' u hc' hu))).mono ?_
    rintro cv w' ⟨hfr, hbw⟩
    obtain ⟨hst, hR'⟩ := below_fits hR hbw hf
    exact ⟨ρ, fun _ _ => rfl, hst, hR', .frz (noMem_any DEPTH hnm hfr)⟩

theorem extCall_ok {g : FuncId} {e : List AV → Option AV} (he : ExtOK P g e) {args : List AV} {H H' : Heap} {v : AV} (h : extCall e g args H = some (v, H')) : H' = H ∧ ∀ (w : World) (bad : Nat → Prop) (ρ : Rho) (vs : List Value) (G : Heap), args.length = vs.length →
    (∀ (i : Nat) (c : AV) (u : Value), args[i]? = some c → vs[i]? = some u → Rep w bad (dead G) ρ c u) → CallRes P g vs.toArray w fun cv w' => w' = w ∧ Rep w' bad (dead G) ρ v cv := by
  unfold extCall at h
  split at h <;> (try (cases h; done))
  rename_i r hr
  cases h
  refine ⟨rfl, fun w bad ρ vs G hl hp => ?_⟩
  obtain ⟨ks, rfl, cv, h1, h2⟩ := he _ _ hr
  have : vs = ks.map fun p => Value.int p.1 p.2 := by
    apply List.ext_getElem?
    intro i
    rcases Nat.lt_or_ge i ks.length with hlt | hge
    · have hvl : i < vs.length := by simp at hl; omega
      have := hp i (.int ks[i].1 ks[i].2) vs[i] (by simp [hlt]) (List.getElem?_eq_getElem hvl)
      rw [List.getElem?_eq_getElem hvl, rep_int this]
      simp [hlt]
    · rw [List.getElem?_eq_none (by simp at hl; omega), List.getElem?_eq_none (by simp; omega)]
  subst this
  exact .inl ⟨cv, w, h1 w, rfl, .frz (h2 _ _)⟩

theorem emptyCall_ok {pc : FuncId → List AV → Option AV} (hpc : ∀ g args v, pc g args = some v → PureOK P g args v) : PCallOK P (emptyCall M pc) := by
  intro g args H v H' h
  unfold emptyCall at h
  split at h <;> (try (cases h; done))
  rename_i r hr
  cases h
  unfold emptyR at hr
  split at hr <;> (try (cases hr; done))
  split at hr <;> (try (cases hr; done))
  rename_i x
  split at hr <;> (try (cases hr; done))
  rename_i hx
  unfold emptyQ at hr
  split at hr <;> (try (cases hr; done))
  rename_i h1 h2
  cases hr
  refine ⟨[], by simp, fun w bad ρ B vs G G' hR hB hbad _ hl hp hf => ?_⟩
  obtain ⟨u, rfl⟩ : ∃ u, vs = [u] := by
    match vs, hl with
    | [u], _ => exact ⟨u, rfl⟩
  have hu := hp 0 x u rfl rfl
  have he : ∃ a c, u = .slice a 0 c ∧ (a = none → c = 0) := by
    cases x <;> simp only [clr] at hx <;> (try (cases hx; done))
    · cases hu with
      | frz hu => cases hu with
        | znil => exact ⟨_, _, rfl, fun _ => rfl⟩
        | zsl a => exact ⟨_, _, rfl, fun _ => rfl⟩
    · rename_i l _
      have hl0 : l = [] := by simpa using hx
      subst hl0
      cases hu with
      | frz hu => cases hu with
        | lst0 a c h => exact ⟨_, _, rfl, h⟩
        | lst _ b o es c vs hn he hb hl hs hc hr => exact ⟨_, _, rfl, fun h => by cases h⟩
  obtain ⟨a, c, rfl, hac⟩ := he
  have hbad' : ∀ b, (bad b ∨ own ρ b) → b < w.heap.size := fun b hb => hb.elim (fun x => Nat.lt_of_lt_of_le (hbad b x) hB) (fun x => (own_lt hR x).1)
  cases a with
  | none =>
    obtain rfl := hac rfl
    refine (hpc _ _ _ h1 w (fun b => bad b ∨ own ρ b) [.slice none 0 0] hbad' rfl (fun i c u hc hu => by
      match i, hc, hu with
      | 0, hc, hu => cases hc; cases hu; exact .znil)).mono ?_
    rintro cv w' ⟨hfr, hbw⟩
    obtain ⟨hst, hR'⟩ := below_fits hR hbw hf
    exact ⟨ρ, fun _ _ => rfl, hst, hR', .frz (noMem_any 1 rfl hfr)⟩
  | some a =>
    refine (hpc _ _ _ h2 w (fun b => bad b ∨ own ρ b) [.slice (some a) 0 c] hbad' rfl (fun i c u hc hu => by
      match i, hc, hu with
      | 0, hc, hu => cases hc; cases hu; exact .emp _ _)).mono ?_
    rintro cv w' ⟨hfr, hbw⟩
    obtain ⟨hst, hR'⟩ := below_fits hR hbw hf
    exact ⟨ρ, fun _ _ => rfl, hst, hR', .frz (noMem_any 1 rfl hfr)⟩

theorem callZ_ok (hM : ModOK P M) {pc : FuncId → List AV → Option AV} (hpc : ∀ g args v, pc g args = some v → PureOK P g args v) : PCallOK P (callZ M pc) := by
  intro g args H v H' h
  unfold callZ at h
  split at h
  · rename_i e he
    obtain ⟨q1, q2⟩ := extCall_ok (hM.ext g e he) h
    refine ⟨[], by simp [q1], fun w bad ρ B vs G G' hR hB hbad hag hl hp hf => ?_⟩
    refine (q2 w bad ρ vs G hl hp).mono ?_
    rintro cv w' ⟨rfl, hrep⟩
    obtain ⟨hst, hR'⟩ := below_fits hR (Below.refl _ _) hf
    exact ⟨ρ, fun _ _ => rfl, hst, hR', hrep.step hst⟩
  · split at h
    · split at h
      · rename_i u hu
        exact emptyCall_ok (M := M) hpc g args H v H' (by unfold emptyCall; rw [hu]; exact h)
      · exact pureCall_ok hpc g args H v H' h
    · exact pureCall_ok hpc g args H v H' h

/-- Regions that draw their order, where calls leave own memory as_ it is (but those that are in order with all). -/
def DrawLaw (P : Program) : Prop := ∀ call callP : CallF, CallOK P call → PCallOK P callP → DrawOK P call callP

theorem padH_len : ∀ n, (padH n).length = n
  | 0 => rfl
  | n + 1 => by simp [padH, padH_len n]
theorem padOk_spec : ∀ {n : Nat} {H : Heap}, padOk n H = true → n ≤ H.length ∧ ∀ i, i < n → ∃ b, H[i]? = some (some b) ∧ b.e.es = 0 ∧ b.els ≠ []
  | 0, H, _ => ⟨Nat.zero_le _, fun i hi => absurd hi (by omega)⟩
  | n + 1, [], h => by simp [padOk] at h
  | n + 1, none :: l, h => by simp [padOk] at h
  | n + 1, some b :: l, h => by
    simp only [padOk, Bool.and_eq_true] at h
    obtain ⟨⟨h1, h2⟩, h3⟩ := h
    obtain ⟨q1, q2⟩ := padOk_spec h3
    refine ⟨by simp; omega, fun i hi => ?_⟩
    cases i with
    | zero => exact ⟨b, rfl, Nat.eq_of_beq_eq_true h1, by intro hx; simp [hx] at h2⟩
    | succ i => exact q2 i (by omega)

theorem Rep.move {w : World} {bad bad' D D' : Nat → Prop} {ρ ρ' : Rho} (hf : ∀ b, (bad' b ∨ own ρ' b) → (bad b ∨ own ρ b)) (hρ : ∀ i, ρ i ≠ .no → ρ' i = ρ i) (hD : ∀ i, D i → D' i) {v : AV} {c : Value} (h : Rep w bad D ρ v c) : Rep w bad' D' ρ' v c := by
  induction h with
  | frz h => exact .frz (h.mono (Nat.le_refl _) (fun _ _ _ => rfl) (fun b _ hb => hf b hb))
  | ptr h => exact .ptr ((hρ _ (by simp [h])).trans h)
  | ptrD b o h => exact .ptrD b o (hD _ h)
  | slc h hc hn => exact .slc ((hρ _ (by simp [h])).trans h) hc hn
  | slcV a h => exact .slcV a ((hρ _ (by simp [h])).trans h)
  | slcD a c h hn ha => exact .slcD a c (hD _ h) hn ha
  | agg cs vs hl h ih => exact .agg cs vs hl fun i c v hc hv => ih i c v hc hv
  | tup cs vs hl h ih => exact .tup cs vs hl fun i c v hc hv => ih i c v hc hv
  | fn g a b va vb hla hlb ha hb iha ihb => exact .fn g a b va vb hla hlb (fun i c v hc hv => iha i c v hc hv) (fun i c v hc hv => ihb i c v hc hv)

/-- A run in new memory. -/
theorem fresh_ok {call callP : CallF} {fu : Nat} {g : FuncId} {n0 : Nat} {fn : AFn} (hfn : FnOK P g n0 fn) (hcall : CallOK P call) (hdraw : DrawOK P call callP) {args : List AV} {H H' : Heap} {v : AV} (hlen : args.length = n0) (hno : args.all (noId DEPTH) = true) (h : freshRun (runFn call callP fu fn) args H = some (v, H')) :
    ∃ Z : Heap, H' = H ++ Z ∧ ∀ (w : World) (bad : Nat → Prop) (ρ : Rho) (B : Nat) (vs : List Value) (G G' : Heap), HRel w bad ρ B G → B ≤ w.heap.size → (∀ b, bad b → b < B) → args.length = vs.length →
      (∀ (i : Nat) (c : AV) (u : Value), args[i]? = some c → vs[i]? = some u → Rep w bad (dead G) ρ c u) → Fits H.length Z ρ G G' →
      CallRes P g vs.toArray w fun cv w' => ∃ ρ' : Rho, (∀ i, ¬ (H.length ≤ i ∧ i < H.length + Z.length) → ρ' i = ρ i) ∧ Step w w' (dead G) (dead G') ρ ρ' ∧ HRel w' bad ρ' B G' ∧ Rep w' bad (dead G') ρ' v cv := by
  unfold freshRun at h
  split at h <;> (try (cases h; done))
  rename_i r H1 hr
  split at h <;> (try (cases h; done))
  rename_i hpad
  cases h
  obtain ⟨p1, p2⟩ := padOk_spec hpad
  generalize hn : H.length = n at *
  have hZl : (H1.drop n).length = H1.length - n := by simp
  have hZ : ∀ i, n ≤ i → (H1.drop n)[i - n]? = H1[i]? := fun i hi => by rw [List.getElem?_drop, show n + (i - n) = i by omega]
  refine ⟨H1.drop n, rfl, fun w bad ρ B vs G G' hR hB hbad hl hp hf => ?_⟩
  have hR1 : HRel w (fun b => bad b ∨ own ρ b) (fun _ => .no) w.heap.size (padH n) := ⟨(fun _ _ _ _ h => by cases h), (fun _ h => by cases h), (fun _ _ _ _ _ _ _ h => by cases h), (fun _ h => by cases h)⟩
  have hb1 : ∀ b, (bad b ∨ own ρ b) → b < w.heap.size := fun b hb => hb.elim (fun x => Nat.lt_of_lt_of_le (hbad b x) hB) (fun x => (own_lt hR x).1)
  refine (hfn call callP fu args (padH n) H1 _ hlen hcall hdraw hr w (fun b => bad b ∨ own ρ b) (fun _ => .no) w.heap.size vs hR1 (Nat.le_refl _) hb1 hl (fun i c u hc hu =>
    .frz ((noId_frz DEPTH (List.all_eq_true.mp hno c (List.mem_of_getElem? hc)) (hp i c u hc hu)).mono (Nat.le_refl _) (fun _ _ _ => rfl) (fun b _ hb => hb.elim (fun x => x) (fun ⟨_, _, _, x⟩ => by cases x))))).mono ?_
  rintro cv w' ⟨ρ1, st, hR2, hrep⟩
  have hlow : ∀ i, i < n → ρ1 i = .no := by
    intro i hi
    obtain ⟨b, h1, h2, h3⟩ := p2 i hi
    cases hx : ρ1 i with
    | no => rfl
    | virt =>
      obtain ⟨k, hk, he⟩ := hR2.virt i hx
      rw [h1] at hk; cases hk
      exact absurd he h3
    | res =>
      obtain ⟨k, hk, he⟩ := hR2.res i hx
      rw [h1] at hk; cases hk
      exact absurd h2 he
    | real b' es cap =>
      obtain ⟨k, hk, he⟩ := hR2.real i b' es cap hx
      rw [h1] at hk; cases hk
      have e1 := he.hes
      have e2 := he.pos
      omega
  have hin : ∀ i, ρ1 i ≠ .no → n ≤ i ∧ i < n + (H1.drop n).length := by
    intro i hi
    have h1 := lt_of_no hR2 hi
    rcases Nat.lt_or_ge i n with h2 | h2
    · exact absurd (hlow i h2) hi
    · omega
  have hdl : ∀ i, dead H1 i → n ≤ i := by
    intro i hd
    rcases Nat.lt_or_ge i n with h2 | h2
    · obtain ⟨b, h1, _⟩ := p2 i h2
      simp only [dead] at hd
      rw [h1] at hd; cases hd
    · exact h2
  have hD : ∀ i, dead H1 i → dead G' i := by
    intro i hd
    have h1 := hdl i hd
    simp only [dead] at *
    have := hf.new (i - n) none (by rw [hZ i h1]; exact hd)
    rwa [show n + (i - n) = i by omega] at this
  have hnew : ∀ i k, ρ1 i ≠ .no → H1[i]? = some k → G'[i]? = some k := by
    intro i k hi hk
    obtain ⟨h1, h2⟩ := hin i hi
    have := hf.new (i - n) k (by rw [hZ i h1]; exact hk)
    rwa [show n + (i - n) = i by omega] at this
  let ρ' : Rho := fun i => if n ≤ i ∧ i < n + (H1.drop n).length then ρ1 i else ρ i
  have e1 : ∀ i, n ≤ i ∧ i < n + (H1.drop n).length → ρ' i = ρ1 i := fun i hi => if_pos hi
  have e2 : ∀ i, ¬ (n ≤ i ∧ i < n + (H1.drop n).length) → ρ' i = ρ i := fun i hi => if_neg hi
  have e3 : ∀ i, ρ1 i ≠ .no → ρ' i = ρ1 i := fun i hi => e1 i (hin i hi)
  have e4 : ∀ i, ρ i ≠ .no → ρ' i = ρ i := fun i hi => e2 i (fun h => hi (hf.none i h.1 h.2))
  have hown : ∀ b, own ρ' b → own ρ b ∨ own ρ1 b := by
    rintro b ⟨i, es, cap, h⟩
    by_cases hi : n ≤ i ∧ i < n + (H1.drop n).length
    · rw [e1 i hi] at h; exact .inr ⟨i, es, cap, h⟩
    · rw [e2 i hi] at h; exact .inl ⟨i, es, cap, h⟩
  have hkeep : ∀ b, b < w.heap.size → w'.heap[b]? = w.heap[b]? := fun b hb => st.grow.block b hb (fun ⟨_, _, _, x⟩ => by cases x)
  have hst : Step w w' (dead G) (dead G') ρ ρ' := by
    refine ⟨⟨st.grow.os, st.grow.tape, st.grow.output, st.grow.size, fun b hb _ => hkeep b hb⟩, ⟨fun b hb => ?_⟩, hf.dead, fun i hi => .inl (e4 i hi)⟩
    rcases hown b hb with h | h
    · exact .inl h
    · exact (st.rle.keep b h).elim (fun ⟨_, _, _, x⟩ => by cases x) .inr
  have hmv : ∀ {c : AV} {u : Value}, Rep w' (fun b => bad b ∨ own ρ b) (dead H1) ρ1 c u → Rep w' bad (dead G') ρ' c u := fun h => h.move (fun b hb => by
    rcases hb with hb | hb
    · exact .inl (.inl hb)
    · exact (hown b hb).elim (fun x => .inl (.inr x)) .inr) e3 hD
  refine ⟨ρ', e2, hst, ⟨?_, ?_, ?_, fun id h => ?_⟩, hmv hrep⟩
  rotate_right
  · by_cases hi : n ≤ id ∧ id < n + (H1.drop n).length
    · rw [e1 id hi] at h
      obtain ⟨k, hk, hb⟩ := hR2.res id h
      exact ⟨k, hnew id _ (by simp [h]) hk, hb⟩
    · rw [e2 id hi] at h
      obtain ⟨k, hk, hb⟩ := hR.res id h
      exact ⟨k, (hf.old id hi (by simp [h])).trans hk, hb⟩
  · intro id b es cap h
    by_cases hi : n ≤ id ∧ id < n + (H1.drop n).length
    · rw [e1 id hi] at h
      obtain ⟨k, hk, hb⟩ := hR2.real id b es cap h
      obtain ⟨cur, fz, q1, q2, q3, q4⟩ := hb.mem
      exact ⟨k, hnew id _ (by simp [h]) hk, hb.hes, hb.pos, Nat.le_trans hB hb.low, hb.len, hb.ok, cur, fz, q1, q2, q3, fun i el j c hel hj => let ⟨u, hu, hr⟩ := q4 i el j c hel hj; ⟨u, hu, hmv hr⟩⟩
    · rw [e2 id hi] at h
      obtain ⟨k, hk, hb⟩ := hR.real id b es cap h
      exact ⟨k, (hf.old id hi (by simp [h])).trans hk, hb.step hst (hkeep b (own_lt hR ⟨id, es, cap, h⟩).1)⟩
  · intro id h
    by_cases hi : n ≤ id ∧ id < n + (H1.drop n).length
    · rw [e1 id hi] at h
      obtain ⟨k, hk, hb⟩ := hR2.virt id h
      exact ⟨k, hnew id _ (by simp [h]) hk, hb⟩
    · rw [e2 id hi] at h
      obtain ⟨k, hk, hb⟩ := hR.virt id h
      exact ⟨k, (hf.old id hi (by simp [h])).trans hk, hb⟩
  · intro id id' b es cap es' cap' h h'
    by_cases hi : n ≤ id ∧ id < n + (H1.drop n).length <;> by_cases hi' : n ≤ id' ∧ id' < n + (H1.drop n).length
    · rw [e1 id hi] at h; rw [e1 id' hi'] at h'
      exact hR2.inj _ _ _ _ _ _ _ h h'
    · rw [e1 id hi] at h; rw [e2 id' hi'] at h'
      have q1 := (own_lt hR2 ⟨id, es, cap, h⟩).2
      have q2 := (own_lt hR ⟨id', es', cap', h'⟩).1
      omega
    · rw [e2 id hi] at h; rw [e1 id' hi'] at h'
      have q1 := (own_lt hR2 ⟨id', es', cap', h'⟩).2
      have q2 := (own_lt hR ⟨id, es, cap, h⟩).1
      omega
    · rw [e2 id hi] at h; rw [e2 id' hi'] at h'
      exact hR.inj _ _ _ _ _ _ _ h h'

theorem callB_ok (hM : ModOK P M) (hD : DrawLaw P) {pc : FuncId → List AV → Option AV} (hpc : ∀ g args v, pc g args = some v → PureOK P g args v) :
    ∀ n, CallOK P (callB M pc n true) ∧ PCallOK P (callB M pc n false)
  | 0 => ⟨(callZ_ok hM hpc).call, callZ_ok hM hpc⟩
  | n + 1 => by
    obtain ⟨ih1, ih2⟩ := callB_ok hM hD hpc n
    constructor
    · intro g args H v H' h w bad ρ B vs hR hB hbad hl hp
      simp only [callB] at h
      split at h
      · rename_i e he
        obtain ⟨r1, r2⟩ := extCall_ok (hM.ext g e he) h
        subst r1
        refine (r2 w bad ρ vs H' hl hp).mono ?_
        rintro cv w' ⟨rfl, hrep⟩
        exact ⟨ρ, Step.refl _ _ _, hR, hrep⟩
      · split at h
        · split at h
          · rename_i r hr
            exact (emptyCall_ok (M := M) hpc).call g args H v H' (by unfold emptyCall; rw [hr]; exact h) w bad ρ B vs hR hB hbad hl hp
          split at h <;> (try (cases h; done))
          rename_i fn hfn
          exact hM.code g _ fn hfn _ _ _ _ _ _ _ rfl ih1 (hD _ _ ih1 ih2) h w bad ρ B vs hR hB hbad hl hp
        · exact (pureCall_ok hpc).call g args H v H' h w bad ρ B vs hR hB hbad hl hp
    · intro g args H v H' h
      simp only [callB] at h
      split at h
      · rename_i e he
        exact callZ_ok hM hpc g args H v H' (by simp only [callZ, he]; exact h)
      · split at h
        · split at h
          · rename_i r hr
            exact emptyCall_ok (M := M) hpc g args H v H' (by unfold emptyCall; rw [hr]; exact h)
          · split at h
            · rename_i hfr
              simp only [Bool.and_eq_true] at hfr
              split at h <;> (try (cases h; done))
              rename_i fn hfn
              obtain ⟨Z, q1, q2⟩ := fresh_ok (hM.code g _ fn hfn) ih1 (hD _ _ ih1 ih2) rfl hfr.2 h
              exact ⟨Z, q1, fun w bad ρ B vs G G' hR hB hbad _ hl hp hf => q2 w bad ρ B vs G G' hR hB hbad hl hp hf⟩
            · exact pureCall_ok hpc g args H v H' h
        · exact pureCall_ok hpc g args H v H' h

/-- THE LAW OF THE SMALL EVALUATOR: what it says of a function is what the function comes to. -/
theorem pcall_sound (hM : ModOK P M) (hD : DrawLaw P) : ∀ (d : Nat) g args v, pcall M d g args = some v → PureOK P g args v
  | 0, g, args, v, h => by simp [pcall] at h
  | d + 1, g, args, v, h => by
    have ih := pcall_sound hM hD d
    obtain ⟨q1, q2⟩ := callB_ok hM hD ih IDEPTH
    simp only [pcall] at h
    split at h <;> (try (cases h; done))
    rename_i fn hfn
    split at h <;> (try (cases h; done))
    rename_i r H' hr
    cases h
    intro w bad vs hbad hl hp
    have hR : HRel w bad (fun _ => .no) w.heap.size ([] : Heap) := ⟨(fun _ _ _ _ h => by cases h), (fun _ h => by cases h), (fun _ _ _ _ _ _ _ h => by cases h), (fun _ h => by cases h)⟩
    refine (hM.code g _ fn hfn _ _ _ _ _ _ _ rfl q1 (hD _ _ q1 q2) hr w bad (fun _ => .no) w.heap.size vs hR (Nat.le_refl _) hbad hl (fun i c u hc hu => .frz ((hp i c u hc hu).mono (Nat.le_refl _) (fun _ _ _ => rfl) (fun b _ hb => hb.elim (fun x => x) (fun ⟨_, _, _, x⟩ => by cases x))))).mono ?_
    rintro cv w' ⟨ρ', st, hR', hrep⟩
    refine ⟨snap_rep hbad hR' (fun id b hb _ => hb) (fun id hd => by simp only [dead] at hd; simp [hget, hd]) DEPTH hrep, st.grow.os, st.grow.tape, st.grow.output, st.grow.size, fun b hb => st.grow.block b hb (fun ⟨_, _, _, x⟩ => by cases x)⟩
end
end Go.Proofs.Ytdceaeifcniabaa.AE

namespace Go.Proofs.Ytdceaeifcniabaa.AE
set_option linter.unusedVariables false
set_option linter.unusedSimpArgs false
set_option linter.constructorNameAsVariable false
open Go Go.RowKit

/-- What one operation of such a region comes to: it writes nothing, makes a block, stores into own memory, or calls. -/
def DrawnRes (P : Program) (w : World) (bad : Nat → Prop) (B : Nat) (ρ : Rho) (a : Act) (o : Oper) (ev : Opd → AV) (H G : Heap) (io : IOp) (v : AV) (H' : Heap) : Prop :=
  (Says P w bad (dead G) ρ a o v ∧ H' = H ∧ storeOp io = false) ∨ (∃ k, Makes P w bad (dead G) ρ a o v H.length k ∧ H' = H ++ [some k] ∧ storeOp io = false) ∨
  (∃ id k k' w', G[id]? = some (some k) ∧ hget H id = some k ∧ k'.e = k.e ∧ k'.els.length = k.els.length ∧ H' = H.set id (some k') ∧ touch ev H io = [id] ∧ storeOp io = true ∧ v = .undef ∧
    (∀ G' : Heap, G' = G.set id (some k') → Step w w' (dead G) (dead G') ρ ρ ∧ HRel w' bad ρ B G') ∧ (execOp a.eval o).run P w = .ok .skip w' ∧ ρ id ≠ .no) ∨
  (storeOp io = false ∧ isCall io = true ∧ ∃ Z : Heap, H' = H ++ Z ∧ ∃ vs g, (execOp a.eval o).run P w = (callFunc g vs).run P w ∧ ∀ G' : Heap, Fits H.length Z ρ G G' → CallRes P g vs w fun cv w' => ∃ ρ' : Rho, (∀ i, ¬ (H.length ≤ i ∧ i < H.length + Z.length) → ρ' i = ρ i) ∧ Step w w' (dead G) (dead G') ρ ρ' ∧ HRel w' bad ρ' B G' ∧ Rep w' bad (dead G') ρ' v cv)

section
variable {P : Program} {w : World} {bad : Nat → Prop} {ρ : Rho} {a : Act} {o : Oper} {B : Nat}

set_option maxHeartbeats 1000000 in
theorem op_drawn {io : IOp} {call : CallF} {v : AV} {H H' G : Heap} {ev : Opd → AV} (hc : cOp P o.type o.op = some io) (hcall : PCallOK P call) (hnf : fullOp io = false) (hbad : ∀ b, bad b → b < B) (hR : HRel w bad ρ B G) (hB : B ≤ w.heap.size)
    (hO : OpsOk w bad (dead G) ρ a ev o.op.operands.toList) (hsh : ∀ id b, hget H id = some b → ∃ b', hget G id = some b' ∧ b'.els.length = b.els.length) (hse : ∀ id b, hget H id = some b → ∃ b', hget G id = some b' ∧ b'.e = b.e)
    (htc : ∀ id ∈ touch ev H io, ∀ b, hget H id = some b → ρ id ≠ .no → hget G id = some b) (hdd : ∀ id, dead G id → hget H id = none) (hev : ∀ x, ev (.v x) = x) (hv : aop call ev H io = some (v, H')) : DrawnRes P w bad B ρ a o ev H G io v H' := by
  have hD : ∀ id, dead G id ↔ G[id]? = some none := fun _ => Iff.rfl
  generalize hop : o.op = op at hc
  cases op with
  | move x =>
    obtain ⟨y, hy, rfl⟩ := map_some' hc
    simp only [aop, Option.some.injEq, Prod.mk.injEq] at hv
    obtain ⟨rfl, rfl⟩ := hv
    exact .inl ⟨says_mov (.inl hop) hy hO, rfl, rfl⟩
  | assign x =>
    obtain ⟨y, hy, rfl⟩ := map_some' hc
    simp only [aop, Option.some.injEq, Prod.mk.injEq] at hv
    obtain ⟨rfl, rfl⟩ := hv
    exact .inl ⟨says_mov (.inr hop) hy hO, rfl, rfl⟩
  | pick c x y =>
    simp only [cOp] at hc
    split at hc <;> (try (cases hc; done))
    rename_i c' x' y' h1 h2 h3
    cases hc
    simp only [aop] at hv
    split at hv <;> (try (cases hv; done))
    rename_i t ht
    simp only [Option.some.injEq, Prod.mk.injEq] at hv
    obtain ⟨rfl, rfl⟩ := hv
    exact .inl ⟨says_pick hop h1 h2 h3 ht hO, rfl, rfl⟩
  | alloc t =>
    obtain ⟨e, he, rfl⟩ := map_some' hc
    simp only [aop, Option.some.injEq, Prod.mk.injEq] at hv
    obtain ⟨rfl, rfl⟩ := hv
    exact .inr (.inl ⟨_, makes_alloc _ hop he, rfl, rfl⟩)
  | box t x =>
    simp only [cOp] at hc
    split at hc <;> (try (cases hc; done))
    rename_i e x' he hx
    cases hc
    simp only [aop] at hv
    split at hv <;> (try (cases hv; done))
    rename_i hok
    simp only [Option.some.injEq, Prod.mk.injEq] at hv
    obtain ⟨rfl, rfl⟩ := hv
    exact .inr (.inl ⟨_, makes_box _ hop he hx hok hO, rfl, rfl⟩)
  | build t ps =>
    simp only [cOp] at hc
    have hio : ∃ zs l, io = .build zs l := by
      have h2 := hc
      unfold cBuild at h2
      split at h2 <;> (try (cases h2; done))
      split at h2 <;> (try (cases h2; done))
      split at h2 <;> (try (cases h2; done))
      split at h2 <;> (try (cases h2; done))
      · split at h2 <;> (try (cases h2; done))
        split at h2 <;> (try (cases h2; done))
        cases h2; exact ⟨_, _, rfl⟩
      · split at h2 <;> (try (cases h2; done))
        split at h2 <;> (try (cases h2; done))
        cases h2; exact ⟨_, _, rfl⟩
    obtain ⟨zs, l, rfl⟩ := hio
    simp only [aop] at hv
    split at hv <;> (try (cases hv; done))
    rename_i cs hcs
    simp only [Option.some.injEq, Prod.mk.injEq] at hv
    obtain ⟨rfl, rfl⟩ := hv
    exact .inl ⟨says_build hop hc hcs hO, rfl, rfl⟩
  | buildSlice t n ps =>
    simp only [cOp] at hc
    split at hc <;> (try (cases hc; done))
    rename_i e hs
    split at hc <;> (try (cases hc; done))
    rename_i e' l he hl
    split at hc <;> (try (cases hc; done))
    rename_i hn
    cases hc
    simp only [aop] at hv
    split at hv <;> (try (cases hv; done))
    rename_i els hels
    simp only [Option.some.injEq, Prod.mk.injEq] at hv
    obtain ⟨rfl, rfl⟩ := hv
    exact .inr (.inl ⟨_, makes_mkrow _ hop hs he hl hn hels hO, rfl, rfl⟩)
  | load t x =>
    simp only [cOp] at hc
    split at hc <;> (try (cases hc; done))
    rename_i i ag x' hi ha hx
    cases hc
    simp only [aop] at hv
    split at hv <;> (try (cases hv; done))
    rename_i u hu
    simp only [Option.some.injEq, Prod.mk.injEq] at hv
    obtain ⟨rfl, rfl⟩ := hv
    exact .inl ⟨says_load hop hi ha hx hu hR hD (fun id u q he => htc id (by simp [touch, he])) hdd hO, rfl, rfl⟩
  | store t x y =>
    simp only [cOp] at hc
    split at hc <;> (try (cases hc; done))
    rename_i i x' y' hi hx hy
    split at hc <;> (try (cases hc; done))
    rename_i hz
    cases hc
    simp only [aop] at hv
    split at hv <;> (try (cases hv; done))
    rename_i Hn hst
    simp only [Option.some.injEq, Prod.mk.injEq] at hv
    obtain ⟨rfl, rfl⟩ := hv
    have r1 := hO x (by simp [hop, Op.operands]) x' hx
    have r2 := hO y (by simp [hop, Op.operands]) y' hy
    obtain ⟨id, k, w', hk, hg, ⟨k', rfl, e1, e2, hst2⟩, ⟨u, q, he⟩, hrun⟩ := store_run (P := P) hi hz hst hR (fun id u q he => htc id (by simp [touch, he])) hdd r1 r2
    have hr : (execOp a.eval o).run P w = .ok .skip w' := by simp [execOp, hop, hrun]
    rw [he] at r1
    have hrn : ρ id ≠ .no := by
      generalize a.eval x = V at r1
      cases r1 with
      | frz h => cases h
      | ptr h => simp [h]
      | ptrD b o' hd => rw [hdd _ hd] at hg; cases hg
    exact .inr (.inr (.inl ⟨id, k, k', w', hk, hg, e1, e2, rfl, by simp [touch, he], rfl, rfl, hst2, hr, hrn⟩))
  | nilCheck x =>
    obtain ⟨y, hy, rfl⟩ := map_some' hc
    simp only [aop] at hv
    split at hv <;> (try (cases hv; done))
    all_goals
      rename_i he
      simp only [Option.some.injEq, Prod.mk.injEq] at hv
      obtain ⟨rfl, rfl⟩ := hv
      first
        | exact .inl ⟨says_nilck hop hy (.inl ⟨_, _, _, he⟩) he.symm hO, rfl, rfl⟩
        | exact .inl ⟨says_nilck hop hy (.inr (.inl ⟨_, _, he⟩)) he.symm hO, rfl, rfl⟩
        | exact .inl ⟨says_nilck hop hy (.inr (.inr ⟨_, _, _, he⟩)) he.symm hO, rfl, rfl⟩
  | binOp op t x y u =>
    simp only [cOp] at hc
    split at hc <;> (try (cases hc; done))
    rename_i d x' y' hd hx hy
    have bin : ∀ op', io = .bin op' x' y' → op' = op → DrawnRes P w bad B ρ a o ev H G io v H' := by
      rintro op' rfl rfl
      simp only [aop] at hv
      split at hv <;> (try (cases hv; done))
      rename_i r hr
      simp only [Option.some.injEq, Prod.mk.injEq] at hv
      obtain ⟨rfl, rfl⟩ := hv
      exact .inl ⟨says_bin hop hx hy hr hO, rfl, rfl⟩
    have eqv : ∀ neg k sh, io = .eqv neg k sh x' y' → eqKind P t = some (k, sh) → ((op = .eql ∧ neg = false) ∨ (op = .neq ∧ neg = true)) → DrawnRes P w bad B ρ a o ev H G io v H' := by
      rintro neg k sh rfl hk hopn
      simp only [aop] at hv
      split at hv <;> (try (cases hv; done))
      rename_i b hb
      simp only [Option.some.injEq, Prod.mk.injEq] at hv
      obtain ⟨rfl, rfl⟩ := hv
      exact .inl ⟨says_eqv hopn hop hk hx hy hb hO, rfl, rfl⟩
    split at hc
    · split at hc
      · cases hc; exact bin _ rfl rfl
      · cases hc; exact bin _ rfl rfl
      · split at hc <;> (try (cases hc; done))
        rename_i k sh hk
        cases hc
        exact eqv _ _ _ rfl hk (.inl ⟨rfl, rfl⟩)
    · split at hc
      · cases hc; exact bin _ rfl rfl
      · cases hc; exact bin _ rfl rfl
      · split at hc <;> (try (cases hc; done))
        rename_i k sh hk
        cases hc
        exact eqv _ _ _ rfl hk (.inr ⟨rfl, rfl⟩)
    · cases hc; exact bin _ rfl rfl
  | unOp op t x =>
    obtain ⟨y, hy, rfl⟩ := map_some' hc
    simp only [aop] at hv
    split at hv <;> (try (cases hv; done))
    rename_i r hr
    simp only [Option.some.injEq, Prod.mk.injEq] at hv
    obtain ⟨rfl, rfl⟩ := hv
    exact .inl ⟨says_un hop hy hr hO, rfl, rfl⟩
  | convert sT dT x =>
    simp only [cOp] at hc
    split at hc <;> (try (cases hc; done))
    · rename_i k k' x' h1 h2 hx
      cases hc
      simp only [aop] at hv
      split at hv <;> (try (cases hv; done))
      rename_i k0 n he
      simp only [Option.some.injEq, Prod.mk.injEq] at hv
      obtain ⟨rfl, rfl⟩ := hv
      exact .inl ⟨says_conv hop h1 h2 hx he hO, rfl, rfl⟩
    · rename_i x' h1 h2 hx
      cases hc
      simp only [aop] at hv
      split at hv <;> (try (cases hv; done))
      rename_i l he
      simp only [Option.some.injEq, Prod.mk.injEq] at hv
      obtain ⟨rfl, rfl⟩ := hv
      exact .inl ⟨says_cid hop h1 h2 hx he hO, rfl, rfl⟩
    · rename_i e x' h1 h2 hx
      split at hc <;> (try (cases hc; done))
      rename_i e' h3 he
      split at hc <;> (try (cases hc; done))
      rename_i he1
      cases hc
      simp only [aop] at hv
      split at hv <;> (try (cases hv; done))
      rename_i l hl
      simp only [Option.some.injEq, Prod.mk.injEq] at hv
      obtain ⟨rfl, rfl⟩ := hv
      exact .inr (.inl ⟨_, makes_s2b _ hop h1 h2 h3 he he1 hx hl hO, rfl, rfl⟩)
    · rename_i e x' h1 h2 hx
      split at hc <;> (try (cases hc; done))
      rename_i h3
      cases hc
      simp only [aop] at hv
      split at hv <;> (try (cases hv; done))
      rename_i hns
      split at hv <;> (try (cases hv; done))
      rename_i l hl
      split at hv <;> (try (cases hv; done))
      rename_i z hz
      simp only [Option.some.injEq, Prod.mk.injEq] at hv
      obtain ⟨rfl, rfl⟩ := hv
      exact .inl ⟨says_b2s hop h1 h3 h2 hx hl (fun s hs => hns s hs) hz hR hD (fun id u q he => htc id (by simp [touch, he])) hdd hO, rfl, rfl⟩
  | makeFunc fn p q =>
    cases fn <;> simp only [cOp] at hc <;> (try (cases hc; done))
    rename_i g
    split at hc <;> (try (cases hc; done))
    rename_i p' q' hp hq
    cases hc
    simp only [aop, Option.some.injEq, Prod.mk.injEq] at hv
    obtain ⟨rfl, rfl⟩ := hv
    exact .inl ⟨says_mkfn hop hp hq hO, rfl, rfl⟩
  | makeSlice t x y =>
    simp only [cOp] at hc
    split at hc <;> (try (cases hc; done))
    rename_i e hs
    split at hc <;> (try (cases hc; done))
    rename_i e' x' y' he hx hy
    cases hc
    simp only [aop] at hv
    split at hv <;> (try (cases hv; done))
    rename_i n c hn hm
    split at hv <;> (try (cases hv; done))
    rename_i hcnd
    obtain ⟨c1, c2, c3, c4⟩ := hcnd
    subst c2
    simp only [Option.some.injEq, Prod.mk.injEq] at hv
    obtain ⟨rfl, rfl⟩ := hv
    exact .inr (.inl ⟨_, makes_mkslice _ hop hs he hx hy hn hm c1 c3 c4 hO, rfl, rfl⟩)
  | slice t x lo hi mx =>
    simp only [cOp] at hc
    split at hc <;> (try (cases hc; done))
    · rename_i x' lo' hi' hs hx h1 h2 h3
      cases hc
      have hmn : mx = none := by
        cases mx with
        | none => rfl
        | some z =>
          simp only [cOptOpd] at h3
          split at h3 <;> cases h3
      subst hmn
      simp only [aop] at hv
      split at hv <;> (try (cases hv; done))
      rename_i r hr
      simp only [Option.some.injEq, Prod.mk.injEq] at hv
      obtain ⟨rfl, rfl⟩ := hv
      exact .inl ⟨says_subS hop hs hx h1 h2 hr hO, rfl, rfl⟩
    · rename_i e x' lo' hi' mx' hs hx h1 h2 h3
      split at hc <;> (try (cases hc; done))
      rename_i ie hie
      split at hc <;> (try (cases hc; done))
      rename_i hmh
      cases hc
      simp only [aop] at hv
      split at hv <;> (try (cases hv; done))
      rename_i r hr
      simp only [Option.some.injEq, Prod.mk.injEq] at hv
      obtain ⟨rfl, rfl⟩ := hv
      refine .inl ⟨says_subV hop hs hie hx h1 h2 h3 ?_ hr hR hD hsh hse hO, rfl, rfl⟩
      cases mx <;> cases hi <;> simp [cOptOpd] at h2 h3 hmh ⊢
      · rename_i z
        cases hz : cOpd z <;> simp [hz] at h3
        subst h3; subst h2
        simp at hmh
  | fieldAddr sT x f =>
    simp only [cOp] at hc
    split at hc <;> (try (cases hc; done))
    rename_i off n t x' hf hx
    cases hc
    simp only [aop] at hv
    split at hv <;> (try (cases hv; done))
    rename_i r hr
    simp only [Option.some.injEq, Prod.mk.injEq] at hv
    obtain ⟨rfl, rfl⟩ := hv
    unfold cField at hf
    split at hf <;> (try (cases hf; done))
    rename_i fs hs
    split at hf <;> (try (cases hf; done))
    rename_i fd hfd
    split at hf <;> (try (cases hf; done))
    rename_i i hi
    split at hf <;> (try (cases hf; done))
    rename_i hz
    cases hf
    exact .inl ⟨says_fldA hop hs hfd hi hz hx hr hO, rfl, rfl⟩
  | field sT x f =>
    simp only [cOp] at hc
    split at hc <;> (try (cases hc; done))
    rename_i off n t x' hf hx
    split at hc <;> (try (cases hc; done))
    rename_i ag hag
    cases hc
    simp only [aop] at hv
    split at hv <;> (try (cases hv; done))
    rename_i cs he
    split at hv <;> (try (cases hv; done))
    rename_i r hr
    simp only [Option.some.injEq, Prod.mk.injEq] at hv
    obtain ⟨rfl, rfl⟩ := hv
    unfold cField at hf
    split at hf <;> (try (cases hf; done))
    rename_i fs hs
    split at hf <;> (try (cases hf; done))
    rename_i fd hfd
    split at hf <;> (try (cases hf; done))
    rename_i i hi
    split at hf <;> (try (cases hf; done))
    rename_i hz
    cases hf
    exact .inl ⟨says_fld hop hs hfd hi hag hx he hr hO, rfl, rfl⟩
  | indexAddr t x y =>
    simp only [cOp] at hc
    split at hc <;> (try (cases hc; done))
    · rename_i e x' y' hs hx hy
      split at hc <;> (try (cases hc; done))
      rename_i ie hie
      split at hc <;> (try (cases hc; done))
      cases hc
      simp only [aop] at hv
      split at hv <;> (try (cases hv; done))
      rename_i q hq
      split at hv <;> (try (cases hv; done))
      rename_i r hr
      simp only [Option.some.injEq, Prod.mk.injEq] at hv
      obtain ⟨rfl, rfl⟩ := hv
      obtain ⟨k, hk⟩ : ∃ k, ev y' = .int k q := by
        generalize ev y' = Y at hq
        cases Y <;> simp [aInt] at hq
        subst hq; exact ⟨_, rfl⟩
      exact .inl ⟨says_ixAS hop hs hie hx hy hk hr hR hD hsh hse hO, rfl, rfl⟩
    · rename_i n e x' y' hs hx hy
      split at hc <;> (try (cases hc; done))
      rename_i ie hie
      cases hc
      simp only [aop] at hv
      split at hv <;> (try (cases hv; done))
      rename_i q hq
      split at hv <;> (try (cases hv; done))
      rename_i hb
      split at hv <;> (try (cases hv; done))
      rename_i r hr
      simp only [Option.some.injEq, Prod.mk.injEq] at hv
      obtain ⟨rfl, rfl⟩ := hv
      obtain ⟨k, hk⟩ : ∃ k, ev y' = .int k q := by
        generalize ev y' = Y at hq
        cases Y <;> simp [aInt] at hq
        subst hq; exact ⟨_, rfl⟩
      exact .inl ⟨says_ixAA hop hs hie hx hy hk hb hr hO, rfl, rfl⟩
  | index t x y =>
    simp only [cOp] at hc
    split at hc <;> (try (cases hc; done))
    · rename_i x' y' hs hx hy
      cases hc
      simp only [aop] at hv
      split at hv <;> (try (cases hv; done))
      rename_i l q hl hq
      split at hv <;> (try (cases hv; done))
      rename_i h0
      split at hv <;> (try (cases hv; done))
      rename_i b hb
      simp only [Option.some.injEq, Prod.mk.injEq] at hv
      obtain ⟨rfl, rfl⟩ := hv
      obtain ⟨k, hk⟩ : ∃ k, ev y' = .int k q := by
        generalize ev y' = Y at hq
        cases Y <;> simp [aInt] at hq
        subst hq; exact ⟨_, rfl⟩
      exact .inl ⟨says_ixS hop hs hx hy hk hl h0 hb hO, rfl, rfl⟩
    · rename_i n e x' y' hs hx hy
      split at hc <;> (try (cases hc; done))
      rename_i ie ag hie hag
      cases hc
      simp only [aop] at hv
      split at hv <;> (try (cases hv; done))
      rename_i cs q hcs hq
      split at hv <;> (try (cases hv; done))
      rename_i hb
      split at hv <;> (try (cases hv; done))
      rename_i r hr
      simp only [Option.some.injEq, Prod.mk.injEq] at hv
      obtain ⟨rfl, rfl⟩ := hv
      obtain ⟨k, hk⟩ : ∃ k, ev y' = .int k q := by
        generalize ev y' = Y at hq
        cases Y <;> simp [aInt] at hq
        subst hq; exact ⟨_, rfl⟩
      exact .inl ⟨says_ixA hop hs hie hag hx hy hk hcs hb hr hO, rfl, rfl⟩
  | extract x i =>
    simp only [cOp] at hc
    split at hc <;> (try (cases hc; done))
    rename_i x' hx
    cases hc
    simp only [aop] at hv
    split at hv <;> (try (cases hv; done))
    rename_i vs he
    split at hv <;> (try (cases hv; done))
    rename_i r hr
    simp only [Option.some.injEq, Prod.mk.injEq] at hv
    obtain ⟨rfl, rfl⟩ := hv
    exact .inl ⟨says_extr hop hx he hr hO, rfl, rfl⟩
  | call c =>
    simp only [cOp, cCall] at hc
    split at hc <;> (try (cases hc; done))
    · rename_i f hcc
      split at hc <;> (try (cases hc; done))
      rename_i f' ys hf hys
      cases hc
      simp only [aop] at hv
      split at hv <;> (try (cases hv; done))
      rename_i g p q he
      obtain ⟨vs, hrun, hl, hp⟩ := call_run (P := P) hO hop hcc hf hys he
      obtain ⟨Z, rfl, h2⟩ := hcall g _ _ _ _ hv
      refine .inr (.inr (.inr ⟨rfl, rfl, Z, rfl, vs.toArray, g, hrun, fun G' hf => h2 w bad ρ B vs G G' hR hB hbad ?_ hl hp hf⟩))
      by_cases hno : (p ++ ys.map ev ++ q).all (noId DEPTH) = true
      · exact .inl hno
      · refine .inr ⟨fun id b hb hn => htc id ?_ b hb hn, hdd⟩
        simp only [touch, he, if_neg hno]
        simpa using (List.getElem?_eq_some_iff.mp (agree_of hb)).1
    · rename_i hcc
      split at hc <;> (try (cases hc; done))
      rename_i x t hca hct
      split at hc <;> (try (cases hc; done))
      · rename_i x' hs hx
        cases hc
        simp only [aop] at hv
        split at hv <;> (try (cases hv; done))
        rename_i l hl
        simp only [Option.some.injEq, Prod.mk.injEq] at hv
        obtain ⟨rfl, rfl⟩ := hv
        exact .inl ⟨says_lenS hop hcc hca hct hs hx hl hO, rfl, rfl⟩
      · rename_i e x' hs hx
        cases hc
        simp only [aop] at hv
        split at hv <;> (try (cases hv; done))
        rename_i n hn
        simp only [Option.some.injEq, Prod.mk.injEq] at hv
        obtain ⟨rfl, rfl⟩ := hv
        exact .inl ⟨says_lenV hop hcc hca hct hs hx hn hD hsh hO, rfl, rfl⟩
      · rename_i n e x' hs hx
        cases hc
        simp only [aop, hev, Option.some.injEq, Prod.mk.injEq] at hv
        obtain ⟨rfl, rfl⟩ := hv
        refine .inl ⟨⟨.int .i64 n, ?_, .frz (.int _ _)⟩, rfl, rfl⟩
        obtain ⟨cal, args, tys⟩ := c
        obtain ⟨args⟩ := args
        obtain ⟨tys⟩ := tys
        simp only at hcc hca hct
        subst hcc; subst hca; subst hct
        simp [execOp, hop, resolve, invoke, builtin, Builtin.len_, run_underlying hs, goInt]
    · rename_i hcc
      split at hc <;> (try (cases hc; done))
      rename_i ys hys
      cases hc
      simp only [aop] at hv
      split at hv <;> (try (cases hv; done))
      rename_i r hr
      simp only [Option.some.injEq, Prod.mk.injEq] at hv
      obtain ⟨rfl, rfl⟩ := hv
      exact .inl ⟨says_min hop hcc hys hr hO, rfl, rfl⟩
    · rename_i hcc
      split at hc <;> (try (cases hc; done))
      rename_i ys hys
      cases hc
      simp only [aop] at hv
      split at hv <;> (try (cases hv; done))
      rename_i r hr
      simp only [Option.some.injEq, Prod.mk.injEq] at hv
      obtain ⟨rfl, rfl⟩ := hv
      exact .inl ⟨says_max hop hcc hys hr hO, rfl, rfl⟩
    · rename_i hcc
      split at hc <;> (try (cases hc; done))
      rename_i sA xA t u hca hct
      split at hc <;> (try (cases hc; done))
      rename_i e du s' x' ht hu hs hx
      split at hc <;> (try (cases hc; done))
      · split at hc <;> (try (cases hc; done))
        cases hc
        simp [fullOp] at hnf
      · split at hc <;> (try (cases hc; done))
        cases hc
        simp [fullOp] at hnf
  | _ => simp [cOp] at hc
end
end Go.Proofs.Ytdceaeifcniabaa.AE

namespace Go.Proofs.Ytdceaeifcniabaa.AE
set_option linter.unusedVariables false
set_option linter.unusedSimpArgs false
set_option linter.constructorNameAsVariable false
open Go Go.RowKit

/-- One step of the told run. -/
def TStep (call : CallF) (io : IOper) (s s' : St) : Prop :=
  (want s.env io.guard = some true ∧ ∃ v H', aop call (evO s.env) s.H io.op = some (v, H') ∧ s' = ⟨put s.env io.dst v, H'⟩) ∨
  (want s.env io.guard = some false ∧ s' = ⟨put s.env io.dst (.tup []), s.H⟩)

def tchAt (s : St) (io : IOper) : List Nat := touch (evO s.env) s.H io.op

theorem trace {call callP : CallF} : ∀ (l : List (IOper × List Nat)) (i : Nat) (log : List (Nat × Nat)) (s s' : St), runOpsD call callP l i log s = some s' →
    ∃ f : Nat → St, f 0 = s ∧ f l.length = s' ∧ ∀ (k : Nat) (io : IOper) (chk : List Nat), l[k]? = some (io, chk) → TStep (bif isFull chk then call else callP) io (f k) (f (k + 1)) ∧
      (want (f k).env io.guard = some true → (∀ p ∈ log, p.1 ∈ chk → p.2 ∉ tchAt (f k) io) ∧
        ∀ (m : Nat) (jo : IOper) (c2 : List Nat), m < k → l[m]? = some (jo, c2) → want (f m).env jo.guard = some true → (i + m) ∈ chk → ∀ id ∈ tchAt (f m) jo, id ∉ tchAt (f k) io)
  | [], i, log, s, s', h => by
    simp only [runOpsD, Option.some.injEq] at h
    exact ⟨fun _ => s, rfl, h, by simp⟩
  | (o, chk0) :: l, i, log, s, s', h => by
    simp only [runOpsD] at h
    split at h
    · rename_i hw
      split at h <;> (try (cases h; done))
      rename_i hlog
      split at h <;> (try (cases h; done))
      rename_i v H' hv
      obtain ⟨f, h0, h1, h2⟩ := trace l (i + 1) _ _ s' h
      have hlog' : ∀ p ∈ log, p.1 ∈ chk0 → p.2 ∉ tchAt s o := by
        intro p hp hc hm
        have := List.all_eq_true.mp hlog p hp
        simp [hc] at this
        exact this hm
      refine ⟨fun k => match k with | 0 => s | k + 1 => f k, rfl, h1, ?_⟩
      intro k io chk hk
      cases k with
      | zero =>
        simp only [List.getElem?_cons_zero, Option.some.injEq, Prod.mk.injEq] at hk
        obtain ⟨rfl, rfl⟩ := hk
        exact ⟨.inl ⟨hw, v, H', hv, h0⟩, fun _ => ⟨hlog', fun m _ _ hm => absurd hm (by omega)⟩⟩
      | succ k =>
        simp only [List.getElem?_cons_succ] at hk
        obtain ⟨q1, q2⟩ := h2 k io chk hk
        refine ⟨q1, fun hwk => ?_⟩
        obtain ⟨q3, q4⟩ := q2 hwk
        refine ⟨fun p hp => q3 p (by simp [hp]), fun m jo c2 hm hj hwm hc => ?_⟩
        cases m with
        | zero =>
          simp only [List.getElem?_cons_zero, Option.some.injEq, Prod.mk.injEq] at hj
          obtain ⟨rfl, rfl⟩ := hj
          intro id hid
          exact q3 (i, id) (by simp only [List.mem_append, List.mem_map]; exact .inr ⟨id, hid, rfl⟩) (by simpa using hc)
        | succ m =>
          simp only [List.getElem?_cons_succ] at hj
          exact q4 m jo c2 (by omega) hj hwm (by rwa [show i + 1 + m = i + (m + 1) by omega])
    · rename_i hw
      obtain ⟨f, h0, h1, h2⟩ := trace l (i + 1) _ _ s' h
      refine ⟨fun k => match k with | 0 => s | k + 1 => f k, rfl, h1, ?_⟩
      intro k io chk hk
      cases k with
      | zero =>
        simp only [List.getElem?_cons_zero, Option.some.injEq, Prod.mk.injEq] at hk
        obtain ⟨rfl, rfl⟩ := hk
        exact ⟨.inr ⟨hw, h0⟩, fun hw2 => by simp only [hw] at hw2; cases hw2⟩
      | succ k =>
        simp only [List.getElem?_cons_succ] at hk
        obtain ⟨q1, q2⟩ := h2 k io chk hk
        refine ⟨q1, fun hwk => ?_⟩
        obtain ⟨q3, q4⟩ := q2 hwk
        refine ⟨q3, fun m jo c2 hm hj hwm hc => ?_⟩
        cases m with
        | zero =>
          simp only [List.getElem?_cons_zero, Option.some.injEq, Prod.mk.injEq] at hj
          obtain ⟨rfl, rfl⟩ := hj
          simp only [hw] at hwm; cases hwm
        | succ m =>
          simp only [List.getElem?_cons_succ] at hj
          exact q4 m jo c2 (by omega) hj hwm (by rwa [show i + 1 + m = i + (m + 1) by omega])
    · cases h

/-- What an operation does to own memory. -/
theorem aop_shape {P : Program} {call : CallF} (hcall : PCallOK P call) {ev : Opd → AV} {H H' : Heap} {io : IOp} {v : AV} (hnf : fullOp io = false) (h : aop call ev H io = some (v, H')) :
    (∃ Z, H' = H ++ Z) ∨ (∃ id k k', hget H id = some k ∧ k'.e = k.e ∧ k'.els.length = k.els.length ∧ H' = H.set id (some k') ∧ touch ev H io = [id] ∧ storeOp io = true) := by
  cases io with
  | app => simp [fullOp] at hnf
  | call sh g args =>
    simp only [aop] at h
    split at h <;> (try (cases h; done))
    obtain ⟨Z, hz, _⟩ := hcall _ _ _ _ _ h
    exact .inl ⟨Z, hz⟩
  | bk b args =>
    cases b <;> simp only [aop] at h <;> (repeat' split at h) <;> cases h <;> exact .inl ⟨[], (List.append_nil _).symm⟩
  | store n a x =>
    simp only [aop] at h
    split at h <;> (try (cases h; done))
    rename_i Hn hst
    cases h
    generalize hA : ev a = A at hst
    cases A <;> simp only [aStore] at hst <;> (try (cases hst; done))
    rename_i id i j
    split at hst <;> (try (cases hst; done))
    rename_i k hk
    split at hst <;> (try (cases hst; done))
    split at hst <;> (try (cases hst; done))
    rename_i el'' _
    cases hst
    exact .inr ⟨id, k, { k with els := k.els.set i el'' }, hk, rfl, by simp, rfl, by simp [touch, hA], rfl⟩
  | _ =>
    simp only [aop] at h
    repeat' split at h
    all_goals first
      | (cases h; done)
      | (cases h; exact .inl ⟨[], (List.append_nil _).symm⟩)
      | (cases h; exact .inl ⟨_, rfl⟩)

theorem touch_some {ev : Opd → AV} {H : Heap} {io : IOp} {id : Nat} (h : id ∈ touch ev H io) : storeOp io = true ∨ readOp io = true := by
  cases io <;> simp [touch, storeOp, readOp] at h ⊢

/-- They are in order. -/
def Ord (ps : List Nat) (m k : Nat) : Prop := (m < k → (ps.getD k 0).testBit m = true) ∧ (k < m → (ps.getD m 0).testBit k = true)

/-- Is it in order with all others? -/
def fullK (ios : List IOper) (ps : List Nat) (k : Nat) (io : IOper) : Bool := fullOp io.op || isFull (chkOf ios ps k io)

structure Glob (P : Program) (call callP : CallF) (ops : Array Oper) (ios : List IOper) (ps : List Nat) (f : Nat → St) : Prop where
  at_ : ∀ k, k < ops.size → ∃ o io, ops[k]? = some o ∧ ios[k]? = some io ∧ cOper P ops.toList o = some io ∧ TStep (bif isFull (chkOf ios ps k io) then call else callP) io (f k) (f (k + 1))
  slots : ∀ m k om ok t, m ≠ k → ops[m]? = some om → ops[k]? = some ok → om.dst = some t → (t ∈ ok.looksAt ops ∨ ok.dst = some t) → Ord ps m k
  mem : ∀ m k im ik id, m ≠ k → ios[m]? = some im → ios[k]? = some ik → want (f m).env im.guard = some true → want (f k).env ik.guard = some true → storeOp im.op = true → id ∈ tchAt (f m) im → id ∈ tchAt (f k) ik → Ord ps m k
  full : ∀ m k ik, m ≠ k → m < ops.size → ios[k]? = some ik → fullK ios ps k ik = true → Ord ps m k

theorem glob_of {P : Program} {call callP : CallF} {ops : Array Oper} {ios : List IOper} {ps : List Nat} {s s' : St} (hc : optAll (cOper P ops.toList) ops.toList = some ios) (hd : drawOk ops ios ps = true)
    (hr : runOpsD call callP (ios.zipIdx.map fun p => (p.1, chkOf ios ps p.2 p.1)) 0 [] s = some s') : ∃ f : Nat → St, f 0 = s ∧ f ops.size = s' ∧ Glob P call callP ops ios ps f := by
  obtain ⟨f, h0, h1, h2⟩ := trace _ _ _ _ _ hr
  obtain ⟨hl, hat⟩ := optAll_spec hc
  have hlen : ios.length = ops.size := by simpa using hl
  have hget : ∀ k io, ios[k]? = some io → (ios.zipIdx.map fun p => (p.1, chkOf ios ps p.2 p.1))[k]? = some (io, chkOf ios ps k io) := by
    intro k io h
    simp [List.getElem?_zipIdx, h]
  simp only [drawOk, Bool.and_eq_true, decide_eq_true_eq] at hd
  obtain ⟨hcap, hd⟩ := hd
  have hpair : ∀ i j, i < j → j < ops.size → (ps.getD j 0).testBit i = true ∨ ∃ o p a b, ops[i]? = some o ∧ ops[j]? = some p ∧ ios[i]? = some a ∧ ios[j]? = some b ∧ pairOk ops o p a.op b.op = true := by
    intro i j hij hj
    have := List.all_eq_true.mp (List.all_eq_true.mp hd j (List.mem_range.mpr hj)) i (List.mem_range.mpr hij)
    simp only [Bool.or_eq_true] at this
    rcases this with h | h
    · exact .inl h
    · right
      split at h
      · rename_i o p a b e1 e2 e3 e4
        exact ⟨o, p, a, b, e1, e2, e3, e4, h⟩
      · cases h
  have lt_of : ∀ k io, ios[k]? = some io → k < ops.size := fun k io h => by rw [← hlen]; exact (List.getElem?_eq_some_iff.mp h).1
  have lt_of2 : ∀ (k : Nat) (o : Oper), ops[k]? = some o → k < ops.size := fun k o h => (Array.getElem?_eq_some_iff.mp h).1
  refine ⟨f, h0, by rw [← h1]; simp [hlen], ?_, ?_, ?_, ?_⟩
  · intro k hk
    obtain ⟨io, e1, e2⟩ := hat k ops[k] (by simp [hk])
    exact ⟨ops[k], io, by simp [hk], e1, e2, (h2 k io _ (hget k io e1)).1⟩
  · intro m k om ok t hmk hm hk hdst hlook
    constructor
    · intro hlt
      refine (hpair m k hlt (lt_of2 k ok hk)).resolve_right ?_
      rintro ⟨o, p, a, b, e1, e2, e3, e4, h⟩
      rw [hm] at e1; rw [hk] at e2; cases e1; cases e2
      simp only [pairOk, Bool.and_eq_true] at h
      obtain ⟨a1, a2, a3⟩ := Oper.apart_spec h.1.1.1
      rcases hlook with hl | hl
      · exact a1 t hdst hl
      · exact a2 t hdst hl
    · intro hlt
      refine (hpair k m hlt (lt_of2 m om hm)).resolve_right ?_
      rintro ⟨o, p, a, b, e1, e2, e3, e4, h⟩
      rw [hk] at e1; rw [hm] at e2; cases e1; cases e2
      simp only [pairOk, Bool.and_eq_true] at h
      obtain ⟨a1, a2, a3⟩ := Oper.apart_spec h.1.1.1
      rcases hlook with hl | hl
      · exact a3 t hdst hl
      · exact a2 t hl hdst
  · intro m k im ik id hmk hm hk hwm hwk hst htm htk
    constructor
    · intro hlt
      rcases hpair m k hlt (lt_of k ik hk) with h | ⟨o, p, a, b, e1, e2, e3, e4, h⟩
      · exact h
      · cases hb : (ps.getD k 0).testBit m
        · exfalso
          rw [hm] at e3; rw [hk] at e4; cases e3; cases e4
          simp only [pairOk, Bool.and_eq_true, Bool.not_eq_true', hst, Bool.true_and] at h
          have hrd : readOp ik.op = true := (touch_some htk).resolve_left (by rw [h.1.1.2]; simp)
          refine ((h2 k ik _ (hget k ik hk)).2 hwk).2 m im _ hlt (hget m im hm) hwm ?_ id htm htk
          simp only [chkOf, List.mem_append, List.mem_filter, List.mem_range, Nat.zero_add, hlt, true_and, hm, hb, meets, hst, hrd]
          simp
        · rfl
    · intro hlt
      rcases hpair k m hlt (lt_of m im hm) with h | ⟨o, p, a, b, e1, e2, e3, e4, h⟩
      · exact h
      · cases hb : (ps.getD m 0).testBit k
        · exfalso
          rw [hk] at e3; rw [hm] at e4; cases e3; cases e4
          simp only [pairOk, Bool.and_eq_true, Bool.not_eq_true', hst, Bool.and_true] at h
          have hrd : readOp ik.op = true := (touch_some htk).resolve_left (by rw [h.1.1.2]; simp)
          refine ((h2 m im _ (hget m im hm)).2 hwm).2 k ik _ hlt (hget k ik hk) hwk ?_ id htk htm
          simp only [chkOf, List.mem_append, List.mem_filter, List.mem_range, Nat.zero_add, hlt, true_and, hk, hb, meets, hst, hrd]
          simp
        · rfl
  · intro m k ik hmk hm hk hfu
    simp only [fullK, Bool.or_eq_true] at hfu
    rcases hfu with hfu | hfu
    · constructor
      · intro hlt
        refine (hpair m k hlt (lt_of k ik hk)).resolve_right ?_
        rintro ⟨o, p, a, b, e1, e2, e3, e4, h⟩
        rw [hk] at e4; cases e4
        simp [pairOk, hfu] at h
      · intro hlt
        refine (hpair k m hlt hm).resolve_right ?_
        rintro ⟨o, p, a, b, e1, e2, e3, e4, h⟩
        rw [hk] at e3; cases e3
        simp [pairOk, hfu] at h
    · have hkl := lt_of k ik hk
      have hfa : fullAt ios.length ps k ik.op = true := by
        simp only [isFull, chkOf, List.contains_iff_mem, List.mem_append, List.mem_filter, List.mem_range] at hfu
        rcases hfu with ⟨h, _⟩ | h
        · omega
        · split at h
          · assumption
          · simp at h
      simp only [fullAt, Bool.and_eq_true, List.all_eq_true, List.mem_range] at hfa
      have := hfa.2 m (by rw [hlen]; exact hm)
      simp only [Bool.or_eq_true, beq_iff_eq, hmk, false_or] at this
      constructor
      · intro hlt; rw [if_pos hlt] at this; exact this
      · intro hlt; rw [if_neg (by omega)] at this; exact this
end Go.Proofs.Ytdceaeifcniabaa.AE

namespace Go.Proofs.Ytdceaeifcniabaa.AE
set_option linter.unusedVariables false
set_option linter.unusedSimpArgs false
set_option linter.constructorNameAsVariable false
open Go Go.RowKit

theorem le_ind {m : Nat} {p : (n : Nat) → m ≤ n → Prop} (base : p m (Nat.le_refl m)) (succ : ∀ n (h : m ≤ n), p n h → p (n + 1) (Nat.le_succ_of_le h)) : ∀ n h, p n h := by
  intro n h
  induction h with
  | refl => exact base
  | step h ih => exact succ _ h ih

def ShEq : Option (Option Blk) → Option (Option Blk) → Prop
  | none, none => True
  | some none, some none => True
  | some (some a), some (some b) => a.e = b.e ∧ a.els.length = b.els.length
  | _, _ => False

theorem ShEq.refl : ∀ x, ShEq x x
  | none => trivial
  | some none => trivial
  | some (some _) => ⟨rfl, rfl⟩
theorem ShEq.trans : ∀ {x y z}, ShEq x y → ShEq y z → ShEq x z
  | none, none, none, _, _ => trivial
  | some none, some none, some none, _, _ => trivial
  | some (some _), some (some _), some (some _), h, k => ⟨h.1.trans k.1, h.2.trans k.2⟩
  | none, none, some none, _, k => k.elim
  | none, none, some (some _), _, k => k.elim
  | some none, some none, none, _, k => k.elim
  | some none, some none, some (some _), _, k => k.elim
  | some (some _), some (some _), none, _, k => k.elim
  | some (some _), some (some _), some none, _, k => k.elim
  | none, some none, _, h, _ => h.elim
  | none, some (some _), _, h, _ => h.elim
  | some none, none, _, h, _ => h.elim
  | some none, some (some _), _, h, _ => h.elim
  | some (some _), none, _, h, _ => h.elim
  | some (some _), some none, _, h, _ => h.elim
theorem ShEq.symm {x y} (h : ShEq x y) : ShEq y x := by
  cases x with
  | none => cases y with
    | none => trivial
    | some y => exact h.elim
  | some x => cases y with
    | none => cases x <;> exact h.elim
    | some y => cases x with
      | none => cases y with
        | none => trivial
        | some y => exact h.elim
      | some x => cases y with
        | none => exact h.elim
        | some y => exact ⟨h.1.symm, h.2.symm⟩
theorem ShEq.dead {x y} (h : ShEq x y) : x = some none ↔ y = some none := by
  cases x with
  | none => cases y with
    | none => simp
    | some y => exact h.elim
  | some x => cases x with
    | none => cases y with
      | none => exact h.elim
      | some y => cases y with
        | none => simp
        | some y => exact h.elim
    | some x => cases y with
      | none => exact h.elim
      | some y => cases y with
        | none => exact h.elim
        | some y => simp
theorem ShEq.some_l {x : Option (Option Blk)} {b : Blk} (h : ShEq x (some (some b))) : ∃ a, x = some (some a) ∧ a.e = b.e ∧ a.els.length = b.els.length := by
  cases x with
  | none => exact h.elim
  | some x => cases x with
    | none => exact h.elim
    | some a => exact ⟨a, rfl, h.1, h.2⟩
theorem ShEq.some_r {y : Option (Option Blk)} {a : Blk} (h : ShEq (some (some a)) y) : ∃ b, y = some (some b) ∧ a.e = b.e ∧ a.els.length = b.els.length := by
  cases y with
  | none => exact h.elim
  | some x => cases x with
    | none => exact h.elim
    | some b => exact ⟨b, rfl, h.1, h.2⟩
theorem ShEq.none_iff {x y} (h : ShEq x y) : x = none ↔ y = none := by
  cases x with
  | none => cases y with
    | none => simp
    | some y => exact h.elim
  | some x => cases y with
    | none => cases x <;> exact h.elim
    | some y => simp

/-- At this number's place an operation stores. -/
def Upd (ios : List IOper) (f : Nat → St) (m id : Nat) : Prop := ∃ im, ios[m]? = some im ∧ want (f m).env im.guard = some true ∧ storeOp im.op = true ∧ id ∈ tchAt (f m) im

structure Stretch (ops : Array Oper) (ios : List IOper) (f : Nat → St) (b e : Nat) : Prop where
  le : b ≤ e
  top : e ≤ ops.size
  env : ∀ k, b ≤ k → k < e → ∃ o v, ops[k]? = some o ∧ (f (k + 1)).env = put (f k).env o.dst v
  heap : ∀ k, b ≤ k → k < e → (∃ Z, (f (k + 1)).H = (f k).H ++ Z) ∨ ∃ id z z', hget (f k).H id = some z ∧ z'.e = z.e ∧ z'.els.length = z.els.length ∧ (f (k + 1)).H = (f k).H.set id (some z') ∧ Upd ios f k id
  upd : ∀ m id, b ≤ m → m < e → Upd ios f m id → id < (f m).H.length

theorem hget_lt {H : Heap} {id : Nat} {z : Blk} (h : hget H id = some z) : H[id]? = some (some z) ∧ id < H.length := by
  have : H[id]? = some (some z) := by
    unfold hget at h
    split at h
    · rename_i b hb; cases h; exact hb
    · cases h
  exact ⟨this, (List.getElem?_eq_some_iff.mp this).1⟩

theorem put_getD_ne {env : List AV} {d : Option Nat} {v : AV} {t : Nat} (h : d ≠ some t) : (put env d v).getD t .undef = env.getD t .undef := by
  cases d with
  | none => rfl
  | some d =>
    have : d ≠ t := fun e => h (e ▸ rfl)
    simp [put, List.getD_eq_getElem?_getD, List.getElem?_set_ne this]
theorem put_length {env : List AV} {d : Option Nat} {v : AV} : (put env d v).length = env.length := by cases d <;> simp [put]

section
variable {P : Program} {call callP : CallF} {ops : Array Oper} {ios : List IOper} {ps : List Nat} {f : Nat → St} {b e : Nat}

theorem fullK_not {k : Nat} {io : IOper} (h : fullK ios ps k io = false) : fullOp io.op = false ∧ isFull (chkOf ios ps k io) = false := by
  unfold fullK at h
  cases h1 : fullOp io.op <;> cases h2 : isFull (chkOf ios ps k io) <;> simp [h1, h2] at h ⊢
theorem Glob.stretch (G : Glob P call callP ops ios ps f) (hcall : PCallOK P callP) (h1 : b ≤ e) (h2 : e ≤ ops.size) (hf : ∀ k io, b ≤ k → k < e → ios[k]? = some io → fullK ios ps k io = false) : Stretch ops ios f b e := by
  refine ⟨h1, h2, ?_, ?_, ?_⟩
  · intro k hb he
    obtain ⟨o, io, e1, e2, e3, e4⟩ := G.at_ k (by omega)
    have hd := (cOper_op e3).2
    rcases e4 with ⟨_, v, H', _, e5⟩ | ⟨_, e5⟩
    · exact ⟨o, v, e1, by rw [e5, ← hd]⟩
    · exact ⟨o, _, e1, by rw [e5, ← hd]⟩
  · intro k hb he
    obtain ⟨o, io, e1, e2, e3, e4⟩ := G.at_ k (by omega)
    rcases e4 with ⟨hw, v, H', hv, e5⟩ | ⟨_, e5⟩
    · obtain ⟨g1, g2⟩ := fullK_not (hf k io hb he e2)
      rw [g2, cond_false] at hv
      rcases aop_shape hcall g1 hv with ⟨Z, rfl⟩ | ⟨id, z, z', q1, q2, q3, rfl, q5, q6⟩
      · exact .inl ⟨Z, by rw [e5]⟩
      · exact .inr ⟨id, z, z', q1, q2, q3, by rw [e5], io, e2, hw, q6, by unfold tchAt; rw [q5]; simp⟩
    · exact .inl ⟨[], by rw [e5]; simp⟩
  · rintro m id hb he ⟨im, e2', hw', hst, hid⟩
    obtain ⟨o, io, e1, e2, e3, e4⟩ := G.at_ m (by omega)
    rw [e2] at e2'; cases e2'
    rcases e4 with ⟨hw, v, H', hv, e5⟩ | ⟨hw, e5⟩
    · unfold tchAt at hid
      cases hop : im.op <;> rw [hop] at hst <;> simp [storeOp] at hst
      rw [hop] at hv hid
      rename_i n a x
      simp only [touch] at hid
      split at hid
      · rename_i id' i j ha
        simp only [List.mem_singleton] at hid
        subst hid
        simp only [aop, ha, aStore] at hv
        cases hg : hget (f m).H id with
        | none => simp [hg] at hv
        | some z => exact (hget_lt hg).2
      · simp at hid
    · rw [hw] at hw'; cases hw'

theorem Stretch.keepE (S : Stretch ops ios f b e) {c k t : Nat} (hb : b ≤ c) (hck : c ≤ k) (hk : k ≤ e) (hn : ∀ m o, c ≤ m → m < k → ops[m]? = some o → o.dst ≠ some t) : (f k).env.getD t .undef = (f c).env.getD t .undef := by
  induction k, hck using le_ind with
  | base => rfl
  | succ k hck ih =>
    obtain ⟨o, v, h1, h2⟩ := S.env k (by omega) (by omega)
    rw [h2, put_getD_ne (hn k o hck (by omega) h1)]
    exact ih (by omega) (fun m o h3 h4 => hn m o h3 (by omega))

theorem Stretch.lenE (S : Stretch ops ios f b e) {k : Nat} (hb : b ≤ k) (hk : k ≤ e) : (f k).env.length = (f b).env.length := by
  induction k, hb using le_ind with
  | base => rfl
  | succ k hck ih =>
    obtain ⟨o, v, h1, h2⟩ := S.env k (by omega) (by omega)
    rw [h2, put_length]
    exact ih (by omega)

theorem Stretch.mono (S : Stretch ops ios f b e) {c k : Nat} (hb : b ≤ c) (hck : c ≤ k) (hk : k ≤ e) : (f c).H.length ≤ (f k).H.length := by
  induction k, hck using le_ind with
  | base => exact Nat.le_refl _
  | succ k hck ih =>
    have := ih (by omega)
    rcases S.heap k (by omega) (by omega) with ⟨Z, h⟩ | ⟨id, z, z', _, _, _, h, _⟩ <;> rw [h] <;> simp <;> omega

theorem Stretch.shape (S : Stretch ops ios f b e) {c k id : Nat} (hb : b ≤ c) (hck : c ≤ k) (hk : k ≤ e) (hid : id < (f c).H.length) : ShEq ((f c).H[id]?) ((f k).H[id]?) := by
  induction k, hck using le_ind with
  | base => exact .refl _
  | succ k hck ih =>
    refine (ih (by omega)).trans ?_
    have hlt := Nat.lt_of_lt_of_le hid (S.mono hb hck (by omega))
    rcases S.heap k (by omega) (by omega) with ⟨Z, h⟩ | ⟨id', z, z', h1, h2, h3, h, _⟩
    · rw [h, List.getElem?_append_left hlt]; exact .refl _
    · rw [h]
      by_cases hi : id' = id
      · subst hi
        rw [List.getElem?_set_self hlt, (hget_lt h1).1]
        exact ⟨h2.symm, h3.symm⟩
      · rw [List.getElem?_set_ne hi]; exact .refl _

theorem Stretch.keepH (S : Stretch ops ios f b e) {c k id : Nat} (hb : b ≤ c) (hck : c ≤ k) (hk : k ≤ e) (hid : id < (f c).H.length) (hn : ∀ m, c ≤ m → m < k → ¬ Upd ios f m id) : (f k).H[id]? = (f c).H[id]? := by
  induction k, hck using le_ind with
  | base => rfl
  | succ k hck ih =>
    rw [← ih (by omega) (fun m h3 h4 => hn m h3 (by omega))]
    have hlt := Nat.lt_of_lt_of_le hid (S.mono hb hck (by omega))
    rcases S.heap k (by omega) (by omega) with ⟨Z, h⟩ | ⟨id', z, z', h1, h2, h3, h, h4⟩
    · rw [h, List.getElem?_append_left hlt]
    · rw [h, List.getElem?_set_ne (fun hi : id' = id => hn k hck (by omega) (hi ▸ h4))]

theorem Stretch.sameE (S : Stretch ops ios f b e) {c k t : Nat} (hc : b ≤ c) (hce : c ≤ e) (hk : b ≤ k) (hke : k ≤ e) (h : ∀ m o, b ≤ m → m < e → ops[m]? = some o → o.dst = some t → (m < c ↔ m < k)) : (f c).env.getD t .undef = (f k).env.getD t .undef := by
  rcases Nat.le_total c k with hl | hl
  · exact (S.keepE hc hl hke fun m o h1 h2 h3 h4 => absurd ((h m o (by omega) (by omega) h3 h4).mpr h2) (by omega)).symm
  · exact S.keepE hk hl hce fun m o h1 h2 h3 h4 => absurd ((h m o (by omega) (by omega) h3 h4).mp h2) (by omega)

theorem Stretch.sameH (S : Stretch ops ios f b e) {c k id : Nat} (hc : b ≤ c) (hce : c ≤ e) (hk : b ≤ k) (hke : k ≤ e) (h1 : id < (f c).H.length) (h2 : id < (f k).H.length) (h : ∀ m, b ≤ m → m < e → Upd ios f m id → (m < c ↔ m < k)) : (f c).H[id]? = (f k).H[id]? := by
  rcases Nat.le_total c k with hl | hl
  · exact (S.keepH hc hl hke h1 fun m q1 q2 q3 => absurd ((h m (by omega) (by omega) q3).mpr q2) (by omega)).symm
  · exact S.keepH hk hl hce h2 fun m q1 q2 q3 => absurd ((h m (by omega) (by omega) q3).mp q2) (by omega)

/-- A state in between. -/
structure Mix (ops : Array Oper) (ios : List IOper) (f : Nat → St) (b e : Nat) (L : Nat → Prop) (ρ : Rho) (s : St) : Prop where
  len : s.env.length = (f b).env.length
  shape : ∀ id : Nat, ShEq s.H[id]? (f e).H[id]?
  made : ∀ id, ρ id ≠ .no → id < (f b).H.length ∨ ∃ m, b ≤ m ∧ m < e ∧ L m ∧ (f m).H.length ≤ id ∧ id < (f (m + 1)).H.length
  cutH : ∀ id, ρ id ≠ .no → ∃ c, b ≤ c ∧ c ≤ e ∧ id < (f c).H.length ∧ s.H[id]? = (f c).H[id]? ∧ ∀ m, b ≤ m → m < e → Upd ios f m id → (m < c ↔ L m)
  cutE : ∀ t, ∃ c, b ≤ c ∧ c ≤ e ∧ s.env.getD t .undef = (f c).env.getD t .undef ∧ ∀ m o, b ≤ m → m < e → ops[m]? = some o → o.dst = some t → (m < c ↔ L m)
  upds : ∀ m id, b ≤ m → m < e → L m → Upd ios f m id → ρ id ≠ .no

theorem cutE_put {L : Nat → Prop} {ρ : Rho} {s : St} {k : Nat} {o : Oper} {v : AV} (S : Stretch ops ios f b e) (M : Mix ops ios f b e L ρ s) (hb : b ≤ k) (he : k < e) (ho : ops[k]? = some o) (hput : (f (k + 1)).env = put (f k).env o.dst v)
    (hord : ∀ m om t, m ≠ k → ops[m]? = some om → om.dst = some t → o.dst = some t → (m < k ↔ L m)) :
    ∀ t, ∃ c, b ≤ c ∧ c ≤ e ∧ (put s.env o.dst v).getD t .undef = (f c).env.getD t .undef ∧ ∀ m om, b ≤ m → m < e → ops[m]? = some om → om.dst = some t → (m < c ↔ (L m ∨ m = k)) := by
  intro t
  by_cases hd : o.dst = some t
  · refine ⟨k + 1, by omega, by omega, ?_, fun m om h1 h2 h3 h4 => ?_⟩
    · rw [hput, hd]
      simp only [put, List.getD_eq_getElem?_getD]
      rcases Nat.lt_or_ge t s.env.length with hlt | hge
      · rw [List.getElem?_set_self hlt, List.getElem?_set_self (by rw [S.lenE hb (by omega), ← M.len]; exact hlt)]
      · rw [List.getElem?_eq_none (by simpa using hge), List.getElem?_eq_none (by simp; rw [S.lenE hb (by omega), ← M.len]; exact hge)]
    · by_cases hmk : m = k
      · subst hmk; simp
      · have := hord m om t hmk h3 h4 hd
        rw [← this]
        omega
  · obtain ⟨c, h1, h2, h3, h4⟩ := M.cutE t
    refine ⟨c, h1, h2, by rw [put_getD_ne hd, h3], fun m om q1 q2 q3 q4 => ?_⟩
    have hmk : m ≠ k := by
      rintro rfl
      rw [ho] at q3; cases q3
      exact hd q4
    rw [h4 m om q1 q2 q3 q4]
    simp [hmk]

/-- A step that leaves own memory as_ it is. -/
theorem Mix.same {L : Nat → Prop} {ρ : Rho} {s : St} {k : Nat} {o : Oper} {v : AV} (S : Stretch ops ios f b e) (M : Mix ops ios f b e L ρ s) (hb : b ≤ k) (he : k < e) (ho : ops[k]? = some o) (hput : (f (k + 1)).env = put (f k).env o.dst v)
    (hord : ∀ m om t, m ≠ k → ops[m]? = some om → om.dst = some t → o.dst = some t → (m < k ↔ L m)) (hno : ∀ id, ¬ Upd ios f k id) : Mix ops ios f b e (fun m => L m ∨ m = k) ρ ⟨put s.env o.dst v, s.H⟩ := by
  refine ⟨by simpa [put_length] using M.len, M.shape, fun id h => (M.made id h).imp (fun x => x) (fun ⟨m, h1, h2, h3, h4⟩ => ⟨m, h1, h2, .inl h3, h4⟩), fun id h => ?_, cutE_put S M hb he ho hput hord, fun m id h1 h2 h3 h4 => ?_⟩
  · obtain ⟨c, h1, h2, h3, h4, h5⟩ := M.cutH id h
    refine ⟨c, h1, h2, h3, h4, fun m q1 q2 q3 => ?_⟩
    have hmk : m ≠ k := fun hh => hno id (hh ▸ q3)
    rw [h5 m q1 q2 q3]; simp [hmk]
  · rcases h3 with h3 | rfl
    · exact M.upds m id h1 h2 h3 h4
    · exact absurd h4 (hno id)

theorem Mix.makes {L : Nat → Prop} {ρ ρ' : Rho} {s : St} {k : Nat} {o : Oper} {v : AV} {Z G' : Heap} (S : Stretch ops ios f b e) (M : Mix ops ios f b e L ρ s) (hb : b ≤ k) (he : k < e) (ho : ops[k]? = some o) (hput : (f (k + 1)).env = put (f k).env o.dst v) (hH : (f (k + 1)).H = (f k).H ++ Z)
    (hord : ∀ m om t, m ≠ k → ops[m]? = some om → om.dst = some t → o.dst = some t → (m < k ↔ L m)) (hno : ∀ id, ¬ Upd ios f k id) (hρ0 : ∀ i, (f k).H.length ≤ i → i < (f k).H.length + Z.length → ρ i = .no)
    (hG1 : ∀ (i : Nat) (z : Option Blk), Z[i]? = some z → G'[(f k).H.length + i]? = some z) (hG2 : ∀ i : Nat, ¬ ((f k).H.length ≤ i ∧ i < (f k).H.length + Z.length) → G'[i]? = s.H[i]?) (hρ : ∀ i, ¬ ((f k).H.length ≤ i ∧ i < (f k).H.length + Z.length) → ρ' i = ρ i) :
    Mix ops ios f b e (fun m => L m ∨ m = k) ρ' ⟨put s.env o.dst v, G'⟩ := by
  have hlen : (f (k + 1)).H.length = (f k).H.length + Z.length := by rw [hH]; simp
  have hnew : ∀ i, (f k).H.length ≤ i → i < (f k).H.length + Z.length → G'[i]? = (f (k + 1)).H[i]? := by
    intro i h1 h2
    obtain ⟨z, hz⟩ : ∃ z, Z[i - (f k).H.length]? = some z := ⟨_, List.getElem?_eq_getElem (by omega)⟩
    have := hG1 _ z hz
    rw [show (f k).H.length + (i - (f k).H.length) = i by omega] at this
    rw [this, hH, List.getElem?_append_right h1, hz]
  have keep : ∀ i, ρ i ≠ .no → ρ' i = ρ i := fun i hi => hρ i fun h => hi (hρ0 i h.1 h.2)
  refine ⟨by simpa [put_length] using M.len, fun id => ?_, fun id h => ?_, fun id h => ?_, cutE_put S M hb he ho hput hord, fun m id h1 h2 h3 h4 => ?_⟩
  · by_cases hi : (f k).H.length ≤ id ∧ id < (f k).H.length + Z.length
    · simp only [hnew id hi.1 hi.2]
      exact S.shape (c := k + 1) (k := e) (by omega) (by omega) (Nat.le_refl _) (by omega)
    · simp only [hG2 id hi]
      exact M.shape id
  · by_cases hi : (f k).H.length ≤ id ∧ id < (f k).H.length + Z.length
    · exact .inr ⟨k, hb, he, .inr rfl, hi.1, by omega⟩
    · rw [hρ id hi] at h
      exact (M.made id h).imp (fun x => x) (fun ⟨m, h1, h2, h3, h4⟩ => ⟨m, h1, h2, .inl h3, h4⟩)
  · by_cases hi : (f k).H.length ≤ id ∧ id < (f k).H.length + Z.length
    · refine ⟨k + 1, by omega, by omega, by omega, hnew id hi.1 hi.2, fun m q1 q2 q3 => ?_⟩
      have hmk : m ≠ k := fun hh => hno _ (hh ▸ q3)
      have hge : ¬ m < k := fun hm => by
        have r1 := S.upd m _ q1 q2 q3
        have r2 := S.mono (c := m) (k := k) q1 (by omega) (by omega)
        omega
      have hnl : ¬ L m := fun hl => M.upds m _ q1 q2 hl q3 (hρ0 id hi.1 hi.2)
      constructor
      · intro h; omega
      · rintro (h | h)
        · exact absurd h hnl
        · exact absurd h hmk
    · rw [hρ id hi] at h
      obtain ⟨c, h1, h2, h3, h4, h5⟩ := M.cutH id h
      refine ⟨c, h1, h2, h3, by simp only [hG2 id hi]; exact h4, fun m q1 q2 q3 => ?_⟩
      have hmk : m ≠ k := fun hh => hno id (hh ▸ q3)
      rw [h5 m q1 q2 q3]; simp [hmk]
  · rcases h3 with h3 | rfl
    · have := M.upds m id h1 h2 h3 h4
      rw [keep id this]; exact this
    · exact absurd h4 (hno id)

theorem Mix.stores {L : Nat → Prop} {ρ : Rho} {s : St} {k id : Nat} {o : Oper} {v : AV} {z z0 : Blk} (S : Stretch ops ios f b e) (M : Mix ops ios f b e L ρ s) (hb : b ≤ k) (he : k < e) (ho : ops[k]? = some o) (hput : (f (k + 1)).env = put (f k).env o.dst v) (hH : (f (k + 1)).H = (f k).H.set id (some z)) (hlt : id < (f k).H.length)
    (hord : ∀ m om t, m ≠ k → ops[m]? = some om → om.dst = some t → o.dst = some t → (m < k ↔ L m)) (hup : ∀ id', Upd ios f k id' → id' = id) (hord2 : ∀ m, m ≠ k → Upd ios f m id → (m < k ↔ L m)) (hs : s.H[id]? = some (some z0)) (he0 : z.e = z0.e) (hl0 : z.els.length = z0.els.length) (hρ : ρ id ≠ .no) :
    Mix ops ios f b e (fun m => L m ∨ m = k) ρ ⟨put s.env o.dst v, s.H.set id (some z)⟩ := by
  have hlts : id < s.H.length := (List.getElem?_eq_some_iff.mp hs).1
  refine ⟨by simpa [put_length] using M.len, fun id' => ?_, fun id' h => (M.made id' h).imp (fun x => x) (fun ⟨m, h1, h2, h3, h4⟩ => ⟨m, h1, h2, .inl h3, h4⟩), fun id' h => ?_, cutE_put S M hb he ho hput hord, fun m id' h1 h2 h3 h4 => ?_⟩
  · by_cases hi : id = id'
    · subst hi
      simp only [List.getElem?_set_self hlts]
      have := M.shape id
      rw [hs] at this
      obtain ⟨y, q1, q2, q3⟩ := this.some_r
      rw [q1]
      exact ⟨he0.trans q2, hl0.trans q3⟩
    · simp only [List.getElem?_set_ne hi]
      exact M.shape id'
  · by_cases hi : id = id'
    · subst hi
      refine ⟨k + 1, by omega, by omega, by rw [hH]; simpa using hlt, by rw [hH]; simp only [List.getElem?_set_self hlts, List.getElem?_set_self hlt], fun m q1 q2 q3 => ?_⟩
      by_cases hmk : m = k
      · subst hmk; simp
      · have := hord2 m hmk q3
        rw [← this]; omega
    · obtain ⟨c, h1, h2, h3, h4, h5⟩ := M.cutH id' h
      refine ⟨c, h1, h2, h3, by simp only [List.getElem?_set_ne hi]; exact h4, fun m q1 q2 q3 => ?_⟩
      have hmk : m ≠ k := fun hh => hi (hup id' (hh ▸ q3)).symm
      rw [h5 m q1 q2 q3]; simp [hmk]
  · rcases h3 with h3 | rfl
    · exact M.upds m id' h1 h2 h3 h4
    · rw [hup id' h4]; exact hρ
end
end Go.Proofs.Ytdceaeifcniabaa.AE

namespace Go.Proofs.Ytdceaeifcniabaa.AE
set_option linter.unusedVariables false
set_option linter.unusedSimpArgs false
set_option linter.constructorNameAsVariable false
open Go Go.RowKit

section
variable {P : Program} {call callP : CallF} {ops : Array Oper} {ios : List IOper} {ps : List Nat} {f : Nat → St} {b e : Nat}
variable {w w0 : World} {bad D0 : Nat → Prop} {ρ ρ0 : Rho} {a : Act} {B : Nat} {s : St} {Q : Exit → Act → World → Prop}

theorem dead_congr {H G : Heap} (h : ∀ id : Nat, ShEq H[id]? G[id]?) : dead H = dead G := by
  funext id
  exact propext (h id).dead

theorem start_mix (S : Stretch ops ios f b e) (h : Sim w0 D0 ρ0 bad B ρ (f b) a w) {L : Nat → Prop} (hL : ∀ m, b ≤ m → m < e → ¬ L m) :
    ∃ s, Sim w0 D0 ρ0 bad B ρ s a w ∧ Mix ops ios f b e L ρ s := by
  have hsh : ∀ id : Nat, ShEq ((f b).H ++ (f e).H.drop (f b).H.length)[id]? (f e).H[id]? := by
    intro id
    rw [List.getElem?_append]
    split
    · rename_i hlt
      exact S.shape (Nat.le_refl _) S.le (Nat.le_refl _) hlt
    · rename_i hge
      rw [List.getElem?_drop, show (f b).H.length + (id - (f b).H.length) = id by omega]
      exact .refl _
  have hmono : ∀ i, dead (f b).H i → dead ((f b).H ++ (f e).H.drop (f b).H.length) i := by
    intro i hd
    simp only [dead] at *
    rw [List.getElem?_append_left (List.getElem?_eq_some_iff.mp hd).1]; exact hd
  have st : Step w w (dead (f b).H) (dead ((f b).H ++ (f e).H.drop (f b).H.length)) ρ ρ := ⟨Grow.refl _ _, RLe.refl _ _, hmono, fun _ _ => .inl rfl⟩
  have hR := h.heap
  refine ⟨⟨(f b).env, (f b).H ++ (f e).H.drop (f b).H.length⟩, ⟨h.defers, h.size, fun t ht => (h.env t ht).step st, ⟨fun id bb es cap hid => ?_, fun id hid => ?_, hR.inj, fun id hid => let ⟨k, hk, hb⟩ := hR.res id hid; ⟨k, by rw [List.getElem?_append_left (lt_of_no hR (by simp [hid]))]; exact hk, hb⟩⟩, h.low, h.st.trans st⟩, rfl, hsh, fun id hid => .inl (lt_of_no hR hid), fun id hid => ?_, fun t => ?_, fun m id h1 h2 h3 => absurd h3 (hL m h1 h2)⟩
  · obtain ⟨k, hk, hb⟩ := hR.real id bb es cap hid
    exact ⟨k, by rw [List.getElem?_append_left (lt_of_no hR (by simp [hid]))]; exact hk, hb.step st rfl⟩
  · obtain ⟨k, hk, hb⟩ := hR.virt id hid
    exact ⟨k, by rw [List.getElem?_append_left (lt_of_no hR (by simp [hid]))]; exact hk, hb⟩
  · have hlt := lt_of_no hR hid
    refine ⟨b, Nat.le_refl _, S.le, hlt, List.getElem?_append_left hlt, fun m h1 h2 _ => ?_⟩
    have := hL m h1 h2
    constructor
    · intro h; omega
    · intro h; exact absurd h this
  · refine ⟨b, Nat.le_refl _, S.le, rfl, fun m o h1 h2 _ _ => ?_⟩
    have := hL m h1 h2
    constructor
    · intro h; omega
    · intro h; exact absurd h this

theorem end_mix (S : Stretch ops ios f b e) {L : Nat → Prop} (M : Mix ops ios f b e L ρ s) (h : Sim w0 D0 ρ0 bad B ρ s a w) (hL : ∀ m, b ≤ m → m < e → L m) : Sim w0 D0 ρ0 bad B ρ (f e) a w := by
  have hdead : dead s.H = dead (f e).H := dead_congr M.shape
  have henv : ∀ t, s.env.getD t .undef = (f e).env.getD t .undef := by
    intro t
    obtain ⟨c, h1, h2, h3, h4⟩ := M.cutE t
    rw [h3]
    refine S.sameE h1 h2 S.le (Nat.le_refl _) fun m o q1 q2 q3 q4 => ?_
    rw [h4 m o q1 q2 q3 q4]
    exact ⟨fun _ => q2, fun _ => hL m q1 q2⟩
  have hheap : ∀ id, ρ id ≠ .no → s.H[id]? = (f e).H[id]? := by
    intro id hid
    obtain ⟨c, h1, h2, h3, h4, h5⟩ := M.cutH id hid
    rw [h4]
    refine S.sameH h1 h2 S.le (Nat.le_refl _) h3 (Nat.lt_of_lt_of_le h3 (S.mono h1 h2 (Nat.le_refl _))) fun m q1 q2 q3 => ?_
    rw [h5 m q1 q2 q3]
    exact ⟨fun _ => q2, fun _ => hL m q1 q2⟩
  have hlen : s.env.length = (f e).env.length := by rw [M.len, S.lenE S.le (Nat.le_refl _)]
  refine ⟨h.defers, h.size.trans hlen, fun t ht => ?_, ⟨fun id bb es cap hid => ?_, fun id hid => ?_, h.heap.inj, fun id hid => let ⟨k, hk, hb⟩ := h.heap.res id hid; ⟨k, (hheap id (by simp [hid])) ▸ hk, hb⟩⟩, h.low, by rw [← hdead]; exact h.st⟩
  · rw [← hdead, ← henv t]; exact h.env t (hlen ▸ ht)
  · obtain ⟨k, hk, hb⟩ := h.heap.real id bb es cap hid
    refine ⟨k, (hheap id (by simp [hid])) ▸ hk, ?_⟩
    have h2 : BlkRel w bad (dead (f e).H) ρ B k bb es cap := by rw [← hdead]; exact hb
    exact h2
  · obtain ⟨k, hk, hb⟩ := h.heap.virt id hid
    exact ⟨k, (hheap id (by simp [hid])) ▸ hk, hb⟩

theorem want_congr {env env' : List AV} {ops : Array Oper} {o : Oper} {io : IOper} (hc : cOper P ops.toList o = some io) (h : ∀ t, t ∈ o.looksAt ops → env.getD t .undef = env'.getD t .undef) : want env io.guard = want env' io.guard := by
  unfold cOper at hc
  split at hc <;> (try (cases hc; done))
  cases hc
  cases hg : o.guard with
  | none => rfl
  | some p =>
    obtain ⟨g, q⟩ := p
    simp only
    cases hd : (ops.toList[g]?).bind (·.dst) with
    | none => rfl
    | some t =>
      have ht : t ∈ o.looksAt ops := by
        simp only [Oper.looksAt, hg, List.mem_append]
        right
        have : ops.toList[g]? = ops[g]? := by simp
        rw [this] at hd
        simp [hd]
      simp only [want, h t ht]

theorem seg_step (G : Glob P call callP ops ios ps f) (S : Stretch ops ios f b e) (hcall : PCallOK P callP) (hbad : ∀ b, bad b → b < B) {L : Nat → Prop} {k : Nat} (hb : b ≤ k) (he : k < e) (hnf : ∀ io, ios[k]? = some io → fullK ios ps k io = false) (hk : ¬ L k) (hready : ∀ m, (ps.getD k 0).testBit m = true → L m)
    (hclosed : ∀ m, L m → ∀ i, (ps.getD m 0).testBit i = true → L i) (h : Sim w0 D0 ρ0 bad B ρ s a w) (M : Mix ops ios f b e L ρ s) {K : Act → World → Prop}
    (hK : ∀ a' w' ρ' s', Sim w0 D0 ρ0 bad B ρ' s' a' w' → Mix ops ios f b e (fun m => L m ∨ m = k) ρ' s' → K a' w') : wpOp P ops Q k K a w := by
  obtain ⟨o, io, e1, e2, e3, e4⟩ := G.at_ k (Nat.lt_of_lt_of_le he S.top)
  obtain ⟨hop, hdst⟩ := cOper_op e3
  have ordL : ∀ m, m ≠ k → Ord ps m k → (m < k ↔ L m) := by
    intro m hmk ho
    constructor
    · intro hlt; exact hready m (ho.1 hlt)
    · intro hl
      rcases Nat.lt_or_ge m k with hlt | hge
      · exact hlt
      · exact absurd (hclosed m hl k (ho.2 (by omega))) hk
  have hord : ∀ m om t, m ≠ k → ops[m]? = some om → om.dst = some t → o.dst = some t → (m < k ↔ L m) := fun m om t h1 h2 h3 h4 => ordL m h1 (G.slots m k om o t h1 h2 e1 h3 (.inr h4))
  have hslot : ∀ t, t ∈ o.looksAt ops → s.env.getD t .undef = (f k).env.getD t .undef := by
    intro t ht
    obtain ⟨c, h1, h2, h3, h4⟩ := M.cutE t
    rw [h3]
    refine S.sameE h1 h2 hb (by omega) fun m om q1 q2 q3 q4 => ?_
    rw [h4 m om q1 q2 q3 q4]
    by_cases hmk : m = k
    · subst hmk; simp [hk]
    · exact (ordL m hmk (G.slots m k om o t hmk q3 e1 q4 (.inl ht))).symm
  have hwant : want s.env io.guard = want (f k).env io.guard := want_congr e3 hslot
  unfold wpOp
  rw [e1]
  simp only
  rcases e4 with ⟨hw, v, H', hv, e5⟩ | ⟨hw, e5⟩
  · rw [want_spec e3 h (hwant.trans hw), if_pos rfl]
    refine .inl ?_
    have hput : (f (k + 1)).env = put (f k).env o.dst v := by rw [e5, ← hdst]
    have hHk : (f (k + 1)).H = H' := by rw [e5]
    have hshk : ∀ id z, hget (f k).H id = some z → ∃ z', s.H[id]? = some (some z') ∧ z'.e = z.e ∧ z'.els.length = z.els.length := by
      intro id z hz
      obtain ⟨q1, q2⟩ := hget_lt hz
      have r1 := S.shape hb (Nat.le_of_lt he) (Nat.le_refl _) q2
      rw [q1] at r1
      obtain ⟨y, r2, r3, r4⟩ := r1.some_r
      have r5 := M.shape id
      rw [r2] at r5
      obtain ⟨x, r6, r7, r8⟩ := r5.some_l
      exact ⟨x, r6, r7.trans r3.symm, r8.trans r4.symm⟩
    have hgets : ∀ {H : Heap} {id : Nat} {z : Blk}, H[id]? = some (some z) → hget H id = some z := by
      intro H id z hz; simp [hget, hz]
    have hO : OpsOk w bad (dead s.H) ρ a (evO (f k).env) o.op.operands.toList := by
      intro x hx y hy
      have h1 := evO_rep h o.op.operands.toList x hx y hy
      have : evO (f k).env y = evO s.env y := by
        cases y with
        | v _ => rfl
        | t t =>
          have hxt : x = .tmp t := by
            cases x with
            | tmp t' => simp [cOpd] at hy; rw [hy]
            | const u => cases hu : cv u <;> simp [cOpd, hu] at hy
            | global g => simp [cOpd] at hy
            | func g => simp [cOpd] at hy
          subst hxt
          exact (hslot t (by simp only [Oper.looksAt, List.mem_append, List.mem_filterMap]; exact .inl ⟨.tmp t, hx, rfl⟩)).symm
      rw [this]; exact h1
    have htc : ∀ id ∈ touch (evO (f k).env) (f k).H io.op, ∀ z, hget (f k).H id = some z → ρ id ≠ .no → hget s.H id = some z := by
      intro id hid z hz hn
      obtain ⟨q1, q2⟩ := hget_lt hz
      obtain ⟨c, h1, h2, h3, h4, h5⟩ := M.cutH id hn
      have : (f c).H[id]? = (f k).H[id]? := by
        refine S.sameH h1 h2 hb (by omega) h3 q2 fun m r1 r2 r3 => ?_
        rw [h5 m r1 r2 r3]
        by_cases hmk : m = k
        · subst hmk; simp [hk]
        · obtain ⟨im, t1, t2, t3, t4⟩ := r3
          exact (ordL m hmk (G.mem m k im io id hmk t1 e2 t2 hw t3 t4 hid)).symm
      exact hgets (h4.trans (this.trans q1))
    have hdd : ∀ id, dead s.H id → hget (f k).H id = none := by
      intro id hd
      cases hz : hget (f k).H id with
      | none => rfl
      | some z =>
        obtain ⟨z', q, _⟩ := hshk id z hz
        simp only [dead] at hd
        rw [hd] at q; cases q
    have hupd : storeOp io.op = false → ∀ id, ¬ Upd ios f k id := by
      rintro hs id ⟨im, t1, t2, t3, t4⟩
      rw [e2] at t1; cases t1
      rw [hs] at t3; cases t3
    obtain ⟨g1, g2⟩ := fullK_not (hnf io e2)
    rw [g2, cond_false] at hv
    have hfin := op_drawn (ev := evO (f k).env) hop hcall g1 hbad h.heap h.low hO (fun id z hz => let ⟨z', q1, q2, q3⟩ := hshk id z hz; ⟨z', hgets q1, q3⟩) (fun id z hz => let ⟨z', q1, q2, q3⟩ := hshk id z hz; ⟨z', hgets q1, q2⟩) htc hdd (fun _ => rfl) hv
    have hnoR : ∀ Z : Heap, (f (k + 1)).H = (f k).H ++ Z → ∀ i, (f k).H.length ≤ i → i < (f k).H.length + Z.length → ρ i = .no := by
      intro Z hZ i i1 i2
      have hlz : (f (k + 1)).H.length = (f k).H.length + Z.length := by rw [hZ]; simp
      cases hx : ρ i with
      | no => rfl
      | _ =>
        exfalso
        rcases M.made i (by simp [hx]) with h' | ⟨m, r1, r2, r3, r4, r5⟩
        · have := S.mono (Nat.le_refl b) hb (by omega); omega
        · have hmk : m ≠ k := fun hh => hk (hh ▸ r3)
          rcases Nat.lt_or_ge m k with hlt | hge
          · have := S.mono (c := m + 1) (k := k) (by omega) (by omega) (by omega); omega
          · have := S.mono (c := k + 1) (k := m) (by omega) (by omega) (by omega); omega
    have hshZ : ∀ Z : Heap, (f (k + 1)).H = (f k).H ++ Z → ∀ i, (f k).H.length ≤ i → i < (f k).H.length + Z.length → ShEq s.H[i]? (Z[i - (f k).H.length]?) := by
      intro Z hZ i i1 i2
      have hlz : (f (k + 1)).H.length = (f k).H.length + Z.length := by rw [hZ]; simp
      have hsx := S.shape (c := k + 1) (k := e) (id := i) (by omega) (by omega) (Nat.le_refl _) (by omega)
      rw [hZ, List.getElem?_append_right i1] at hsx
      exact (M.shape i).trans hsx.symm
    rcases hfin with ⟨⟨cv, hr, hrep⟩, hH, hst⟩ | ⟨z, hm, hH, hst⟩ | ⟨id, z, z', w', q1, q2, q3, q4, hH, q5, q6, q7, q8, q9, q10⟩ | ⟨hst, _, Z, hH, vs, g, hr, hres⟩
    · unfold Oper.wp
      rw [hr]
      exact hK _ _ ρ _ (put_sim o.dst h (Step.refl _ _ _) h.heap hrep) (M.same S hb he e1 hput hord (hupd hst))
    · obtain ⟨cv, w', cur, fz, cap, hr, h1, h2, h3, ⟨h4, h5, h6⟩, h7, h8, h9, h10, h11, h12, h13⟩ := hm
      have hHH : (f (k + 1)).H = (f k).H ++ [some z] := hHk.trans hH
      have hno : ρ (f k).H.length = .no := hnoR _ hHH _ (Nat.le_refl _) (by simp)
      have hsn := hshZ _ hHH _ (Nat.le_refl _) (by simp)
      simp only [Nat.sub_self, List.getElem?_cons_zero] at hsn
      obtain ⟨y2, hy2, _, _⟩ := hsn.some_l
      have hlts : (f k).H.length < s.H.length := (List.getElem?_eq_some_iff.mp hy2).1
      obtain ⟨ρ', hρ', st, hR⟩ := alloc_upd (H' := s.H.set (f k).H.length (some z)) h.heap h.low hno (List.getElem?_set_self hlts) (fun i hi _ => List.getElem?_set_ne (Ne.symm hi)) (fun i hi => by
        have : i ≠ (f k).H.length := by rintro rfl; rw [hy2] at hi; cases hi
        rw [List.getElem?_set_ne (Ne.symm this)]; exact hi) h1 h2 h3 h4 h5 h6 h7 h8 h9 h10 h11 h12
      have hM' : Mix ops ios f b e (fun m => L m ∨ m = k) ρ' ⟨put s.env o.dst v, s.H.set (f k).H.length (some z)⟩ := by
        refine M.makes S hb he e1 hput hHH hord (hupd hst) (hnoR _ hHH) (fun i z' hz => ?_) (fun i hi => ?_) (fun i hi => ?_)
        · cases i with
          | zero => simp only [List.getElem?_cons_zero, Option.some.injEq] at hz; subst hz; exact List.getElem?_set_self hlts
          | succ i => simp at hz
        · exact List.getElem?_set_ne (by simp at hi; omega)
        · subst hρ'
          have : i ≠ (f k).H.length := by simp at hi; omega
          simp [this]
      unfold Oper.wp
      rw [hr]
      refine hK _ _ ρ' _ (put_sim (v := v) o.dst h st hR ?_) hM'
      rcases h13 with ⟨rfl, rfl⟩ | ⟨n, c, rfl, q1, q2, rfl⟩
      · have := Rep.ptr (w := w') (bad := bad) (D := dead (s.H.set (f k).H.length (some z))) (ρ := ρ') (id := (f k).H.length) (i := 0) (j := 0) (b := w.heap.size) (es := z.e.es) (cap := cap) (by subst hρ'; simp)
        simpa using this
      · have := Rep.slc (w := w') (bad := bad) (D := dead (s.H.set (f k).H.length (some z))) (ρ := ρ') (id := (f k).H.length) (o := 0) (n := n) (c := c) (b := w.heap.size) (es := z.e.es) (cap := cap) (by subst hρ'; simp) (by omega) q1
        simpa using this
    · obtain ⟨st, hR⟩ := q8 _ rfl
      unfold Oper.wp
      rw [q9]
      subst q7
      refine hK _ _ ρ _ (put_sim (v := .undef) o.dst h st hR (.frz (.undef _))) (M.stores S hb he e1 hput (hHk.trans hH) (hget_lt q2).2 hord ?_ ?_ q1 q3 q4 q10)
      · rintro id' ⟨im, t1, t2, t3, t4⟩
        rw [e2] at t1; cases t1
        unfold tchAt at t4
        rw [q5] at t4
        simpa using t4
      · rintro m hmk ⟨im, t1, t2, t3, t4⟩
        exact ordL m hmk (G.mem m k im io id hmk t1 e2 t2 hw t3 t4 (by unfold tchAt; rw [q5]; simp))
    · have hHH : (f (k + 1)).H = (f k).H ++ Z := hHk.trans hH
      have hno := hnoR _ hHH
      have hsh := hshZ _ hHH
      generalize hn : (f k).H.length = n at *
      have hlen : 0 < Z.length → n + Z.length ≤ s.H.length := by
        intro h0
        have := hsh (n + Z.length - 1) (by omega) (by omega)
        rcases Nat.lt_or_ge (n + Z.length - 1) s.H.length with h' | h'
        · omega
        · have h2 := this.none_iff.mp (List.getElem?_eq_none h')
          rw [List.getElem?_eq_none_iff] at h2
          omega
      obtain ⟨G', hG1, hG2⟩ : ∃ G' : Heap, (∀ (i : Nat) (z : Option Blk), Z[i]? = some z → G'[n + i]? = some z) ∧ (∀ i : Nat, ¬ (n ≤ i ∧ i < n + Z.length) → G'[i]? = s.H[i]?) := by
        rcases Nat.eq_zero_or_pos Z.length with h0 | h0
        · have : Z = [] := List.eq_nil_of_length_eq_zero h0
          subst this
          exact ⟨s.H, fun i z hz => by simp at hz, fun i _ => rfl⟩
        · have hl := hlen h0
          refine ⟨s.H.take n ++ (Z ++ s.H.drop (n + Z.length)), fun i z hz => ?_, fun i hi => ?_⟩
          · have hi := (List.getElem?_eq_some_iff.mp hz).1
            rw [List.getElem?_append_right (by simp; omega), List.length_take, show n + i - min n s.H.length = i by omega, List.getElem?_append_left hi]; exact hz
          · rcases Nat.lt_or_ge i n with h' | h'
            · rw [List.getElem?_append_left (by simp; omega), List.getElem?_take, if_pos h']
            · rw [List.getElem?_append_right (by simp; omega), List.length_take, List.getElem?_append_right (by omega), List.getElem?_drop]
              congr 1; omega
      have hfit : Fits n Z ρ s.H G' := by
        refine ⟨hno, hG1, fun i hi _ => hG2 i hi, fun i hd => ?_⟩
        by_cases hi : n ≤ i ∧ i < n + Z.length
        · have := hsh i hi.1 hi.2
          simp only [dead] at *
          rw [hd] at this
          have hz := this.dead.mp rfl
          have := hG1 _ _ hz
          rwa [show n + (i - n) = i by omega] at this
        · simp only [dead] at *
          rw [hG2 i hi]; exact hd
      unfold Oper.wp
      rw [hr]
      have fin : ∀ cv w' (ρ' : Rho), (∀ i, ¬ (n ≤ i ∧ i < n + Z.length) → ρ' i = ρ i) → Step w w' (dead s.H) (dead G') ρ ρ' → HRel w' bad ρ' B G' → Rep w' bad (dead G') ρ' v cv → K (a.put o.dst cv) w' := by
        intro cv w' ρ' h1 st hR hrep
        refine hK _ _ ρ' ⟨put s.env o.dst v, G'⟩ (put_sim o.dst h st hR hrep) ?_
        subst hn
        exact M.makes S hb he e1 hput hHH hord (hupd hst) hno hG1 hG2 h1
      rcases hres G' hfit with ⟨cv, w', h1, ρ', h2, st, hR, hrep⟩ | ⟨h1, h2⟩
      · rw [h1]
        exact fin cv w' ρ' h2 st hR hrep
      · rw [h1]
        refine h2.mono ?_
        rintro ex w' ⟨cv, rfl, ρ', h2, st, hR, hrep⟩
        exact fin cv w' ρ' h2 st hR hrep
  · rw [want_spec e3 h (hwant.trans hw), if_neg (by simp)]
    have hput : (f (k + 1)).env = put (f k).env o.dst (.tup []) := by rw [e5, ← hdst]
    refine hK _ _ ρ _ (skip_sim o.dst h) (M.same S hb he e1 hput hord ?_)
    rintro id ⟨im, t1, t2, t3, t4⟩
    rw [e2] at t1; cases t1
    rw [hw] at t2; cases t2
end
end Go.Proofs.Ytdceaeifcniabaa.AE

namespace Go.Proofs.Ytdceaeifcniabaa.AE
set_option linter.unusedVariables false
set_option linter.unusedSimpArgs false
set_option linter.constructorNameAsVariable false
open Go Go.RowKit

theorem predsOf_len : ∀ (l : List Oper) (acc : List Nat), (predsOf l acc).length = acc.length + l.length
  | [], acc => by simp [predsOf]
  | o :: l, acc => by
    rw [predsOf, predsOf_len l]
    simp; omega
theorem predsOf_old : ∀ (l : List Oper) (acc : List Nat) (k : Nat), k < acc.length → (predsOf l acc).getD k 0 = acc.getD k 0
  | [], acc, k, _ => by simp [predsOf]
  | o :: l, acc, k, h => by
    rw [predsOf, predsOf_old l _ k (by simp; omega)]
    simp only [List.getD_eq_getElem?_getD, List.getElem?_append_left h]

theorem fold_bits (g : Nat → Nat) : ∀ (l : List _) (m i : Nat), (l.foldl (fun m (e : Edge) => if Region.binds .any e then m ||| 2 ^ e.on ||| g e.on else m) m).testBit i = true →
    m.testBit i = true ∨ ∃ e ∈ l, Region.binds .any e = true ∧ (i = e.on ∨ (g e.on).testBit i = true)
  | [], m, i, h => .inl h
  | e :: l, m, i, h => by
    simp only [List.foldl_cons] at h
    rcases fold_bits g l _ i h with h | ⟨e', h1, h2⟩
    · split at h
      · rename_i hb
        simp only [Nat.testBit_or, Bool.or_eq_true, Nat.testBit_two_pow, decide_eq_true_eq] at h
        rcases h with (h | h) | h
        · exact .inl h
        · exact .inr ⟨e, by simp, hb, .inl h.symm⟩
        · exact .inr ⟨e, by simp, hb, .inr h⟩
      · exact .inl h
    · exact .inr ⟨e', by simp [h1], h2⟩

theorem predsOf_bits : ∀ (l : List Oper) (acc : List Nat) (k i : Nat) (o : Oper), l[k]? = some o → ((predsOf l acc).getD (acc.length + k) 0).testBit i = true → ∃ e ∈ o.after.toList, Region.binds .any e = true ∧ (i = e.on ∨ (((predsOf l acc).getD e.on 0).testBit i = true))
  | [], acc, k, i, o, h, _ => by simp at h
  | p :: l, acc, k, i, o, h, hb => by
    rw [predsOf] at hb ⊢
    generalize hx : p.after.toList.foldl (fun m e => if Region.binds .any e then m ||| 2 ^ e.on ||| acc.getD e.on 0 else m) 0 = x at hb
    cases k with
    | zero =>
      simp only [List.getElem?_cons_zero, Option.some.injEq] at h
      subst h
      rw [predsOf_old l _ _ (by simp)] at hb
      have : (acc ++ [x]).getD (acc.length + 0) 0 = x := by simp [List.getD_eq_getElem?_getD]
      rw [this, ← hx] at hb
      rcases fold_bits (fun n => acc.getD n 0) _ _ _ hb with h | ⟨e, h1, h2, h3⟩
      · simp at h
      · refine ⟨e, h1, h2, h3.imp (fun x => x) fun h3 => ?_⟩
        have hlt : e.on < acc.length := by
          rcases Nat.lt_or_ge e.on acc.length with h' | h'
          · exact h'
          · simp [List.getD_eq_getElem?_getD, List.getElem?_eq_none h'] at h3
        rw [predsOf_old l _ _ (by simp; omega)]
        simp only [List.getD_eq_getElem?_getD, List.getElem?_append_left hlt] at h3 ⊢
        exact h3
    | succ k =>
      simp only [List.getElem?_cons_succ] at h
      have := predsOf_bits l (acc ++ [x]) k i o h (by rw [show (acc ++ [x]).length + k = acc.length + (k + 1) by simp; omega]; exact hb)
      exact this

theorem next_full (ios : List IOper) (ps : List Nat) (n : Nat) : ∀ d b : Nat, n - b = d → b ≤ n → ∃ e, b ≤ e ∧ e ≤ n ∧ (∀ k io, b ≤ k → k < e → ios[k]? = some io → fullK ios ps k io = false) ∧ (e = n ∨ ∃ io, ios[e]? = some io ∧ fullK ios ps e io = true)
  | 0, b, h, hb => ⟨b, Nat.le_refl _, hb, fun k io h1 h2 => by omega, .inl (by omega)⟩
  | d + 1, b, h, hb => by
    by_cases hf : ∃ io, ios[b]? = some io ∧ fullK ios ps b io = true
    · exact ⟨b, Nat.le_refl _, hb, fun k io h1 h2 => by omega, .inr hf⟩
    · obtain ⟨e, h1, h2, h3, h4⟩ := next_full ios ps n d (b + 1) (by omega) (by omega)
      refine ⟨e, by omega, h2, fun k io q1 q2 q3 => ?_, h4⟩
      by_cases hk : k = b
      · subst hk
        cases hx : fullK ios ps k io
        · rfl
        · exact absurd ⟨io, q3, hx⟩ hf
      · exact h3 k io (by omega) q2 q3

def open_ (listed : Array Bool) : Nat := listed.toList.countP (· = false)

theorem open_set {listed : Array Bool} {i : Nat} (h : listed.getD i true = false) : open_ (listed.setIfInBounds i true) + 1 = open_ listed := by
  have hlt : i < listed.size := by
    rcases Nat.lt_or_ge i listed.size with h' | h'
    · exact h'
    · simp [Array.getElem?_eq_none h'] at h
  have hv : listed.toList[i] = false := by
    have : listed[i] = false := by simpa [hlt] using h
    simpa using this
  unfold open_
  rw [Array.toList_setIfInBounds, List.countP_set (h := by simpa using hlt)]
  have hpos : 0 < listed.toList.countP (fun x => decide (x = false)) := List.countP_pos_iff.mpr ⟨false, by rw [← hv]; exact List.getElem_mem _, by simp⟩
  have h1 : (if (decide (listed.toList[i] = false)) = true then 1 else 0) = 1 := by rw [hv]; rfl
  have h2 : (if (decide (true = false)) = true then 1 else 0) = 0 := rfl
  simp only [h1, h2]
  omega

theorem open_zero {listed : Array Bool} (h : open_ listed = 0) (i : Nat) : listed.getD i true = true := by
  unfold open_ at h
  rw [List.countP_eq_zero] at h
  rcases Nat.lt_or_ge i listed.size with hlt | hge
  · have := h listed[i] (by simp)
    simp [hlt]
    simpa using this
  · simp [Array.getElem?_eq_none hge]

section
variable {P : Program} {call callP : CallF} {ops : Array Oper} {ios : List IOper} {ps : List Nat} {f : Nat → St} {b e : Nat}
variable {w w0 : World} {bad D0 : Nat → Prop} {ρ ρ0 : Rho} {a : Act} {B : Nat} {s : St} {Q : Exit → Act → World → Prop}

theorem getD_set {listed : Array Bool} {i m : Nat} (hi : i < listed.size) : (listed.setIfInBounds i true).getD m false = true ↔ (listed.getD m false = true ∨ m = i) := by
  by_cases h : m = i
  · subst h; simp [hi]
  · simp [Array.getElem?_setIfInBounds_ne (Ne.symm h), h]

theorem drawn_main (G : Glob P call callP ops ios (predsOf ops.toList []) f) (hcall1 : CallOK P call) (hcall : PCallOK P callP) (hbad : ∀ b, bad b → b < B) (hed : edgesOk ops = true) (hsz : ios.length = ops.size) (hQ : ∀ a w ρ, Sim w0 D0 ρ0 bad B ρ (f ops.size) a w → Q .normal a w) :
    ∀ (fuel : Nat) (b e : Nat) (listed : Array Bool) (ρ : Rho) (s : St) (a : Act) (w : World), listed.size = ops.size → open_ listed ≤ fuel → b ≤ e → e ≤ ops.size → (∀ k io, b ≤ k → k < e → ios[k]? = some io → fullK ios (predsOf ops.toList []) k io = false) → (e = ops.size ∨ ∃ io, ios[e]? = some io ∧ fullK ios (predsOf ops.toList []) e io = true) →
      (∀ k, k < b → listed.getD k false = true) → (∀ k, e ≤ k → listed.getD k false = false) → (∀ m, listed.getD m false = true → ∀ i, ((predsOf ops.toList []).getD m 0).testBit i = true → listed.getD i false = true) →
      Sim w0 D0 ρ0 bad B ρ s a w → Mix ops ios f b e (fun m => listed.getD m false = true) ρ s → wpAny P .any ops Q fuel listed a w := by
  intro fuel
  induction fuel with
  | zero =>
    intro b e listed ρ s a w hls hop hbe hen hnf hfe hlo hhi hcl h M
    have hall := open_zero (Nat.le_zero.mp hop)
    have hall2 : ∀ k, k < ops.size → listed.getD k false = true := by
      intro k hk
      have := hall k
      simpa [hls ▸ hk] using this
    have heq : e = ops.size := by
      rcases hfe with h' | ⟨io, h1, _⟩
      · exact h'
      · have hlt : e < ops.size := by rw [← hsz]; exact (List.getElem?_eq_some_iff.mp h1).1
        have := hall2 e hlt
        rw [hhi e (Nat.le_refl _)] at this; cases this
    refine ⟨?_, ?_⟩
    · cases hr : Region.ready .any ops listed with
      | nil => rfl
      | cons j l =>
        have hj : j ∈ Region.ready .any ops listed := by rw [hr]; simp
        have := (mem_ready.1 hj).1
        rw [hall j] at this; cases this
    · have S := G.stretch hcall hbe hen hnf
      have := end_mix S M h (fun m _ h2 => hall2 m (by omega))
      rw [heq] at this
      exact hQ _ _ _ this
  | succ fuel ih =>
    intro b e listed ρ s a w hls hop hbe hen hnf hfe hlo hhi hcl h M
    have S := G.stretch hcall hbe hen hnf
    have hedge : ∀ (k : Nat) (o : Oper), ops[k]? = some o → ∀ x ∈ o.after, Region.binds .any x = true → x.on < k := by
      intro k o ho x hx hb
      have := List.all_eq_true.mp hed (o, k) (by rw [List.mem_zipIdx_iff_getElem?]; simpa using ho)
      have := List.all_eq_true.mp this x (by simpa using hx)
      simpa [hb] using this
    refine ⟨fun hnil => ?_, fun i hi => ?_⟩
    · have hall2 : ∀ k, k < ops.size → listed.getD k false = true := by
        intro k
        induction k using Nat.strongRecOn with
        | _ k ihk =>
          intro hk
          cases hx : listed.getD k false with
          | true => rfl
          | false =>
            exfalso
            have : k ∈ Region.ready .any ops listed := mem_ready.2 ⟨by simpa [hls ▸ hk] using hx, ops[k], by simp [hk], fun x hx hb => by
              have hlt := hedge k ops[k] (by simp [hk]) x hx hb
              exact ihk x.on hlt (by omega)⟩
            rw [hnil] at this
            simp at this
      have heq : e = ops.size := by
        rcases hfe with h' | ⟨io, h1, _⟩
        · exact h'
        · have hlt : e < ops.size := by rw [← hsz]; exact (List.getElem?_eq_some_iff.mp h1).1
          have := hall2 e hlt
          rw [hhi e (Nat.le_refl _)] at this; cases this
      have := end_mix S M h (fun m _ h2 => hall2 m (by omega))
      rw [heq] at this
      exact hQ _ _ _ this
    · obtain ⟨hi0, o, ho, haft⟩ := mem_ready.1 hi
      have hlt : i < ops.size := (Array.getElem?_eq_some_iff.1 ho).1
      have hlt' : i < listed.size := hls ▸ hlt
      have hi1 : listed.getD i false = false := by simpa [hlt'] using hi0
      have hb : b ≤ i := by
        rcases Nat.lt_or_ge i b with h' | h'
        · rw [hlo i h'] at hi1; cases hi1
        · exact h'
      have hready : ∀ m, ((predsOf ops.toList []).getD i 0).testBit m = true → listed.getD m false = true := by
        intro m hm
        obtain ⟨x, h1, h2, h3⟩ := predsOf_bits ops.toList [] i m o (by simpa using ho) (by simpa using hm)
        have hl := haft x (by simpa using h1) h2
        rcases h3 with rfl | h3
        · exact hl
        · exact hcl x.on hl m h3
      have hop' : open_ (listed.setIfInBounds i true) ≤ fuel := by have := open_set hi0; omega
      have hcl' : ∀ m, (listed.setIfInBounds i true).getD m false = true → ∀ j, ((predsOf ops.toList []).getD m 0).testBit j = true → (listed.setIfInBounds i true).getD j false = true := by
        intro m hm j hj
        rw [getD_set hlt'] at hm ⊢
        rcases hm with hm | rfl
        · exact .inl (hcl m hm j hj)
        · exact .inl (hready j hj)
      have hfun : (fun m => listed.getD m false = true ∨ m = i) = fun m => (listed.setIfInBounds i true).getD m false = true := by
        funext m
        exact propext (getD_set hlt').symm
      rcases Nat.lt_or_ge i e with hie | hie
      · refine seg_step G S hcall hbad hb hie (fun io hio => hnf i io hb hie hio) (by simp [hi1]) hready hcl h M fun a' w' ρ' s' h' M' => ?_
        rw [hfun] at M'
        refine ih b e _ ρ' s' a' w' (by simpa using hls) hop' hbe hen hnf hfe (fun k hk => (getD_set hlt').mpr (.inl (hlo k hk))) (fun k hk => ?_) hcl' h' M'
        cases hx : (listed.setIfInBounds i true).getD k false with
        | false => rfl
        | true =>
          rcases (getD_set hlt').mp hx with h1 | h1
          · rw [hhi k hk] at h1; cases h1
          · omega
      · obtain ⟨fio, hf1, hf2⟩ := hfe.resolve_left (by omega)
        have hei : e = i := by
          rcases Nat.lt_or_ge e i with h' | h'
          · have hor := G.full i e fio (by omega) hlt hf1 hf2
            have := hready e (hor.2 h')
            rw [hhi e (Nat.le_refl _)] at this; cases this
          · omega
        subst hei
        have hsim := end_mix S M h fun m h1 h2 => hready m ((G.full m e fio (by omega) (by omega) hf1 hf2).1 h2)
        obtain ⟨o', io, e1, e2, e3, e4⟩ := G.at_ e hlt
        rw [ho] at e1; cases e1
        obtain ⟨hopp, hdst⟩ := cOper_op e3
        have next : ∀ a' w' ρ', Sim w0 D0 ρ0 bad B ρ' (f (e + 1)) a' w' → wpAny P .any ops Q fuel (listed.setIfInBounds e true) a' w' := by
          intro a' w' ρ' h'
          obtain ⟨e', q1, q2, q3, q4⟩ := next_full ios (predsOf ops.toList []) ops.size _ (e + 1) rfl hlt
          have S' := G.stretch hcall q1 q2 q3
          have hoff : ∀ k, e + 1 ≤ k → (listed.setIfInBounds e true).getD k false = false := by
            intro k hk
            cases hx : (listed.setIfInBounds e true).getD k false with
            | false => rfl
            | true =>
              rcases (getD_set hlt').mp hx with h1 | h1
              · rw [hhi k (by omega)] at h1; cases h1
              · omega
          obtain ⟨s', h2, M'⟩ := start_mix S' h' (L := fun m => (listed.setIfInBounds e true).getD m false = true) (fun m h1 _ h3 => by rw [hoff m h1] at h3; cases h3)
          refine ih (e + 1) e' _ ρ' s' a' w' (by simpa using hls) hop' q1 q2 q3 q4 (fun k hk => (getD_set hlt').mpr ?_) (fun k hk => hoff k (by omega)) hcl' h2 M'
          by_cases hke : k = e
          · exact .inr hke
          · exact .inl (hready k ((G.full k e fio hke (by omega) hf1 hf2).1 (by omega)))
        unfold wpOp
        rw [ho]
        simp only
        rcases e4 with ⟨hw, v, H', hv, e5⟩ | ⟨hw, e5⟩
        · rw [want_spec e3 hsim hw, if_pos rfl]
          have hc2 : CallOK P (bif isFull (chkOf ios (predsOf ops.toList []) e io) then call else callP) := by
            cases isFull (chkOf ios (predsOf ops.toList []) e io)
            · exact hcall.call
            · exact hcall1
          refine .inl (op_step hopp hc2 hbad hsim hv fun a' w' ρ' h' => next _ _ ρ' ?_)
          rw [e5, hdst]; exact h'
        · rw [want_spec e3 hsim hw, if_neg (by simp)]
          refine next _ _ ρ ?_
          rw [e5, hdst]
          exact skip_sim o.dst hsim

theorem Sim.draw (h : Sim w0 D0 ρ0 bad B ρ s a w) : Sim w0 D0 ρ0 bad B ρ s a { w with drawn := w.drawn + 1 } := by
  have st : Step w { w with drawn := w.drawn + 1 } (dead s.H) (dead s.H) ρ ρ := ⟨⟨rfl, rfl, rfl, Nat.le_refl _, fun _ _ _ => rfl⟩, RLe.refl _ _, fun _ h => h, fun _ _ => .inl rfl⟩
  refine ⟨h.defers, h.size, fun t ht => (h.env t ht).step st, ⟨fun id b es cap hid => ?_, h.heap.virt, h.heap.inj, h.heap.res⟩, h.low, h.st.trans st⟩
  obtain ⟨k, hk, hb⟩ := h.heap.real id b es cap hid
  exact ⟨k, hk, hb.step st rfl⟩
end

theorem draw_lawD {P : Program} {call callP : CallF} (hcall1 : CallOK P call) (hcall : PCallOK P callP) : DrawD P call callP := by
  intro ops ios id hc hd he hns hmo w w0 bad D0 ρ ρ0 a B s s' Q hbad h hr hq
  obtain ⟨f, h0, h1, G⟩ := glob_of hc hd hr
  have hsz : ios.length = ops.size := by simpa using (optAll_spec hc).1
  refine wp_region_any hmo ?_
  obtain ⟨e, q1, q2, q3, q4⟩ := next_full ios (predsOf ops.toList []) ops.size _ 0 rfl (Nat.zero_le _)
  have hoff : ∀ k, (Array.replicate ops.size false).getD k false = false := by
    intro k
    rcases Nat.lt_or_ge k ops.size with h | h
    · simp [h]
    · simp [Array.getElem?_eq_none (xs := Array.replicate ops.size false) (by simpa using h)]
  have S := G.stretch hcall q1 q2 q3
  obtain ⟨s1, h2, M⟩ := start_mix S (h0 ▸ h.draw) (L := fun m => (Array.replicate ops.size false).getD m false = true) (fun m _ _ h3 => by rw [hoff m] at h3; cases h3)
  refine drawn_main G hcall1 hcall hbad he hsz (fun a w ρ hs => hq _ _ ρ (h1 ▸ hs)) ops.size 0 e _ ρ s1 a _ (by simp) ?_ q1 q2 q3 q4 (fun k hk => by omega) (fun k _ => hoff k) (fun m hm => by rw [hoff m] at hm; cases hm) h2 M
  unfold open_
  exact Nat.le_trans List.countP_le_length (by simp)

end Go.Proofs.Ytdceaeifcniabaa.AE

namespace Go.Proofs.Ytdceaeifcniabaa.AE
set_option linter.unusedVariables false
set_option linter.unusedSimpArgs false
set_option linter.constructorNameAsVariable false
open Go Go.RowKit

def loadC (k : IntKind) : AFn := ⟨3, [.tmp 1], .reg [⟨some 1, .load false 1 (.t 0), none⟩, ⟨some 2, .bin .eql (.t 1) (.v (.int k 0)), none⟩]⟩
def storeC (k : IntKind) : AFn := ⟨3, [], .reg [⟨some 2, .bin .eql (.t 1) (.v (.int k 0)), none⟩, ⟨none, .store 1 (.t 0) (.t 1), none⟩]⟩
def addC (k : IntKind) : AFn := ⟨5, [.tmp 3], .reg [⟨some 4, .bin .eql (.t 1) (.v (.int k 0)), none⟩, ⟨some 2, .load false 1 (.t 0), none⟩, ⟨some 3, .bin .add (.t 2) (.t 1), none⟩, ⟨none, .store 1 (.t 0) (.t 3), none⟩]⟩
def casC (k : IntKind) : AFn := ⟨6, [.tmp 4], .seq (.reg [⟨some 5, .bin .eql (.t 2) (.v (.int k 0)), none⟩, ⟨some 5, .bin .eql (.t 1) (.v (.int k 0)), none⟩, ⟨some 3, .load false 1 (.t 0), none⟩, ⟨some 4, .bin .eql (.t 3) (.t 1), none⟩]) (.cond (.t 4) (.reg [⟨none, .store 1 (.t 0) (.t 2), none⟩]) (.reg [⟨none, .nilck (.v .nilp), none⟩]))⟩

section
variable {P : Program} {w : World} {bad : Nat → Prop} {ρ : Rho} {B : Nat}

theorem sub1 {j : Nat} {el x : AV} (h : sub false 1 j el = some x) : el.cells[j]? = some x := by
  unfold sub at h
  split at h
  · simpa [AV.cells] using h
  · rename_i hn
    simp only [Bool.false_eq_true, if_false] at h
    split at h
    · cases h
      cases el <;> first | rfl | exact absurd rfl (hn _)
    · cases h
/-- A number that is looked at. -/
theorem cell_get {H : Heap} {p : AV} {k : IntKind} {n : Int} {vp : Value} (h : aLoad H false 1 p = some (.int k n)) (hR : HRel w bad ρ B H) (hp : Rep w bad (dead H) ρ p vp) : ∃ a, vp = .pointer (some a) ∧ w.cell? a = some (.int k n) := by
  unfold aLoad at h
  split at h <;> (try (cases h; done))
  · rename_i id u q
    split at h <;> (try (cases h; done))
    rename_i b hb
    split at h <;> (try (cases h; done))
    rename_i el he
    have hs := sub1 h
    have hk := agree_of hb
    cases hp with
    | frz h => cases h
    | ptrD b o hd => simp only [dead] at hd; rw [hk] at hd; cases hd
    | ptr hρ =>
      rename_i bb es cap
      obtain ⟨k2, hk2, hbr⟩ := hR.real _ _ _ _ hρ
      rw [hk] at hk2; cases hk2
      obtain ⟨cur, fz, m1, m2, m3, m4⟩ := hbr.mem
      obtain ⟨v, hv, hr⟩ := m4 u el q _ he hs
      refine ⟨_, rfl, ?_⟩
      rw [rep_int hr] at hv
      simp only [World.cell?, m1]
      simpa using hv
  · rename_i v j
    have hs := sub1 h
    cases hp with
    | frz h =>
      cases h with
      | fptr _ b o _ vs hb hl hc hr =>
        have h1 := hc j _ hs
        have h2 := hr j _ hs
        refine ⟨_, rfl, ?_⟩
        rw [h1]
        exact congrArg some (rep_int (ρ := ρ) (D := dead H) (.frz h2))
/-- A number that is stored. -/
theorem cell_put {t : TypeId} {i : TypeInfo} (hi : P.info? t = some i) (h1 : i.size = 1) {H Hn : Heap} {p : AV} {k : IntKind} {n : Int} {vp : Value} (h : aStore H 1 (.int k n) p = some Hn) (hR : HRel w bad ρ B H) (hp : Rep w bad (dead H) ρ p vp) :
    ∃ a, vp = .pointer (some a) ∧ (∃ u, w.cell? a = some u) ∧ w.frozen? a = false ∧ Step w (w.setCell a (.int k n)) (dead H) (dead Hn) ρ ρ ∧ HRel (w.setCell a (.int k n)) bad ρ B Hn := by
  unfold aStore at h
  split at h <;> (try (cases h; done))
  rename_i id u q
  split at h <;> (try (cases h; done))
  rename_i b hb
  split at h <;> (try (cases h; done))
  rename_i el he
  split at h <;> (try (cases h; done))
  rename_i el' hps
  cases h
  have hk := agree_of hb
  cases hp with
  | frz h => cases h
  | ptrD b o hd => simp only [dead] at hd; rw [hk] at hd; cases hd
  | ptr hρ =>
    rename_i bb es cap
    obtain ⟨k2, hk2, hbr⟩ := hR.real _ _ _ _ hρ
    rw [hk] at hk2; cases hk2
    obtain ⟨cur, fz, m1, m2, m3, m4⟩ := hbr.mem
    have hok := elOk_sc (hbr.ok u el he)
    have hult : u < b.els.length := (List.getElem?_eq_some_iff.mp he).1
    have hq : q < el.cells.length := by
      unfold putSub at hps
      split at hps
      · rename_i cs
        split at hps <;> (try (cases hps; done))
        rename_i hcnd
        show q < cs.length
        omega
      · rename_i hna
        split at hps <;> (try (cases hps; done))
        rename_i hcnd
        obtain ⟨rfl, _, _⟩ := hcnd
        have ee : el.cells = [el] := by cases el <;> first | rfl | exact absurd rfl (hna _)
        rw [ee]; simp
    have hes : el.cells.length = es := by rw [hok.2.1, hbr.hes]
    have hbound : u * es + es ≤ cap * es := by
      have := Nat.mul_le_mul_right es (Nat.lt_of_lt_of_le hult hbr.len)
      rwa [Nat.succ_mul] at this
    have hlt : u * es + q < cur.size := by omega
    have hc : w.cell? ⟨bb, u * es + q, none⟩ = some cur[u * es + q] := by simp [World.cell?, m1, hlt]
    have hz : w.frozen? ⟨bb, u * es + q, none⟩ = false := by
      have := m3 (u * es + q) hlt
      obtain ⟨f1, f2⟩ := fz
      simp only [World.frozen?, m1]
      simp only [Bool.and_eq_false_iff, decide_eq_false_iff_not]
      simp only at this
      omega
    refine ⟨_, rfl, ⟨_, hc⟩, hz, ?_⟩
    have hst0 : aStore H i.size (.int k n) (.ptr id u q) = some (H.set id (some { b with els := b.els.set u el' })) := by
      rw [h1]; simp [aStore, hb, he, hps]
    obtain ⟨id', k', w', g1, g2, ⟨k2, g3, g4, g5, g6⟩, _, g7⟩ := store_run (P := P) hi (by omega) hst0 hR (fun _ _ _ _ _ hb _ => hb) (dead_get H) (.ptr hρ) (.frz (.int k n))
    have hw : w' = w.setCell ⟨bb, u * es + q, none⟩ (.int k n) := by
      have e : (Instr.storeAt t (.pointer (some ⟨bb, u * es + q, none⟩)) (.int k n)).run P w = .ok () (w.setCell ⟨bb, u * es + q, none⟩ (.int k n)) := by
        simp [Instr.storeAt, Instr.sureAddr, storeVar, sizeOf, typeInfo, hi, h1, Value.cells, storeCells, Result.andThen]
        rw [Addr.add_lit, Nat.add_zero, run_store _ _ _ _ _ rfl, hc]
        simp [hz]
      rw [e] at g7
      cases g7; rfl
    rw [← hw, g3]
    exact g6 _ rfl
theorem eql_int {k : IntKind} {x r : AV} (h : aBin .eql x (.int k 0) = some r) : ∃ n, x = .int k n := by
  cases x <;> simp [aBin] at h
  rename_i k' n
  obtain ⟨rfl, _⟩ := h
  exact ⟨n, rfl⟩
theorem eql_two {k : IntKind} {m n : Int} {r : AV} (h : aBin .eql (.int k m) (.int k n) = some r) : r = .bool (m == n) := by
  simp [aBin] at h; exact h.symm
theorem one_of {α : Type} {l : List α} (h : l.length = 1) : ∃ a, l = [a] := List.length_eq_one_iff.mp h
theorem two_of {α : Type} {l : List α} (h : l.length = 2) : ∃ a b, l = [a, b] := by
  match l, h with
  | [a, b], _ => exact ⟨a, b, rfl⟩
theorem three_of {α : Type} {l : List α} (h : l.length = 3) : ∃ a b c, l = [a, b, c] := by
  match l, h with
  | [a, b, c], _ => exact ⟨a, b, c, rfl⟩

section
variable {g : FuncId} {fn : Func} {k : IntKind} (hf : P.funcs[g]? = some fn) (hname : (fn.name == "runtime.NumGoroutine") = false) (hb : fn.body.isNone = true) (hn : Extern.findNext fn = none)
include hf hname hb hn
theorem load_fnOK (he : Extern.find fn = some (Extern.Atomic.loadT (.int k))) : FnOK P g 1 (loadC k) := by
  intro call callP fu args H H' v hlen _ _ hr w bad ρ B vs hR hB hbad hl hp
  obtain ⟨p, rfl⟩ := one_of hlen
  obtain ⟨vp, rfl⟩ := one_of (hl.symm.trans hlen)
  have hpp := hp 0 p vp rfl rfl
  simp only [runFn, loadC, exec, runOps, want, aop] at hr
  simp only [evO, List.getD_cons_zero, List.singleton_append, List.cons_append, List.nil_append] at hr
  cases h1 : aLoad H false 1 p with
  | none => simp [h1] at hr
  | some x =>
    simp [h1, AE.put, List.replicate] at hr
    cases h2 : aBin .eql x (.int k 0) with
    | none => simp [h2] at hr
    | some r =>
      simp [h2, resAll, resOf, packRes] at hr
      obtain ⟨rfl, rfl⟩ := hr
      obtain ⟨n, rfl⟩ := eql_int h2
      obtain ⟨a, rfl, hc⟩ := cell_get h1 hR hpp
      exact .inl ⟨_, w, run_call_load hf hname hb hn k he hc, ρ, Step.refl _ _ _, hR, .frz (.int k n)⟩
theorem store_fnOK {t : TypeId} (hi0 : ∃ i, P.info? t = some i ∧ i.size = 1) (he : Extern.find fn = some Extern.Atomic.storeT) : FnOK P g 2 (storeC k) := by
  intro call callP fu args H H' v hlen _ _ hr w bad ρ B vs hR hB hbad hl hp
  obtain ⟨ti, hi, hi1⟩ := hi0
  obtain ⟨p, x, rfl⟩ := two_of hlen
  obtain ⟨vp, vx, rfl⟩ := two_of (hl.symm.trans hlen)
  have hpp := hp 0 p vp rfl rfl
  have hpx := hp 1 x vx rfl rfl
  simp only [runFn, storeC, exec, runOps, want, aop] at hr
  simp only [evO, List.getD_cons_zero, List.getD_cons_succ, List.cons_append, List.nil_append] at hr
  cases h2 : aBin .eql x (.int k 0) with
  | none => simp [h2] at hr
  | some r =>
    obtain ⟨n, rfl⟩ := eql_int h2
    simp [h2, AE.put, List.replicate] at hr
    cases h1 : aStore H 1 (.int k n) p with
    | none => simp [h1] at hr
    | some Hn =>
      simp [h1, resAll, packRes] at hr
      obtain ⟨rfl, rfl⟩ := hr
      obtain rfl := rep_int hpx
      obtain ⟨a, rfl, ⟨u, hc⟩, hz, hst, hR'⟩ := cell_put hi hi1 h1 hR hpp
      exact .inl ⟨_, _, run_call_store hf hname hb hn he hc hz, ρ, hst, hR', .frz (.tup [] [] rfl (by simp))⟩
theorem add_fnOK {t : TypeId} (hi0 : ∃ i, P.info? t = some i ∧ i.size = 1) (he : Extern.find fn = some (Extern.Atomic.update (Op.intArith .add) k true)) : FnOK P g 2 (addC k) := by
  intro call callP fu args H H' v hlen _ _ hr w bad ρ B vs hR hB hbad hl hp
  obtain ⟨ti, hi, hi1⟩ := hi0
  obtain ⟨p, x, rfl⟩ := two_of hlen
  obtain ⟨vp, vx, rfl⟩ := two_of (hl.symm.trans hlen)
  have hpp := hp 0 p vp rfl rfl
  have hpx := hp 1 x vx rfl rfl
  simp only [runFn, addC, exec, runOps, want, aop] at hr
  simp only [evO, List.getD_cons_zero, List.getD_cons_succ, List.cons_append, List.nil_append] at hr
  cases h2 : aBin .eql x (.int k 0) with
  | none => simp [h2] at hr
  | some r =>
    obtain ⟨n, rfl⟩ := eql_int h2
    simp [h2, AE.put, List.replicate] at hr
    cases h1 : aLoad H false 1 p with
    | none => simp [h1] at hr
    | some y =>
      simp [h1] at hr
      cases h3 : aBin .add y (.int k n) with
      | none => simp [h3] at hr
      | some z =>
        have : ∃ m, y = .int k m ∧ z = .int k (k.wrap (m + n)) := by
          cases y <;> simp [aBin] at h3
          rename_i k' m
          obtain ⟨rfl, rfl⟩ := h3
          exact ⟨m, rfl, rfl⟩
        obtain ⟨m, rfl, rfl⟩ := this
        simp [h3] at hr
        cases h4 : aStore H 1 (.int k (k.wrap (m + n))) p with
        | none => simp [h4] at hr
        | some Hn =>
          simp [h4, resAll, resOf, packRes] at hr
          obtain ⟨rfl, rfl⟩ := hr
          obtain rfl := rep_int hpx
          obtain ⟨a, rfl, hc⟩ := cell_get h1 hR hpp
          obtain ⟨a', ha, _, hz, hst, hR'⟩ := cell_put hi hi1 h4 hR hpp
          cases ha
          exact .inl ⟨_, _, run_call_add hf hname hb hn k he hc hz (by simp [Op.intArith]), ρ, hst, hR', .frz (.int k _)⟩
theorem cas_fnOK {t : TypeId} (hi0 : ∃ i, P.info? t = some i ∧ i.size = 1) (he : Extern.find fn = some (Extern.Atomic.casT (.int k))) : FnOK P g 3 (casC k) := by
  intro call callP fu args H H' v hlen _ _ hr w bad ρ B vs hR hB hbad hl hp
  obtain ⟨ti, hi, hi1⟩ := hi0
  obtain ⟨p, x, y, rfl⟩ := three_of hlen
  obtain ⟨vp, vx, vy, rfl⟩ := three_of (hl.symm.trans hlen)
  have hpp := hp 0 p vp rfl rfl
  have hpx := hp 1 x vx rfl rfl
  have hpy := hp 2 y vy rfl rfl
  simp only [runFn, casC, exec, runOps, want, aop] at hr
  simp only [evO, List.getD_cons_zero, List.getD_cons_succ, List.cons_append, List.nil_append] at hr
  cases h2 : aBin .eql y (.int k 0) with
  | none => simp [h2] at hr
  | some r =>
    obtain ⟨n, rfl⟩ := eql_int h2
    simp [h2, AE.put, List.replicate] at hr
    cases h3 : aBin .eql x (.int k 0) with
    | none => simp [h3] at hr
    | some r2 =>
      obtain ⟨o, rfl⟩ := eql_int h3
      simp [h3] at hr
      cases h1 : aLoad H false 1 p with
      | none => simp [h1] at hr
      | some z =>
        simp [h1] at hr
        cases h4 : aBin .eql z (.int k o) with
        | none => simp [h4] at hr
        | some r3 =>
          have : ∃ m, z = .int k m ∧ r3 = .bool (m == o) := by
            cases z <;> simp [aBin] at h4
            rename_i k' m
            obtain ⟨rfl, rfl⟩ := h4
            exact ⟨m, rfl, rfl⟩
          obtain ⟨m, rfl, rfl⟩ := this
          obtain rfl := rep_int hpx
          obtain rfl := rep_int hpy
          obtain ⟨a, rfl, hc⟩ := cell_get h1 hR hpp
          simp [h4] at hr
          by_cases hmo : m = o
          · subst hmo
            simp [exec, runOps, want, aop, evO] at hr
            cases h5 : aStore H 1 (.int k n) p with
            | none => simp [h5] at hr
            | some Hn =>
              simp [h5, resAll, resOf, packRes, AE.put] at hr
              obtain ⟨rfl, rfl⟩ := hr
              obtain ⟨a', ha, _, hz, hst, hR'⟩ := cell_put hi hi1 h5 hR hpp
              cases ha
              exact .inl ⟨_, _, run_call_cas_hit hf hname hb hn k he hc hz, ρ, hst, hR', .frz (.bool _)⟩
          · have hm : (m == o) = false := beq_eq_false_iff_ne.mpr hmo
            simp [hm, exec, runOps, want, aop, evO] at hr
end
end
end Go.Proofs.Ytdceaeifcniabaa.AE
