/- Functions and calls: the small evaluator's answers are the model's. No conditions. -/
import Derived.Test.YtbcbaidnamebkaaAEsnd11
namespace Go.Proofs.Ytbcbaidnamebkaa.AE
set_option linter.unusedVariables false
set_option linter.unusedSimpArgs false
set_option linter.constructorNameAsVariable false
open Go Go.RowKit

section
variable {P : Program} {w w0 : World} {bad D0 : Nat → Prop} {ρ ρ0 : Rho} {a : Act} {B : Nat} {s : St}

theorem resAll_run : ∀ (rs : List ResultVar) (rv : List RV) (vs : List AV), optAll (cRV P) rs = some rv → resAll s rv = some vs → Sim w0 D0 ρ0 bad B ρ s a w →
    ∃ us : List Value, (rs.mapM fun
      | .tmp t => pure (a.tmps.getD t undef)
      | .cell x t => do loadVar t (← asAddr (a.tmps.getD x undef)) : Sem (List Value)).run P w = .ok us w ∧ vs.length = us.length ∧ ∀ (i : Nat) (c : AV) (u : Value), vs[i]? = some c → us[i]? = some u → Rep w bad (dead s.H) ρ c u
  | [], rv, vs, hc, hr, h => by
    simp only [optAll, Option.some.injEq] at hc
    subst hc
    simp only [resAll, Option.some.injEq] at hr
    subst hr
    exact ⟨[], rfl, rfl, by simp⟩
  | r :: rs, rv, vs, hc, hr, h => by
    simp only [optAll] at hc
    split at hc <;> (try (cases hc; done))
    rename_i r' hr'
    split at hc <;> (try (cases hc; done))
    rename_i rv' hrv
    cases hc
    simp only [resAll] at hr
    split at hr <;> (try (cases hr; done))
    rename_i v hv
    split at hr <;> (try (cases hr; done))
    rename_i vs' hvs
    cases hr
    obtain ⟨us, h1, h2, h3⟩ := resAll_run rs rv' vs' hrv hvs h
    have one : ∃ u, ((match r with
      | .tmp t => pure (a.tmps.getD t undef)
      | .cell x t => do loadVar t (← asAddr (a.tmps.getD x undef)) : Sem Value)).run P w = .ok u w ∧ Rep w bad (dead s.H) ρ v u := by
      cases r with
      | tmp t =>
        simp only [cRV, Option.some.injEq] at hr'
        subst hr'
        simp only [resOf, Option.some.injEq] at hv
        subst hv
        exact ⟨_, rfl, evO_rep h [.tmp t] (.tmp t) (by simp) (.t t) rfl⟩
      | cell x t =>
        simp only [cRV] at hr'
        split at hr' <;> (try (cases hr'; done))
        rename_i i ag hi ha
        cases hr'
        simp only [resOf] at hv
        have hx := evO_rep h [.tmp x] (.tmp x) (by simp) (.t x) rfl
        obtain ⟨u, hu, hru⟩ := aLoad_rep hi ha hv h.heap (fun _ => Iff.rfl) (fun _ _ _ _ _ hb _ => hb) (dead_get s.H) hx
        refine ⟨u, ?_, hru⟩
        simp only [Act.eval] at hu hx
        simp only [Sem.run_bind]
        generalize a.tmps.getD x undef = V at *
        generalize evO s.env (.t x) = X at *
        have : ∃ ad, V = .pointer (some ad) := by
          simp only [Instr.loadAt, Sem.run_bind] at hu
          cases V <;> simp [Instr.sureAddr, Result.andThen] at hu
          rename_i ad
          cases ad <;> simp at hu
          exact ⟨_, rfl⟩
        obtain ⟨ad, rfl⟩ := this
        simp only [Instr.loadAt, Instr.sureAddr, Sem.run_bind, Sem.run_pure, Result.andThen_ok] at hu
        simp only [asAddr, Sem.run_pure, Result.andThen_ok]
        exact hu
    obtain ⟨u, hu, hru⟩ := one
    refine ⟨u :: us, ?_, by simp [h2], fun i c z hc hz => ?_⟩
    · simp only [List.mapM_cons, Sem.run_bind, hu, Result.andThen_ok, h1, Sem.run_pure]
    · cases i with
      | zero => simp at hc hz; subst hc; subst hz; exact hru
      | succ i => exact h3 i c z (by simpa using hc) (by simpa using hz)

theorem results_run {fn : Func} {rv : List RV} {vs : List AV} (hc : optAll (cRV P) fn.results.toList = some rv) (hr : resAll s rv = some vs) (h : Sim w0 D0 ρ0 bad B ρ s a w) : ∃ cv, (results fn a.tmps).run P w = .ok cv w ∧ Rep w bad (dead s.H) ρ (packRes vs) cv := by
  obtain ⟨us, h1, h2, h3⟩ := resAll_run fn.results.toList rv vs hc hr h
  have hm : (fn.results.mapM fun
      | .tmp t => pure (a.tmps.getD t undef)
      | .cell x t => do loadVar t (← asAddr (a.tmps.getD x undef)) : Sem (Array Value)).run P w = .ok us.toArray w := by
    rw [Array.mapM_eq_mapM_toList, Sem.run_map, h1]; rfl
  have e : results fn a.tmps = ((fn.results.mapM fun
      | .tmp t => pure (a.tmps.getD t undef)
      | .cell x t => do loadVar t (← asAddr (a.tmps.getD x undef)) : Sem (Array Value)) >>= fun vs => pure (if h : vs.size = 1 then vs[0] else .tuple vs)) := rfl
  rw [e]
  simp only [Sem.run_bind, hm, Result.andThen_ok, Sem.run_pure]
  by_cases hl : us.length = 1
  · obtain ⟨u, rfl⟩ := List.length_eq_one_iff.mp hl
    obtain ⟨v, rfl⟩ := List.length_eq_one_iff.mp (h2.trans hl)
    exact ⟨u, by simp, h3 0 v u rfl rfl⟩
  · refine ⟨.tuple us.toArray, by simp [hl], ?_⟩
    have : packRes vs = .tup vs := by
      cases vs with
      | nil => rfl
      | cons v vs =>
        cases vs with
        | nil => simp at h2; omega
        | cons => rfl
    rw [this]
    exact .tup vs us h2 h3

/-- A function's own frame. -/
theorem runFn_sound {call callP : CallF} {fu : Nat} {g : FuncId} {fn : AFn} {args : List AV} {H H' : Heap} {v : AV} {vs : List Value} (hcall : CallOK P call) (hdraw : DrawOK P callP) (hbad : ∀ b, bad b → b < B) (hfn : cFn P g = some fn) (hr : runFn call callP fu fn args H = some (v, H'))
    (hR : HRel w bad ρ B H) (hB : B ≤ w.heap.size) (hl : args.length = vs.length) (hargs : ∀ (i : Nat) (c : AV) (u : Value), args[i]? = some c → vs[i]? = some u → Rep w bad (dead H) ρ c u) :
    Calls P g vs.toArray w fun e w' => ∃ cv, e = .returned cv ∧ ∃ ρ', Step w w' (dead H) (dead H') ρ ρ' ∧ HRel w' bad ρ' B H' ∧ Rep w' bad (dead H') ρ' v cv := by
  unfold cFn at hfn
  split at hfn <;> (try (cases hfn; done))
  rename_i f hf
  split at hfn <;> (try (cases hfn; done))
  rename_i c hb
  split at hfn <;> (try (cases hfn; done))
  split at hfn <;> (try (cases hfn; done))
  rename_i ic rv hic hrv
  cases hfn
  unfold runFn at hr
  simp only at hr
  refine calls_of_wp hf hb ?_
  have h0 : Sim w (dead H) ρ bad B ρ ⟨args ++ List.replicate (f.ntmps - args.length) (.tup []), H⟩ { tmps := vs.toArray ++ Array.replicate (f.ntmps - vs.toArray.size) undef, defers := [] } w := by
    refine ⟨rfl, by simp [hl], fun t ht => ?_, hR, hB, Step.refl _ _ _⟩
    rw [List.getD_eq_getElem?_getD, Array.getD_eq_getD_getElem?]
    by_cases hlt : t < args.length
    · rw [List.getElem?_append_left hlt, Array.getElem?_append_left (by simp; omega)]
      rw [List.getElem?_eq_getElem hlt]
      have hlt2 : t < vs.length := by omega
      rw [List.getElem?_toArray, List.getElem?_eq_getElem hlt2]
      exact hargs t _ _ (List.getElem?_eq_getElem hlt) (List.getElem?_eq_getElem hlt2)
    · simp only [List.length_append, List.length_replicate] at ht
      rw [List.getElem?_append_right (by omega), Array.getElem?_append_right (by simp; omega)]
      rw [List.getElem?_replicate, if_pos (by omega)]
      simp only [List.size_toArray, Array.getElem?_replicate]
      rw [if_pos (by omega)]
      exact .frz (.tup [] [] rfl (by simp))
  split at hr
  · rename_i s1 h1
    split at hr <;> (try (cases hr; done))
    rename_i vs' hvs
    cases hr
    refine exec_sound hcall hdraw hbad c ic hic ρ _ .normal s1 _ w _ h1 h0 fun a' w' ρ' h' => ?_
    obtain ⟨cv, r1, r2⟩ := results_run hrv hvs h'
    exact ⟨h'.defers, cv, r1, cv, rfl, ρ', h'.st, h'.heap, r2⟩
  · rename_i s1 h1
    split at hr <;> (try (cases hr; done))
    rename_i vs' hvs
    cases hr
    refine exec_sound hcall hdraw hbad c ic hic ρ _ .ret s1 _ w _ h1 h0 fun a' w' ρ' h' => ?_
    obtain ⟨cv, r1, r2⟩ := results_run hrv hvs h'
    exact ⟨h'.defers, cv, r1, cv, rfl, ρ', h'.st, h'.heap, r2⟩
  · cases hr

/-! ### What is handed on alone -/
theorem snap_sc {k : Nat} {H : Heap} {v : AV} (h : isSc v = true) : ∀ cs, snap k H v ≠ .agg cs := by
  intro cs
  cases k with
  | zero => simp [snap]
  | succ k =>
    cases v <;> simp [isSc] at h <;> simp only [snap] <;> (try simp)
    · split <;> (try split) <;> (try split) <;> simp
    · split <;> (try split) <;> (try split) <;> simp
theorem snap_len {k : Nat} {H : Heap} {v : AV} (h : isSc v = true ∨ ∃ cs, v = .agg cs) : (snap (k + 1) H v).cells.length = v.cells.length := by
  rcases h with h | ⟨cs, rfl⟩
  · have h1 : v.cells = [v] := by cases v <;> first | rfl | (simp [isSc] at h; done)
    have h2 := snap_sc (k := k + 1) (H := H) h
    have : (snap (k + 1) H v).cells = [snap (k + 1) H v] := by
      generalize snap (k + 1) H v = x at *
      cases x <;> first | rfl | exact absurd rfl (h2 _)
    rw [this, h1]; rfl
  · simp [snap, AV.cells]
theorem snap_cells {k : Nat} {H : Heap} {v c : AV} {q : Nat} (h : isSc v = true ∨ ∃ cs, v = .agg cs) (hq : (snap (k + 1) H v).cells[q]? = some c) : ∃ c', v.cells[q]? = some c' ∧ (c = snap k H c' ∨ c = snap (k + 1) H c') := by
  rcases h with h | ⟨cs, rfl⟩
  · have h1 : v.cells = [v] := by cases v <;> first | rfl | (simp [isSc] at h; done)
    have h2 := snap_sc (k := k + 1) (H := H) h
    have h3 : (snap (k + 1) H v).cells = [snap (k + 1) H v] := by
      generalize snap (k + 1) H v = x at *
      cases x <;> first | rfl | exact absurd rfl (h2 _)
    rw [h3] at hq
    rw [h1]
    cases q with
    | zero => simp at hq; exact ⟨v, rfl, .inr hq.symm⟩
    | succ q => simp at hq
  · simp only [snap, AV.cells, List.getElem?_map] at hq ⊢
    obtain ⟨c', hc', rfl⟩ := Option.map_eq_some_iff.mp hq
    exact ⟨c', hc', .inl rfl⟩
theorem snap_rep (hbad : ∀ b, bad b → b < B) {H G : Heap} (hR : HRel w bad ρ B G) (hsame : ∀ id b, hget H id = some b → ρ id ≠ .no → hget G id = some b) (hdead : ∀ id, dead G id → hget H id = none) : ∀ (k : Nat) {v : AV} {cv : Value}, Rep w bad (dead G) ρ v cv → FRep w bad (snap k H v) cv
  | 0, v, cv, _ => .undef _
  | k + 1, v, cv, hv => by
    have lists : ∀ (cs : List AV) (us : List Value), (∀ (i : Nat) (c : AV) (u : Value), cs[i]? = some c → us[i]? = some u → Rep w bad (dead G) ρ c u) →
        ∀ (i : Nat) (c : AV) (u : Value), (cs.map (snap k H))[i]? = some c → us[i]? = some u → FRep w bad c u := by
      intro cs us h i c u hc hu
      rw [List.getElem?_map] at hc
      obtain ⟨c', hc', rfl⟩ := Option.map_eq_some_iff.mp hc
      exact snap_rep hbad hR hsame hdead k (h i c' u hc' hu)
    have down : ∀ {x : AV} {c : Value}, FRep w (fun b => bad b ∨ own ρ b) x c → FRep w bad x c := fun h => h.mono (Nat.le_refl _) (fun _ _ _ => rfl) (fun b _ hb => .inl hb)
    cases v with
    | int a b => cases rep_int hv; exact .int _ _
    | bool b => cases rep_bool hv; exact .bool _
    | str s => cases rep_str hv; exact .str _
    | nilp => cases rep_nilp hv; exact .nilp
    | zsl b =>
      simp only [snap]
      cases hv with
      | frz h => cases h <;> exact .lst0 _ _
    | nilf => cases rep_nilf hv; exact .nilf
    | undef => exact .undef _
    | lst l =>
      simp only [snap]
      cases hv with
      | frz h => exact down h
    | fptr x j =>
      simp only [snap]
      cases hv with
      | frz h => exact down h
    | agg cs =>
      obtain ⟨us, rfl, hl, hp⟩ := rep_agg hv
      exact .agg _ _ (by simp [hl]) (lists cs us hp)
    | tup cs =>
      obtain ⟨us, rfl, hl, hp⟩ := rep_tup hv
      exact .tup _ _ (by simp [hl]) (lists cs us hp)
    | fn g p q =>
      obtain ⟨va, vb, rfl, l1, l2, r1, r2⟩ := rep_fn hv
      exact .fn g _ _ _ _ (by simp [l1]) (by simp [l2]) (lists p va r1) (lists q vb r2)
    | ptr id i j =>
      simp only [snap]
      split <;> (try exact .undef _)
      rename_i hk0
      obtain ⟨k, rfl⟩ : ∃ k', k = k' + 1 := ⟨k - 1, by omega⟩
      split <;> (try exact .undef _)
      rename_i b hg
      split <;> (try exact .undef _)
      rename_i el hel
      cases hv with
      | frz h => cases h
      | ptrD b' o hd => rw [hdead _ hd] at hg; cases hg
      | ptr hρ =>
        rename_i bb es cap
        obtain ⟨k2, hk2, hbr⟩ := hR.real _ _ _ _ hρ
        rw [agree_of (hsame _ _ hg (by simp [hρ]))] at hk2; cases hk2
        obtain ⟨cur, fz, m1, m2, m3, m4⟩ := hbr.mem
        have hlt : bb < w.heap.size := (Array.getElem?_eq_some_iff.mp m1).1
        have hcell : ∀ (q : Nat) (c : AV), (snap (k + 1) H el).cells[q]? = some c → ∃ u, w.cell? ⟨bb, i * es + q, none⟩ = some u ∧ FRep w bad c u := by
          intro q c hq
          obtain ⟨c', hc', hcc⟩ := snap_cells (elOk_sc (hbr.ok _ _ hel)).1 hq
          obtain ⟨u, hu, hru⟩ := m4 i el q c' hel hc'
          refine ⟨u, by simp only [World.cell?, m1]; simpa using hu, ?_⟩
          rcases hcc with rfl | rfl
          · exact snap_rep hbad hR hsame hdead k hru
          · exact snap_rep hbad hR hsame hdead (k + 1) hru
        exact .fptr _ bb (i * es) j (fun q => (w.cell? ⟨bb, i * es + q, none⟩).getD undef) (fun hb => by have := hbad _ hb; have := hbr.low; omega) hlt
          (fun q c hq => by obtain ⟨u, hu, _⟩ := hcell q c hq; simp [hu]) (fun q c hq => by obtain ⟨u, hu, hf⟩ := hcell q c hq; simpa [hu] using hf)
    | slc id o n =>
      simp only [snap]
      split <;> (try exact .undef _)
      rename_i hk0
      obtain ⟨k, rfl⟩ : ∃ k', k = k' + 1 := ⟨k - 1, by omega⟩
      split <;> (try exact .undef _)
      rename_i b hg
      split <;> (try exact .undef _)
      rename_i hle
      cases hv with
      | frz h => cases h
      | slcD a c hd => rw [hdead _ hd] at hg; cases hg
      | slcV a hρ => simp only [Nat.le_zero_eq, List.take_zero, List.map_nil]; exact .lst0 _ _
      | slc hρ hcc hn =>
        rename_i bb es cap c
        obtain ⟨k2, hk2, hbr⟩ := hR.real _ _ _ _ hρ
        rw [agree_of (hsame _ _ hg (by simp [hρ]))] at hk2; cases hk2
        obtain ⟨cur, fz, m1, m2, m3, m4⟩ := hbr.mem
        have hlt : bb < w.heap.size := (Array.getElem?_eq_some_iff.mp m1).1
        have key : ∀ (i : Nat) (x : AV), (((b.els.drop o).take n).map (snap (k + 1) H))[i]? = some x → ∃ el, b.els[o + i]? = some el ∧ x = snap (k + 1) H el := by
          intro i x hx
          rw [List.getElem?_map] at hx
          obtain ⟨el, hel, rfl⟩ := Option.map_eq_some_iff.mp hx
          have hi : i < n := by have := (List.getElem?_eq_some_iff.mp hel).1; simp at this; omega
          rw [List.getElem?_take_of_lt hi, List.getElem?_drop] at hel
          exact ⟨el, hel, rfl⟩
        have hcell : ∀ (i : Nat) (x : AV) (q : Nat) (y : AV), (((b.els.drop o).take n).map (snap (k + 1) H))[i]? = some x → x.cells[q]? = some y → ∃ u, w.cell? ⟨bb, o * es + (i * es + q), none⟩ = some u ∧ FRep w bad y u := by
          intro i x q y hx hq
          obtain ⟨el, hel, rfl⟩ := key i x hx
          obtain ⟨c', hc', hcc⟩ := snap_cells (elOk_sc (hbr.ok _ _ hel)).1 hq
          obtain ⟨u, hu, hru⟩ := m4 _ el q c' hel hc'
          refine ⟨u, ?_, (by rcases hcc with rfl | rfl; exact snap_rep hbad hR hsame hdead k hru; exact snap_rep hbad hR hsame hdead (k + 1) hru)⟩
          rw [show o * es + (i * es + q) = (o + i) * es + q by rw [Nat.add_mul]; omega]
          simp only [World.cell?, m1]; simpa using hu
        have hlen : (((b.els.drop o).take n).map (snap (k + 1) H)).length = n := by simp; omega
        have := FRep.lst (w := w) (bad := bad) (((b.els.drop o).take n).map (snap (k + 1) H)) bb (o * es) es c (fun i q => (w.cell? ⟨bb, o * es + (i * es + q), none⟩).getD undef) (by omega) hbr.pos (fun hb => by have := hbad _ hb; have := hbr.low; omega) hlt
          (fun i x hx => by obtain ⟨el, hel, rfl⟩ := key i x hx; rw [snap_len (elOk_sc (hbr.ok _ _ hel)).1, (elOk_sc (hbr.ok _ _ hel)).2.1, hbr.hes])
          (fun i x q y hx hq => by obtain ⟨u, hu, _⟩ := hcell i x q y hx hq; simp [hu]) (fun i x q y hx hq => by obtain ⟨u, hu, hf⟩ := hcell i x q y hx hq; simpa [hu] using hf)
        rw [hlen] at this
        exact this
  termination_by k => k
end
end Go.Proofs.Ytbcbaidnamebkaa.AE
