/- Append: the small evaluator's is the model's. No conditions. -/
import Derived.Test.YtbcbaidnamebkaaAEsnd6
namespace Go.Proofs.Ytbcbaidnamebkaa.AE
set_option linter.unusedVariables false
set_option linter.unusedSimpArgs false
set_option linter.constructorNameAsVariable false
open Go Go.RowKit

section
variable {P : Program} {w w' : World} {bad D D' : Nat → Prop} {ρ ρ' : Rho} {a : Act} {ev : Opd → AV} {o : Oper} {B : Nat}

/-- What is appended, as cells. -/
structure Src (P : Program) (w : World) (bad D : Nat → Prop) (ρ : Rho) (xs : List AV) (es : Nat) (v : Value) (news : List Value) : Prop where
  len : (Builtin.lenOf v).run P w = .ok xs.length w
  first : ∀ w2 : World, w2.heap = w.heap → (Builtin.firstCells es xs.length v).run P w2 = .ok news.toArray w2
  size : news.length = xs.length * es
  one : ∀ u ∈ news, u.oneCell' = true
  rep : ∀ (i : Nat) (el : AV) (j : Nat) (c : AV), xs[i]? = some el → el.cells[j]? = some c → ∃ u, news[i * es + j]? = some u ∧ Rep w bad D ρ c u

theorem dead_get (H : Heap) : ∀ id, dead H id → hget H id = none := fun id hd => by simp only [dead] at hd; simp [hget, hd]

theorem src_of {H H' : Heap} {X : AV} {xs : List AV} {v : Value} {e : ETy} (h : elsOf H X = some xs) (hok : xs.all (elOk e) = true) (hR : HRel w bad ρ B H') (hD : ∀ id, D id ↔ H'[id]? = some none) (hsame : ∀ id u q, X = .slc id u q → ∀ b, hget H id = some b → ρ id ≠ .no → hget H' id = some b) (hdd : ∀ id, D id → hget H id = none)
    (hv : Rep w bad D ρ X v) : ∃ news, Src P w bad D ρ xs e.es v news := by
  by_cases hX : ∃ s, X = .str s
  · obtain ⟨s, rfl⟩ := hX
    have e2 := rep_str hv
    subst e2
    simp only [elsOf, Option.some.injEq] at h
    subst h
    have hsz : (⟨s.toArray⟩ : ByteArray).size = s.length := by simp [ByteArray.size]
    have hlen : (bytesAV s).length = s.length := by simp [bytesAV]
    by_cases hs : s = []
    · subst hs
      exact ⟨[], by simp [Builtin.lenOf, bytesAV, ByteArray.size], fun w2 _ => by simp [Builtin.firstCells, bytesAV], by simp [bytesAV], by simp, by simp [bytesAV]⟩
    · have he : e.es = 1 := by
        cases s with
        | nil => exact absurd rfl hs
        | cons b s =>
          have := (List.all_eq_true.mp hok) (.int .u8 b.toNat) (by simp [bytesAV])
          simp [elOk, AV.cells] at this
          exact this.1.symm
      refine ⟨s.map fun b => Value.int .u8 b.toNat, by simp [Builtin.lenOf, hsz, hlen], ?_, by simp [hlen, he], by simp [Value.oneCell'], ?_⟩
      · intro w2 _
        rw [hlen]
        have : (⟨s.toArray⟩ : ByteArray).extract 0 s.length = ⟨s.toArray⟩ := by
          apply ByteArray.ext
          simp
        simp only [Builtin.firstCells, this, Sem.run_pure]
        congr 1
        simp
      · intro i el j c hel hj
        simp only [bytesAV, List.getElem?_map] at hel
        obtain ⟨b, hb, rfl⟩ := Option.map_eq_some_iff.mp hel
        cases j with
        | succ j => simp [AV.cells] at hj
        | zero =>
          simp [AV.cells] at hj
          subst hj
          exact ⟨.int .u8 b.toNat, by rw [he]; simp [hb], .frz (.int _ _)⟩
  · obtain ⟨ad, c, e2, hn, hrow⟩ := elsOf_rep h (fun s hs => hX ⟨s, hs⟩) hR hD hsame hdd hv
    subst e2
    by_cases hnil : xs = []
    · subst hnil
      refine ⟨[], by simp [Builtin.lenOf], fun w2 _ => ?_, by simp, by simp, by simp⟩
      cases ad with
      | none => simp [Builtin.firstCells]
      | some ad => simp [Builtin.firstCells, loadCells, loadCellsFrom]
    · rcases hrow with h0 | ⟨b, q, es, rfl, hpos, hes, hc⟩
      · exact absurd h0 hnil
      · have he : es = e.es := by
          cases xs with
          | nil => exact absurd rfl hnil
          | cons x xs =>
            have h1 := (List.all_eq_true.mp hok) x (by simp)
            simp only [elOk, Bool.and_eq_true, beq_iff_eq] at h1
            rw [← hes 0 x rfl, h1.1]
        subst he
        have hcell : ∀ k, k < xs.length * e.es → ∃ u, w.cell? (Addr.add ⟨b, q, none⟩ k) = some u ∧ ∀ i j c, i * e.es + j = k → j < e.es → (xs[i]?.bind fun el => el.cells[j]?) = some c → Rep w bad D ρ c u ∧ isSc c = true := by
          intro k hk
          have hi : k / e.es < xs.length := Nat.div_lt_of_lt_mul (by rw [Nat.mul_comm]; exact hk)
          have hj : k % e.es < e.es := Nat.mod_lt _ hpos
          have hx := List.getElem?_eq_getElem hi
          have hxl := hes _ _ hx
          have hcj := List.getElem?_eq_getElem (l := (xs[k / e.es]).cells) (i := k % e.es) (by omega)
          obtain ⟨u, hu, hr⟩ := hc _ _ _ _ hx hcj
          have hsc : isSc (xs[k / e.es]).cells[k % e.es] = true := (elOk_sc (List.all_eq_true.mp hok _ (List.getElem_mem hi))).2.2 _ (List.getElem_mem _)
          have hdm : k / e.es * e.es + k % e.es = k := by rw [Nat.mul_comm]; exact Nat.div_add_mod k e.es
          refine ⟨u, by rw [Addr.add_lit, ← hdm]; exact hu, fun i j c hij hjl hcc => ?_⟩
          have e1 : i = k / e.es := by rw [← hij, Nat.mul_comm, Nat.mul_add_div hpos, Nat.div_eq_of_lt hjl]; omega
          have e2 : j = k % e.es := by rw [← hij, Nat.mul_comm, Nat.mul_add_mod, Nat.mod_eq_of_lt hjl]
          subst e1; subst e2
          rw [hx] at hcc
          simp only [Option.bind_some, hcj, Option.some.injEq] at hcc
          subst hcc
          exact ⟨hr, hsc⟩
        let f : Nat → Value := fun k => (w.cell? (Addr.add ⟨b, q, none⟩ k)).getD undef
        have hf : ∀ k, k < xs.length * e.es → w.cell? (Addr.add ⟨b, q, none⟩ k) = some (f k) := by
          intro k hk
          obtain ⟨u, hu, _⟩ := hcell k hk
          simp only [f, hu, Option.getD_some]
        refine ⟨(List.range (xs.length * e.es)).map f, by simp [Builtin.lenOf], ?_, by simp, ?_, ?_⟩
        · intro w2 hw2
          simp only [Builtin.firstCells, run_loadCells w2 _ _ f (fun k hk => by have := hf k hk; simp only [World.cell?, hw2] at this ⊢; exact this)]
        · intro u hu
          obtain ⟨k, hk, rfl⟩ := List.mem_map.mp hu
          have hk' : k < xs.length * e.es := by simpa using hk
          obtain ⟨u, hu, hr⟩ := hcell k hk'
          have hi : k / e.es < xs.length := Nat.div_lt_of_lt_mul (by rw [Nat.mul_comm]; exact hk')
          have hx := List.getElem?_eq_getElem hi
          have hj : k % e.es < e.es := Nat.mod_lt _ hpos
          have hcj := List.getElem?_eq_getElem (l := (xs[k / e.es]).cells) (i := k % e.es) (by rw [hes _ _ hx]; exact hj)
          have hdm : k / e.es * e.es + k % e.es = k := by rw [Nat.mul_comm]; exact Nat.div_add_mod k e.es
          obtain ⟨h1, h2⟩ := hr _ _ _ hdm hj (by rw [hx]; exact hcj)
          have : f k = u := by simp only [f, hu, Option.getD_some]
          rw [this]
          exact (rep_one h1 h2).1
        · intro i el j c hel hj
          have hil : i < xs.length := (List.getElem?_eq_some_iff.mp hel).1
          have hjl : j < e.es := by have := (List.getElem?_eq_some_iff.mp hj).1; rw [hes _ _ hel] at this; exact this
          have hk : i * e.es + j < xs.length * e.es := by
            have := Nat.mul_le_mul_right e.es hil
            rw [Nat.succ_mul] at this; omega
          obtain ⟨u, hu, hr⟩ := hcell _ hk
          refine ⟨f (i * e.es + j), by simp [hk], ?_⟩
          have : f (i * e.es + j) = u := by simp only [f, hu, Option.getD_some]
          rw [this]
          exact (hr i j c rfl hjl (by rw [hel]; exact hj)).1

/-- append where there is no room. -/
theorem append_grow {t u ty e : TypeId} {du : TypeDesc} {i : TypeInfo} {z : Value} {base : Option Addr} {n c m : Nat} {x : Value} {olds news : List Value} (ht : P.underlying t = some (.slice e)) (hu : P.underlying u = some du) (hni : du = .string ∨ ∃ e', du = .slice e') (hi : P.info? e = some i) (hz : i.zero = some z)
    (hm : (Builtin.lenOf x).run P w = .ok m w) (hold : ∀ w2 : World, w2.heap = w.heap → (Builtin.firstCells i.size n (.slice base n c)).run P w2 = .ok olds.toArray w2) (hnew : ∀ w2 : World, w2.heap = w.heap → (Builtin.firstCells i.size m x).run P w2 = .ok news.toArray w2)
    (hg : c < n + m) (h63 : n + m ≤ 9223372036854775807) (hb : (n + m) * i.bytes ≤ 140737488355328) :
    (Builtin.append_ #[t, u] ty #[.slice base n c, x]).run P w =
      .ok (.slice (some ⟨w.heap.size, 0, none⟩) (n + m) (grownCap w (n + m) c e)) (w.drew.alloc (.cells (olds.toArray ++ news.toArray ++ Builtin.zeroCells z.cells (grownCap w (n + m) c e - (n + m))) e)) := by
  have hfit := growslice_fits hg hb
  have h48' : ¬ (281474976710656 < Builtin.nextslicecap (n + m) c * i.bytes) := by omega
  have h63' : ¬ (9223372036854775807 < (n : Int) + (m : Int)) := by omega
  have hn : ¬ (n + m ≤ c) := by omega
  have h1 := hold w.drew rfl
  have h2 := hnew w.drew rfl
  rcases hni with rfl | ⟨e', rfl⟩
  all_goals simp [Builtin.append_, run_underlying ht, run_underlying hu, sizeOf, typeInfo, zeroValue, hi, hz, hm, hn, h63', h48', Question.forced, h1, h2, newRow, grownCap]
  all_goals
    congr 2
    apply Array.ext'
    simp [List.append_assoc]

/-- append where there is room. -/
theorem append_room {t u ty e : TypeId} {du : TypeDesc} {i : TypeInfo} {base : Option Addr} {n c m : Nat} {x : Value} {news : List Value} (ht : P.underlying t = some (.slice e)) (hu : P.underlying u = some du) (hni : du = .string ∨ ∃ e', du = .slice e') (hi : P.info? e = some i)
    (hm : (Builtin.lenOf x).run P w = .ok m w) (hnew : ∀ w2 : World, w2.heap = w.heap → (Builtin.firstCells i.size m x).run P w2 = .ok news.toArray w2)
    (hg : n + m ≤ c) {w' : World} (hst : (match base with | some a => storeCells (a.add (n * i.size)) news | none => pure () : Sem Unit).run P w = .ok () w') :
    (Builtin.append_ #[t, u] ty #[.slice base n c, x]).run P w = .ok (.slice base (n + m) c) w' := by
  have h2 := hnew w rfl
  rcases hni with rfl | ⟨e', rfl⟩
  all_goals
    cases base with
    | none =>
      simp at hst
      subst hst
      simp [Builtin.append_, run_underlying ht, run_underlying hu, sizeOf, typeInfo, hi, hm, hg, h2]
    | some ad =>
      simp at hst
      simp [Builtin.append_, run_underlying ht, run_underlying hu, sizeOf, typeInfo, hi, hm, hg, h2, hst]

/-- A block of own memory that is gone. -/
theorem kill_upd {H : Heap} {id : Nat} (hR : HRel w bad ρ B H) : Step w w (dead H) (dead (H.set id none)) ρ (fun i => if i = id ∧ id < H.length then .no else ρ i) ∧ HRel w bad (fun i => if i = id ∧ id < H.length then .no else ρ i) B (H.set id none) := by
  have hst : Step w w (dead H) (dead (H.set id none)) ρ (fun i => if i = id ∧ id < H.length then .no else ρ i) := by
    refine ⟨.refl _ _, ⟨fun b hb => ?_⟩, fun i hi => ?_, fun i hi => ?_⟩
    · obtain ⟨i, es, cp, h⟩ := hb
      try simp only at h
      split at h
      · cases h
      · exact .inl ⟨i, es, cp, h⟩
    · simp only [dead, List.getElem?_set] at hi ⊢
      split
      · rename_i he; subst he
        split
        · rfl
        · rename_i hlt; rw [List.getElem?_eq_none (by simpa using hlt)] at hi; cases hi
      · exact hi
    · by_cases he : i = id ∧ id < H.length
      · right
        obtain ⟨rfl, hlt⟩ := he
        simp [dead, List.getElem?_set_self hlt]
      · left; simp [he]
  refine ⟨hst, ?_, ?_, ?_⟩
  · intro i b es cp h
    try simp only at h
    split at h
    · cases h
    · rename_i hne
      obtain ⟨k, hk, hb⟩ := hR.real i b es cp h
      have hlt : i < H.length := (List.getElem?_eq_some_iff.mp hk).1
      have : id ≠ i := fun e => hne ⟨e.symm, by omega⟩
      exact ⟨k, by rw [List.getElem?_set_ne this]; exact hk, hb.step hst rfl⟩
  · intro i h
    try simp only at h
    split at h
    · cases h
    · rename_i hne
      obtain ⟨k, hk, hb⟩ := hR.virt i h
      have hlt : i < H.length := (List.getElem?_eq_some_iff.mp hk).1
      have : id ≠ i := fun e => hne ⟨e.symm, by omega⟩
      exact ⟨k, by rw [List.getElem?_set_ne this]; exact hk, hb⟩
  · intro i i' b es cp es' cp' h h'
    try simp only at h h'
    split at h <;> (try (cases h; done))
    split at h' <;> (try (cases h'; done))
    exact hR.inj i i' b es cp es' cp' h h'

theorem no_at_end {H : Heap} (hR : HRel w bad ρ B H) : ρ H.length = .no := by
  cases h : ρ H.length with
  | no => rfl
  | virt => obtain ⟨k, hk, _⟩ := hR.virt _ h; simp at hk
  | real b es cap => obtain ⟨k, hk, _⟩ := hR.real _ _ _ _ h; simp at hk

theorem lt_of_no {H : Heap} {ρ : Rho} (hR : HRel w bad ρ B H) {i : Nat} (h : ρ i ≠ .no) : i < H.length := by
  cases hq : ρ i with
  | no => exact absurd hq h
  | virt => obtain ⟨k, hk, _⟩ := hR.virt _ hq; exact (List.getElem?_eq_some_iff.mp hk).1
  | real b es cap => obtain ⟨k, hk, _⟩ := hR.real _ _ _ _ hq; exact (List.getElem?_eq_some_iff.mp hk).1

theorem dead_app {H : Heap} {k : Option Blk} {i : Nat} (h : H[i]? = some none) : (H ++ [k])[i]? = some none := by
  rw [List.getElem?_append_left (List.getElem?_eq_some_iff.mp h).1]; exact h

/-- A new number for a block that is empty yet. -/
theorem virt_upd {H : Heap} {k : Blk} (hR : HRel w bad ρ B H) (hk : k.els = []) : Step w w (dead H) (dead (H ++ [some k])) ρ (fun i => if i = H.length then .virt else ρ i) ∧ HRel w bad (fun i => if i = H.length then .virt else ρ i) B (H ++ [some k]) := by
  have hst : Step w w (dead H) (dead (H ++ [some k])) ρ (fun i => if i = H.length then .virt else ρ i) := by
    refine ⟨.refl _ _, ⟨fun b hb => ?_⟩, fun i hi => dead_app hi, fun i hi => .inl ?_⟩
    · obtain ⟨i, es, cp, h⟩ := hb
      try simp only at h
      split at h
      · cases h
      · exact .inl ⟨i, es, cp, h⟩
    · have : i ≠ H.length := fun e => hi (e ▸ no_at_end hR)
      simp [this]
  refine ⟨hst, ?_, ?_, ?_⟩
  · intro i b es cp h
    try simp only at h
    split at h
    · cases h
    · obtain ⟨k', hk', hb⟩ := hR.real i b es cp h
      exact ⟨k', by rw [List.getElem?_append_left (List.getElem?_eq_some_iff.mp hk').1]; exact hk', hb.step hst rfl⟩
  · intro i h
    try simp only at h
    split at h
    · rename_i he; subst he
      exact ⟨k, by simp, hk⟩
    · obtain ⟨k', hk', hb⟩ := hR.virt i h
      exact ⟨k', by rw [List.getElem?_append_left (List.getElem?_eq_some_iff.mp hk').1]; exact hk', hb⟩
  · intro i i' b es cp es' cp' h h'
    try simp only at h h'
    split at h <;> (try (cases h; done))
    split at h' <;> (try (cases h'; done))
    exact hR.inj i i' b es cp es' cp' h h'

theorem flat_rep {xs : List AV} {e : ETy} {news rest : List Value} (pre : List Value) (n : Nat) (hpre : pre.length = n * e.es) (hok : xs.all (elOk e) = true) (hsz : news.length = xs.length * e.es)
    (hrep : ∀ (i : Nat) (el : AV) (j : Nat) (c : AV), xs[i]? = some el → el.cells[j]? = some c → ∃ u, news[i * e.es + j]? = some u ∧ Rep w bad D ρ c u) (i : Nat) (el : AV) (j : Nat) (c : AV) (hel : xs[i]? = some el) (hj : el.cells[j]? = some c) :
    ∃ u, (pre ++ news ++ rest)[(n + i) * e.es + j]? = some u ∧ Rep w bad D ρ c u := by
  obtain ⟨u, hu, hr⟩ := hrep i el j c hel hj
  refine ⟨u, ?_, hr⟩
  have hlt := (List.getElem?_eq_some_iff.mp hu).1
  rw [List.append_assoc, List.getElem?_append_right (by rw [hpre, Nat.add_mul]; omega), List.getElem?_append_left (by rw [hpre, Nat.add_mul]; omega)]
  rw [show (n + i) * e.es + j - pre.length = i * e.es + j by rw [hpre, Nat.add_mul]; omega]
  exact hu

/-- append onto own memory, or onto none. -/
theorem app_run {H H' : Heap} {t u ty et : TypeId} {du : TypeDesc} {e : ETy} {s x v : AV} {vs vx : Value} {xs : List AV} (ht : P.underlying t = some (.slice et)) (hu : P.underlying u = some du) (hni : du = .string ∨ ∃ e', du = .slice e') (he : cETy P et = some e)
    (hxs : elsOf H x = some xs) (hR : HRel w bad ρ B H) (hB : B ≤ w.heap.size) (hs : Rep w bad (dead H) ρ s vs) (hx : Rep w bad (dead H) ρ x vx)
    (h : aApp H e xs s = some (v, H')) :
    ∃ cv w' ρ', (Builtin.append_ #[t, u] ty #[vs, vx]).run P w = .ok cv w' ∧ Step w w' (dead H) (dead H') ρ ρ' ∧ HRel w' bad ρ' B H' ∧ Rep w' bad (dead H') ρ' v cv := by
  obtain ⟨i, z, hi, ha, hz, hzv, htid, hes, hby, hzo, hpos⟩ := cETy_spec he
  have fresh : ∀ (H1 : Heap) (ρ1 : Rho) (base : Option Addr), HRel w bad ρ1 B H1 → Step w w (dead H) (dead H1) ρ ρ1 → H1.length = H.length → vs = .slice base 0 0 → xs.length * e.bytes ≤ 140737488355328 → xs.length ≤ 9223372036854775807 → xs.all (elOk e) = true →
      ∃ cv w' ρ', (Builtin.append_ #[t, u] ty #[vs, vx]).run P w = .ok cv w' ∧ Step w w' (dead H) (dead (H1 ++ [some ⟨e, xs⟩])) ρ ρ' ∧ HRel w' bad ρ' B (H1 ++ [some ⟨e, xs⟩]) ∧ Rep w' bad (dead (H1 ++ [some ⟨e, xs⟩])) ρ' (.slc H.length 0 xs.length) cv := by
    intro H1 ρ1 base hR1 hst1 hlen hvs hb h63 hok
    obtain ⟨news, hsrc⟩ := src_of (P := P) hxs hok hR (fun _ => Iff.rfl) (fun _ _ _ _ _ hb _ => hb) (dead_get H) hx
    subst hvs
    by_cases hm : xs.length = 0
    · obtain ⟨v1, v2⟩ := virt_upd (k := ⟨e, xs⟩) hR1 (by simpa using hm)
      refine ⟨.slice base 0 0, w, _, ?_, hst1.trans v1, v2, ?_⟩
      · have hnn : news = [] := by have := hsrc.size; rw [hm] at this; simpa using this
        have h1 := append_room (P := P) (w := w) (ty := ty) (base := base) (n := 0) (c := 0) (x := vx) ht hu hni hi hsrc.len (by rw [← hes]; exact hsrc.first) (by omega) (w' := w) (by
          subst hnn
          cases base <;> rfl)
        rw [hm] at h1
        exact h1
      · rw [hm, ← hlen]
        exact .slcV base (by simp)
    · have hgrow := append_grow (P := P) (w := w) (ty := ty) (base := base) (n := 0) (c := 0) (x := vx) (olds := []) ht hu hni hi hz hsrc.len (fun w2 _ => by cases base <;> simp [Builtin.firstCells, loadCells, loadCellsFrom]) (by rw [← hes]; exact hsrc.first) (by omega) (by omega) (by rw [← hby]; simpa using hb)
      simp only [Nat.zero_add] at hgrow
      have hge := grownCap_ge w xs.length 0 et
      have hzs : z.cells.size = e.es := (elOk_rep hzo (.frz (cv_rep (w := w) (bad := fun b => bad b ∨ own ρ b) hzv) : Rep w bad (dead H) ρ e.zero z)).1
      have hcsz : ([].toArray ++ news.toArray ++ Builtin.zeroCells z.cells (grownCap w xs.length 0 et - xs.length)).size = grownCap w xs.length 0 et * e.es := by
        simp only [Array.size_append, List.size_toArray, List.length_nil, size_zeroCells, hzs, hsrc.size]
        rw [Nat.zero_add, ← Nat.add_mul]; congr 1; omega
      obtain ⟨ρ', hρ', st, hr⟩ := alloc_upd (w' := w.drew.alloc (.cells ([].toArray ++ news.toArray ++ Builtin.zeroCells z.cells (grownCap w xs.length 0 et - xs.length)) et)) (k := ⟨e, xs⟩) (H' := H1 ++ [some ⟨e, xs⟩]) (id := H1.length) (fz := (0, 0)) hR1 hB (no_at_end hR1) (by simp)
        (fun i hi hn => List.getElem?_append_left (lt_of_no hR1 hn))
        (fun i hi => dead_app hi) rfl rfl rfl (by simp) (fun j hj => Below.heap_alloc w.drew _ j hj) (by simp only [htid]; exact heap_alloc_new w.drew _) hpos hcsz (fun j _ => by simp) (by simp; omega)
        (fun i el hel => List.all_eq_true.mp hok el (List.mem_of_getElem? hel))
        (fun i el j c hel hj => by
          obtain ⟨q, hq, hrq⟩ := flat_rep (w := w) (bad := bad) (D := dead H) (ρ := ρ) (rest := (Builtin.zeroCells z.cells (grownCap w xs.length 0 et - xs.length)).toList) [] 0 (by simp) hok hsrc.size hsrc.rep i el j c hel hj
          refine ⟨q, ?_, hrq.step hst1⟩
          rw [← Array.getElem?_toList]
          simpa using hq)
      refine ⟨_, _, ρ', hgrow, hst1.trans st, hr, ?_⟩
      rw [← hlen]
      subst hρ'
      have : Rep (w.drew.alloc (.cells ([].toArray ++ news.toArray ++ Builtin.zeroCells z.cells (grownCap w xs.length 0 et - xs.length)) et)) bad (dead (H1 ++ [some ⟨e, xs⟩])) (fun i => if i = H1.length then RB.real w.heap.size e.es (grownCap w xs.length 0 et) else ρ1 i) (.slc H1.length 0 xs.length) (.slice (some ⟨w.heap.size, 0 * e.es, none⟩) xs.length (grownCap w xs.length 0 et)) :=
        Rep.slc (b := w.heap.size) (es := e.es) (cap := grownCap w xs.length 0 et) (by simp) (by omega) hge
      simpa using this
  cases s <;> simp only [aApp] at h <;> (try (cases h; done))
  · split at h <;> (try (cases h; done))
    rename_i hc
    obtain ⟨rfl, rfl⟩ : _ = v ∧ _ = H' := by simpa using h
    have : ∃ base, vs = .slice base 0 0 := by
      cases hs with
      | frz hs => cases hs with
        | znil => exact ⟨_, rfl⟩
        | zsl a => exact ⟨_, rfl⟩
    obtain ⟨base, hb⟩ := this
    exact fresh H ρ base hR (Step.refl _ _ _) rfl hb hc.1 hc.2.1 hc.2.2
  · rename_i id o' n
    cases o' with
    | succ o' => cases h
    | zero =>
      cases hg : hget H id with
      | none => simp [hg] at h
      | some k =>
        simp only [hg] at h
        split at h <;> (try (cases h; done))
        rename_i hc
        obtain ⟨c1, c2, c3, c4, c5, c6⟩ := hc
        obtain ⟨rfl, rfl⟩ : _ = v ∧ _ = H' := by simpa using h
        have hk := agree_of hg
        have hidlt : id < H.length := (List.getElem?_eq_some_iff.mp hk).1
        cases hs with
        | frz hs => cases hs
        | slcD a c hd => rw [dead, hk] at hd; cases hd
        | slcV base hρ =>
          obtain ⟨k2, hk2, he2⟩ := hR.virt _ hρ
          rw [hk] at hk2; cases hk2
          obtain ⟨q1, q2⟩ := kill_upd (id := id) hR
          rw [he2]
          simp only [Nat.zero_add, List.nil_append] at c2 c3 ⊢
          exact fresh (H.set id none) _ base q2 q1 (by simp) rfl c2 c3 c6
        | slc hρ hcap hnc =>
          rename_i b es cap c
          obtain ⟨k2, hk2, hbr⟩ := hR.real _ _ _ _ hρ
          rw [hk] at hk2; cases hk2
          have hees : es = e.es := by rw [← hbr.hes, c5]
          subst hees
          obtain ⟨cur, fz, m1, m2, m3, m4⟩ := hbr.mem
          obtain ⟨news, hsrc⟩ := src_of (P := P) hxs c6 hR (fun _ => Iff.rfl) (fun _ _ _ _ _ hb _ => hb) (dead_get H) hx
          have hnn : n * e.es ≤ cap * e.es := Nat.mul_le_mul_right _ (by omega)
          have hold : ∀ w2 : World, w2.heap = w.heap → (Builtin.firstCells i.size n (.slice (some ⟨b, 0 * e.es, none⟩) n c)).run P w2 = .ok (cur.toList.take (n * e.es)).toArray w2 := by
            intro w2 hw2
            rw [← hes]
            have := run_firstCells_some (P := P) w2 e.es n ⟨b, 0 * e.es, none⟩ n c (cur.toList.take (n * e.es)) (by simp; omega) (by
              intro j v hv
              rw [Addr.add_lit]
              have hj : j < n * e.es := by have := (List.getElem?_eq_some_iff.mp hv).1; simp at this; omega
              rw [List.getElem?_take_of_lt hj] at hv
              simp only [World.cell?, hw2, m1]
              simpa using hv)
            exact this
          have hold2 : ∀ (i' : Nat) (el : AV) (j : Nat) (y : AV), k.els[i']? = some el → el.cells[j]? = some y → ∃ q, cur[i' * e.es + j]? = some q ∧ Rep w bad (dead H) ρ y q ∧ i' * e.es + j < n * e.es := by
            intro i' el j y hel hj
            obtain ⟨q, h1, h2⟩ := m4 i' el j y hel hj
            refine ⟨q, h1, h2, ?_⟩
            have hil : i' < n := by rw [← c1]; exact (List.getElem?_eq_some_iff.mp hel).1
            have hjl : j < e.es := by have h9 := (List.getElem?_eq_some_iff.mp hj).1; have := (elOk_sc (hbr.ok _ _ hel)).2.1; omega
            have := Nat.mul_le_mul_right e.es hil
            rw [Nat.succ_mul] at this; omega
          have hokAll : ∀ (j : Nat) (el : AV), (k.els ++ xs)[j]? = some el → elOk e el = true := by
            intro j el hel
            rcases List.mem_append.mp (List.mem_of_getElem? hel) with hm | hm
            · obtain ⟨j', hj'⟩ := List.getElem?_of_mem hm
              have := hbr.ok j' el hj'
              simp only [elOk, c5] at this ⊢
              exact this
            · exact List.all_eq_true.mp c6 el hm
          by_cases hroom : n + xs.length ≤ c
          · have hfit : (n + xs.length) * e.es ≤ cap * e.es := Nat.mul_le_mul_right _ (by omega)
            obtain ⟨w', cur', r1, r2, r3, r4, r5, r6, r7, r8, r9⟩ := storeCells_run (P := P) b k.e.tid fz news (n * e.es) 0 cur w m1 (by rw [hsrc.size, m2]; rw [Nat.add_mul] at hfit; omega) m3 hsrc.one
            have hrun := append_room (P := P) (w := w) (ty := ty) (base := some ⟨b, 0 * e.es, none⟩) (n := n) (c := c) (x := vx) ht hu hni hi hsrc.len (by rw [← hes]; exact hsrc.first) hroom (w' := w') (by
              simp only [Addr.add_lit, ← hes, Nat.zero_mul, Nat.zero_add]
              exact r1)
            have hst : Step w w' (dead H) (dead (H.set id none ++ [some ⟨e, k.els ++ xs⟩])) ρ (fun i => if i = H.length then .real b e.es cap else if i = id then .no else ρ i) := by
              refine ⟨⟨r2, r3, r4, Nat.le_of_eq r5.symm, fun b' _ hn => r6 b' (fun e' => hn (e' ▸ ⟨id, _, _, hρ⟩))⟩, ⟨fun b' hb' => ?_⟩, fun j hj => ?_, fun j hj => ?_⟩
              · obtain ⟨j, es', cp', h'⟩ := hb'
                try simp only at h'
                split at h'
                · cases h'; exact .inl ⟨id, _, _, hρ⟩
                · split at h'
                  · cases h'
                  · exact .inl ⟨j, _, _, h'⟩
              · refine dead_app ?_
                have : id ≠ j := fun e' => by subst e'; rw [dead, hk] at hj; cases hj
                rw [List.getElem?_set_ne this]; exact hj
              · by_cases hjd : j = id
                · right
                  subst hjd
                  exact dead_app (by rw [List.getElem?_set_self hidlt])
                · left
                  have : j ≠ H.length := fun e' => hj (e' ▸ no_at_end hR)
                  simp [this, hjd]
            have hid2 : id ≠ H.length := by omega
            refine ⟨_, w', _, hrun, hst, ⟨?_, ?_, ?_⟩, ?_⟩
            · intro j b' es' cp' h'
              try simp only at h'
              split at h'
              · rename_i hj
                cases h'
                subst hj
                refine ⟨⟨e, k.els ++ xs⟩, by simp, rfl, hpos, hbr.low, by simp; omega, hokAll, cur', fz, by rw [r7]; simp [c4], by rw [r8, m2], by rw [r8]; exact m3, ?_⟩
                intro j el l y hel hl
                rcases Nat.lt_or_ge j k.els.length with hlt | hge'
                · rw [List.getElem?_append_left hlt] at hel
                  obtain ⟨q, h1, h2, h3⟩ := hold2 j el l y hel hl
                  refine ⟨q, ?_, h2.step hst⟩
                  rw [r9, if_neg (by omega)]
                  exact h1
                · rw [List.getElem?_append_right hge'] at hel
                  obtain ⟨q, h1, h2⟩ := hsrc.rep _ el l y hel hl
                  refine ⟨q, ?_, h2.step hst⟩
                  have hlt2 := (List.getElem?_eq_some_iff.mp h1).1
                  have e9 : j * e.es + l = n * e.es + ((j - k.els.length) * e.es + l) := by
                    have : j = n + (j - k.els.length) := by omega
                    conv => lhs; rw [this, Nat.add_mul]
                    omega
                  rw [r9, if_pos (by omega), e9]
                  rw [show n * e.es + ((j - k.els.length) * e.es + l) - (n * e.es + 0) = (j - k.els.length) * e.es + l by omega]
                  exact h1
              · rename_i hj
                split at h'
                · cases h'
                · rename_i hj2
                  obtain ⟨k3, hk3, hb3⟩ := hR.real _ _ _ _ h'
                  refine ⟨k3, ?_, hb3.step hst (r6 _ (fun e' => hj2 ?_))⟩
                  · rw [List.getElem?_append_left (by simp; exact (List.getElem?_eq_some_iff.mp hk3).1), List.getElem?_set_ne (fun e' => hj2 e'.symm)]
                    exact hk3
                  · subst e'; exact hR.inj _ _ _ _ _ _ _ h' hρ
            · intro j h'
              try simp only at h'
              split at h'
              · cases h'
              · split at h'
                · cases h'
                · rename_i hj2
                  obtain ⟨k3, hk3, hb3⟩ := hR.virt _ h'
                  refine ⟨k3, ?_, hb3⟩
                  rw [List.getElem?_append_left (by simp; exact (List.getElem?_eq_some_iff.mp hk3).1), List.getElem?_set_ne (fun e' => hj2 e'.symm)]
                  exact hk3
            · intro j j' b' es' cp' es2 cp2 h1 h2
              try simp only at h1 h2
              split at h1
              · rename_i q1
                split at h2
                · rename_i q2; omega
                · cases h1
                  split at h2
                  · cases h2
                  · rename_i q3; exact absurd (hR.inj _ _ _ _ _ _ _ h2 hρ) q3
              · split at h1
                · cases h1
                · rename_i q3
                  split at h2
                  · cases h2; exact absurd (hR.inj _ _ _ _ _ _ _ h1 hρ) q3
                  · split at h2
                    · cases h2
                    · exact hR.inj _ _ _ _ _ _ _ h1 h2
            · exact Rep.slc (b := b) (es := e.es) (cap := cap) (by simp) (by omega) hroom
          · have hgrow := append_grow (P := P) (w := w) (ty := ty) (base := some ⟨b, 0 * e.es, none⟩) (n := n) (c := c) (x := vx) (olds := cur.toList.take (n * e.es)) ht hu hni hi hz hsrc.len hold (by rw [← hes]; exact hsrc.first) (by omega) (by omega) (by rw [← hby]; exact c2)
            have hge := grownCap_ge w (n + xs.length) c et
            have hzs : z.cells.size = e.es := (elOk_rep hzo (.frz (cv_rep (w := w) (bad := fun b => bad b ∨ own ρ b) hzv) : Rep w bad (dead H) ρ e.zero z)).1
            have hol : (cur.toList.take (n * e.es)).length = n * e.es := by simp; omega
            have hcsz : ((cur.toList.take (n * e.es)).toArray ++ news.toArray ++ Builtin.zeroCells z.cells (grownCap w (n + xs.length) c et - (n + xs.length))).size = grownCap w (n + xs.length) c et * e.es := by
              simp only [Array.size_append, List.size_toArray, hol, size_zeroCells, hzs, hsrc.size]
              rw [← Nat.add_mul, ← Nat.add_mul]; congr 1; omega
            obtain ⟨q1, q2⟩ := kill_upd (id := id) hR
            obtain ⟨ρ', hρ', st, hr⟩ := alloc_upd (w' := w.drew.alloc (.cells ((cur.toList.take (n * e.es)).toArray ++ news.toArray ++ Builtin.zeroCells z.cells (grownCap w (n + xs.length) c et - (n + xs.length))) et)) (k := ⟨e, k.els ++ xs⟩) (H' := H.set id none ++ [some ⟨e, k.els ++ xs⟩]) (id := (H.set id none).length) (fz := (0, 0)) q2 hB (no_at_end q2) (by simp)
              (fun i hi hn => List.getElem?_append_left (lt_of_no q2 hn))
              (fun i hi => dead_app hi) rfl rfl rfl (by simp) (fun j hj => Below.heap_alloc w.drew _ j hj) (by simp only [htid]; exact heap_alloc_new w.drew _) hpos hcsz (fun j _ => by simp) (by simp; omega) hokAll
              (fun j el l y hel hl => by
                rcases Nat.lt_or_ge j k.els.length with hlt | hge'
                · rw [List.getElem?_append_left hlt] at hel
                  obtain ⟨q, h1, h2, h3⟩ := hold2 j el l y hel hl
                  refine ⟨q, ?_, h2.step q1⟩
                  simp only
                  rw [← Array.getElem?_toList]
                  simp only [Array.toList_append, List.append_assoc]
                  rw [List.getElem?_append_left (by simp only [hol]; exact h3), List.getElem?_take_of_lt h3]
                  simpa using h1
                · rw [List.getElem?_append_right hge'] at hel
                  obtain ⟨q, hq, hrq⟩ := flat_rep (w := w) (bad := bad) (D := dead H) (ρ := ρ) (rest := (Builtin.zeroCells z.cells (grownCap w (n + xs.length) c et - (n + xs.length))).toList) (cur.toList.take (n * e.es)) n hol c6 hsrc.size hsrc.rep _ el l y hel hl
                  refine ⟨q, ?_, hrq.step q1⟩
                  rw [show n + (j - k.els.length) = j by omega] at hq
                  rw [← Array.getElem?_toList]
                  simpa using hq)
            refine ⟨_, _, ρ', hgrow, q1.trans st, hr, ?_⟩
            subst hρ'
            have hsl : (H.set id none).length = H.length := by simp
            have : Rep (w.drew.alloc (.cells ((cur.toList.take (n * e.es)).toArray ++ news.toArray ++ Builtin.zeroCells z.cells (grownCap w (n + xs.length) c et - (n + xs.length))) et)) bad (dead (H.set id none ++ [some ⟨e, k.els ++ xs⟩])) (fun i => if i = (H.set id none).length then RB.real w.heap.size e.es (grownCap w (n + xs.length) c et) else (if i = id ∧ id < H.length then .no else ρ i)) (.slc H.length 0 (n + xs.length)) (.slice (some ⟨w.heap.size, 0 * e.es, none⟩) (n + xs.length) (grownCap w (n + xs.length) c et)) :=
              Rep.slc (b := w.heap.size) (es := e.es) (cap := grownCap w (n + xs.length) c et) (by simp) (by omega) hge
            simpa using this
end
end Go.Proofs.Ytbcbaidnamebkaa.AE
