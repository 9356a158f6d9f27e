/- One operation behind the other: the small evaluator's steps are the model's. No conditions. -/
import Derived.Test.YtbcbaidnamebkaaAEsnd5
namespace Go.Proofs.Ytbcbaidnamebkaa.AE
set_option linter.unusedVariables false
set_option linter.unusedSimpArgs false
set_option linter.constructorNameAsVariable false
open Go Go.RowKit

abbrev dead (H : Heap) : Nat → Prop := fun id => H[id]? = some none

section
variable {P : Program} {w w' : World} {bad D D' : Nat → Prop} {ρ ρ' : Rho} {a : Act} {ev : Opd → AV} {o : Oper} {B : Nat}

theorem BlkRel.step {k : Blk} {b es cap : Nat} (s : Step w w' D D' ρ ρ') (h : BlkRel w bad D ρ B k b es cap) (hm : w'.heap[b]? = w.heap[b]?) : BlkRel w' bad D' ρ' B k b es cap := by
  obtain ⟨cur, fz, h1, h2, h3, h4⟩ := h.mem
  exact ⟨h.hes, h.pos, h.low, h.len, h.ok, cur, fz, hm.trans h1, h2, h3, fun i el j c hel hj => let ⟨v, hv, hr⟩ := h4 i el j c hel hj; ⟨v, hv, hr.step s⟩⟩

theorem own_lt {H : Heap} (hR : HRel w bad ρ B H) {b : Nat} (h : own ρ b) : b < w.heap.size ∧ B ≤ b := by
  obtain ⟨id, es, cap, h⟩ := h
  obtain ⟨k, hk, hb⟩ := hR.real id b es cap h
  obtain ⟨cur, fz, h1, _⟩ := hb.mem
  exact ⟨(Array.getElem?_eq_some_iff.mp h1).1, hb.low⟩

/-- What a new block turns. -/
theorem alloc_upd {H H' : Heap} {id : Nat} {k : Blk} {cur : Array Value} {fz : Nat × Nat} {cap : Nat} (hR : HRel w bad ρ B H) (hB : B ≤ w.heap.size) (hρ : ρ id = .no) (hnew : H'[id]? = some (some k)) (hold : ∀ i : Nat, i ≠ id → ρ i ≠ .no → H'[i]? = H[i]?)
    (hdead : ∀ i : Nat, H[i]? = some none → H'[i]? = some none) (hos : w'.os = w.os) (htape : w'.tape = w.tape) (hout : w'.output = w.output) (hsz : w'.heap.size = w.heap.size + 1) (hkeep : ∀ j, j < w.heap.size → w'.heap[j]? = w.heap[j]?)
    (hcell : w'.heap[w.heap.size]? = some (.cells cur k.e.tid fz)) (hpos : 0 < k.e.es) (hcs : cur.size = cap * k.e.es) (hfz : ∀ j, j < cur.size → ¬ (fz.1 ≤ j ∧ j < fz.2)) (hlen : k.els.length ≤ cap)
    (hok : ∀ (i : Nat) (el : AV), k.els[i]? = some el → elOk k.e el = true)
    (hcells : ∀ (i : Nat) (el : AV) (j : Nat) (c : AV), k.els[i]? = some el → el.cells[j]? = some c → ∃ u, cur[i * k.e.es + j]? = some u ∧ Rep w bad (dead H) ρ c u) :
    ∃ ρ', ρ' = (fun i => if i = id then RB.real w.heap.size k.e.es cap else ρ i) ∧ Step w w' (dead H) (dead H') ρ ρ' ∧ HRel w' bad ρ' B H' := by
  refine ⟨_, rfl, ?_⟩
  have hst : Step w w' (dead H) (dead H') ρ (fun i => if i = id then RB.real w.heap.size k.e.es cap else ρ i) := by
    refine ⟨⟨hos, htape, hout, by omega, fun b hb _ => hkeep b hb⟩, ⟨fun b hb => ?_⟩, hdead, fun i hi => .inl ?_⟩
    · obtain ⟨i, es, cp, h⟩ := hb
      by_cases hi : i = id
      · simp [hi] at h; right; omega
      · simp [hi] at h; exact .inl ⟨i, es, cp, h⟩
    · have : i ≠ id := fun e => hi (e ▸ hρ)
      simp [this]
  refine ⟨hst, ?_, ?_, ?_⟩
  · intro i b es cp h
    by_cases hi : i = id
    · simp [hi] at h
      obtain ⟨rfl, rfl, rfl⟩ := h
      subst hi
      exact ⟨k, hnew, rfl, hpos, hB, hlen, hok, cur, fz, hcell, hcs, hfz, fun i el j c hel hj => let ⟨u, hu, hr⟩ := hcells i el j c hel hj; ⟨u, hu, hr.step hst⟩⟩
    · simp [hi] at h
      obtain ⟨k', hk', hb⟩ := hR.real i b es cp h
      exact ⟨k', (hold i hi (by simp [h])).trans hk', hb.step hst (hkeep b (own_lt hR ⟨i, es, cp, h⟩).1)⟩
  · intro i h
    by_cases hi : i = id
    · simp [hi] at h
    · simp [hi] at h
      obtain ⟨k', hk', he⟩ := hR.virt i h
      exact ⟨k', (hold i hi (by simp [h])).trans hk', he⟩
  · intro i i' b es cp es' cp' h h'
    by_cases hi : i = id <;> by_cases hi' : i' = id
    · rw [hi, hi']
    · simp [hi] at h; simp [hi'] at h'
      have := (own_lt hR ⟨i', es', cp', h'⟩).1
      omega
    · simp [hi] at h; simp [hi'] at h'
      have := (own_lt hR ⟨i, es, cp, h⟩).1
      omega
    · simp [hi] at h; simp [hi'] at h'
      exact hR.inj i i' b es cp es' cp' h h'

/-- Cells, stored one behind the other. -/
theorem storeCells_run (b t : Nat) (fz : Nat × Nat) : ∀ (vs : List Value) (o i : Nat) (cur : Array Value) (w : World), w.heap[b]? = some (.cells cur t fz) → o + i + vs.length ≤ cur.size → (∀ j, j < cur.size → ¬ (fz.1 ≤ j ∧ j < fz.2)) → (∀ v ∈ vs, v.oneCell' = true) →
    ∃ w' cur', (storeCells ⟨b, o, none⟩ vs i).run P w = .ok () w' ∧ w'.os = w.os ∧ w'.tape = w.tape ∧ w'.output = w.output ∧ w'.heap.size = w.heap.size ∧ (∀ j, j ≠ b → w'.heap[j]? = w.heap[j]?) ∧ w'.heap[b]? = some (.cells cur' t fz) ∧ cur'.size = cur.size ∧
      ∀ k, cur'[k]? = if o + i ≤ k ∧ k < o + i + vs.length then vs[k - (o + i)]? else cur[k]?
  | [], o, i, cur, w, hb, _, _, _ => ⟨w, cur, rfl, rfl, rfl, rfl, rfl, fun _ _ => rfl, hb, rfl, fun k => by rw [if_neg (by simp)]⟩
  | v :: vs, o, i, cur, w, hb, hle, hfz, h1 => by
    simp only [List.length_cons] at hle
    have hcell : w.cell? ⟨b, o + i, none⟩ = some cur[o + i] := by simp [World.cell?, hb]
    have hfr : w.frozen? ⟨b, o + i, none⟩ = false := by
      have := hfz (o + i) (by omega)
      simp only [World.frozen?, hb]
      simpa using this
    have hst : (store (Addr.add ⟨b, o, none⟩ i) v).run P w = .ok () (w.setCell ⟨b, o + i, none⟩ v) := by
      rw [Addr.add_lit, run_store P w _ v _ (h1 v (by simp)), hcell]
      simp [hfr]
    have hb2 : (w.setCell ⟨b, o + i, none⟩ v).heap[b]? = some (.cells (cur.setIfInBounds (o + i) v) t fz) := by
      simp only [World.setCell, Array.getElem?_modify, if_true, hb, Option.map_some]
      simp
    obtain ⟨w', cur', r1, r2, r3, r4, r5, r6, r7, r8, r9⟩ := storeCells_run b t fz vs o (i + 1) (cur.setIfInBounds (o + i) v) (w.setCell ⟨b, o + i, none⟩ v) hb2 (by simp; omega) (by simpa using hfz) (fun u hu => h1 u (by simp [hu]))
    refine ⟨w', cur', ?_, r2, r3, r4, by rw [r5]; simp, fun j hj => (r6 j hj).trans (Below.heap_setCell _ _ _ _ hj), r7, by simpa using r8, fun k => ?_⟩
    · simp only [storeCells, Sem.run_bind, hst, Result.andThen_ok]
      exact r1
    · rw [r9 k]
      simp only [List.length_cons]
      by_cases hk : k = o + i
      · subst hk
        rw [if_neg (by omega), if_pos (by omega)]
        rw [Array.getElem?_setIfInBounds_self_of_lt (by omega)]
        simp
      · by_cases hk2 : o + (i + 1) ≤ k ∧ k < o + (i + 1) + vs.length
        · rw [if_pos hk2, if_pos (by omega)]
          rw [show k - (o + i) = (k - (o + (i + 1))) + 1 by omega]
          simp
        · rw [if_neg hk2, if_neg (by omega)]
          rw [Array.getElem?_setIfInBounds_ne (by omega)]

/-- A store into own memory. -/
theorem store_run {H H' Hn : Heap} {t : TypeId} {i : TypeInfo} {p x : AV} {vp vx : Value} (hi : P.info? t = some i) (hz : 0 < i.size) (h : aStore H i.size x p = some Hn) (hR : HRel w bad ρ B H') (hsame : ∀ id u q, p = .ptr id u q → ∀ b, hget H id = some b → ρ id ≠ .no → hget H' id = some b) (hdd : ∀ id, dead H' id → hget H id = none)
    (hp : Rep w bad (dead H') ρ p vp) (hx : Rep w bad (dead H') ρ x vx) :
    ∃ id k w', H'[id]? = some (some k) ∧ hget H id = some k ∧ (∃ k', Hn = H.set id (some k') ∧ k'.e = k.e ∧ k'.els.length = k.els.length ∧ ∀ G : Heap, G = H'.set id (some k') → Step w w' (dead H') (dead G) ρ ρ ∧ HRel w' bad ρ B G) ∧ (∃ u q, p = .ptr id u q) ∧
      (Instr.storeAt t vp vx).run P w = .ok () w' := by
  cases p <;> simp only [aStore] at h <;> (try (cases h; done))
  rename_i id u q
  have hs := hsame id u q rfl
  cases hg : hget H id with
  | none => simp [hg] at h
  | some k =>
    simp only [hg] at h
    have hs := hs k hg
    cases he : k.els[u]? with
    | none => simp [he] at h
    | some el =>
      simp only [he] at h
      cases hps : putSub i.size q x el with
      | none => simp [hps] at h
      | some el' =>
        simp only [hps] at h
        obtain rfl := Option.some.inj h
        cases hp with
        | frz h => cases h
        | ptrD b o hd => rw [hdd _ hd] at hg; cases hg
        | ptr hρ =>
          rename_i b es cap
          have hk' := agree_of (hs (by simp [hρ]))
          obtain ⟨k2, hk2, hb⟩ := hR.real id b es cap hρ
          rw [hk'] at hk2; cases hk2
          obtain ⟨cur, fz, m1, m2, m3, m4⟩ := hb.mem
          have hok := elOk_sc (hb.ok u el he)
          have hult : u < k.els.length := (List.getElem?_eq_some_iff.mp he).1
          have hel : q + i.size ≤ el.cells.length ∧ x.cells.length = i.size ∧ (∀ c ∈ x.cells, isSc c = true) ∧ el'.cells = el.cells.take q ++ x.cells ++ el.cells.drop (q + i.size) := by
            unfold putSub at hps
            split at hps
            · split at hps <;> (try (cases hps; done))
              rename_i hcnd
              obtain rfl := Option.some.inj hps
              exact ⟨hcnd.1, hcnd.2.1, by simpa using hcnd.2.2, rfl⟩
            · rename_i hna
              split at hps <;> (try (cases hps; done))
              rename_i hcnd
              obtain rfl := Option.some.inj hps
              obtain ⟨rfl, h1, hsc⟩ := hcnd
              have ex : x.cells = [x] := by cases x <;> first | rfl | (simp [isSc] at hsc; done)
              have ee : el.cells = [el] := by cases el <;> first | rfl | exact absurd rfl (hna _)
              rw [ex, ee, h1]
              exact ⟨by simp, rfl, by simpa using hsc, by simp⟩
          obtain ⟨hq, hxl, hxs, hel'⟩ := hel
          have hes : el.cells.length = es := by rw [hok.2.1, hb.hes]
          have hxsc : isSc x = true ∨ ∃ cs, x = .agg cs := cells_sc (fun j c hj => hxs c (List.mem_of_getElem? hj))
          obtain ⟨v1, v2⟩ := rep_cells hx hxsc
          have hone : ∀ v ∈ vx.cells.toList, v.oneCell' = true := by
            intro v hv
            obtain ⟨j, hj⟩ := List.getElem?_of_mem hv
            have hjl : j < x.cells.length := by have := (List.getElem?_eq_some_iff.mp hj).1; simp at this; omega
            exact (rep_one (v2 j _ v (List.getElem?_eq_getElem hjl) (by simpa using hj)) (hxs _ (List.getElem_mem hjl))).1
          have hbound : u * es + es ≤ cap * es := by
            have := Nat.mul_le_mul_right es (Nat.lt_of_lt_of_le hult hb.len)
            rwa [Nat.succ_mul] at this
          obtain ⟨w', cur', r1, r2, r3, r4, r5, r6, r7, r8, r9⟩ := storeCells_run (P := P) b k.e.tid fz vx.cells.toList (u * es + q) 0 cur w m1 (by simp; omega) m3 hone
          refine ⟨id, k, w', hk', hg, ⟨{ k with els := k.els.set u el' }, rfl, rfl, by simp, fun G hG => ?_⟩, ⟨u, q, rfl⟩, ?_⟩
          · subst hG
            have hdd : dead (H'.set id (some { k with els := k.els.set u el' })) = dead H' := by
              funext j
              apply propext
              simp only [dead, List.getElem?_set]
              split
              · rename_i hj; subst hj
                split
                · simp [hk']
                · rename_i hlt; simp at hlt; simp [List.getElem?_eq_none hlt]
              · rfl
            have hst : Step w w' (dead H') (dead (H'.set id (some { k with els := k.els.set u el' }))) ρ ρ := by
              rw [hdd]
              exact ⟨⟨r2, r3, r4, Nat.le_of_eq r5.symm, fun b' _ hn => r6 b' (fun e => hn (e ▸ ⟨id, es, cap, hρ⟩))⟩, RLe.refl _ _, fun _ h => h, fun _ _ => .inl rfl⟩
            refine ⟨hst, ?_, ?_, hR.inj⟩
            · intro id' b' es' cap' h'
              by_cases hid : id = id'
              · subst hid
                rw [hρ] at h'; cases h'
                have hlt : id < H'.length := (List.getElem?_eq_some_iff.mp hk').1
                refine ⟨{ k with els := k.els.set u el' }, by rw [List.getElem?_set_self hlt], hb.hes, hb.pos, hb.low, by simpa using hb.len, ?_, cur', fz, r7, by rw [r8, m2], by rw [r8]; exact m3, ?_⟩
                · intro j y hy
                  by_cases hju : u = j
                  · subst hju
                    rw [List.getElem?_set_self hult] at hy; cases hy
                    simp only [elOk, hel', Bool.and_eq_true, beq_iff_eq, List.all_eq_true, List.length_append, List.length_take, List.length_drop]
                    refine ⟨by rw [hb.hes]; omega, fun c hc => ?_⟩
                    simp only [List.mem_append] at hc
                    rcases hc with (hc | hc) | hc
                    · exact hok.2.2 c (List.mem_of_mem_take hc)
                    · exact hxs c hc
                    · exact hok.2.2 c (List.mem_of_mem_drop hc)
                  · rw [List.getElem?_set_ne hju] at hy
                    exact hb.ok j y hy
                · intro j y l c hy hl
                  have hll : l < es := by
                    by_cases hju : u = j
                    · subst hju
                      rw [List.getElem?_set_self hult] at hy; cases hy
                      have := (List.getElem?_eq_some_iff.mp hl).1
                      rw [hel'] at this
                      simp at this; omega
                    · rw [List.getElem?_set_ne hju] at hy
                      have h9 := (List.getElem?_eq_some_iff.mp hl).1
                      have := (elOk_sc (hb.ok j y hy)).2.1
                      rw [hb.hes] at this; omega
                  by_cases hju : u = j
                  · subst hju
                    rw [List.getElem?_set_self hult] at hy; cases hy
                    rw [r9, hel'] at *
                    by_cases hin : q ≤ l ∧ l < q + i.size
                    · rw [if_pos (by simp; omega)]
                      rw [List.append_assoc, List.getElem?_append_right (by simp; omega), List.getElem?_append_left (by simp; omega)] at hl
                      have e1 : l - (el.cells.take q).length = l - q := by simp; omega
                      rw [e1] at hl
                      have e2 : u * es + l - (u * es + q + 0) = l - q := by omega
                      rw [e2]
                      have hlt : l - q < vx.cells.size := by omega
                      refine ⟨vx.cells[l - q], by simp [hlt], ?_⟩
                      exact (v2 _ c _ hl (Array.getElem?_eq_getElem hlt)).step hst
                    · rw [if_neg (by simp; omega)]
                      have hl2 : el.cells[l]? = some c := by
                        by_cases hl3 : l < q
                        · rwa [List.append_assoc, List.getElem?_append_left (by simp; omega), List.getElem?_take_of_lt hl3] at hl
                        · rw [List.getElem?_append_right (by simp; omega)] at hl
                          simp only [List.length_append, List.length_take, List.getElem?_drop] at hl
                          have e1 : q + i.size + (l - (min q el.cells.length + x.cells.length)) = l := by omega
                          rwa [e1] at hl
                      obtain ⟨z, hz1, hz2⟩ := m4 u el l c he hl2
                      exact ⟨z, hz1, hz2.step hst⟩
                  · rw [List.getElem?_set_ne hju] at hy
                    obtain ⟨z, hz1, hz2⟩ := m4 j y l c hy hl
                    refine ⟨z, ?_, hz2.step hst⟩
                    rw [r9, if_neg]
                    · exact hz1
                    · intro hh
                      simp at hh
                      rcases Nat.lt_or_gt_of_ne hju with h9 | h9
                      · have := Nat.mul_le_mul_right es h9
                        rw [Nat.succ_mul] at this; omega
                      · have := Nat.mul_le_mul_right es h9
                        rw [Nat.succ_mul] at this; omega
              · obtain ⟨k3, hk3, hb3⟩ := hR.real id' b' es' cap' h'
                refine ⟨k3, by rw [List.getElem?_set_ne hid]; exact hk3, hb3.step hst (r6 b' (fun e => hid ?_))⟩
                subst e
                exact hR.inj id id' _ _ _ _ _ hρ h'
            · intro id' h'
              obtain ⟨k3, hk3, he3⟩ := hR.virt id' h'
              have hid : id ≠ id' := fun e => by subst e; rw [hρ] at h'; cases h'
              exact ⟨k3, by rw [List.getElem?_set_ne hid]; exact hk3, he3⟩
          · simp only [Instr.storeAt, Instr.sureAddr, Sem.run_bind, Sem.run_pure, Result.andThen_ok, storeVar, run_size hi]
            rw [if_neg (by omega)]
            exact r1
end
end Go.Proofs.Ytbcbaidnamebkaa.AE
