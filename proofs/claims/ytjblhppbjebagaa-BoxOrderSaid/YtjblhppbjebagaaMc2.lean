/- The texts that the seat's laws need, part 2. No conditions. -/
import Derived.Test.YtjblhppbjebagaaMc1
namespace Go.Proofs.Ytjblhppbjebagaa.AE
set_option linter.unusedVariables false
set_option linter.unusedSimpArgs false
set_option linter.constructorNameAsVariable false
open Go Go.RowKit

section
variable {P : Program} {call : CallF} {ops : Array Oper} {ios : List IOper} {ps : List Nat} {f : Nat → St} {b e : Nat}
variable {w w0 : World} {bad D0 : Nat → Prop} {ρ ρ0 : Rho} {a : Act} {B : Nat} {s : St} {Q : Exit → Act → World → Prop}

theorem dead_congr {H G : Heap} (h : ∀ id : Nat, ShEq H[id]? G[id]?) : dead H = dead G := by
  funext id
  exact propext (h id).dead

theorem start_mix (S : Stretch ops ios f b e) (h : Sim w0 D0 ρ0 bad B ρ (f b) a w) {L : Nat → Prop} (hL : ∀ m, b ≤ m → m < e → ¬ L m) :
    ∃ s, Sim w0 D0 ρ0 bad B ρ s a w ∧ Mix ops ios f b e L ρ s := by
  have hsh : ∀ id : Nat, ShEq ((f b).H ++ (f e).H.drop (f b).H.length)[id]? (f e).H[id]? := by
    intro id
    rw [List.getElem?_append]
    split
    · rename_i hlt
      exact S.shape (Nat.le_refl _) S.le (Nat.le_refl _) hlt
    · rename_i hge
      rw [List.getElem?_drop, show (f b).H.length + (id - (f b).H.length) = id by omega]
      exact .refl _
  have hdead : dead ((f b).H ++ (f e).H.drop (f b).H.length) = dead (f b).H := by
    funext id
    apply propext
    simp only [dead]
    rw [List.getElem?_append]
    split
    · exact Iff.rfl
    · rename_i hge
      rw [List.getElem?_drop, show (f b).H.length + (id - (f b).H.length) = id by omega, List.getElem?_eq_none (Nat.not_lt.mp hge)]
      have := S.alive S.le (Nat.le_refl _) (Nat.not_lt.mp hge)
      simp [this]
  have hR := h.heap
  refine ⟨⟨(f b).env, (f b).H ++ (f e).H.drop (f b).H.length⟩, ⟨h.defers, h.size, fun t ht => ?_, ⟨fun id bb es cap hid => ?_, fun id hid => ?_, hR.inj⟩, h.low, ?_⟩, rfl, hsh, fun id hid => .inl (lt_of_no hR hid), fun id hid => ?_, fun t => ?_, fun m id h1 h2 h3 => absurd h3 (hL m h1 h2)⟩
  · rw [hdead]; exact h.env t ht
  · obtain ⟨k, hk, hb⟩ := hR.real id bb es cap hid
    refine ⟨k, by rw [List.getElem?_append_left (lt_of_no hR (by simp [hid]))]; exact hk, ?_⟩
    have h2 : BlkRel w bad (dead ((f b).H ++ (f e).H.drop (f b).H.length)) ρ B k bb es cap := by rw [hdead]; exact hb
    exact h2
  · obtain ⟨k, hk, hb⟩ := hR.virt id hid
    exact ⟨k, by rw [List.getElem?_append_left (lt_of_no hR (by simp [hid]))]; exact hk, hb⟩
  · rw [hdead]; exact h.st
  · have hlt := lt_of_no hR hid
    refine ⟨b, Nat.le_refl _, S.le, hlt, List.getElem?_append_left hlt, fun m h1 h2 _ => ?_⟩
    have := hL m h1 h2
    constructor
    · intro h; omega
    · intro h; exact absurd h this
  · refine ⟨b, Nat.le_refl _, S.le, rfl, fun m o h1 h2 _ _ => ?_⟩
    have := hL m h1 h2
    constructor
    · intro h; omega
    · intro h; exact absurd h this

theorem end_mix (S : Stretch ops ios f b e) {L : Nat → Prop} (M : Mix ops ios f b e L ρ s) (h : Sim w0 D0 ρ0 bad B ρ s a w) (hL : ∀ m, b ≤ m → m < e → L m) : Sim w0 D0 ρ0 bad B ρ (f e) a w := by
  have hdead : dead s.H = dead (f e).H := dead_congr M.shape
  have henv : ∀ t, s.env.getD t .undef = (f e).env.getD t .undef := by
    intro t
    obtain ⟨c, h1, h2, h3, h4⟩ := M.cutE t
    rw [h3]
    refine S.sameE h1 h2 S.le (Nat.le_refl _) fun m o q1 q2 q3 q4 => ?_
    rw [h4 m o q1 q2 q3 q4]
    exact ⟨fun _ => q2, fun _ => hL m q1 q2⟩
  have hheap : ∀ id, ρ id ≠ .no → s.H[id]? = (f e).H[id]? := by
    intro id hid
    obtain ⟨c, h1, h2, h3, h4, h5⟩ := M.cutH id hid
    rw [h4]
    refine S.sameH h1 h2 S.le (Nat.le_refl _) h3 (Nat.lt_of_lt_of_le h3 (S.mono h1 h2 (Nat.le_refl _))) fun m q1 q2 q3 => ?_
    rw [h5 m q1 q2 q3]
    exact ⟨fun _ => q2, fun _ => hL m q1 q2⟩
  have hlen : s.env.length = (f e).env.length := by rw [M.len, S.lenE S.le (Nat.le_refl _)]
  refine ⟨h.defers, h.size.trans hlen, fun t ht => ?_, ⟨fun id bb es cap hid => ?_, fun id hid => ?_, h.heap.inj⟩, h.low, by rw [← hdead]; exact h.st⟩
  · rw [← hdead, ← henv t]; exact h.env t (hlen ▸ ht)
  · obtain ⟨k, hk, hb⟩ := h.heap.real id bb es cap hid
    refine ⟨k, (hheap id (by simp [hid])) ▸ hk, ?_⟩
    have h2 : BlkRel w bad (dead (f e).H) ρ B k bb es cap := by rw [← hdead]; exact hb
    exact h2
  · obtain ⟨k, hk, hb⟩ := h.heap.virt id hid
    exact ⟨k, (hheap id (by simp [hid])) ▸ hk, hb⟩

theorem want_congr {env env' : List AV} {ops : Array Oper} {o : Oper} {io : IOper} (hc : cOper P ops.toList o = some io) (h : ∀ t, t ∈ o.looksAt ops → env.getD t .undef = env'.getD t .undef) : want env io.guard = want env' io.guard := by
  unfold cOper at hc
  split at hc <;> (try (cases hc; done))
  cases hc
  cases hg : o.guard with
  | none => rfl
  | some p =>
    obtain ⟨g, q⟩ := p
    simp only
    cases hd : (ops.toList[g]?).bind (·.dst) with
    | none => rfl
    | some t =>
      have ht : t ∈ o.looksAt ops := by
        simp only [Oper.looksAt, hg, List.mem_append]
        right
        have : ops.toList[g]? = ops[g]? := by simp
        rw [this] at hd
        simp [hd]
      simp only [want, h t ht]

theorem seg_step (G : Glob P call ops ios ps f) (S : Stretch ops ios f b e) (hcall : PCallOK P call) (hbad : ∀ b, bad b → b < B) {L : Nat → Prop} {k : Nat} (hb : b ≤ k) (he : k < e) (hnf : ∀ io, ios[k]? = some io → fullOp io.op = false) (hk : ¬ L k) (hready : ∀ m, (ps.getD k 0).testBit m = true → L m)
    (hclosed : ∀ m, L m → ∀ i, (ps.getD m 0).testBit i = true → L i) (h : Sim w0 D0 ρ0 bad B ρ s a w) (M : Mix ops ios f b e L ρ s) {K : Act → World → Prop}
    (hK : ∀ a' w' ρ' s', Sim w0 D0 ρ0 bad B ρ' s' a' w' → Mix ops ios f b e (fun m => L m ∨ m = k) ρ' s' → K a' w') : wpOp P ops Q k K a w := by
  obtain ⟨o, io, e1, e2, e3, e4⟩ := G.at_ k (Nat.lt_of_lt_of_le he S.top)
  obtain ⟨hop, hdst⟩ := cOper_op e3
  have ordL : ∀ m, m ≠ k → Ord ps m k → (m < k ↔ L m) := by
    intro m hmk ho
    constructor
    · intro hlt; exact hready m (ho.1 hlt)
    · intro hl
      rcases Nat.lt_or_ge m k with hlt | hge
      · exact hlt
      · exact absurd (hclosed m hl k (ho.2 (by omega))) hk
  have hord : ∀ m om t, m ≠ k → ops[m]? = some om → om.dst = some t → o.dst = some t → (m < k ↔ L m) := fun m om t h1 h2 h3 h4 => ordL m h1 (G.slots m k om o t h1 h2 e1 h3 (.inr h4))
  have hslot : ∀ t, t ∈ o.looksAt ops → s.env.getD t .undef = (f k).env.getD t .undef := by
    intro t ht
    obtain ⟨c, h1, h2, h3, h4⟩ := M.cutE t
    rw [h3]
    refine S.sameE h1 h2 hb (by omega) fun m om q1 q2 q3 q4 => ?_
    rw [h4 m om q1 q2 q3 q4]
    by_cases hmk : m = k
    · subst hmk; simp [hk]
    · exact (ordL m hmk (G.slots m k om o t hmk q3 e1 q4 (.inl ht))).symm
  have hwant : want s.env io.guard = want (f k).env io.guard := want_congr e3 hslot
  unfold wpOp
  rw [e1]
  simp only
  rcases e4 with ⟨hw, v, H', hv, e5⟩ | ⟨hw, e5⟩
  · rw [want_spec e3 h (hwant.trans hw), if_pos rfl]
    refine .inl ?_
    have hput : (f (k + 1)).env = put (f k).env o.dst v := by rw [e5, ← hdst]
    have hHk : (f (k + 1)).H = H' := by rw [e5]
    have hshk : ∀ id z, hget (f k).H id = some z → ∃ z', s.H[id]? = some (some z') ∧ z'.e = z.e ∧ z'.els.length = z.els.length := by
      intro id z hz
      obtain ⟨q1, q2⟩ := hget_lt hz
      have r1 := S.shape hb (Nat.le_of_lt he) (Nat.le_refl _) q2
      rw [q1] at r1
      obtain ⟨y, r2, r3, r4⟩ := r1.some_r
      have r5 := M.shape id
      rw [r2] at r5
      obtain ⟨x, r6, r7, r8⟩ := r5.some_l
      exact ⟨x, r6, r7.trans r3.symm, r8.trans r4.symm⟩
    have hgets : ∀ {H : Heap} {id : Nat} {z : Blk}, H[id]? = some (some z) → hget H id = some z := by
      intro H id z hz; simp [hget, hz]
    have hO : OpsOk w bad (dead s.H) ρ a (evO (f k).env) o.op.operands.toList := by
      intro x hx y hy
      have h1 := evO_rep h o.op.operands.toList x hx y hy
      have : evO (f k).env y = evO s.env y := by
        cases y with
        | v _ => rfl
        | t t =>
          have hxt : x = .tmp t := by
            cases x with
            | tmp t' => simp [cOpd] at hy; rw [hy]
            | const u => cases hu : cv u <;> simp [cOpd, hu] at hy
            | global g => simp [cOpd] at hy
            | func g => simp [cOpd] at hy
          subst hxt
          exact (hslot t (by simp only [Oper.looksAt, List.mem_append, List.mem_filterMap]; exact .inl ⟨.tmp t, hx, rfl⟩)).symm
      rw [this]; exact h1
    have htc : ∀ id ∈ touch (evO (f k).env) (f k).H io.op, ∀ z, hget (f k).H id = some z → ρ id ≠ .no → hget s.H id = some z := by
      intro id hid z hz hn
      obtain ⟨q1, q2⟩ := hget_lt hz
      obtain ⟨c, h1, h2, h3, h4, h5⟩ := M.cutH id hn
      have : (f c).H[id]? = (f k).H[id]? := by
        refine S.sameH h1 h2 hb (by omega) h3 q2 fun m r1 r2 r3 => ?_
        rw [h5 m r1 r2 r3]
        by_cases hmk : m = k
        · subst hmk; simp [hk]
        · obtain ⟨im, t1, t2, t3, t4⟩ := r3
          exact (ordL m hmk (G.mem m k im io id hmk t1 e2 t2 hw t3 t4 hid)).symm
      exact hgets (h4.trans (this.trans q1))
    have hdd : ∀ id, dead s.H id → hget (f k).H id = none := by
      intro id hd
      cases hz : hget (f k).H id with
      | none => rfl
      | some z =>
        obtain ⟨z', q, _⟩ := hshk id z hz
        simp only [dead] at hd
        rw [hd] at q; cases q
    have hupd : storeOp io.op = false → ∀ id, ¬ Upd ios f k id := by
      rintro hs id ⟨im, t1, t2, t3, t4⟩
      rw [e2] at t1; cases t1
      rw [hs] at t3; cases t3
    have hfin := op_drawn (ev := evO (f k).env) hop hcall (hnf io e2) hbad h.heap h.low hO (fun id z hz => let ⟨z', q1, q2, q3⟩ := hshk id z hz; ⟨z', hgets q1, q3⟩) (fun id z hz => let ⟨z', q1, q2, q3⟩ := hshk id z hz; ⟨z', hgets q1, q2⟩) htc hdd (fun _ => rfl) hv
    rcases hfin with ⟨⟨cv, hr, hrep⟩, hH, hst⟩ | ⟨z, hm, hH, hst⟩ | ⟨id, z, z', w', q1, q2, q3, q4, hH, q5, q6, q7, q8, q9, q10⟩ | ⟨hH, hst, vs, g, hr, hres⟩
    · unfold Oper.wp
      rw [hr]
      exact hK _ _ ρ _ (put_sim o.dst h (Step.refl _ _ _) h.heap hrep) (M.same S hb he e1 hput hord (hupd hst))
    · obtain ⟨cv, w', cur, fz, cap, hr, h1, h2, h3, ⟨h4, h5, h6⟩, h7, h8, h9, h10, h11, h12, h13⟩ := hm
      have hHH : (f (k + 1)).H = (f k).H ++ [some z] := hHk.trans hH
      have hnew : (f (k + 1)).H[(f k).H.length]? = some (some z) := by rw [hHH]; simp
      have hlt1 : (f k).H.length < (f (k + 1)).H.length := by rw [hHH]; simp
      have hno : ρ (f k).H.length = .no := by
        cases hx : ρ (f k).H.length with
        | no => rfl
        | _ =>
          exfalso
          rcases M.made (f k).H.length (by simp [hx]) with h' | ⟨m, r1, r2, r3, r4, r5⟩
          · have := S.mono (Nat.le_refl b) hb (by omega); omega
          · have hmk : m ≠ k := fun hh => hk (hh ▸ r3)
            rcases Nat.lt_or_ge m k with hlt | hge
            · have := S.mono (c := m + 1) (k := k) (by omega) (by omega) (by omega); omega
            · have := S.mono (c := k + 1) (k := m) (by omega) (by omega) (by omega); omega
      have hsn := M.shape (f k).H.length
      have hsx := S.shape (c := k + 1) (k := e) (by omega) (by omega) (Nat.le_refl _) hlt1
      rw [hnew] at hsx
      obtain ⟨y, hy, _, _⟩ := hsx.some_r
      rw [hy] at hsn
      obtain ⟨y2, hy2, _, _⟩ := hsn.some_l
      have hlts : (f k).H.length < s.H.length := (List.getElem?_eq_some_iff.mp hy2).1
      obtain ⟨ρ', hρ', st, hR⟩ := alloc_upd (H' := s.H.set (f k).H.length (some z)) h.heap h.low hno (List.getElem?_set_self hlts) (fun i hi _ => List.getElem?_set_ne (Ne.symm hi)) (fun i hi => by
        have : i ≠ (f k).H.length := by rintro rfl; rw [hy2] at hi; cases hi
        rw [List.getElem?_set_ne (Ne.symm this)]; exact hi) h1 h2 h3 h4 h5 h6 h7 h8 h9 h10 h11 h12
      unfold Oper.wp
      rw [hr]
      refine hK _ _ ρ' _ (put_sim (v := v) o.dst h st hR ?_) (M.makes S hb he e1 hput hHH hord (hupd hst) hno (r := .real w.heap.size z.e.es cap) (by simp) hρ')
      rcases h13 with ⟨rfl, rfl⟩ | ⟨n, c, rfl, q1, q2, rfl⟩
      · have := Rep.ptr (w := w') (bad := bad) (D := dead (s.H.set (f k).H.length (some z))) (ρ := ρ') (id := (f k).H.length) (i := 0) (j := 0) (b := w.heap.size) (es := z.e.es) (cap := cap) (by subst hρ'; simp)
        simpa using this
      · have := Rep.slc (w := w') (bad := bad) (D := dead (s.H.set (f k).H.length (some z))) (ρ := ρ') (id := (f k).H.length) (o := 0) (n := n) (c := c) (b := w.heap.size) (es := z.e.es) (cap := cap) (by subst hρ'; simp) (by omega) q1
        simpa using this
    · obtain ⟨st, hR⟩ := q8 _ rfl
      unfold Oper.wp
      rw [q9]
      subst q7
      refine hK _ _ ρ _ (put_sim (v := .undef) o.dst h st hR (.frz (.undef _))) (M.stores S hb he e1 hput (hHk.trans hH) (hget_lt q2).2 hord ?_ ?_ q1 q3 q4 q10)
      · rintro id' ⟨im, t1, t2, t3, t4⟩
        rw [e2] at t1; cases t1
        unfold tchAt at t4
        rw [q5] at t4
        simpa using t4
      · rintro m hmk ⟨im, t1, t2, t3, t4⟩
        exact ordL m hmk (G.mem m k im io id hmk t1 e2 t2 hw t3 t4 (by unfold tchAt; rw [q5]; simp))
    · unfold Oper.wp
      rw [hr]
      rcases hres with ⟨cv, h1, hbw, hrep⟩ | ⟨h1, h2⟩
      · rw [h1]
        obtain ⟨st, hR⟩ := below_step h.heap hbw
        exact hK _ _ ρ _ (put_sim o.dst h st hR hrep) (M.same S hb he e1 hput hord (hupd hst))
      · rw [h1]
        refine h2.mono ?_
        rintro ex w' ⟨cv, rfl, hbw, hrep⟩
        obtain ⟨st, hR⟩ := below_step h.heap hbw
        exact hK _ _ ρ _ (put_sim o.dst h st hR hrep) (M.same S hb he e1 hput hord (hupd hst))
  · rw [want_spec e3 h (hwant.trans hw), if_neg (by simp)]
    have hput : (f (k + 1)).env = put (f k).env o.dst (.tup []) := by rw [e5, ← hdst]
    refine hK _ _ ρ _ (skip_sim o.dst h) (M.same S hb he e1 hput hord ?_)
    rintro id ⟨im, t1, t2, t3, t4⟩
    rw [e2] at t1; cases t1
    rw [hw] at t2; cases t2
end
end Go.Proofs.Ytjblhppbjebagaa.AE

namespace Go.Proofs.Ytjblhppbjebagaa.AE
set_option linter.unusedVariables false
set_option linter.unusedSimpArgs false
set_option linter.constructorNameAsVariable false
open Go Go.RowKit

theorem predsOf_len : ∀ (l : List Oper) (acc : List Nat), (predsOf l acc).length = acc.length + l.length
  | [], acc => by simp [predsOf]
  | o :: l, acc => by
    rw [predsOf, predsOf_len l]
    simp; omega
theorem predsOf_old : ∀ (l : List Oper) (acc : List Nat) (k : Nat), k < acc.length → (predsOf l acc).getD k 0 = acc.getD k 0
  | [], acc, k, _ => by simp [predsOf]
  | o :: l, acc, k, h => by
    rw [predsOf, predsOf_old l _ k (by simp; omega)]
    simp only [List.getD_eq_getElem?_getD, List.getElem?_append_left h]

theorem fold_bits (g : Nat → Nat) : ∀ (l : List _) (m i : Nat), (l.foldl (fun m (e : Edge) => if Region.binds .any e then m ||| 2 ^ e.on ||| g e.on else m) m).testBit i = true →
    m.testBit i = true ∨ ∃ e ∈ l, Region.binds .any e = true ∧ (i = e.on ∨ (g e.on).testBit i = true)
  | [], m, i, h => .inl h
  | e :: l, m, i, h => by
    simp only [List.foldl_cons] at h
    rcases fold_bits g l _ i h with h | ⟨e', h1, h2⟩
    · split at h
      · rename_i hb
        simp only [Nat.testBit_or, Bool.or_eq_true, Nat.testBit_two_pow, decide_eq_true_eq] at h
        rcases h with (h | h) | h
        · exact .inl h
        · exact .inr ⟨e, by simp, hb, .inl h.symm⟩
        · exact .inr ⟨e, by simp, hb, .inr h⟩
      · exact .inl h
    · exact .inr ⟨e', by simp [h1], h2⟩

theorem predsOf_bits : ∀ (l : List Oper) (acc : List Nat) (k i : Nat) (o : Oper), l[k]? = some o → ((predsOf l acc).getD (acc.length + k) 0).testBit i = true → ∃ e ∈ o.after.toList, Region.binds .any e = true ∧ (i = e.on ∨ (((predsOf l acc).getD e.on 0).testBit i = true))
  | [], acc, k, i, o, h, _ => by simp at h
  | p :: l, acc, k, i, o, h, hb => by
    rw [predsOf] at hb ⊢
    generalize hx : p.after.toList.foldl (fun m e => if Region.binds .any e then m ||| 2 ^ e.on ||| acc.getD e.on 0 else m) 0 = x at hb
    cases k with
    | zero =>
      simp only [List.getElem?_cons_zero, Option.some.injEq] at h
      subst h
      rw [predsOf_old l _ _ (by simp)] at hb
      have : (acc ++ [x]).getD (acc.length + 0) 0 = x := by simp [List.getD_eq_getElem?_getD]
      rw [this, ← hx] at hb
      rcases fold_bits (fun n => acc.getD n 0) _ _ _ hb with h | ⟨e, h1, h2, h3⟩
      · simp at h
      · refine ⟨e, h1, h2, h3.imp (fun x => x) fun h3 => ?_⟩
        have hlt : e.on < acc.length := by
          rcases Nat.lt_or_ge e.on acc.length with h' | h'
          · exact h'
          · simp [List.getD_eq_getElem?_getD, List.getElem?_eq_none h'] at h3
        rw [predsOf_old l _ _ (by simp; omega)]
        simp only [List.getD_eq_getElem?_getD, List.getElem?_append_left hlt] at h3 ⊢
        exact h3
    | succ k =>
      simp only [List.getElem?_cons_succ] at h
      have := predsOf_bits l (acc ++ [x]) k i o h (by rw [show (acc ++ [x]).length + k = acc.length + (k + 1) by simp; omega]; exact hb)
      exact this

theorem next_full (ios : List IOper) (n : Nat) : ∀ d b : Nat, n - b = d → b ≤ n → ∃ e, b ≤ e ∧ e ≤ n ∧ (∀ k io, b ≤ k → k < e → ios[k]? = some io → fullOp io.op = false) ∧ (e = n ∨ ∃ io, ios[e]? = some io ∧ fullOp io.op = true)
  | 0, b, h, hb => ⟨b, Nat.le_refl _, hb, fun k io h1 h2 => by omega, .inl (by omega)⟩
  | d + 1, b, h, hb => by
    by_cases hf : ∃ io, ios[b]? = some io ∧ fullOp io.op = true
    · exact ⟨b, Nat.le_refl _, hb, fun k io h1 h2 => by omega, .inr hf⟩
    · obtain ⟨e, h1, h2, h3, h4⟩ := next_full ios n d (b + 1) (by omega) (by omega)
      refine ⟨e, by omega, h2, fun k io q1 q2 q3 => ?_, h4⟩
      by_cases hk : k = b
      · subst hk
        cases hx : fullOp io.op
        · rfl
        · exact absurd ⟨io, q3, hx⟩ hf
      · exact h3 k io (by omega) q2 q3

def open_ (listed : Array Bool) : Nat := listed.toList.countP (· = false)

theorem open_set {listed : Array Bool} {i : Nat} (h : listed.getD i true = false) : open_ (listed.setIfInBounds i true) + 1 = open_ listed := by
  have hlt : i < listed.size := by
    rcases Nat.lt_or_ge i listed.size with h' | h'
    · exact h'
    · simp [Array.getElem?_eq_none h'] at h
  have hv : listed.toList[i] = false := by
    have : listed[i] = false := by simpa [hlt] using h
    simpa using this
  unfold open_
  rw [Array.toList_setIfInBounds, List.countP_set (h := by simpa using hlt)]
  have hpos : 0 < listed.toList.countP (fun x => decide (x = false)) := List.countP_pos_iff.mpr ⟨false, by rw [← hv]; exact List.getElem_mem _, by simp⟩
  have h1 : (if (decide (listed.toList[i] = false)) = true then 1 else 0) = 1 := by rw [hv]; rfl
  have h2 : (if (decide (true = false)) = true then 1 else 0) = 0 := rfl
  simp only [h1, h2]
  omega

theorem open_zero {listed : Array Bool} (h : open_ listed = 0) (i : Nat) : listed.getD i true = true := by
  unfold open_ at h
  rw [List.countP_eq_zero] at h
  rcases Nat.lt_or_ge i listed.size with hlt | hge
  · have := h listed[i] (by simp)
    simp [hlt]
    simpa using this
  · simp [Array.getElem?_eq_none hge]

section
variable {P : Program} {call : CallF} {ops : Array Oper} {ios : List IOper} {ps : List Nat} {f : Nat → St} {b e : Nat}
variable {w w0 : World} {bad D0 : Nat → Prop} {ρ ρ0 : Rho} {a : Act} {B : Nat} {s : St} {Q : Exit → Act → World → Prop}

theorem getD_set {listed : Array Bool} {i m : Nat} (hi : i < listed.size) : (listed.setIfInBounds i true).getD m false = true ↔ (listed.getD m false = true ∨ m = i) := by
  by_cases h : m = i
  · subst h; simp [hi]
  · simp [Array.getElem?_setIfInBounds_ne (Ne.symm h), h]

theorem drawn_main (G : Glob P call ops ios (predsOf ops.toList []) f) (hcall : PCallOK P call) (hbad : ∀ b, bad b → b < B) (hed : edgesOk ops = true) (hsz : ios.length = ops.size) (hQ : ∀ a w ρ, Sim w0 D0 ρ0 bad B ρ (f ops.size) a w → Q .normal a w) :
    ∀ (fuel : Nat) (b e : Nat) (listed : Array Bool) (ρ : Rho) (s : St) (a : Act) (w : World), listed.size = ops.size → open_ listed ≤ fuel → b ≤ e → e ≤ ops.size → (∀ k io, b ≤ k → k < e → ios[k]? = some io → fullOp io.op = false) → (e = ops.size ∨ ∃ io, ios[e]? = some io ∧ fullOp io.op = true) →
      (∀ k, k < b → listed.getD k false = true) → (∀ k, e ≤ k → listed.getD k false = false) → (∀ m, listed.getD m false = true → ∀ i, ((predsOf ops.toList []).getD m 0).testBit i = true → listed.getD i false = true) →
      Sim w0 D0 ρ0 bad B ρ s a w → Mix ops ios f b e (fun m => listed.getD m false = true) ρ s → wpAny P .any ops Q fuel listed a w := by
  intro fuel
  induction fuel with
  | zero =>
    intro b e listed ρ s a w hls hop hbe hen hnf hfe hlo hhi hcl h M
    have hall := open_zero (Nat.le_zero.mp hop)
    have hall2 : ∀ k, k < ops.size → listed.getD k false = true := by
      intro k hk
      have := hall k
      simpa [hls ▸ hk] using this
    have heq : e = ops.size := by
      rcases hfe with h' | ⟨io, h1, _⟩
      · exact h'
      · have hlt : e < ops.size := by rw [← hsz]; exact (List.getElem?_eq_some_iff.mp h1).1
        have := hall2 e hlt
        rw [hhi e (Nat.le_refl _)] at this; cases this
    refine ⟨?_, ?_⟩
    · cases hr : Region.ready .any ops listed with
      | nil => rfl
      | cons j l =>
        have hj : j ∈ Region.ready .any ops listed := by rw [hr]; simp
        have := (mem_ready.1 hj).1
        rw [hall j] at this; cases this
    · have S := G.stretch hcall hbe hen hnf
      have := end_mix S M h (fun m _ h2 => hall2 m (by omega))
      rw [heq] at this
      exact hQ _ _ _ this
  | succ fuel ih =>
    intro b e listed ρ s a w hls hop hbe hen hnf hfe hlo hhi hcl h M
    have S := G.stretch hcall hbe hen hnf
    have hedge : ∀ (k : Nat) (o : Oper), ops[k]? = some o → ∀ x ∈ o.after, Region.binds .any x = true → x.on < k := by
      intro k o ho x hx hb
      have := List.all_eq_true.mp hed (o, k) (by rw [List.mem_zipIdx_iff_getElem?]; simpa using ho)
      have := List.all_eq_true.mp this x (by simpa using hx)
      simpa [hb] using this
    refine ⟨fun hnil => ?_, fun i hi => ?_⟩
    · have hall2 : ∀ k, k < ops.size → listed.getD k false = true := by
        intro k
        induction k using Nat.strongRecOn with
        | _ k ihk =>
          intro hk
          cases hx : listed.getD k false with
          | true => rfl
          | false =>
            exfalso
            have : k ∈ Region.ready .any ops listed := mem_ready.2 ⟨by simpa [hls ▸ hk] using hx, ops[k], by simp [hk], fun x hx hb => by
              have hlt := hedge k ops[k] (by simp [hk]) x hx hb
              exact ihk x.on hlt (by omega)⟩
            rw [hnil] at this
            simp at this
      have heq : e = ops.size := by
        rcases hfe with h' | ⟨io, h1, _⟩
        · exact h'
        · have hlt : e < ops.size := by rw [← hsz]; exact (List.getElem?_eq_some_iff.mp h1).1
          have := hall2 e hlt
          rw [hhi e (Nat.le_refl _)] at this; cases this
      have := end_mix S M h (fun m _ h2 => hall2 m (by omega))
      rw [heq] at this
      exact hQ _ _ _ this
    · obtain ⟨hi0, o, ho, haft⟩ := mem_ready.1 hi
      have hlt : i < ops.size := (Array.getElem?_eq_some_iff.1 ho).1
      have hlt' : i < listed.size := hls ▸ hlt
      have hi1 : listed.getD i false = false := by simpa [hlt'] using hi0
      have hb : b ≤ i := by
        rcases Nat.lt_or_ge i b with h' | h'
        · rw [hlo i h'] at hi1; cases hi1
        · exact h'
      have hready : ∀ m, ((predsOf ops.toList []).getD i 0).testBit m = true → listed.getD m false = true := by
        intro m hm
        obtain ⟨x, h1, h2, h3⟩ := predsOf_bits ops.toList [] i m o (by simpa using ho) (by simpa using hm)
        have hl := haft x (by simpa using h1) h2
        rcases h3 with rfl | h3
        · exact hl
        · exact hcl x.on hl m h3
      have hop' : open_ (listed.setIfInBounds i true) ≤ fuel := by have := open_set hi0; omega
      have hcl' : ∀ m, (listed.setIfInBounds i true).getD m false = true → ∀ j, ((predsOf ops.toList []).getD m 0).testBit j = true → (listed.setIfInBounds i true).getD j false = true := by
        intro m hm j hj
        rw [getD_set hlt'] at hm ⊢
        rcases hm with hm | rfl
        · exact .inl (hcl m hm j hj)
        · exact .inl (hready j hj)
      have hfun : (fun m => listed.getD m false = true ∨ m = i) = fun m => (listed.setIfInBounds i true).getD m false = true := by
        funext m
        exact propext (getD_set hlt').symm
      rcases Nat.lt_or_ge i e with hie | hie
      · refine seg_step G S hcall hbad hb hie (fun io hio => hnf i io hb hie hio) (by simp [hi1]) hready hcl h M fun a' w' ρ' s' h' M' => ?_
        rw [hfun] at M'
        refine ih b e _ ρ' s' a' w' (by simpa using hls) hop' hbe hen hnf hfe (fun k hk => (getD_set hlt').mpr (.inl (hlo k hk))) (fun k hk => ?_) hcl' h' M'
        cases hx : (listed.setIfInBounds i true).getD k false with
        | false => rfl
        | true =>
          rcases (getD_set hlt').mp hx with h1 | h1
          · rw [hhi k hk] at h1; cases h1
          · omega
      · obtain ⟨fio, hf1, hf2⟩ := hfe.resolve_left (by omega)
        have hei : e = i := by
          rcases Nat.lt_or_ge e i with h' | h'
          · have hor := G.full i e fio (by omega) hlt hf1 hf2
            have := hready e (hor.2 h')
            rw [hhi e (Nat.le_refl _)] at this; cases this
          · omega
        subst hei
        have hsim := end_mix S M h fun m h1 h2 => hready m ((G.full m e fio (by omega) (by omega) hf1 hf2).1 h2)
        obtain ⟨o', io, e1, e2, e3, e4⟩ := G.at_ e hlt
        rw [ho] at e1; cases e1
        obtain ⟨hopp, hdst⟩ := cOper_op e3
        have next : ∀ a' w' ρ', Sim w0 D0 ρ0 bad B ρ' (f (e + 1)) a' w' → wpAny P .any ops Q fuel (listed.setIfInBounds e true) a' w' := by
          intro a' w' ρ' h'
          obtain ⟨e', q1, q2, q3, q4⟩ := next_full ios ops.size _ (e + 1) rfl hlt
          have S' := G.stretch hcall q1 q2 q3
          have hoff : ∀ k, e + 1 ≤ k → (listed.setIfInBounds e true).getD k false = false := by
            intro k hk
            cases hx : (listed.setIfInBounds e true).getD k false with
            | false => rfl
            | true =>
              rcases (getD_set hlt').mp hx with h1 | h1
              · rw [hhi k (by omega)] at h1; cases h1
              · omega
          obtain ⟨s', h2, M'⟩ := start_mix S' h' (L := fun m => (listed.setIfInBounds e true).getD m false = true) (fun m h1 _ h3 => by rw [hoff m h1] at h3; cases h3)
          refine ih (e + 1) e' _ ρ' s' a' w' (by simpa using hls) hop' q1 q2 q3 q4 (fun k hk => (getD_set hlt').mpr ?_) (fun k hk => hoff k (by omega)) hcl' h2 M'
          by_cases hke : k = e
          · exact .inr hke
          · exact .inl (hready k ((G.full k e fio hke (by omega) hf1 hf2).1 (by omega)))
        unfold wpOp
        rw [ho]
        simp only
        rcases e4 with ⟨hw, v, H', hv, e5⟩ | ⟨hw, e5⟩
        · rw [want_spec e3 hsim hw, if_pos rfl]
          refine .inl (op_step hopp hcall.call hbad hsim hv fun a' w' ρ' h' => next _ _ ρ' ?_)
          rw [e5, hdst]; exact h'
        · rw [want_spec e3 hsim hw, if_neg (by simp)]
          refine next _ _ ρ ?_
          rw [e5, hdst]
          exact skip_sim o.dst hsim

theorem Sim.draw (h : Sim w0 D0 ρ0 bad B ρ s a w) : Sim w0 D0 ρ0 bad B ρ s a { w with drawn := w.drawn + 1 } := by
  have st : Step w { w with drawn := w.drawn + 1 } (dead s.H) (dead s.H) ρ ρ := ⟨⟨rfl, rfl, rfl, Nat.le_refl _, fun _ _ _ => rfl⟩, RLe.refl _ _, fun _ h => h, fun _ _ => .inl rfl⟩
  refine ⟨h.defers, h.size, fun t ht => (h.env t ht).step st, ⟨fun id b es cap hid => ?_, h.heap.virt, h.heap.inj⟩, h.low, h.st.trans st⟩
  obtain ⟨k, hk, hb⟩ := h.heap.real id b es cap hid
  exact ⟨k, hk, hb.step st rfl⟩
end

theorem draw_law (P : Program) : DrawLaw P := by
  intro call hcall ops ios id hc hd he hns hmo w w0 bad D0 ρ ρ0 a B s s' Q hbad h hr hq
  obtain ⟨f, h0, h1, G⟩ := glob_of hc hd hr
  have hsz : ios.length = ops.size := by simpa using (optAll_spec hc).1
  refine wp_region_any hmo ?_
  obtain ⟨e, q1, q2, q3, q4⟩ := next_full ios ops.size _ 0 rfl (Nat.zero_le _)
  have hoff : ∀ k, (Array.replicate ops.size false).getD k false = false := by
    intro k
    rcases Nat.lt_or_ge k ops.size with h | h
    · simp [h]
    · simp [Array.getElem?_eq_none (xs := Array.replicate ops.size false) (by simpa using h)]
  have S := G.stretch hcall q1 q2 q3
  obtain ⟨s1, h2, M⟩ := start_mix S (h0 ▸ h.draw) (L := fun m => (Array.replicate ops.size false).getD m false = true) (fun m _ _ h3 => by rw [hoff m] at h3; cases h3)
  refine drawn_main G hcall hbad he hsz (fun a w ρ hs => hq _ _ ρ (h1 ▸ hs)) ops.size 0 e _ ρ s1 a _ (by simp) ?_ q1 q2 q3 q4 (fun k hk => by omega) (fun k _ => hoff k) (fun m hm => by rw [hoff m] at hm; cases hm) h2 M
  unfold open_
  exact Nat.le_trans List.countP_le_length (by simp)

/-- THE LAW OF THE SMALL EVALUATOR. -/
theorem pcall_law {P : Program} {M : Mod} (hM : ModOK P M) (d : Nat) (g : FuncId) (args : List AV) (v : AV) (h : pcall M d g args = some v) : PureOK P g args v :=
  pcall_sound hM (draw_law P) d g args v h
end Go.Proofs.Ytjblhppbjebagaa.AE

namespace Go.Proofs.Ytjblhppbjebagaa.AE
set_option linter.unusedVariables false
set_option linter.unusedSimpArgs false
set_option linter.constructorNameAsVariable false
open Go

abbrev Ans := Option AV

def cnd (t : Bool) (a b : Ans) : Ans := match t with
  | true => a
  | false => b

/-- What is asked at a value that is not told. -/
inductive TV where
  | no
  | addr (v : AV)
  | all (l : List AV)
structure Cb where
  int : IntKind → Option AV → (Int → Ans) → Ans
  bool : Option AV → (Bool → Ans) → Ans
  str : Option AV → (List UInt8 → Ans) → Ans
  lst : Option AV → (List AV → Ans) → (Bool → Ans) → Ans
  agg : Nat → Option AV → (List AV → Ans) → Ans
  tup : Nat → Option AV → (List AV → Ans) → Ans
  any : Option AV → (AV → Ans) → Ans
  same : Option AV → AV → Ans → Ans
  sameH : Heap → Heap → Ans → Ans
  hop : Heap → IOp → (AV → Heap → Ans) → Ans
  snp : Heap → List AV → (List AV → Bool → Ans) → Ans
  disj : TV → TV → Ans → Ans
  fin : Heap → AV → Ans
  iter : (St → (Ex → St → Ans) → Ans) → Nat → St → List Nat → List (St → Ans) → (St → Ans) → Ans

/-- How a function is told: are its loops unrolled; is its memory not told (then what looks at memory is asked); shapes of what it puts where. -/
structure XU where
  un : Bool
  hm : Bool
  hs : List (Nat × Sh)
  jn : Bool

def hsGet : List (Nat × Sh) → Nat → Sh
  | [], _ => .any
  | (n, s) :: l, i => match Nat.beq n i with
    | true => s
    | false => hsGet l i
mutual
/-- A shape that says nothing of slices. -/
def relax : Sh → Sh
  | .i k => .i k
  | .b => .b
  | .s => .s
  | .agg l => .agg (relaxL l)
  | .tup l => .tup (relaxL l)
  | .l => .any
  | .any => .any
  | .lo => .any
  | .z => .any
def relaxL : List Sh → List Sh
  | [] => []
  | s :: l => relax s :: relaxL l
end
mutual
/-- Is what has it free of memory? -/
def shFree : Sh → Bool
  | .i _ => true
  | .b => true
  | .s => true
  | .agg l => shFreeL l
  | .tup l => shFreeL l
  | .l => false
  | .any => false
  | .lo => false
  | .z => false
def shFreeL : List Sh → Bool
  | [] => true
  | s :: l => match shFree s with
    | true => shFreeL l
    | false => false
end
def freeOps (hs : List (Nat × Sh)) : List Opd → Bool
  | [] => true
  | .v _ :: l => freeOps hs l
  | .t n :: l => match shFree (hsGet hs n) with
    | true => freeOps hs l
    | false => false

/-- Operations that look at memory, or at a place that isn't told. -/
def isH : IOp → Bool
  | .load .. | .store .. | .nilck _ | .box .. | .alloc _ | .mkrow .. | .mkslice .. | .s2b .. | .b2s _ | .subV .. | .fldA .. | .ixAS .. | .ixAA .. | .ixA .. | .app .. => true
  | .bk .lenV _ => true
  | .eqv _ k _ _ _ => Nat.beq k 1 || (Nat.beq k 2 || Nat.beq k 3)
  | _ => false
/-- An operation whose operands are values. -/
def close (ev : Opd → AV) : IOp → IOp
  | .load ag n a => .load ag n (.v (ev a))
  | .store n a x => .store n (.v (ev a)) (.v (ev x))
  | .nilck x => .nilck (.v (ev x))
  | .box e x => .box e (.v (ev x))
  | .alloc e => .alloc e
  | .mkrow e n ps => .mkrow e n (ps.map fun p => (p.1, .v (ev p.2)))
  | .mkslice e n c => .mkslice e (.v (ev n)) (.v (ev c))
  | .s2b e x => .s2b e (.v (ev x))
  | .b2s x => .b2s (.v (ev x))
  | .subV es x lo hi mx => .subV es (.v (ev x)) (lo.map fun y => .v (ev y)) (hi.map fun y => .v (ev y)) (mx.map fun y => .v (ev y))
  | .fldA off x => .fldA off (.v (ev x))
  | .ixAS _ es x i => .ixAS .any es (.v (ev x)) (.v (ev i))
  | .ixAA len es x i => .ixAA len es (.v (ev x)) (.v (ev i))
  | .ixA ag len es x i => .ixA ag len es (.v (ev x)) (.v (ev i))
  | .app e s x => .app e (.v (ev s)) (.v (ev x))
  | .bk b args => .bk b (args.map fun y => .v (ev y))
  | .eqv neg k sh x y => .eqv neg k sh (.v (ev x)) (.v (ev y))
  | io => io
def noCall : CallF := fun _ _ _ => none
theorem close_ok {call : CallF} {ev : Opd → AV} {H : Heap} {io : IOp} (h : isH io = true) : aop call ev H io = aop noCall (evO []) H (close ev io) := by
  cases io <;> first | (cases h; done) | skip
  case bk b args =>
    cases b <;> first | (cases h; done) | skip
    cases args with
    | nil => rfl
    | cons x l => cases l <;> rfl
  case mkrow e n ps => simp only [close, aop, List.map_map]; rfl
  case subV es x lo hi mx => cases lo <;> cases hi <;> cases mx <;> rfl
  all_goals rfl

def xiter (g : St → (Ex → St → Ans) → Ans) : Nat → St → (Ex → St → Ans) → Ans
  | 0, _, _ => none
  | n + 1, s, K => g s fun e s' => match e with
    | .normal => xiter g n s' K
    | .exit i => K (.exit i) s'
    | .ret => K .ret s'

def xgo (i : Nat) : List Nat → List (St → Ans) → St → Ans
  | id :: ids, k :: ks, s => if i = id then k s else xgo i ids ks s
  | _, _, _ => none

def isInt (k : IntKind) : Option AV → Option Int
  | some (.int k' n) => if k' = k then some n else none
  | _ => none
def isBool : Option AV → Option Bool
  | some (.bool b) => some b
  | _ => none
def isStr : Option AV → Option (List UInt8)
  | some (.str b) => some b
  | _ => none
def isAgg (n : Nat) : Option AV → Option (List AV)
  | some (.agg l) => if l.length = n then some l else none
  | _ => none
def isTup (n : Nat) : Option AV → Option (List AV)
  | some (.tup l) => if l.length = n then some l else none
  | _ => none

/-- The own memory that a value names. -/
def idsOf : AV → List Nat
  | .ptr id _ _ => [id]
  | .slc id _ _ => [id]
  | _ => []
/-- Do they look at no memory both? -/
def disjB : TV → TV → Bool
  | .addr v, .addr w => (idsOf v).all fun i => !(idsOf w).contains i
  | .all l, .addr _ => l.all (noId DEPTH)
  | .addr _, .all l => l.all (noId DEPTH)
  | .all l, .all _ => l.all (noId DEPTH)
  | .no, _ => true
  | _, .no => true
/-- What they are. -/
noncomputable def C0 : Cb where
  disj a b K := match disjB a b with
    | true => K
    | false => none
  fin H v := some (snap DEPTH H v)
  hop H io K := match aop noCall (evO []) H io with
    | some (v, H') => K v H'
    | none => none
  snp H args K := match args.all (noId DEPTH) with
    | true => K args true
    | false => K (args.map (snap DEPTH H)) false
  int k o K := (isInt k o).bind K
  bool o K := (isBool o).bind K
  str o K := (isStr o).bind K
  lst o K Z := match o with
    | some (.lst l) => K l
    | some (.zsl b) => Z b
    | _ => none
  agg n o K := (isAgg n o).bind K
  tup n o K := (isTup n o).bind K
  any o K := o.bind K
  same o v K := @ite _ (o = some v) (Classical.propDecidable _) K none
  sameH a b K := @ite _ (a = b) (Classical.propDecidable _) K none
  iter g n s ids ks kr := xiter g n s fun e s' => match e with
    | .ret => kr s'
    | .exit i => xgo i ids ks s'
    | .normal => none

section
variable (C : Cb)

mutual
/-- A value of a shape: taken apart. -/
def destr : Sh → Option AV → (AV → Ans) → Ans
  | .i k, o, K => C.int k o fun n => K (.int k n)
  | .b, o, K => C.bool o fun b => K (.bool b)
  | .s, o, K => C.str o fun b => K (.str b)
  | .l, o, K => C.lst o (fun l => K (.lst l)) (fun b => K (.zsl b))
  | .agg l, o, K => C.agg l.length o fun cs => destrL l cs 0 fun vs => K (.agg vs)
  | .tup l, o, K => C.tup l.length o fun cs => destrL l cs 0 fun vs => K (.tup vs)
  | .any, o, K => C.any o K
  | .lo, o, K => C.lst o (fun l => K (.lst l)) (fun _ => none)
  | .z, o, K => C.lst o (fun _ => none) (fun b => K (.zsl b))
def destrL : List Sh → List AV → Nat → (List AV → Ans) → Ans
  | [], _, _, K => K []
  | s :: l, cs, i, K => destr s cs[i]? fun v => destrL l cs (i + 1) fun vs => K (v :: vs)
end

abbrev PC := FuncId → List AV → Option AV

/-- A call with what it gets alone. -/
def xpure (pc : PC) (sn : Bool) (sh : Sh) (g : FuncId) (args : List AV) (H : Heap) (K : AV → Heap → Ans) : Ans :=
  match sn with
  | true => C.snp H args fun as_ fr => destr C sh (pc g as_) fun v => cnd (fr || noMem DEPTH v) (K v H) none
  | false => match args.all (noId DEPTH) with
    | true => destr C sh (pc g args) fun v => K v H
    | false => destr C sh (pc g (args.map (snap DEPTH H))) fun v => cnd (noMem DEPTH v) (K v H) none

def xext (sh : Sh) (e : List AV → Option AV) (args : List AV) (H : Heap) (K : AV → Heap → Ans) : Ans := destr C sh (e args) fun v => K v H

abbrev XCall := Bool → Sh → FuncId → List AV → Heap → (AV → Heap → Ans) → Ans

def xcallP (M : Mod) (pc : PC) : XCall := fun sn sh g args H K =>
  match M.ext g with
  | some e => xext C sh e args H K
  | none => match M.inl g with
    | true => none
    | false => xpure C pc sn sh g args H K

/-- A place in a list by a number that may not be told. -/
def xat (sh : Sh) (l : List AV) (q : Int) (K : AV → Ans) : Ans :=
  cnd (decide (0 ≤ q)) (destr C sh l[q.toNat]? K) none

def xpick (c : AV) (x y : AV) (K : AV → Ans) : Ans := match c with
  | .bool t => match x, y with
    | .int k n, .int k' n' => match decide (k = k') with
      | true => K (.int k (bif t then n else n'))
      | false => cnd t (K (.int k n)) (K (.int k' n'))
    | .bool n, .bool n' => K (.bool (bif t then n else n'))
    | x, y => cnd t (K x) (K y)
  | _ => none

def xbin (op : BinOp) (x y : AV) (K : AV → Ans) : Ans := match x, y with
  | .int k a, .int k' b => match op with
    | .shl => cnd (decide (b < 0)) none (K (.int k (k.wrap (a * 2 ^ min b.toNat k.bits))))
    | .shr => cnd (decide (b < 0)) none (K (.int k (a.fdiv (2 ^ min b.toNat k.bits))))
    | .quo => match decide (k = k') with
      | true => cnd (decide (b = 0)) none (K (.int k (k.wrap (a.tdiv b))))
      | false => none
    | .rem => match decide (k = k') with
      | true => cnd (decide (b = 0)) none (K (.int k (a.tmod b)))
      | false => none
    | op => match aBin op (.int k a) (.int k' b) with
      | some v => K v
      | none => none
  | x, y => match op with
    | .add => match x, y with
      | .str a, .str b => cnd (decide ((a.length + b.length) ≤ 9223372036854775807)) (K (.str (a ++ b))) none
      | _, _ => none
    | op => match aBin op x y with
      | some v => K v
      | none => none

def xbound (x : Option AV) (d top : Nat) (K : Nat → Ans) : Ans := match x with
  | none => K d
  | some v => match aInt v with
    | some i => cnd (decide (0 ≤ i ∧ i ≤ (top : Int))) (K i.toNat) none
    | none => none

/-- One operation, of what is told. -/
def xop0 (u : XU) (call : XCall) (ev : Opd → AV) (H : Heap) (io : IOp) (K : AV → Heap → Ans) : Ans := match io with
  | .pick c a b => xpick (ev c) (ev a) (ev b) fun v => K v H
  | .bin op x y => xbin op (ev x) (ev y) fun v => K v H
  | .eqv neg 0 sh x y => match eqV 0 sh (ev x) (ev y) with
    | some b => K (.bool (xor neg b)) H
    | none => none
  | .eqv neg 4 sh x y => match eqV 4 sh (ev x) (ev y) with
    | some b => K (.bool (xor neg b)) H
    | none => none
  | .eqv neg 2 sh x y => match ev x, ev y with
    | .lst l, .zsl true => cnd l.isEmpty none (K (.bool (xor neg false)) H)
    | x, y => match eqV 2 sh x y with
      | some b => K (.bool (xor neg b)) H
      | none => none
  | .call sh f args => match ev f with
    | .fn g a b => match u.hm with
      | true => call (!freeOps u.hs args) (relax sh) g (a ++ args.map ev ++ b) H K
      | false => call false sh g (a ++ args.map ev ++ b) H K
    | _ => none
  | .subS x lo hi => match ev x with
    | .str s => xbound (hi.map ev) s.length s.length fun h => xbound (lo.map ev) 0 h fun l => K (.str ((s.take h).drop l)) H
    | _ => none
  | .ixS x i => match ev x, aInt (ev i) with
    | .str s, some q => cnd (decide (0 ≤ q)) (C.int .u8 ((s[q.toNat]?).map fun b => .int .u8 b.toNat) fun n => K (.int .u8 n) H) none
    | _, _ => none
  | .ixAS sh es x i => match aInt (ev i) with
    | some q => match ev x with
      | .lst l => xat C sh l q fun v => match decide (v.cells.length = es) with
        | true => K (.fptr v 0) H
        | false => none
      | .slc id o n => match hget H id with
        | some b => match decide (b.e.es = es) with
          | true => cnd (decide (0 ≤ q ∧ q < (n : Int))) (K (.ptr id (o + q.toNat) 0) H) none
          | false => none
        | none => none
      | _ => none
    | none => none
  | io => match aop (fun _ _ _ => none) ev H io with
    | some (v, H') => K v H'
    | none => none

def xop (u : XU) (sh : Sh) (call : XCall) (ev : Opd → AV) (H : Heap) (io : IOp) (K : AV → Heap → Ans) : Ans := match u.hm with
  | true => match isH io with
    | true => C.hop H (close ev io) fun v H' => match sh with
      | .any => K v H'
      | sh => destr C sh (some v) fun v' => K v' H'
    | false => xop0 C u call ev H io K
  | false => xop0 C u call ev H io K

def dhs (u : XU) : Option Nat → Sh
  | some d => hsGet u.hs d
  | none => .any

def xwant (env : List AV) (g : Option (Option Nat × Bool)) (A B : List AV → Ans) : Ans := match g with
  | none => A env
  | some (some t, b) => match env.getD t .undef with
    | .bool c => match b with
      | true => cnd c (A (env.set t (.bool true))) (B (env.set t (.bool false)))
      | false => cnd c (B (env.set t (.bool true))) (A (env.set t (.bool false)))
    | .tup [] => B env
    | _ => none
  | some (none, _) => B env

def xrunOps (u : XU) (call : XCall) : List IOper → St → (St → Ans) → Ans
  | [], s, K => K s
  | o :: l, s, K => xwant s.env o.guard (fun env => xop C u (dhs u o.dst) call (evO env) s.H o.op fun v H => xrunOps u call l ⟨put env o.dst v, H⟩ K) (fun env => xrunOps u call l ⟨put env o.dst (.tup []), s.H⟩ K)

/-- What an operation looks at. -/
def tvOf (ev : Opd → AV) : IOp → TV
  | .load _ _ a => .addr (ev a)
  | .store _ a _ => .addr (ev a)
  | .b2s x => .addr (ev x)
  | .call _ f args => match ev f with
    | .fn _ p q => .all (p ++ args.map ev ++ q)
    | _ => .all []
  | _ => .no
def xdisj (chk : List Nat) (t : TV) : List (Nat × TV) → Ans → Ans
  | [], K => K
  | (i, s) :: l, K => match chk.contains i with
    | true => match s, t with
      | .no, _ => xdisj chk t l K
      | _, .no => xdisj chk t l K
      | s, t => C.disj s t (xdisj chk t l K)
    | false => xdisj chk t l K
/-- Operations in any order, where memory isn't told. -/
def xrunOpsH (u : XU) (call : XCall) : List (IOper × List Nat) → Nat → List (Nat × TV) → St → (St → Ans) → Ans
  | [], _, _, s, K => K s
  | (o, chk) :: l, i, log, s, K => xwant s.env o.guard
      (fun env => xdisj C chk (tvOf (evO env) o.op) log (xop C u (dhs u o.dst) call (evO env) s.H o.op fun v H => xrunOpsH u call l (i + 1) ((i, tvOf (evO env) o.op) :: log) ⟨put env o.dst v, H⟩ K))
      (fun env => xrunOpsH u call l (i + 1) log ⟨put env o.dst (.tup []), s.H⟩ K)

def xrunOpsD (u : XU) (call : XCall) : List (IOper × List Nat) → Nat → List (Nat × Nat) → St → (St → Ans) → Ans
  | [], _, _, s, K => K s
  | (o, chk) :: l, i, log, s, K => xwant s.env o.guard
      (fun env => match chk.isEmpty || log.all (fun p => !(chk.contains p.1) || !((touch (evO env) s.H o.op).contains p.2)) with
        | true => xop C u (dhs u o.dst) call (evO env) s.H o.op fun v H => xrunOpsD u call l (i + 1) (log ++ (touch (evO env) s.H o.op).map fun id => (i, id)) ⟨put env o.dst v, H⟩ K
        | false => none)
      (fun env => xrunOpsD u call l (i + 1) log ⟨put env o.dst (.tup []), s.H⟩ K)

/-- A value's shape: what may be told of it in another round, too. -/
def shOf : Nat → AV → Sh
  | 0, _ => .any
  | d + 1, v => match v with
    | .int k _ => .i k
    | .bool _ => .b
    | .str _ => .s
    | .lst _ => .lo
    | .zsl _ => .z
    | .agg cs => .agg (cs.map (shOf d))
    | _ => .any

/-- What code puts somewhere. -/
def dstsOf : IC → List Nat
  | .reg l => l.filterMap (·.dst)
  | .regD l => l.filterMap (·.1.dst)
  | .seq a b => dstsOf a ++ dstsOf b
  | .cond _ a b => dstsOf a ++ dstsOf b
  | .block _ a => dstsOf a
  | .loop a => dstsOf a
  | _ => []

def noMake : IOp → Bool
  | .store .. | .box .. | .alloc .. | .mkrow .. | .s2b .. | .mkslice .. | .app .. => false
  | _ => true
/-- Does it leave own memory as_ it is? -/
def noMakes : IC → Bool
  | .reg l => l.all fun o => noMake o.op
  | .regD l => l.all fun o => noMake o.1.op
  | .seq a b => noMakes a && noMakes b
  | .cond _ a b => noMakes a && noMakes b
  | .block _ a => noMakes a
  | .loop a => noMakes a
  | _ => true

def meetL (a b : List Nat) : List Nat := a.filter fun x => b.contains x
def joinO : Option (List Nat) → Option (List Nat) → Option (List Nat)
  | none, b => b
  | a, none => a
  | some a, some b => some (meetL a b)
def daOp (da : List Nat) (o : IOper) : List Nat := match o.guard, o.dst with
  | none, some d => d :: da
  | _, _ => da
def exAt (id : Nat) : List (Nat × List Nat) → Option (List Nat)
  | [] => none
  | (i, s) :: l => match Nat.beq i id with
    | true => joinO (some s) (exAt id l)
    | false => exAt id l
def RETID : Nat := 1000000
/-- What is put for sure: where code ends, and at each of its exits. -/
def daA : IC → List Nat → Option (List Nat) × List (Nat × List Nat)
  | .skip, s => (some s, [])
  | .reg l, s => (some (l.foldl daOp s), [])
  | .regD l, s => (some (l.foldl (fun s o => daOp s o.1) s), [])
  | .seq a b, s => match daA a s with
    | (none, e) => (none, e)
    | (some s', e) => match daA b s' with
      | (n, e2) => (n, e ++ e2)
  | .cond _ a b, s => match daA a s, daA b s with
    | (n, e), (n2, e2) => (joinO n n2, e ++ e2)
  | .block id a, s => match daA a s with
    | (n, e) => (joinO n (exAt id e), e.filter fun p => !(Nat.beq p.1 id))
  | .loop a, s => match daA a s with
    | (_, e) => (none, e)
  | .exit id, s => (none, [(id, s)])
  | .ret, s => (none, [(RETID, s)])
def daN (a : IC) (s : List Nat) : List Nat := match (daA a s).1 with
  | some s => s
  | none => []
def daX (a : IC) (s : List Nat) (i : Nat) : List Nat := match exAt i (daA a s).2 with
  | some s => s
  | none => []

/-- What is not put anew stays; the rest is taken apart as_ it was ahead ('da': what was put ahead), or as_ it is told to be ('db': what is put behind). -/
def destrV (u : XU) (ds da db : List Nat) : List AV → List AV → Nat → (List AV → Ans) → Ans
  | [], _, _, K => K []
  | v :: l, cs, i, K => match ds.contains i with
    | true => destr C (match da.contains i with
        | true => match u.hm with
          | true => hsGet u.hs i
          | false => shOf 3 v
        | false => match db.contains i with
          | true => relax (hsGet u.hs i)
          | false => .any) cs[i]? fun w => destrV u ds da db l cs (i + 1) fun us => K (w :: us)
    | false => C.same cs[i]? v (destrV u ds da db l cs (i + 1) fun us => K (v :: us))

def destrE (u : XU) (da db : List Nat) (a : IC) (s0 s : St) (K : St → Ans) : Ans := cnd (s.env.length == s0.env.length) (destrV C u (dstsOf a) da db s0.env s.env 0 fun env => match noMakes a with
  | true => match u.hm with
    | true => K ⟨env, s.H⟩
    | false => C.sameH s.H s0.H (K ⟨env, s0.H⟩)
  | false => K ⟨env, s.H⟩) none

/-- Where a loop may leave to. -/
def exitsOf : IC → List Nat
  | .seq a b => exitsOf a ++ exitsOf b
  | .cond _ a b => exitsOf a ++ exitsOf b
  | .block id a => (exitsOf a).filter (· != id)
  | .loop a => exitsOf a
  | .exit id => [id]
  | _ => []

/-- How often does code end (two: often)? -/
def exN (id : Nat) : IC → Nat
  | .seq a b => exN id a + exN id b
  | .cond _ a b => exN id a + exN id b
  | .block i a => match Nat.beq i id with
    | true => 0
    | false => exN id a
  | .loop a => min 1 (exN id a)
  | .exit i => match Nat.beq i id with
    | true => 1
    | false => 0
  | _ => 0
def endN : IC → Nat
  | .skip => 1
  | .reg l => match l.all (fun o => o.guard.isNone) with
    | true => 1
    | false => 2
  | .regD l => match l.all (fun o => o.1.guard.isNone) with
    | true => 1
    | false => 2
  | .seq a b => match endN a with
    | 0 => 0
    | _ => endN b
  | .cond _ a b => endN a + endN b
  | .block id a => endN a + exN id a
  | _ => 0
/-- Is what comes behind told once, for all its ends? -/
def joins (u : XU) (a : IC) : Bool := u.jn && (Nat.ble 2 (endN a) && (u.hm || noMakes a))
def JID : Nat := 2000000

def xexec (u : XU) (call callP : XCall) (fu : Nat) : IC → List Nat → St → (Ex → St → Ans) → Ans
  | .skip, _, s, K => K .normal s
  | .regD ops, _, s, K => match u.hm with
    | true => xrunOpsH C u callP ops 0 [] s fun s' => K .normal s'
    | false => xrunOpsD C u callP ops 0 [] s fun s' => K .normal s'
  | .reg ops, _, s, K => xrunOps C u call ops s fun s' => K .normal s'
  | .seq a b, da, s, K => match joins u a with
    | false => xexec u call callP fu a da s fun e s' => match e with
      | .normal => xexec u call callP fu b (daN a da) s' K
      | .exit i => K (.exit i) s'
      | .ret => K .ret s'
    | true => C.iter (fun s1 Kn => destrE C u da [] a s s1 fun s2 => xexec u call callP fu a da s2 fun e s' => match e with
      | .normal => Kn (.exit JID) s'
      | .exit i => match decide (i = JID) with
        | true => none
        | false => Kn (.exit i) s'
      | .ret => Kn .ret s') 1 s (JID :: (exitsOf a).eraseDups) ((fun s1 => destrE C u da (daN a da) a s s1 fun s2 => xexec u call callP fu b (daN a da) s2 K) :: (exitsOf a).eraseDups.map fun i s1 => destrE C u da (daX a da i) a s s1 fun s2 => K (.exit i) s2) fun s1 => destrE C u da (daX a da RETID) a s s1 fun s2 => K .ret s2
  | .cond (.t n) a b, da, s, K => match s.env.getD n .undef with
    | .bool t => cnd t (xexec u call callP fu a da ⟨s.env.set n (.bool true), s.H⟩ K) (xexec u call callP fu b da ⟨s.env.set n (.bool false), s.H⟩ K)
    | _ => none
  | .cond (.v c) a b, da, s, K => match c with
    | .bool t => cnd t (xexec u call callP fu a da s K) (xexec u call callP fu b da s K)
    | _ => none
  | .block id a, da, s, K => xexec u call callP fu a da s fun e s' => match e with
    | .normal => K .normal s'
    | .exit i => match decide (i = id) with
      | true => K .normal s'
      | false => K (.exit i) s'
    | .ret => K .ret s'
  | .loop a, da, s, K => match u.un with
    | true => xiter (fun s1 Kn => xexec u call callP fu a da s1 Kn) fu s K
    | false => C.iter (fun s1 Kn => destrE C u da [] a s s1 fun s2 => xexec u call callP fu a da s2 Kn) fu s (exitsOf a).eraseDups ((exitsOf a).eraseDups.map fun i s1 => destrE C u da (daX a da i) a s s1 fun s2 => K (.exit i) s2) fun s1 => destrE C u da (daX a da RETID) a s s1 fun s2 => K .ret s2
  | .exit id, _, s, K => K (.exit id) s
  | .ret, _, s, K => K .ret s

/-- Results, where memory isn't told. -/
def xresAll (s : St) : List RV → (List AV → Ans) → Ans
  | [], K => K []
  | .tmp t :: l, K => xresAll s l fun vs => K (s.env.getD t .undef :: vs)
  | .cell ag n t :: l, K => C.hop s.H (.load ag n (.v (s.env.getD t .undef))) fun v _ => xresAll s l fun vs => K (v :: vs)

def xrunFn (u : XU) (call callP : XCall) (fu : Nat) (fn : AFn) (args : List AV) (H : Heap) (K : AV → Heap → Ans) : Ans :=
  xexec C u call callP fu fn.body (List.range args.length) ⟨args ++ List.replicate (fn.ntmps - args.length) (.tup []), H⟩ fun e s => match e with
    | .exit _ => none
    | _ => match u.hm with
      | true => xresAll C s fn.results fun vs => K (packRes vs) s.H
      | false => match resAll s fn.results with
        | some vs => K (packRes vs) s.H
        | none => none

def xcallI (M : Mod) (U : FuncId → XU) (pc : PC) : Nat → XCall
  | 0 => xcallP C M pc
  | n + 1 => fun sn sh g args H K =>
    match M.ext g with
    | some e => xext C sh e args H K
    | none => match M.inl g with
      | true => match M.code g with
        | some fn => xrunFn C (U g) (xcallI M U pc n) (xcallP C M pc) M.fu fn args H K
        | none => none
      | false => xpure C pc sn sh g args H K

/-- A call of a function, told forwards. -/
def xcall (M : Mod) (U : FuncId → XU) (d : Nat) (g : FuncId) (args : List AV) : Ans := match M.code g with
  | none => none
  | some fn => xrunFn C (U g) (xcallI C M U (pcall M d) IDEPTH) (xcallP C M (pcall M d)) M.fu fn args [] fun v H' => match (U g).hm with
    | true => C.fin H' v
    | false => some (snap DEPTH H' v)
end

/-! ### It says what the other one says -/
section
mutual
theorem destr_sound : ∀ (sh : Sh) (o : Option AV) (K : AV → Ans) (r : AV), destr C0 sh o K = some r → ∃ v, o = some v ∧ K v = some r
  | .i k, o, K, r, h => by
    simp only [destr, C0] at h
    obtain ⟨n, h1, h2⟩ := Option.bind_eq_some_iff.mp h
    unfold isInt at h1
    split at h1 <;> (try (cases h1; done))
    split at h1 <;> (try (cases h1; done))
    rename_i k' n' hk
    cases h1; subst hk
    exact ⟨_, rfl, h2⟩
  | .b, o, K, r, h => by
    simp only [destr, C0] at h
    obtain ⟨n, h1, h2⟩ := Option.bind_eq_some_iff.mp h
    unfold isBool at h1
    split at h1 <;> (try (cases h1; done))
    cases h1
    exact ⟨_, rfl, h2⟩
  | .s, o, K, r, h => by
    simp only [destr, C0] at h
    obtain ⟨n, h1, h2⟩ := Option.bind_eq_some_iff.mp h
    unfold isStr at h1
    split at h1 <;> (try (cases h1; done))
    cases h1
    exact ⟨_, rfl, h2⟩
  | .l, o, K, r, h => by
    simp only [destr, C0] at h
    split at h <;> (try (cases h; done))
    · exact ⟨_, rfl, h⟩
    · exact ⟨_, rfl, h⟩
  | .agg l, o, K, r, h => by
    simp only [destr, C0] at h
    obtain ⟨cs, h1, h2⟩ := Option.bind_eq_some_iff.mp h
    unfold isAgg at h1
    split at h1 <;> (try (cases h1; done))
    split at h1 <;> (try (cases h1; done))
    rename_i hl
    cases h1
    obtain ⟨vs, q1, q2, q3⟩ := destrL_sound l cs 0 _ r h2
    have : vs = cs := by
      apply List.ext_getElem?
      intro i
      rcases Nat.lt_or_ge i l.length with hlt | hge
      · have := q2 i hlt; simpa using this.symm
      · rw [List.getElem?_eq_none (by omega), List.getElem?_eq_none (by omega)]
    subst this
    exact ⟨_, rfl, q3⟩
  | .tup l, o, K, r, h => by
    simp only [destr, C0] at h
    obtain ⟨cs, h1, h2⟩ := Option.bind_eq_some_iff.mp h
    unfold isTup at h1
    split at h1 <;> (try (cases h1; done))
    split at h1 <;> (try (cases h1; done))
    rename_i hl
    cases h1
    obtain ⟨vs, q1, q2, q3⟩ := destrL_sound l cs 0 _ r h2
    have : vs = cs := by
      apply List.ext_getElem?
      intro i
      rcases Nat.lt_or_ge i l.length with hlt | hge
      · have := q2 i hlt; simpa using this.symm
      · rw [List.getElem?_eq_none (by omega), List.getElem?_eq_none (by omega)]
    subst this
    exact ⟨_, rfl, q3⟩
  | .any, o, K, r, h => by
    simp only [destr, C0] at h
    exact Option.bind_eq_some_iff.mp h
  | .lo, o, K, r, h => by
    simp only [destr, C0] at h
    split at h <;> (try (cases h; done))
    exact ⟨_, rfl, h⟩
  | .z, o, K, r, h => by
    simp only [destr, C0] at h
    split at h <;> (try (cases h; done))
    exact ⟨_, rfl, h⟩
theorem destrL_sound : ∀ (l : List Sh) (cs : List AV) (i : Nat) (K : List AV → Ans) (r : AV), destrL C0 l cs i K = some r → ∃ vs, vs.length = l.length ∧ (∀ j, j < l.length → cs[i + j]? = vs[j]?) ∧ K vs = some r
  | [], cs, i, K, r, h => ⟨[], rfl, by simp, h⟩
  | s :: l, cs, i, K, r, h => by
    simp only [destrL] at h
    obtain ⟨v, h1, h2⟩ := destr_sound s _ _ r h
    obtain ⟨vs, q1, q2, q3⟩ := destrL_sound l cs (i + 1) _ r h2
    refine ⟨v :: vs, by simp [q1], fun j hj => ?_, q3⟩
    cases j with
    | zero => simpa using h1
    | succ j =>
      have := q2 j (by simpa using hj)
      simpa [show i + 1 + j = i + (j + 1) by omega] using this
end

theorem cnd_some {t : Bool} {a b : Ans} {r : AV} (h : cnd t a b = some r) : (t = true ∧ a = some r) ∨ (t = false ∧ b = some r) := by
  cases t <;> simp [cnd] at h <;> simp [h]

theorem destrV_sound (U0 : XU) (ds da db : List Nat) : ∀ (l cs : List AV) (i : Nat) (K : List AV → Ans) (r : AV), destrV C0 U0 ds da db l cs i K = some r → ∃ vs, vs.length = l.length ∧ (∀ j, j < l.length → cs[i + j]? = vs[j]?) ∧ K vs = some r
  | [], cs, i, K, r, h => ⟨[], rfl, by simp, h⟩
  | v :: l, cs, i, K, r, h => by
    simp only [destrV] at h
    have fin : ∀ u, cs[i]? = some u → destrV C0 U0 ds da db l cs (i + 1) (fun us => K (u :: us)) = some r → ∃ vs, vs.length = (v :: l).length ∧ (∀ j, j < (v :: l).length → cs[i + j]? = vs[j]?) ∧ K vs = some r := by
      intro u h1 h2
      obtain ⟨vs, q1, q2, q3⟩ := destrV_sound U0 ds da db l cs (i + 1) _ r h2
      refine ⟨u :: vs, by simp [q1], fun j hj => ?_, q3⟩
      cases j with
      | zero => simpa using h1
      | succ j =>
        have := q2 j (by simpa using hj)
        simpa [show i + 1 + j = i + (j + 1) by omega] using this
    split at h
    · obtain ⟨u, h1, h2⟩ := destr_sound _ _ _ r h
      exact fin u h1 h2
    · simp only [C0] at h
      split at h
      · rename_i he; exact fin v he h
      · cases h

theorem destrE_sound {u : XU} {da db : List Nat} {a : IC} {s0 s : St} {K : St → Ans} {r : AV} (h : destrE C0 u da db a s0 s K = some r) : K s = some r := by
  unfold destrE at h
  rcases cnd_some h with ⟨hl, h⟩ | ⟨_, h⟩
  · obtain ⟨vs, q1, q2, q3⟩ := destrV_sound _ _ _ _ _ _ _ _ _ h
    have hl : s.env.length = s0.env.length := by simpa using hl
    have : vs = s.env := by
      apply List.ext_getElem?
      intro i
      rcases Nat.lt_or_ge i s0.env.length with hlt | hge
      · have := q2 i hlt; simpa using this.symm
      · rw [List.getElem?_eq_none (by omega), List.getElem?_eq_none (by omega)]
    subst this
    split at q3
    · split at q3
      · exact q3
      · simp only [C0] at q3
        split at q3
        · rename_i he; rw [← he] at q3; exact q3
        · cases q3
    · exact q3
  · cases h

theorem xgo_ok {i : Nat} {s : St} {r : AV} {f : Nat → St → Ans} : ∀ ids : List Nat, xgo i ids (ids.map f) s = some r → f i s = some r
  | [], h => by cases h
  | id :: ids, h => by
    simp only [List.map_cons, xgo] at h
    split at h
    · rename_i he; rw [he]; exact h
    · exact xgo_ok ids h

/-- Calls told forwards. -/
def XOK (x : XCall) (call : CallF) : Prop := ∀ sn sh g args H K r, x sn sh g args H K = some r → ∃ v H', call g args H = some (v, H') ∧ K v H' = some r

theorem xpure_ok (pc : PC) : XOK (xpure C0 pc) (pureCall pc) := by
  intro sn sh g args H K r h
  unfold xpure at h
  unfold pureCall
  cases sn with
  | true =>
    simp only [C0] at h
    cases ha : args.all (noId DEPTH) <;> simp only [ha] at h
    · obtain ⟨v, h1, h2⟩ := destr_sound _ _ _ _ h
      rcases cnd_some h2 with ⟨h3, h2⟩ | ⟨_, h2⟩
      · simp only [Bool.false_or] at h3
        exact ⟨v, H, by simp [h1, h3], h2⟩
      · cases h2
    · obtain ⟨v, h1, h2⟩ := destr_sound _ _ _ _ h
      rcases cnd_some h2 with ⟨h3, h2⟩ | ⟨h3, h2⟩
      · exact ⟨v, H, by simp [h1], h2⟩
      · cases h2
  | false =>
    cases ha : args.all (noId DEPTH) <;> simp only [ha] at h
    · obtain ⟨v, h1, h2⟩ := destr_sound _ _ _ _ h
      rcases cnd_some h2 with ⟨h3, h2⟩ | ⟨_, h2⟩
      · exact ⟨v, H, by simp [h1, h3], h2⟩
      · cases h2
    · obtain ⟨v, h1, h2⟩ := destr_sound _ _ _ _ h
      exact ⟨v, H, by simp [h1], h2⟩

theorem xcallP_ok (M : Mod) (pc : PC) : XOK (xcallP C0 M pc) (callP M pc) := by
  intro sn sh g args H K r h
  unfold xcallP at h
  unfold callP
  cases he : M.ext g with
  | some e =>
    simp only [he, xext] at h
    obtain ⟨v, h1, h2⟩ := destr_sound _ _ _ _ h
    exact ⟨v, H, by simp [extCall, h1], h2⟩
  | none =>
    simp only [he] at h
    cases hi : M.inl g <;> simp only [hi] at h
    · obtain ⟨v, H', h1, h2⟩ := xpure_ok pc _ _ _ _ _ _ _ h
      exact ⟨v, H', by simp [h1], h2⟩
    · cases h

theorem xbound_ok {x : Option AV} {d top : Nat} {K : Nat → Ans} {r : AV} (h : xbound x d top K = some r) : ∃ n, bound x d top = some n ∧ K n = some r := by
  unfold xbound at h
  split at h
  · exact ⟨_, rfl, h⟩
  · split at h <;> (try (cases h; done))
    rename_i v i hi
    rcases cnd_some h with ⟨h0, h⟩ | ⟨_, h⟩
    · have h0 := of_decide_eq_true h0
      exact ⟨_, by simp only [bound, hi]; rw [if_pos h0], h⟩
    · cases h

theorem xpick_ok {c x y : AV} {K : AV → Ans} {r : AV} (h : xpick c x y K = some r) : ∃ t, c = .bool t ∧ K (bif t then x else y) = some r := by
  unfold xpick at h
  split at h <;> (try (cases h; done))
  rename_i t
  refine ⟨t, rfl, ?_⟩
  split at h
  · split at h
    · rename_i hk
      have hk := of_decide_eq_true hk
      subst hk
      cases t <;> exact h
    · rcases cnd_some h with ⟨rfl, h⟩ | ⟨rfl, h⟩ <;> exact h
  · cases t <;> exact h
  · rcases cnd_some h with ⟨rfl, h⟩ | ⟨rfl, h⟩ <;> exact h

theorem xbin_ok {op : BinOp} {x y : AV} {K : AV → Ans} {r : AV} (h : xbin op x y K = some r) : ∃ v, aBin op x y = some v ∧ K v = some r := by
  unfold xbin at h
  split at h
  · rename_i k a k' b
    split at h
    · rcases cnd_some h with ⟨_, h⟩ | ⟨hb, h⟩
      · cases h
      · have hb := of_decide_eq_false hb
        exact ⟨_, by simp [aBin, hb], h⟩
    · rcases cnd_some h with ⟨_, h⟩ | ⟨hb, h⟩
      · cases h
      · have hb := of_decide_eq_false hb
        exact ⟨_, by simp [aBin, hb], h⟩
    · split at h
      · rename_i hk
        have hk := of_decide_eq_true hk
        rcases cnd_some h with ⟨_, h⟩ | ⟨hb, h⟩
        · cases h
        · have hb := of_decide_eq_false hb
          exact ⟨_, by simp [aBin, hk, hb], h⟩
      · cases h
    · split at h
      · rename_i hk
        have hk := of_decide_eq_true hk
        rcases cnd_some h with ⟨_, h⟩ | ⟨hb, h⟩
        · cases h
        · have hb := of_decide_eq_false hb
          exact ⟨_, by simp [aBin, hk, hb], h⟩
      · cases h
    · split at h
      · rename_i v hv; exact ⟨v, hv, h⟩
      · cases h
  · split at h
    · split at h
      · rcases cnd_some h with ⟨hb, h⟩ | ⟨_, h⟩
        · have hb := of_decide_eq_true hb
          exact ⟨_, by simp [aBin, hb], h⟩
        · cases h
      · cases h
    · split at h
      · rename_i v hv; exact ⟨v, hv, h⟩
      · cases h
end
end Go.Proofs.Ytjblhppbjebagaa.AE

namespace Go.Proofs.Ytjblhppbjebagaa.AE
set_option linter.unusedVariables false
set_option linter.unusedSimpArgs false
set_option linter.constructorNameAsVariable false
open Go

theorem aop_call_irr {call call' : CallF} {ev : Opd → AV} {H : Heap} {io : IOp} (h : ∀ sh f args, io ≠ .call sh f args) : aop call ev H io = aop call' ev H io := by
  cases io <;> first | rfl | exact absurd rfl (h _ _ _) | skip
  all_goals (rename_i b _; cases b <;> rfl)

theorem xop0_ok {u : XU} {x : XCall} {call : CallF} (hx : XOK x call) {ev : Opd → AV} {H : Heap} {io : IOp} {K : AV → Heap → Ans} {r : AV} (h : xop0 C0 u x ev H io K = some r) : ∃ v H', aop call ev H io = some (v, H') ∧ K v H' = some r := by
  unfold xop0 at h
  split at h
  · obtain ⟨t, h1, h2⟩ := xpick_ok h
    exact ⟨_, H, by simp [aop, h1], h2⟩
  · obtain ⟨v, h1, h2⟩ := xbin_ok h
    exact ⟨v, H, by simp [aop, h1], h2⟩
  · split at h <;> (try (cases h; done))
    rename_i b hb
    exact ⟨_, H, by simp only [aop, hb], h⟩
  · split at h <;> (try (cases h; done))
    rename_i b hb
    exact ⟨_, H, by simp only [aop, hb], h⟩
  · split at h
    · rename_i l h1 h2
      rcases cnd_some h with ⟨_, h⟩ | ⟨h0, h⟩
      · cases h
      · cases l with
        | nil => simp at h0
        | cons a l => exact ⟨_, H, by simp only [aop, h1, h2, eqV, eqS], h⟩
    · split at h <;> (try (cases h; done))
      rename_i b hb
      exact ⟨_, H, by simp only [aop, hb], h⟩
  · split at h <;> (try (cases h; done))
    rename_i g a b hf
    split at h
    · obtain ⟨v, H', h1, h2⟩ := hx _ _ _ _ _ _ _ h
      exact ⟨v, H', by simp only [aop, hf, h1], h2⟩
    · obtain ⟨v, H', h1, h2⟩ := hx _ _ _ _ _ _ _ h
      exact ⟨v, H', by simp only [aop, hf, h1], h2⟩
  · split at h <;> (try (cases h; done))
    rename_i s hs
    obtain ⟨hh, h1, h2⟩ := xbound_ok h
    obtain ⟨l, h3, h4⟩ := xbound_ok h2
    exact ⟨_, H, by simp only [aop, aSubS, hs, h1, h3], h4⟩
  · split at h <;> (try (cases h; done))
    rename_i s q hs hq
    rcases cnd_some h with ⟨h0, h⟩ | ⟨_, h⟩
    · have h0 := of_decide_eq_true h0
      simp only [C0] at h
      obtain ⟨n, h1, h2⟩ := Option.bind_eq_some_iff.mp h
      cases hb : s[q.toNat]? with
      | none => simp [hb, isInt] at h1
      | some b =>
        simp [hb, isInt] at h1
        subst h1
        exact ⟨_, H, by simp [aop, hs, hq, h0, hb], h2⟩
    · cases h
  · split at h <;> (try (cases h; done))
    rename_i q hq
    split at h <;> (try (cases h; done))
    · rename_i l hl
      unfold xat at h
      rcases cnd_some h with ⟨h0, h⟩ | ⟨_, h⟩
      · have h0 := of_decide_eq_true h0
        obtain ⟨v, h1, h2⟩ := destr_sound _ _ _ _ h
        split at h2 <;> (try (cases h2; done))
        rename_i hc
        have hc := of_decide_eq_true hc
        exact ⟨_, H, by simp [aop, hq, hl, aIx, h0, h1, hc], h2⟩
      · cases h
    · rename_i id o n hl
      split at h <;> (try (cases h; done))
      rename_i b hb
      split at h <;> (try (cases h; done))
      rename_i he
      have he := of_decide_eq_true he
      rcases cnd_some h with ⟨h0, h⟩ | ⟨_, h⟩
      · have h0 := of_decide_eq_true h0
        exact ⟨_, H, by simp [aop, hq, hl, aIx, hb, h0, he], h⟩
      · cases h
  · rename_i hne
    split at h <;> (try (cases h; done))
    rename_i v H' hv
    exact ⟨v, H', by rw [← hv]; exact aop_call_irr (fun sh f args he => by subst he; simp_all), h⟩

theorem xop_ok {u : XU} {sh : Sh} {x : XCall} {call : CallF} (hx : XOK x call) {ev : Opd → AV} {H : Heap} {io : IOp} {K : AV → Heap → Ans} {r : AV} (h : xop C0 u sh x ev H io K = some r) : ∃ v H', aop call ev H io = some (v, H') ∧ K v H' = some r := by
  unfold xop at h
  split at h
  · split at h
    · rename_i hi
      rw [close_ok hi]
      simp only [C0] at h
      split at h
      · rename_i v H' hv
        split at h
        · exact ⟨v, H', hv, h⟩
        · obtain ⟨w, h1, h2⟩ := destr_sound _ _ _ _ h
          cases h1
          exact ⟨v, H', hv, h2⟩
      · cases h
    · exact xop0_ok hx h
  · exact xop0_ok hx h

theorem set_same {env : List AV} {t : Nat} {v : AV} (h : env.getD t .undef = v) (hv : v ≠ .undef) : env.set t v = env := by
  apply List.ext_getElem?
  intro i
  by_cases hi : t = i
  · subst hi
    rcases Nat.lt_or_ge t env.length with hlt | hge
    · rw [List.getElem?_set_self hlt, List.getElem?_eq_getElem hlt, ← h]
      simp [List.getD_eq_getElem?_getD, hlt]
    · exact absurd (by rw [← h]; simp [List.getD_eq_getElem?_getD, List.getElem?_eq_none hge]) hv
  · rw [List.getElem?_set_ne hi]

theorem xwant_ok {env : List AV} {g : Option (Option Nat × Bool)} {A B : List AV → Ans} {r : AV} (h : xwant env g A B = some r) : (want env g = some true ∧ A env = some r) ∨ (want env g = some false ∧ B env = some r) := by
  unfold xwant at h
  split at h
  · exact .inl ⟨rfl, h⟩
  · rename_i t b
    split at h <;> (try (cases h; done))
    · rename_i c hc
      split at h
      · rcases cnd_some h with ⟨h0, h⟩ | ⟨h0, h⟩
        · subst h0; rw [set_same hc (by simp)] at h; exact .inl ⟨by simp only [want, hc]; rfl, h⟩
        · subst h0; rw [set_same hc (by simp)] at h; exact .inr ⟨by simp only [want, hc]; rfl, h⟩
      · rcases cnd_some h with ⟨h0, h⟩ | ⟨h0, h⟩
        · subst h0; rw [set_same hc (by simp)] at h; exact .inr ⟨by simp only [want, hc]; rfl, h⟩
        · subst h0; rw [set_same hc (by simp)] at h; exact .inl ⟨by simp only [want, hc]; rfl, h⟩
    · rename_i hc
      exact .inr ⟨by simp only [want, hc], h⟩
  · exact .inr ⟨rfl, h⟩

theorem xrunOps_ok {u : XU} {x : XCall} {call : CallF} (hx : XOK x call) : ∀ (l : List IOper) (s : St) (K : St → Ans) (r : AV), xrunOps C0 u x l s K = some r → ∃ s', runOps call l s = some s' ∧ K s' = some r
  | [], s, K, r, h => ⟨s, rfl, h⟩
  | o :: l, s, K, r, h => by
    simp only [xrunOps] at h
    rcases xwant_ok h with ⟨hw, h⟩ | ⟨hw, h⟩
    · obtain ⟨v, H', h1, h2⟩ := xop_ok hx h
      obtain ⟨s', h3, h4⟩ := xrunOps_ok hx l _ K r h2
      exact ⟨s', by simp only [runOps, hw, h1, h3], h4⟩
    · obtain ⟨s', h3, h4⟩ := xrunOps_ok hx l _ K r h
      exact ⟨s', by simp only [runOps, hw, h3], h4⟩

theorem xrunOpsD_ok {u : XU} {x : XCall} {call : CallF} (hx : XOK x call) : ∀ (l : List (IOper × List Nat)) (i : Nat) (log : List (Nat × Nat)) (s : St) (K : St → Ans) (r : AV), xrunOpsD C0 u x l i log s K = some r → ∃ s', runOpsD call l i log s = some s' ∧ K s' = some r
  | [], i, log, s, K, r, h => ⟨s, rfl, h⟩
  | (o, chk) :: l, i, log, s, K, r, h => by
    simp only [xrunOpsD] at h
    rcases xwant_ok h with ⟨hw, h⟩ | ⟨hw, h⟩
    · split at h <;> (try (cases h; done))
      rename_i hl
      obtain ⟨v, H', h1, h2⟩ := xop_ok hx h
      obtain ⟨s', h3, h4⟩ := xrunOpsD_ok hx l _ _ _ K r h2
      refine ⟨s', ?_, h4⟩
      simp only [runOpsD, hw]
      split
      · simp only [h1, h3]
      · rename_i hn
        rw [Bool.or_eq_true] at hl
        rcases hl with hl | hl
        · exact absurd (by rw [List.isEmpty_iff] at hl; subst hl; simp) hn
        · exact absurd hl hn
    · obtain ⟨s', h3, h4⟩ := xrunOpsD_ok hx l _ _ _ K r h
      exact ⟨s', by simp only [runOpsD, hw, h3], h4⟩

theorem xdisj_ok {chk : List Nat} {t : TV} {K : Ans} {r : AV} : ∀ {l : List (Nat × TV)}, xdisj C0 chk t l K = some r → K = some r ∧ ∀ e ∈ l, chk.contains e.1 = true → disjB e.2 t = true
  | [], h => ⟨h, fun e he => by cases he⟩
  | (i, s) :: l, h => by
    simp only [xdisj] at h
    split at h
    · rename_i hc
      split at h
      · obtain ⟨h1, h2⟩ := xdisj_ok h
        refine ⟨h1, fun e he hk => ?_⟩
        rcases List.mem_cons.mp he with rfl | he
        · rfl
        · exact h2 e he hk
      · obtain ⟨h1, h2⟩ := xdisj_ok h
        refine ⟨h1, fun e he hk => ?_⟩
        rcases List.mem_cons.mp he with rfl | he
        · cases s <;> rfl
        · exact h2 e he hk
      · simp only [C0] at h
        split at h
        · rename_i hd
          obtain ⟨h1, h2⟩ := xdisj_ok h
          refine ⟨h1, fun e he hk => ?_⟩
          rcases List.mem_cons.mp he with rfl | he
          · exact hd
          · exact h2 e he hk
        · cases h
    · rename_i hc
      obtain ⟨h1, h2⟩ := xdisj_ok h
      refine ⟨h1, fun e he hk => ?_⟩
      rcases List.mem_cons.mp he with rfl | he
      · rw [hc] at hk; cases hk
      · exact h2 e he hk

/-- It may name that memory. -/
def tmem (id : Nat) : TV → Prop
  | .no => False
  | .addr v => id ∈ idsOf v
  | .all l => l.all (noId DEPTH) = false
theorem touch_tv {ev : Opd → AV} {H : Heap} {io : IOp} {id : Nat} (h : id ∈ touch ev H io) : tmem id (tvOf ev io) := by
  cases io <;> first | (cases h; done) | skip
  case load ag n a =>
    simp only [touch] at h
    simp only [tvOf, tmem]
    split at h
    · rename_i he; rw [he]; exact h
    · cases h
  case store n a v =>
    simp only [touch] at h
    simp only [tvOf, tmem]
    split at h
    · rename_i he; rw [he]; exact h
    · cases h
  case b2s x =>
    simp only [touch] at h
    simp only [tvOf, tmem]
    split at h
    · rename_i he; rw [he]; exact h
    · cases h
  case call sh f args =>
    simp only [touch] at h
    simp only [tvOf]
    split at h
    · rename_i he
      rw [he]
      simp only [tmem]
      split at h
      · cases h
      · rename_i hn; simpa using hn
    · cases h
theorem disj_no {id : Nat} {a b : TV} (h : disjB a b = true) (ha : tmem id a) (hb : tmem id b) : False := by
  cases a <;> cases b <;> simp only [tmem] at ha hb <;> try exact ha.elim
  all_goals (try exact hb.elim)
  · rename_i v w
    simp only [disjB, List.all_eq_true] at h
    have := h id ha
    simp [hb] at this
  · simp only [disjB] at h; rw [hb] at h; cases h
  · simp only [disjB] at h; rw [ha] at h; cases h
  · simp only [disjB] at h; rw [ha] at h; cases h
theorem xrunOpsH_ok {u : XU} {x : XCall} {call : CallF} (hx : XOK x call) : ∀ (l : List (IOper × List Nat)) (i : Nat) (lg : List (Nat × TV)) (log : List (Nat × Nat)) (s : St) (K : St → Ans) (r : AV), (∀ p ∈ log, ∃ e ∈ lg, e.1 = p.1 ∧ tmem p.2 e.2) →
    xrunOpsH C0 u x l i lg s K = some r → ∃ s', runOpsD call l i log s = some s' ∧ K s' = some r
  | [], i, lg, log, s, K, r, _, h => ⟨s, rfl, h⟩
  | (o, chk) :: l, i, lg, log, s, K, r, hl, h => by
    simp only [xrunOpsH] at h
    rcases xwant_ok h with ⟨hw, h⟩ | ⟨hw, h⟩
    · obtain ⟨h, hd⟩ := xdisj_ok h
      obtain ⟨v, H', h1, h2⟩ := xop_ok hx h
      have hok : log.all (fun p => !(chk.contains p.1) || !((touch (evO s.env) s.H o.op).contains p.2)) = true := by
        rw [List.all_eq_true]
        intro p hp
        obtain ⟨e, he, h3, h4⟩ := hl p hp
        cases hc : chk.contains p.1 with
        | false => rfl
        | true =>
          cases ht : (touch (evO s.env) s.H o.op).contains p.2 with
          | false => rfl
          | true => exact (disj_no (hd e he (by rw [h3]; exact hc)) h4 (touch_tv (by simpa using ht))).elim
      obtain ⟨s', h3, h4⟩ := xrunOpsH_ok hx l _ _ (log ++ (touch (evO s.env) s.H o.op).map fun id => (i, id)) _ K r (by
        intro p hp
        rcases List.mem_append.mp hp with hp | hp
        · obtain ⟨e, he, h3, h4⟩ := hl p hp
          exact ⟨e, List.mem_cons_of_mem _ he, h3, h4⟩
        · obtain ⟨id, hid, rfl⟩ := List.mem_map.mp hp
          exact ⟨_, List.mem_cons_self .., rfl, touch_tv hid⟩) h2
      refine ⟨s', ?_, h4⟩
      simp only [runOpsD, hw]
      rw [if_pos hok]
      simp only [h1, h3]
    · obtain ⟨s', h3, h4⟩ := xrunOpsH_ok hx l _ _ log _ K r hl h
      exact ⟨s', by simp only [runOpsD, hw, h3], h4⟩

theorem xexec_ok {x y : XCall} {call callP : CallF} (hx : XOK x call) (hy : XOK y callP) (u : XU) (fu : Nat) : ∀ (c : IC) (da : List Nat) (s : St) (K : Ex → St → Ans) (r : AV), xexec C0 u x y fu c da s K = some r → ∃ e s', exec call callP fu c s = some (e, s') ∧ K e s' = some r := by
  intro c
  induction c with
  | skip => intro da s K r h; exact ⟨_, _, rfl, h⟩
  | reg ops =>
    intro da s K r h
    obtain ⟨s', h1, h2⟩ := xrunOps_ok hx ops s _ r h
    exact ⟨.normal, s', by simp only [exec, h1], h2⟩
  | regD ops =>
    intro da s K r h
    simp only [xexec] at h
    split at h
    · obtain ⟨s', h1, h2⟩ := xrunOpsH_ok hy ops 0 [] [] s _ r (fun p hp => by cases hp) h
      exact ⟨.normal, s', by simp only [exec, h1], h2⟩
    · obtain ⟨s', h1, h2⟩ := xrunOpsD_ok hy ops 0 [] s _ r h
      exact ⟨.normal, s', by simp only [exec, h1], h2⟩
  | seq a b iha ihb =>
    intro da s K r h
    simp only [xexec] at h
    split at h
    case h_2 =>
      simp only [C0, xiter] at h
      obtain ⟨e, s1, h1, h2⟩ := iha _ s _ r (destrE_sound h)
      cases e with
      | normal =>
        simp only [xgo, if_true] at h2
        obtain ⟨e, s', h3, h4⟩ := ihb _ s1 K r (destrE_sound h2)
        exact ⟨e, s', by simp only [exec, h1, h3], h4⟩
      | exit i =>
        simp only at h2
        split at h2
        · cases h2
        · rename_i hi
          have hi := of_decide_eq_false hi
          simp only [xgo, if_neg hi] at h2
          exact ⟨_, s1, by simp only [exec, h1], destrE_sound (xgo_ok (f := fun i s1 => destrE C0 u da (daX a da i) a s s1 fun s2 => K (.exit i) s2) _ h2)⟩
      | ret => exact ⟨_, s1, by simp only [exec, h1], destrE_sound h2⟩
    obtain ⟨e, s1, h1, h2⟩ := iha _ s _ r h
    cases e with
    | normal =>
      obtain ⟨e, s', h3, h4⟩ := ihb _ s1 K r h2
      exact ⟨e, s', by simp only [exec, h1, h3], h4⟩
    | exit i => exact ⟨.exit i, s1, by simp only [exec, h1], h2⟩
    | ret => exact ⟨.ret, s1, by simp only [exec, h1], h2⟩
  | cond c a b iha ihb =>
    intro da s K r h
    cases c with
    | t n =>
      simp only [xexec] at h
      split at h <;> (try (cases h; done))
      rename_i t ht
      rcases cnd_some h with ⟨h0, h⟩ | ⟨h0, h⟩
      · subst h0; rw [set_same ht (by simp)] at h
        obtain ⟨e, s', h1, h2⟩ := iha _ s K r h
        exact ⟨e, s', by simp only [exec, evO, ht, cond_true, h1], h2⟩
      · subst h0; rw [set_same ht (by simp)] at h
        obtain ⟨e, s', h1, h2⟩ := ihb _ s K r h
        exact ⟨e, s', by simp only [exec, evO, ht, cond_false, h1], h2⟩
    | v c =>
      simp only [xexec] at h
      split at h <;> (try (cases h; done))
      rename_i t
      rcases cnd_some h with ⟨h0, h⟩ | ⟨h0, h⟩
      · subst h0
        obtain ⟨e, s', h1, h2⟩ := iha _ s K r h
        exact ⟨e, s', by simp only [exec, evO, cond_true, h1], h2⟩
      · subst h0
        obtain ⟨e, s', h1, h2⟩ := ihb _ s K r h
        exact ⟨e, s', by simp only [exec, evO, cond_false, h1], h2⟩
  | block id a iha =>
    intro da s K r h
    obtain ⟨e, s1, h1, h2⟩ := iha _ s _ r h
    cases e with
    | normal => exact ⟨.normal, s1, by simp only [exec, h1], h2⟩
    | ret => exact ⟨.ret, s1, by simp only [exec, h1], h2⟩
    | exit i =>
      simp only at h2
      split at h2
      · rename_i hi
        have hi := of_decide_eq_true hi
        exact ⟨.normal, s1, by simp only [exec, h1, hi, if_true], h2⟩
      · rename_i hi
        have hi := of_decide_eq_false hi
        exact ⟨.exit i, s1, by simp only [exec, h1, hi, if_false], h2⟩
  | loop a iha =>
    intro da s K r h
    have key2 : ∀ (n : Nat) (s0 : St) (K' : Ex → St → Ans), xiter (fun s1 Kn => xexec C0 u x y fu a da s1 Kn) n s0 K' = some r → ∃ e s', iter (exec call callP fu a) n s0 = some (e, s') ∧ K' e s' = some r := by
      intro n
      induction n with
      | zero => intro s0 K' h; simp [xiter] at h
      | succ n ih =>
        intro s0 K' h
        simp only [xiter] at h
        obtain ⟨e, s1, h1, h2⟩ := iha _ s0 _ r h
        cases e with
        | normal =>
          obtain ⟨e, s', h3, h4⟩ := ih s1 K' h2
          exact ⟨e, s', by simp only [iter, h1, h3], h4⟩
        | exit i => exact ⟨.exit i, s1, by simp only [iter, h1], h2⟩
        | ret => exact ⟨.ret, s1, by simp only [iter, h1], h2⟩
    have key : ∀ (n : Nat) (s0 : St) (K' : Ex → St → Ans), xiter (fun s1 Kn => destrE C0 u da [] a s s1 fun s2 => xexec C0 u x y fu a da s2 Kn) n s0 K' = some r → ∃ e s', iter (exec call callP fu a) n s0 = some (e, s') ∧ K' e s' = some r := by
      intro n
      induction n with
      | zero => intro s0 K' h; simp [xiter] at h
      | succ n ih =>
        intro s0 K' h
        simp only [xiter] at h
        obtain ⟨e, s1, h1, h2⟩ := iha _ s0 _ r (destrE_sound h)
        cases e with
        | normal =>
          obtain ⟨e, s', h3, h4⟩ := ih s1 K' h2
          exact ⟨e, s', by simp only [iter, h1, h3], h4⟩
        | exit i => exact ⟨.exit i, s1, by simp only [iter, h1], h2⟩
        | ret => exact ⟨.ret, s1, by simp only [iter, h1], h2⟩
    simp only [xexec] at h
    cases hun : u.un with
    | true => rw [hun] at h; exact key2 fu s K h
    | false =>
      rw [hun] at h
      obtain ⟨e, s', h1, h2⟩ := key fu s _ h
      cases e with
      | normal => cases h2
      | exit i => exact ⟨_, s', h1, destrE_sound (xgo_ok (f := fun i s1 => destrE C0 u da (daX a da i) a s s1 fun s2 => K (.exit i) s2) _ h2)⟩
      | ret => exact ⟨_, s', h1, destrE_sound h2⟩
  | exit id => intro da s K r h; exact ⟨_, _, rfl, h⟩
  | ret => intro da s K r h; exact ⟨_, _, rfl, h⟩

theorem xresAll_ok {s : St} : ∀ {l : List RV} {K : List AV → Ans} {r : AV}, xresAll C0 s l K = some r → ∃ vs, resAll s l = some vs ∧ K vs = some r
  | [], K, r, h => ⟨[], rfl, h⟩
  | .tmp t :: l, K, r, h => by
    obtain ⟨vs, h1, h2⟩ := xresAll_ok (l := l) h
    exact ⟨_, by simp only [resAll, resOf, h1], h2⟩
  | .cell ag n t :: l, K, r, h => by
    have h : (match (match aLoad s.H ag n (s.env.getD t .undef) with
        | some v => some (v, s.H)
        | none => none : Option (AV × Heap)) with
      | some (v, _) => xresAll C0 s l fun vs => K (v :: vs)
      | none => none) = some r := h
    cases ha : aLoad s.H ag n (s.env.getD t .undef) with
    | none => rw [ha] at h; cases h
    | some v =>
      rw [ha] at h
      obtain ⟨vs, h1, h2⟩ := xresAll_ok (l := l) h
      exact ⟨_, by simp only [resAll, resOf, ha, h1], h2⟩

theorem xrunFn_ok {un : XU} {x y : XCall} {call callP : CallF} (hx : XOK x call) (hy : XOK y callP) {fu : Nat} {fn : AFn} {args : List AV} {H : Heap} {K : AV → Heap → Ans} {r : AV} (h : xrunFn C0 un x y fu fn args H K = some r) :
    ∃ v H', runFn call callP fu fn args H = some (v, H') ∧ K v H' = some r := by
  unfold xrunFn at h
  obtain ⟨e, s', h1, h2⟩ := xexec_ok hx hy un fu _ _ _ _ r h
  unfold runFn
  rw [h1]
  cases e with
  | exit i => cases h2
  | normal =>
    simp only at h2 ⊢
    cases hm : un.hm <;> simp only [hm] at h2
    · cases hr : resAll s' fn.results with
      | none => simp [hr] at h2
      | some vs => simp only [hr] at h2; exact ⟨_, _, rfl, h2⟩
    · obtain ⟨vs, h3, h4⟩ := xresAll_ok h2
      simp only [h3]; exact ⟨_, _, rfl, h4⟩
  | ret =>
    simp only at h2 ⊢
    cases hm : un.hm <;> simp only [hm] at h2
    · cases hr : resAll s' fn.results with
      | none => simp [hr] at h2
      | some vs => simp only [hr] at h2; exact ⟨_, _, rfl, h2⟩
    · obtain ⟨vs, h3, h4⟩ := xresAll_ok h2
      simp only [h3]; exact ⟨_, _, rfl, h4⟩

theorem xcallI_ok (M : Mod) (U : FuncId → XU) (pc : PC) : ∀ n, XOK (xcallI C0 M U pc n) (callI M pc n)
  | 0 => xcallP_ok M pc
  | n + 1 => by
    intro sn sh g args H K r h
    simp only [xcallI] at h
    simp only [callI]
    cases he : M.ext g with
    | some e =>
      simp only [he, xext] at h
      obtain ⟨v, h1, h2⟩ := destr_sound _ _ _ _ h
      exact ⟨v, H, by simp [extCall, h1], h2⟩
    | none =>
      simp only [he] at h
      cases hi : M.inl g <;> simp only [hi] at h
      · obtain ⟨v, H', h1, h2⟩ := xpure_ok pc _ _ _ _ _ _ _ h
        exact ⟨v, H', by simp [h1], h2⟩
      · cases hc : M.code g with
        | none => simp [hc] at h
        | some fn =>
          simp only [hc] at h
          obtain ⟨v, H', h1, h2⟩ := xrunFn_ok (xcallI_ok M U pc n) (xcallP_ok M pc) h
          exact ⟨v, H', by simp [h1], h2⟩

/-- WHAT IS TOLD FORWARDS HOLDS. -/
theorem xcall_ok {M : Mod} {U : FuncId → XU} {d : Nat} {g : FuncId} {args : List AV} {r : AV} (h : xcall C0 M U d g args = some r) : pcall M (d + 1) g args = some r := by
  unfold xcall at h
  simp only [pcall]
  cases hc : M.code g with
  | none => simp [hc] at h
  | some fn =>
    simp only [hc] at h
    obtain ⟨v, H', h1, h2⟩ := xrunFn_ok (xcallI_ok M U (pcall M d) IDEPTH) (xcallP_ok M (pcall M d)) h
    simp only [h1]
    split at h2
    · exact h2
    · exact h2
end Go.Proofs.Ytjblhppbjebagaa.AE

namespace Go.Proofs.Ytjblhppbjebagaa.AE
set_option linter.unusedVariables false
set_option linter.unusedSimpArgs false
set_option linter.constructorNameAsVariable false
open Go Go.RowKit
set_option maxRecDepth 100000
def codes : FuncId → Option AFn
  | 3 => some c3
  | 6 => some c6
  | 8 => some c8
  | 9 => some c9
  | 10 => some c10
  | 11 => some c11
  | 12 => some c12
  | 13 => some c13
  | 14 => some c14
  | 15 => some c15
  | 16 => some c16
  | 17 => some c17
  | 18 => some c18
  | 19 => some c19
  | 20 => some c20
  | 21 => some c21
  | 22 => some c22
  | 23 => some c23
  | 24 => some c24
  | 26 => some c26
  | 27 => some c27
  | 29 => some c29
  | 30 => some c30
  | 31 => some c31
  | 32 => some c32
  | 33 => some c33
  | 34 => some c34
  | 35 => some c35
  | 36 => some c36
  | 37 => some c37
  | 38 => some c38
  | 39 => some c39
  | 40 => some c40
  | 41 => some c41
  | 42 => some c42
  | 43 => some c43
  | 45 => some c45
  | 46 => some c46
  | 47 => some c47
  | 48 => some c48
  | 49 => some c49
  | 50 => some c50
  | 51 => some c51
  | 52 => some c52
  | 53 => some c53
  | 54 => some c54
  | 55 => some c55
  | 56 => some c56
  | 57 => some c57
  | 58 => some c58
  | 59 => some c59
  | 60 => some c60
  | 61 => some c61
  | 62 => some c62
  | 63 => some c63
  | 64 => some c64
  | 65 => some c65
  | 66 => some c66
  | 67 => some c67
  | 68 => some c68
  | 69 => some c69
  | 70 => some c70
  | 71 => some c71
  | 72 => some c72
  | 74 => some c74
  | 75 => some c75
  | 76 => some c76
  | 77 => some c77
  | 78 => some c78
  | 79 => some c79
  | 80 => some c80
  | 81 => some c81
  | _ => none
/-- The sum of numbers of 64 bits. -/
def add64E : List AV → Option AV
  | [.int .u64 x, .int .u64 y, .int .u64 c] => match decide (0 ≤ x) && decide (0 ≤ y) && decide (0 ≤ c) && decide (c ≤ 1) with
    | true => some (.tup [.int .u64 ((x + y + c) % 18446744073709551616), .int .u64 ((x + y + c) / 18446744073709551616)])
    | false => none
  | _ => none
theorem add64_ok : ExtOK Try.prog 73 add64E := by
  intro args v h
  unfold add64E at h
  split at h <;> (try (cases h; done))
  rename_i x y c
  split at h <;> (try (cases h; done))
  rename_i hc
  simp only [Bool.and_eq_true, decide_eq_true_eq] at hc
  obtain ⟨⟨⟨h1, h2⟩, h3⟩, h4⟩ := hc
  cases h
  refine ⟨[(.u64, x), (.u64, y), (.u64, c)], rfl, .tuple #[.int .u64 ((x + y + c) % 18446744073709551616), .int .u64 ((x + y + c) / 18446744073709551616)], fun w => ?_, fun w bad => ?_⟩
  · rw [show ([(IntKind.u64, x), (.u64, y), (.u64, c)].map fun p => Value.int p.1 p.2).toArray = #[.int .u64 x, .int .u64 y, .int .u64 c] from rfl,
      run_callFunc_extern Try.func73 (by kernel_rfl) (by kernel_rfl) (by kernel_rfl) (e := add64Entry) (by kernel_rfl), run_add64 x y c h1 h2 h3 h4]
    rfl
  · refine .tup _ [.int .u64 ((x + y + c) % 18446744073709551616), .int .u64 ((x + y + c) / 18446744073709551616)] rfl fun i c' u hc hu => ?_
    match i, hc, hu with
    | 0, hc, hu => cases hc; cases hu; exact .int _ _
    | 1, hc, hu => cases hc; cases hu; exact .int _ _
def exts : FuncId → Option (List AV → Option AV)
  | 73 => some add64E
  | _ => none
def M : Mod := { code := codes, inl := inlF, ext := exts, fu := 1000000000000000000 }
def hm27 : List (Nat × Sh) := [(0, (.agg (List.replicate 4 (.i .i64)))), (1, .any), (4, (.i .i64)), (7, (.agg (List.replicate 4 (.i .i64)))), (8, .b), (9, .b), (10, .b), (11, .any), (12, .b), (13, .b), (14, .b), (4, (.i .i64)), (15, .any), (16, (.i .i64)), (17, (.i .i64)), (19, (.i .i64)), (21, (.agg [(.i .i64), (.i .i64)])), (5, (.i .i64)), (22, (.agg (List.replicate 4 (.i .i64)))), (23, (.agg [(.i .i64), (.i .i64)])), (24, .any), (25, (.i .i64)), (26, (.i .i64)), (27, .any), (28, (.i .i64)), (29, (.i .i64)), (31, (.agg [(.i .i64), (.i .i64)])), (32, .b), (4, (.i .i64)), (33, (.i .i64)), (17, (.i .i64)), (34, .any), (36, (.agg [(.i .i64), (.i .i64)])), (37, (.i .i64)), (4, (.i .i64))]
def hm31 : List (Nat × Sh) := [(0, .any), (1, (.agg [(.i .i64), (.i .i64)])), (4, (.i .i64)), (9, .any), (10, .b), (11, .b), (12, .b), (13, (.agg [(.i .i64), (.i .i64)])), (14, .b), (15, .b), (16, .b), (4, (.i .i64)), (5, (.i .i64)), (17, .any), (18, (.i .i64)), (19, (.i .i64)), (21, (.i .i64)), (6, (.i .i64)), (23, .any), (24, (.i .i64)), (25, (.tup [(.agg [(.i .i64), (.i .i64)]), (.agg [(.i .i64), (.i .i64)])])), (22, (.tup [(.agg [(.i .i64), (.i .i64)]), (.agg [(.i .i64), (.i .i64)])])), (26, (.agg [(.i .i64), (.i .i64)])), (27, (.agg [(.i .i64), (.i .i64)])), (28, (.agg [(.i .i64), (.i .i64)])), (29, (.agg [(.i .i64), (.i .i64)])), (30, (.agg [(.i .i64), (.i .i64)])), (31, .b), (4, (.i .i64)), (33, (.i .i64)), (35, (.i .i64)), (36, .b), (37, (.agg [(.i .i64), (.i .i64)])), (38, (.agg [(.i .i64), (.i .i64)])), (40, (.i .i64)), (42, (.i .i64)), (43, .b), (44, .b), (46, (.i .i64)), (48, (.i .i64)), (49, .b), (50, .b), (51, .b), (52, (.agg [(.i .i64), (.i .i64)])), (53, (.agg [(.i .i64), (.i .i64)])), (54, (.agg [(.i .i64), (.i .i64)])), (55, (.i .i64)), (56, .b), (57, .b), (58, (.i .i64)), (59, (.i .i64)), (5, (.i .i64)), (60, (.i .i64)), (19, (.i .i64)), (61, (.i .i64)), (4, (.i .i64))]
def hm45 : List (Nat × Sh) := [(0, .any), (2, .b), (11, .any), (12, (.i .i64)), (3, (.i .i64)), (13, (.i .i64)), (14, .b), (15, .b), (16, (.i .i64)), (17, .b), (18, .b), (2, .b), (4, (.i .i64)), (19, (.i .i64)), (20, (.i .i64)), (21, .b), (24, .any), (25, (.i .i64)), (27, (.agg [(.i .i64), (.i .i64)])), (28, .b), (29, .b), (2, .b), (22, (.i .i64)), (23, (.i .i64)), (4, (.i .i64)), (5, (.i .i64)), (30, (.i .i64)), (31, (.i .i64)), (32, .b), (35, (.i .i64)), (36, (.i .i64)), (6, (.i .i64)), (37, (.i .i64)), (38, (.i .i64)), (39, .b), (42, .any), (43, (.i .i64)), (45, (.agg [(.i .i64), (.i .i64)])), (46, .any), (47, (.i .i64)), (48, (.agg [(.i .i64), (.i .i64)])), (49, .any), (50, (.i .i64)), (52, (.agg [(.i .i64), (.i .i64)])), (53, .any), (54, (.i .i64)), (55, (.agg [(.i .i64), (.i .i64)])), (57, (.agg [(.i .i64), (.i .i64)])), (58, (.agg [(.i .i64), (.i .i64)])), (59, .b), (56, .b), (2, .b), (61, (.i .i64)), (62, (.i .i64)), (63, (.i .i64)), (64, .b), (60, .b), (65, (.agg [(.i .i64), (.i .i64)])), (66, (.agg [(.i .i64), (.i .i64)])), (67, (.agg [(.i .i64), (.i .i64)])), (68, .b), (69, .b), (70, (.agg [(.i .i64), (.i .i64)])), (71, (.agg [(.i .i64), (.i .i64)])), (72, (.agg [(.i .i64), (.i .i64)])), (73, .b), (74, .b), (2, .b), (76, (.i .i64)), (77, .b), (78, .b), (79, (.i .i64)), (80, (.i .i64)), (81, (.i .i64)), (82, .b), (83, .b), (75, .b), (84, (.agg [(.i .i64), (.i .i64)])), (85, (.agg [(.i .i64), (.i .i64)])), (86, (.agg [(.i .i64), (.i .i64)])), (87, .b), (88, .b), (89, (.agg [(.i .i64), (.i .i64)])), (90, (.agg [(.i .i64), (.i .i64)])), (91, (.agg [(.i .i64), (.i .i64)])), (92, .b), (93, .b), (2, .b), (95, (.agg [(.i .i64), (.i .i64)])), (96, (.agg [(.i .i64), (.i .i64)])), (97, (.agg [(.i .i64), (.i .i64)])), (98, (.agg [(.i .i64), (.i .i64)])), (99, .b), (94, .b), (2, .b), (40, (.i .i64)), (41, (.i .i64)), (6, (.i .i64)), (33, (.i .i64)), (34, (.i .i64)), (5, (.i .i64)), (2, .b)]
def hm69 : List (Nat × Sh) := [(0, (.i .i64)), (1, (.i .i64)), (9, (.i .i64)), (10, (.agg [(.i .i64), (.i .u64)])), (11, (.agg [(.i .i64), (.i .u64)])), (12, (.i .i64)), (13, (.i .u64)), (7, (.i .u64)), (8, (.i .i64)), (14, (.i .i64)), (15, .b), (18, (.i .u64)), (19, (.i .i64)), (20, (.i .u64)), (21, (.i .u64)), (22, .b), (23, (.agg [(.i .i64), (.i .u64)])), (24, (.agg [(.i .i64), (.i .u64)])), (25, (.agg [(.i .i64), (.i .u64)])), (26, (.agg [(.i .i64), (.i .u64)])), (27, (.agg [(.i .i64), (.i .u64)])), (28, (.agg [(.i .i64), (.i .u64)])), (16, (.i .i64)), (17, (.i .i64)), (8, (.i .i64)), (29, (.i .i64)), (30, .b), (31, (.agg [(.i .i64), (.i .u64)])), (32, (.agg [(.i .i64), (.i .u64)])), (33, (.agg [(.i .i64), (.i .u64)])), (34, (.agg [(.i .i64), (.i .u64)])), (35, (.agg [(.i .i64), (.i .u64)]))]
def hm77 : List (Nat × Sh) := [(0, (.agg [(.i .i64), (.i .u64)])), (1, (.agg [(.i .i64), (.i .u64)])), (11, (.agg [(.i .i64), (.i .u64)])), (12, .any), (13, (.agg [(.i .i64), (.i .u64)])), (14, .any), (5, .any), (6, .any), (7, .any), (8, (.i .i64)), (9, (.i .i64)), (15, (.i .i64)), (16, .b), (19, .any), (20, (.i .i64)), (22, (.i .i64)), (23, .any), (24, (.i .i64)), (26, (.i .i64)), (27, (.i .i64)), (28, (.i .i64)), (29, (.i .i64)), (10, (.i .i64)), (30, .any), (31, (.i .i64)), (32, (.i .i64)), (33, .any), (34, .any), (7, .any), (35, (.i .i64)), (36, (.i .i64)), (8, (.i .i64)), (17, (.i .i64)), (18, (.i .i64)), (9, (.i .i64)), (37, .any), (38, (.agg [(.i .i64), (.i .u64)]))]
def hm80 : List (Nat × Sh) := [(0, (.agg [(.i .i64), (.i .u64)])), (2, .any), (3, .any), (4, (.i .i64)), (6, (.i .i64)), (7, .b), (10, .any), (12, (.i .u64)), (13, (.i .i64)), (14, (.i .u64)), (15, (.i .u64)), (16, (.i .i64)), (17, .any), (18, .any), (3, .any), (8, (.i .i64)), (9, (.i .i64)), (4, (.i .i64)), (5, (.i .i64)), (19, (.i .i64)), (20, .b), (23, .any), (25, (.i .i64)), (26, (.i .u64)), (27, (.i .i64)), (28, (.i .u64)), (29, (.i .u64)), (30, (.i .i64)), (31, .any), (32, .any), (3, .any), (21, (.i .i64)), (22, (.i .i64)), (5, (.i .i64)), (33, .any), (2, .any)]
def hm81 : List (Nat × Sh) := [(0, .any), (6, (.agg [(.i .i64), (.i .u64)])), (4, (.i .u64)), (5, (.i .i64)), (7, (.i .i64)), (8, .b), (11, .any), (12, (.i .i64)), (14, (.i .i64)), (15, .b), (17, (.i .u64)), (18, (.i .i64)), (19, (.i .u64)), (20, (.i .u64)), (22, .any), (23, (.i .i64)), (24, (.i .i64)), (26, (.i .i64)), (27, .b), (28, (.i .u64)), (29, (.i .i64)), (30, (.i .u64)), (31, (.i .u64)), (4, (.i .u64)), (9, (.i .i64)), (10, (.i .i64)), (5, (.i .i64)), (32, (.i .u64)), (33, (.i .i64)), (35, (.agg [(.i .i64), (.i .u64)]))]
def unr : FuncId → XU
  | 3 => ⟨false, false, h3, false⟩
  | 6 => ⟨false, false, h6, false⟩
  | 8 => ⟨false, false, h8, true⟩
  | 9 => ⟨false, false, h9, false⟩
  | 10 => ⟨false, false, h10, false⟩
  | 11 => ⟨false, false, h11, false⟩
  | 12 => ⟨false, false, h12, false⟩
  | 13 => ⟨false, false, h13, false⟩
  | 14 => ⟨false, false, h14, false⟩
  | 15 => ⟨false, false, h15, false⟩
  | 16 => ⟨false, false, h16, false⟩
  | 17 => ⟨false, false, h17, false⟩
  | 18 => ⟨false, false, h18, false⟩
  | 19 => ⟨false, false, h19, false⟩
  | 20 => ⟨false, false, h20, false⟩
  | 21 => ⟨false, false, h21, false⟩
  | 22 => ⟨false, false, h22, false⟩
  | 23 => ⟨false, false, h23, false⟩
  | 24 => ⟨false, false, h24, false⟩
  | 26 => ⟨false, false, h26, false⟩
  | 27 => ⟨false, true, hm27, false⟩
  | 29 => ⟨false, false, h29, false⟩
  | 30 => ⟨false, false, h30, false⟩
  | 31 => ⟨false, true, hm31, false⟩
  | 32 => ⟨false, false, h32, false⟩
  | 33 => ⟨false, false, h33, false⟩
  | 34 => ⟨false, false, h34, false⟩
  | 35 => ⟨false, false, h35, false⟩
  | 36 => ⟨false, false, h36, false⟩
  | 37 => ⟨false, false, h37, false⟩
  | 38 => ⟨false, false, h38, false⟩
  | 39 => ⟨false, false, h39, false⟩
  | 40 => ⟨false, false, h40, false⟩
  | 41 => ⟨false, false, h41, false⟩
  | 42 => ⟨false, false, h42, false⟩
  | 43 => ⟨false, false, h43, false⟩
  | 45 => ⟨false, true, hm45, false⟩
  | 46 => ⟨false, false, h46, false⟩
  | 47 => ⟨false, false, h47, false⟩
  | 48 => ⟨false, false, h48, false⟩
  | 49 => ⟨false, false, h49, false⟩
  | 50 => ⟨false, false, h50, false⟩
  | 51 => ⟨false, false, h51, false⟩
  | 52 => ⟨false, false, h52, false⟩
  | 53 => ⟨false, false, h53, false⟩
  | 54 => ⟨false, false, h54, false⟩
  | 55 => ⟨false, false, h55, false⟩
  | 56 => ⟨false, false, h56, false⟩
  | 57 => ⟨false, false, h57, false⟩
  | 58 => ⟨false, false, h58, false⟩
  | 59 => ⟨false, false, h59, false⟩
  | 60 => ⟨false, false, h60, false⟩
  | 61 => ⟨false, false, h61, false⟩
  | 62 => ⟨false, false, h62, false⟩
  | 63 => ⟨false, false, h63, false⟩
  | 64 => ⟨false, false, h64, false⟩
  | 65 => ⟨false, false, h65, false⟩
  | 66 => ⟨false, false, h66, false⟩
  | 67 => ⟨false, false, h67, false⟩
  | 68 => ⟨false, false, h68, false⟩
  | 69 => ⟨false, true, hm69, false⟩
  | 70 => ⟨false, false, h70, false⟩
  | 71 => ⟨false, false, h71, false⟩
  | 72 => ⟨false, false, h72, false⟩
  | 74 => ⟨false, false, h74, false⟩
  | 75 => ⟨false, false, h75, false⟩
  | 76 => ⟨false, false, h76, false⟩
  | 77 => ⟨false, true, hm77, false⟩
  | 78 => ⟨false, false, h78, false⟩
  | 79 => ⟨false, false, h79, false⟩
  | 80 => ⟨false, true, hm80, false⟩
  | 81 => ⟨false, true, hm81, false⟩
  | _ => ⟨false, false, [], false⟩
theorem modOK : ModOK Try.prog M := by
  constructor
  · intro g fn h
    change codes g = some fn at h
    unfold codes at h
    split at h <;> (try (cases h; done))
    · cases h; exact c3_ok
    · cases h; exact c6_ok
    · cases h; exact c8_ok
    · cases h; exact c9_ok
    · cases h; exact c10_ok
    · cases h; exact c11_ok
    · cases h; exact c12_ok
    · cases h; exact c13_ok
    · cases h; exact c14_ok
    · cases h; exact c15_ok
    · cases h; exact c16_ok
    · cases h; exact c17_ok
    · cases h; exact c18_ok
    · cases h; exact c19_ok
    · cases h; exact c20_ok
    · cases h; exact c21_ok
    · cases h; exact c22_ok
    · cases h; exact c23_ok
    · cases h; exact c24_ok
    · cases h; exact c26_ok
    · cases h; exact c27_ok
    · cases h; exact c29_ok
    · cases h; exact c30_ok
    · cases h; exact c31_ok
    · cases h; exact c32_ok
    · cases h; exact c33_ok
    · cases h; exact c34_ok
    · cases h; exact c35_ok
    · cases h; exact c36_ok
    · cases h; exact c37_ok
    · cases h; exact c38_ok
    · cases h; exact c39_ok
    · cases h; exact c40_ok
    · cases h; exact c41_ok
    · cases h; exact c42_ok
    · cases h; exact c43_ok
    · cases h; exact c45_ok
    · cases h; exact c46_ok
    · cases h; exact c47_ok
    · cases h; exact c48_ok
    · cases h; exact c49_ok
    · cases h; exact c50_ok
    · cases h; exact c51_ok
    · cases h; exact c52_ok
    · cases h; exact c53_ok
    · cases h; exact c54_ok
    · cases h; exact c55_ok
    · cases h; exact c56_ok
    · cases h; exact c57_ok
    · cases h; exact c58_ok
    · cases h; exact c59_ok
    · cases h; exact c60_ok
    · cases h; exact c61_ok
    · cases h; exact c62_ok
    · cases h; exact c63_ok
    · cases h; exact c64_ok
    · cases h; exact c65_ok
    · cases h; exact c66_ok
    · cases h; exact c67_ok
    · cases h; exact c68_ok
    · cases h; exact c69_ok
    · cases h; exact c70_ok
    · cases h; exact c71_ok
    · cases h; exact c72_ok
    · cases h; exact c74_ok
    · cases h; exact c75_ok
    · cases h; exact c76_ok
    · cases h; exact c77_ok
    · cases h; exact c78_ok
    · cases h; exact c79_ok
    · cases h; exact c80_ok
    · cases h; exact c81_ok
  · intro g e h
    change exts g = some e at h
    unfold exts at h
    split at h <;> (try (cases h; done))
    · cases h; exact add64_ok
end Go.Proofs.Ytjblhppbjebagaa.AE

namespace Go.Proofs.Ytjblhppbjebagaa.AE
set_option linter.unusedVariables false
set_option linter.unusedSimpArgs false
set_option linter.constructorNameAsVariable false
open Go

theorem C0_int (k : IntKind) (n : Int) (K : Int → Ans) : C0.int k (some (.int k n)) K = K n := by simp [C0, isInt]
theorem C0_bool (b : Bool) (K : Bool → Ans) : C0.bool (some (.bool b)) K = K b := by simp [C0, isBool]
theorem C0_str (b : List UInt8) (K : List UInt8 → Ans) : C0.str (some (.str b)) K = K b := by simp [C0, isStr]
theorem C0_lst (l : List AV) (K : List AV → Ans) (Z : Bool → Ans) : C0.lst (some (.lst l)) K Z = K l := rfl
theorem C0_lstz (b : Bool) (K : List AV → Ans) (Z : Bool → Ans) : C0.lst (some (.zsl b)) K Z = Z b := rfl
theorem C0_agg (n : Nat) (l : List AV) (h : l.length = n) (K : List AV → Ans) : C0.agg n (some (.agg l)) K = K l := by simp [C0, isAgg, h]
theorem C0_tup (n : Nat) (l : List AV) (h : l.length = n) (K : List AV → Ans) : C0.tup n (some (.tup l)) K = K l := by simp [C0, isTup, h]
theorem C0_agg2 (a b : AV) (K : List AV → Ans) : C0.agg 2 (some (.agg [a, b])) K = K [a, b] := C0_agg 2 _ rfl K
theorem C0_tup2 (a b : AV) (K : List AV → Ans) : C0.tup 2 (some (.tup [a, b])) K = K [a, b] := C0_tup 2 _ rfl K
theorem C0_any (v : AV) (K : AV → Ans) : C0.any (some v) K = K v := by simp [C0]
theorem C0_same (v : AV) (K : Ans) : C0.same (some v) v K = K := by simp [C0]
theorem C0_sameH (H : Heap) (K : Ans) : C0.sameH H H K = K := by simp [C0]
theorem cnd_t (a b : Ans) : cnd true a b = a := rfl
theorem cnd_f (a b : Ans) : cnd false a b = b := rfl
theorem pl_len {t : Bool} {a b : Ans} (h : t = true) : cnd t a b = a := by subst h; rfl
theorem pl_f {t : Bool} {a b : Ans} (h : t = false) : cnd t a b = b := by subst h; rfl
theorem pl_same {o : Option AV} {v : AV} {K : Ans} (h : o = some v) : C0.same o v K = K := by subst h; simp [C0]
theorem pl_sameH {H : Heap} {K : Ans} : C0.sameH H H K = K := by simp [C0]
theorem pl_int {k : IntKind} {o : Option AV} {n : Int} {K : Int → Ans} (h : o = some (.int k n)) : C0.int k o K = K n := by subst h; simp [C0, isInt]
theorem pl_bool {o : Option AV} {n : Bool} {K : Bool → Ans} (h : o = some (.bool n)) : C0.bool o K = K n := by subst h; simp [C0, isBool]
theorem pl_str {o : Option AV} {n : List UInt8} {K : List UInt8 → Ans} (h : o = some (.str n)) : C0.str o K = K n := by subst h; simp [C0, isStr]
theorem pl_any {o : Option AV} {v : AV} {K : AV → Ans} (h : o = some v) : C0.any o K = K v := by subst h; simp [C0]
theorem pl_agg {n : Nat} {o : Option AV} {l : List AV} {K : List AV → Ans} (h : o = some (.agg l)) (h2 : l.length = n) : C0.agg n o K = K l := by subst h; simp [C0, isAgg, h2]
theorem pl_tup {n : Nat} {o : Option AV} {l : List AV} {K : List AV → Ans} (h : o = some (.tup l)) (h2 : l.length = n) : C0.tup n o K = K l := by subst h; simp [C0, isTup, h2]
theorem pl_lst {o : Option AV} {l : List AV} {K : List AV → Ans} {Z : Bool → Ans} (h : o = some (.lst l)) : C0.lst o K Z = K l := by subst h; rfl
/-- What comes behind a round; what comes behind a loop. -/
def kIter (R : St → (Ex → St → Ans) → Ans) (n : Nat) (K : Ex → St → Ans) : Ex → St → Ans := fun e s' => match e with
  | .normal => xiter R n s' K
  | .exit i => K (.exit i) s'
  | .ret => K .ret s'
def kOut (ids : List Nat) (ks : List (St → Ans)) (kr : St → Ans) : Ex → St → Ans := fun e s' => match e with
  | .ret => kr s'
  | .exit i => xgo i ids ks s'
  | .normal => none
theorem kIter_n (R : St → (Ex → St → Ans) → Ans) (n : Nat) (K : Ex → St → Ans) (s : St) : kIter R n K .normal s = xiter R n s K := rfl
theorem kIter_x (R : St → (Ex → St → Ans) → Ans) (n : Nat) (K : Ex → St → Ans) (i : Nat) (s : St) : kIter R n K (.exit i) s = K (.exit i) s := rfl
theorem kIter_r (R : St → (Ex → St → Ans) → Ans) (n : Nat) (K : Ex → St → Ans) (s : St) : kIter R n K .ret s = K .ret s := rfl
theorem kOut_x (ids : List Nat) (ks : List (St → Ans)) (kr : St → Ans) (i : Nat) (s : St) : kOut ids ks kr (.exit i) s = xgo i ids ks s := rfl
theorem kOut_r (ids : List Nat) (ks : List (St → Ans)) (kr : St → Ans) (s : St) : kOut ids ks kr .ret s = kr s := rfl
theorem it_ret (R : St → (Ex → St → Ans) → Ans) (n : Nat) (s : St) (ids : List Nat) (ks : List (St → Ans)) (kr : St → Ans) : C0.iter R n s ids ks kr = xiter R n s (kOut ids ks kr) := rfl
theorem xiter_s (R : St → (Ex → St → Ans) → Ans) (n : Nat) (s : St) (K : Ex → St → Ans) : xiter R (n + 1) s K = R s (kIter R n K) := rfl
theorem xgo_hit (i : Nat) (ids : List Nat) (k : St → Ans) (ks : List (St → Ans)) (s : St) : xgo i (i :: ids) (k :: ks) s = k s := by simp [xgo]
theorem xgo_miss {i j : Nat} (ids : List Nat) (k : St → Ans) (ks : List (St → Ans)) (s : St) (h : (i == j) = false) : xgo i (j :: ids) (k :: ks) s = xgo i ids ks s := by
  simp only [xgo]; rw [if_neg]; intro he; subst he; simp at h
theorem C0_hop (H : Heap) (io : IOp) (K : AV → Heap → Ans) : C0.hop H io K = match aop noCall (evO []) H io with
    | some (v, H') => K v H'
    | none => none := rfl
theorem hop_eq {H H' : Heap} {io : IOp} {v : AV} {K : AV → Heap → Ans} (h : aop noCall (evO []) H io = some (v, H')) : C0.hop H io K = K v H' := by rw [C0_hop, h]
theorem C0_fin (H : Heap) (v : AV) : C0.fin H v = some (snap 12 H v) := rfl
theorem C0_disj {a b : TV} {K : Ans} (h : disjB a b = true) : C0.disj a b K = K := by simp only [C0, h]
theorem snp_free {H : Heap} {args : List AV} {K : List AV → Bool → Ans} (h : args.all (noId DEPTH) = true) : C0.snp H args K = K args true := by simp [C0, h]
theorem snp_id {H : Heap} {args : List AV} {K : List AV → Bool → Ans} (h : args.all (noId DEPTH) = false) : C0.snp H args K = K (args.map (snap DEPTH H)) false := by simp [C0, h]
theorem at0 (a : AV) (l : List AV) : (a :: l)[0]? = some a := rfl
theorem at1 (a b : AV) (l : List AV) : (a :: b :: l)[1]? = some b := rfl
theorem at2 (a b c : AV) (l : List AV) : (a :: b :: c :: l)[2]? = some c := rfl
theorem at3 (a b c d : AV) (l : List AV) : (a :: b :: c :: d :: l)[3]? = some d := rfl
theorem at4 (a b c d e : AV) (l : List AV) : (a :: b :: c :: d :: e :: l)[4]? = some e := rfl
theorem at5 (a b c d e f : AV) (l : List AV) : (a :: b :: c :: d :: e :: f :: l)[5]? = some f := rfl
theorem at6 (a b c d e f g : AV) (l : List AV) : (a :: b :: c :: d :: e :: f :: g :: l)[6]? = some g := rfl
theorem at7 (a b c d e f g h : AV) (l : List AV) : (a :: b :: c :: d :: e :: f :: g :: h :: l)[7]? = some h := rfl
/-- From what is told forwards. -/
theorem told {d g : Nat} {args : List AV} {r : AV} {t : Ans} (h : xcall C0 M unr d g args = t) (h2 : t = some r) : pcall M (d + 1) g args = some r := xcall_ok (h.trans h2)
theorem up {k d : Nat} {p : Nat → Prop} (h : ∀ d, p (d + k)) (hd : k ≤ d) : p d := by
  have := h (d - k)
  rwa [Nat.sub_add_cancel hd] at this
end Go.Proofs.Ytjblhppbjebagaa.AE

namespace Go.Proofs.Ytjblhppbjebagaa.AE
set_option linter.unusedVariables false
set_option linter.unusedSimpArgs false
set_option linter.constructorNameAsVariable false
open Go
set_option maxRecDepth 100000
/-- apogee/apogeeref10.Right -/
theorem r26 (C : Cb) (d : Nat) (a0 a1 : Int) : xcall C M unr d 26 [(.agg [(.int .i64 a0), (.int .i64 a1)])] =
  cnd (decide (a0 ≥ (-1099511627776)))
   (cnd (decide (a0 ≤ 1099511627776))
   (cnd (decide (a1 ≥ (-1099511627776)))
   (some (.bool (decide (a1 ≤ 1099511627776))))
   (some (.bool false)))
   (some (.bool false)))
   (some (.bool false)) := by kernel_rfl
/-- apogee/point.Move -/
theorem r32 (C : Cb) (d : Nat) (a0 a1 a2 a3 : Int) : xcall C M unr d 32 [(.agg [(.int .i64 a0), (.int .i64 a1)]), (.int .i64 a2), (.int .i64 a3)] =
  C.tup 2 (pcall M d 48 [(.int .i64 a0), (.int .i64 a2)]) fun l0 =>
  C.int .i64 l0[0]? fun x1 =>
  C.bool l0[1]? fun b2 =>
  C.tup 2 (pcall M d 48 [(.int .i64 a1), (.int .i64 a3)]) fun l3 =>
  C.int .i64 l3[0]? fun x4 =>
  C.bool l3[1]? fun b5 =>
  cnd (!b2)
   (some (.tup [(.agg [(.int .i64 0), (.int .i64 0)]), (.bool false)]))
   (cnd (!b5)
   (some (.tup [(.agg [(.int .i64 0), (.int .i64 0)]), (.bool false)]))
   (C.bool (pcall M d 49 [(.lst [(.agg [(.int .i64 a0), (.int .i64 a1)]), (.agg [(.int .i64 x1), (.int .i64 x4)])])]) fun b6 =>
   cnd (!b6)
   (some (.tup [(.agg [(.int .i64 0), (.int .i64 0)]), (.bool false)]))
   (some (.tup [(.agg [(.int .i64 x1), (.int .i64 x4)]), (.bool true)])))) := by kernel_rfl
/-- apogee/apogeelaw12.of -/
theorem r34 (C : Cb) (d : Nat) (a0 a1 a2 a3 : Int) : xcall C M unr d 34 [(.int .i64 a0), (.int .i64 a1), (.int .i64 a2), (.int .i64 a3)] =
  some (.agg [(.int .i64 a0), (.int .i64 a1), (.int .i64 a2), (.int .i64 a3)]) := by kernel_rfl
/-- apogee/point.Right -/
theorem r35 (C : Cb) (d : Nat) (a0 a1 : Int) : xcall C M unr d 35 [(.agg [(.int .i64 a0), (.int .i64 a1)])] =
  C.bool (pcall M d 50 [(.int .i64 a0)]) fun b0 =>
  cnd b0
   (C.bool (pcall M d 50 [(.int .i64 a1)]) fun b1 =>
   some (.bool b1))
   (some (.bool false)) := by kernel_rfl
/-- apogee/fix.Clamp -/
theorem r36 (C : Cb) (d : Nat) (a0 a1 a2 : Int) : xcall C M unr d 36 [(.int .i64 a0), (.int .i64 a1), (.int .i64 a2)] =
  cnd (decide (a0 < a1))
   (some (.int .i64 a1))
   (cnd (decide (a0 > a2))
   (some (.int .i64 a2))
   (some (.int .i64 a0))) := by kernel_rfl
/-- apogee/point.Turn -/
theorem r39 (C : Cb) (d : Nat) (a0 a1 a2 a3 a4 a5 : Int) : xcall C M unr d 39 [(.agg [(.int .i64 a0), (.int .i64 a1)]), (.agg [(.int .i64 a2), (.int .i64 a3)]), (.agg [(.int .i64 a4), (.int .i64 a5)])] =
  C.bool (pcall M d 49 [(.lst [(.agg [(.int .i64 a0), (.int .i64 a1)]), (.agg [(.int .i64 a2), (.int .i64 a3)]), (.agg [(.int .i64 a4), (.int .i64 a5)])])]) fun b0 =>
  cnd (!b0)
   (some (.int .i64 0))
   (C.agg 2 (pcall M d 51 [(.int .i64 (IntKind.wrap .i64 (a2 - a0))), (.int .i64 (IntKind.wrap .i64 (a5 - a1)))]) fun l1 =>
   C.int .i64 l1[0]? fun x2 =>
   C.int .u64 l1[1]? fun x3 =>
   C.agg 2 (pcall M d 51 [(.int .i64 (IntKind.wrap .i64 (a3 - a1))), (.int .i64 (IntKind.wrap .i64 (a4 - a0)))]) fun l4 =>
   C.int .i64 l4[0]? fun x5 =>
   C.int .u64 l4[1]? fun x6 =>
   C.int .i64 (pcall M d 52 [(.agg [(.int .i64 x2), (.int .u64 x3)]), (.agg [(.int .i64 x5), (.int .u64 x6)])]) fun x7 =>
   some (.int .i64 x7)) := by kernel_rfl
/-- slices.ContainsFunc[[]apogee/api.Point,apogee/api.Point] -/
theorem r40f63 (C : Cb) (d : Nat) (a0 : List AV) (a1 : AV) : xcall C M unr d 40 [(.lst a0), (.fn 63 [] [])] =
  C.int .i64 (pcall M d 53 [(.lst a0), (.fn 63 [] [])]) fun x0 =>
  some (.bool (decide (x0 ≥ 0))) := by kernel_rfl
/-- apogee/point.On -/
theorem r47 (C : Cb) (d : Nat) (a0 a1 a2 a3 a4 a5 : Int) : xcall C M unr d 47 [(.agg [(.int .i64 a0), (.int .i64 a1)]), (.agg [(.int .i64 a2), (.int .i64 a3)]), (.agg [(.int .i64 a4), (.int .i64 a5)])] =
  C.bool (pcall M d 49 [(.lst [(.agg [(.int .i64 a0), (.int .i64 a1)]), (.agg [(.int .i64 a2), (.int .i64 a3)]), (.agg [(.int .i64 a4), (.int .i64 a5)])])]) fun b0 =>
  cnd b0
   (C.int .i64 (pcall M d 39 [(.agg [(.int .i64 a2), (.int .i64 a3)]), (.agg [(.int .i64 a4), (.int .i64 a5)]), (.agg [(.int .i64 a0), (.int .i64 a1)])]) fun x1 =>
   cnd (x1 == 0)
   (C.bool (pcall M d 59 [(.int .i64 a0), (.int .i64 a2), (.int .i64 a4)]) fun b2 =>
   cnd b2
   (C.bool (pcall M d 59 [(.int .i64 a1), (.int .i64 a3), (.int .i64 a5)]) fun b3 =>
   some (.bool b3))
   (some (.bool false)))
   (some (.bool false)))
   (some (.bool false)) := by kernel_rfl
/-- apogee/fix.Add -/
theorem r48 (C : Cb) (d : Nat) (a0 a1 : Int) : xcall C M unr d 48 [(.int .i64 a0), (.int .i64 a1)] =
  C.agg 2 (pcall M d 61 [(.int .i64 a0)]) fun l0 =>
  C.int .i64 l0[0]? fun x1 =>
  C.int .u64 l0[1]? fun x2 =>
  C.agg 2 (pcall M d 61 [(.int .i64 a1)]) fun l3 =>
  C.int .i64 l3[0]? fun x4 =>
  C.int .u64 l3[1]? fun x5 =>
  C.tup 2 (pcall M d 62 [(.agg [(.int .i64 x1), (.int .u64 x2)]), (.agg [(.int .i64 x4), (.int .u64 x5)])]) fun l6 =>
  C.agg 2 l6[0]? fun l7 =>
  C.int .i64 l7[0]? fun x8 =>
  C.int .u64 l7[1]? fun x9 =>
  C.bool l6[1]? fun b10 =>
  C.tup 2 (pcall M d 60 [(.agg [(.int .i64 x8), (.int .u64 x9)]), (.bool b10)]) fun l11 =>
  C.int .i64 l11[0]? fun x12 =>
  C.bool l11[1]? fun b13 =>
  some (.tup [(.int .i64 x12), (.bool b13)]) := by kernel_rfl
/-- apogee/point.right -/
theorem r49 (C : Cb) (d : Nat) (a0 : List AV) : xcall C M unr d 49 [(.lst a0)] =
  C.bool (pcall M d 40 [(.lst a0), (.fn 63 [] [])]) fun b0 =>
  some (.bool (!b0)) := by kernel_rfl
/-- apogee/point.within -/
theorem r50 (C : Cb) (d : Nat) (a0 : Int) : xcall C M unr d 50 [(.int .i64 a0)] =
  cnd (decide (a0 ≥ (-1099511627776)))
   (some (.bool (decide (a0 ≤ 1099511627776))))
   (some (.bool false)) := by kernel_rfl
/-- apogee/wide.Mul -/
theorem r51 (C : Cb) (d : Nat) (a0 a1 : Int) : xcall C M unr d 51 [(.int .i64 a0), (.int .i64 a1)] =
  C.tup 2 (pcall M d 64 [(.int .u64 (IntKind.wrap .u64 a0)), (.int .u64 (IntKind.wrap .u64 a1))]) fun l0 =>
  C.int .u64 l0[0]? fun x1 =>
  C.int .u64 l0[1]? fun x2 =>
  cnd (decide (a0 < 0))
   (cnd (decide (a1 < 0))
   (some (.agg [(.int .i64 (IntKind.wrap .i64 (IntKind.wrap .u64 ((IntKind.wrap .u64 (x1 - (IntKind.wrap .u64 a1))) - (IntKind.wrap .u64 a0))))), (.int .u64 x2)]))
   (some (.agg [(.int .i64 (IntKind.wrap .i64 (IntKind.wrap .u64 (x1 - (IntKind.wrap .u64 a1))))), (.int .u64 x2)])))
   (cnd (decide (a1 < 0))
   (some (.agg [(.int .i64 (IntKind.wrap .i64 (IntKind.wrap .u64 (x1 - (IntKind.wrap .u64 a0))))), (.int .u64 x2)]))
   (some (.agg [(.int .i64 (IntKind.wrap .i64 x1)), (.int .u64 x2)]))) := by kernel_rfl
/-- (apogee/wide.Wide).Cmp -/
theorem r52 (C : Cb) (d : Nat) (a0 a1 a2 a3 : Int) : xcall C M unr d 52 [(.agg [(.int .i64 a0), (.int .u64 a1)]), (.agg [(.int .i64 a2), (.int .u64 a3)])] =
  C.int .i64 (pcall M d 66 [(.int .i64 a0), (.int .i64 a2)]) fun x0 =>
  C.int .i64 (pcall M d 67 [(.int .u64 a1), (.int .u64 a3)]) fun x1 =>
  C.int .i64 (pcall M d 65 [(.lst [(.int .i64 x0), (.int .i64 x1)])]) fun x2 =>
  some (.int .i64 x2) := by kernel_rfl
def r53f63R0 (C : Cb) (d : Nat) (a0 : List AV) : St → (Ex → St → Ans) → Ans := fun s0 k1 =>
  cnd ((List.length (St.env s0)) == 19)
   (C.same (St.env s0)[0]? (.lst a0) <|
   C.same (St.env s0)[1]? (.fn 63 [] []) <|
   C.same (St.env s0)[2]? (.tup []) <|
   C.same (St.env s0)[3]? (.tup []) <|
   C.int .i64 (St.env s0)[4]? fun x3 =>
   C.any (St.env s0)[5]? fun v4 =>
   C.same (St.env s0)[6]? (.lst a0) <|
   C.same (St.env s0)[7]? (.int .i64 (((List.length a0) : Nat) : Int)) <|
   C.int .i64 (St.env s0)[8]? fun x5 =>
   C.any (St.env s0)[9]? fun v6 =>
   C.any (St.env s0)[10]? fun v7 =>
   C.any (St.env s0)[11]? fun v8 =>
   C.any (St.env s0)[12]? fun v9 =>
   C.any (St.env s0)[13]? fun v10 =>
   C.any (St.env s0)[14]? fun v11 =>
   C.any (St.env s0)[15]? fun v12 =>
   C.any (St.env s0)[16]? fun v13 =>
   C.any (St.env s0)[17]? fun v14 =>
   C.any (St.env s0)[18]? fun v15 =>
   C.sameH (St.H s0) [] <|
   cnd (decide (x5 < (((List.length a0) : Nat) : Int)))
   (cnd (decide (0 ≤ x5))
   (C.agg 2 a0[(Int.toNat x5)]? fun l16 =>
   C.int .i64 l16[0]? fun x17 =>
   C.int .i64 l16[1]? fun x18 =>
   C.bool (pcall M d 63 [(.agg [(.int .i64 x17), (.int .i64 x18)])]) fun b19 =>
   cnd b19
   (k1 .ret ⟨[(.lst a0), (.fn 63 [] []), (.tup []), (.tup []), (.int .i64 x5), (.int .i64 x5), (.lst a0), (.int .i64 (((List.length a0) : Nat) : Int)), (.int .i64 x5), (.bool true), (.int .i64 x5), (.fn 63 [] []), (.lst a0), (.int .i64 x5), (.fptr (.agg [(.int .i64 x17), (.int .i64 x18)]) 0), (.agg [(.int .i64 x17), (.int .i64 x18)]), (.bool true), (.int .i64 x5), v15], []⟩)
   (k1 .normal ⟨[(.lst a0), (.fn 63 [] []), (.tup []), (.tup []), (.int .i64 x3), (.int .i64 x5), (.lst a0), (.int .i64 (((List.length a0) : Nat) : Int)), (.int .i64 (IntKind.wrap .i64 (x5 + 1))), (.bool true), (.int .i64 x5), (.fn 63 [] []), (.lst a0), (.int .i64 x5), (.fptr (.agg [(.int .i64 x17), (.int .i64 x18)]) 0), (.agg [(.int .i64 x17), (.int .i64 x18)]), (.bool false), v14, (.int .i64 (IntKind.wrap .i64 (x5 + 1)))], []⟩))
   (none))
   (k1 (.exit 0) ⟨[(.lst a0), (.fn 63 [] []), (.tup []), (.tup []), (.int .i64 x3), v4, (.lst a0), (.int .i64 (((List.length a0) : Nat) : Int)), (.int .i64 x5), (.bool false), v7, v8, v9, v10, v11, v12, v13, v14, v15], []⟩))
   (none)
def r53f63X0_0 (C : Cb) (d : Nat) (a0 : List AV) : St → Ans := fun s20 =>
  cnd ((List.length (St.env s20)) == 19)
   (C.same (St.env s20)[0]? (.lst a0) <|
   C.same (St.env s20)[1]? (.fn 63 [] []) <|
   C.same (St.env s20)[2]? (.tup []) <|
   C.same (St.env s20)[3]? (.tup []) <|
   C.int .i64 (St.env s20)[4]? fun x21 =>
   C.any (St.env s20)[5]? fun v22 =>
   C.same (St.env s20)[6]? (.lst a0) <|
   C.same (St.env s20)[7]? (.int .i64 (((List.length a0) : Nat) : Int)) <|
   C.int .i64 (St.env s20)[8]? fun x23 =>
   C.any (St.env s20)[9]? fun v24 =>
   C.any (St.env s20)[10]? fun v25 =>
   C.any (St.env s20)[11]? fun v26 =>
   C.any (St.env s20)[12]? fun v27 =>
   C.any (St.env s20)[13]? fun v28 =>
   C.any (St.env s20)[14]? fun v29 =>
   C.any (St.env s20)[15]? fun v30 =>
   C.any (St.env s20)[16]? fun v31 =>
   C.any (St.env s20)[17]? fun v32 =>
   C.any (St.env s20)[18]? fun v33 =>
   C.sameH (St.H s20) [] <|
   some (.int .i64 (-1)))
   (none)
def r53f63E0 (C : Cb) (d : Nat) (a0 : List AV) : St → Ans := fun s2 =>
  cnd ((List.length (St.env s2)) == 19)
   (C.same (St.env s2)[0]? (.lst a0) <|
   C.same (St.env s2)[1]? (.fn 63 [] []) <|
   C.same (St.env s2)[2]? (.tup []) <|
   C.same (St.env s2)[3]? (.tup []) <|
   C.int .i64 (St.env s2)[4]? fun x34 =>
   C.int .i64 (St.env s2)[5]? fun x35 =>
   C.same (St.env s2)[6]? (.lst a0) <|
   C.same (St.env s2)[7]? (.int .i64 (((List.length a0) : Nat) : Int)) <|
   C.int .i64 (St.env s2)[8]? fun x36 =>
   C.any (St.env s2)[9]? fun v37 =>
   C.int .i64 (St.env s2)[10]? fun x38 =>
   C.any (St.env s2)[11]? fun v39 =>
   C.any (St.env s2)[12]? fun v40 =>
   C.int .i64 (St.env s2)[13]? fun x41 =>
   C.any (St.env s2)[14]? fun v42 =>
   C.agg 2 (St.env s2)[15]? fun l43 =>
   C.int .i64 l43[0]? fun x44 =>
   C.int .i64 l43[1]? fun x45 =>
   C.bool (St.env s2)[16]? fun b46 =>
   C.int .i64 (St.env s2)[17]? fun x47 =>
   C.any (St.env s2)[18]? fun v48 =>
   C.sameH (St.H s2) [] <|
   some (.int .i64 x34))
   (none)
/-- slices.IndexFunc[[]apogee/api.Point,apogee/api.Point] -/
theorem r53f63 (C : Cb) (d : Nat) (a0 : List AV) (a1 : AV) : xcall C M unr d 53 [(.lst a0), (.fn 63 [] [])] =
  C.iter (r53f63R0 C d a0) 1000000000000000000 ⟨[(.lst a0), (.fn 63 [] []), (.tup []), (.tup []), (.int .i64 0), (.tup []), (.lst a0), (.int .i64 (((List.length a0) : Nat) : Int)), (.int .i64 0), (.tup []), (.tup []), (.tup []), (.tup []), (.tup []), (.tup []), (.tup []), (.tup []), (.tup []), (.tup [])], []⟩ [0] [r53f63X0_0 C d a0] (r53f63E0 C d a0) := by kernel_rfl
/-- apogee/point.between -/
theorem r59 (C : Cb) (d : Nat) (a0 a1 a2 : Int) : xcall C M unr d 59 [(.int .i64 a0), (.int .i64 a1), (.int .i64 a2)] =
  cnd (decide ((if (a2 < a1) then a2 else a1) ≤ a0))
   (some (.bool (decide (a0 ≤ (if (a2 > a1) then a2 else a1)))))
   (some (.bool false)) := by kernel_rfl
/-- apogee/fix.told -/
theorem r60 (C : Cb) (d : Nat) (a0 a1 : Int) (a2 : Bool) : xcall C M unr d 60 [(.agg [(.int .i64 a0), (.int .u64 a1)]), (.bool a2)] =
  cnd (!a2)
   (some (.tup [(.int .i64 0), (.bool false)]))
   (C.tup 2 (pcall M d 72 [(.agg [(.int .i64 a0), (.int .u64 a1)])]) fun l0 =>
   C.int .i64 l0[0]? fun x1 =>
   C.bool l0[1]? fun b2 =>
   some (.tup [(.int .i64 x1), (.bool b2)])) := by kernel_rfl
/-- apogee/wide.Of -/
theorem r61 (C : Cb) (d : Nat) (a0 : Int) : xcall C M unr d 61 [(.int .i64 a0)] =
  some (.agg [(.int .i64 (Int.fdiv a0 (2 ^ (min (Int.toNat 63) 64)))), (.int .u64 (IntKind.wrap .u64 a0))]) := by kernel_rfl
/-- (apogee/wide.Wide).Add -/
theorem r62 (C : Cb) (d : Nat) (a0 a1 a2 a3 : Int) : xcall C M unr d 62 [(.agg [(.int .i64 a0), (.int .u64 a1)]), (.agg [(.int .i64 a2), (.int .u64 a3)])] =
  C.tup 2 (add64E [(.int .u64 a1), (.int .u64 a3), (.int .u64 0)]) fun l0 =>
  C.int .u64 l0[0]? fun x1 =>
  C.int .u64 l0[1]? fun x2 =>
  C.tup 2 (add64E [(.int .u64 (IntKind.wrap .u64 a0)), (.int .u64 (IntKind.wrap .u64 a2)), (.int .u64 x2)]) fun l3 =>
  C.int .u64 l3[0]? fun x4 =>
  C.int .u64 l3[1]? fun x5 =>
  cnd (decide ((bits .and .i64 (bits .xor .i64 a0 (IntKind.wrap .i64 x4)) (bits .xor .i64 a2 (IntKind.wrap .i64 x4))) < 0))
   (some (.tup [(.agg [(.int .i64 0), (.int .u64 0)]), (.bool false)]))
   (some (.tup [(.agg [(.int .i64 (IntKind.wrap .i64 x4)), (.int .u64 x1)]), (.bool true)])) := by kernel_rfl
/-- apogee/point.right$1 -/
theorem r63 (C : Cb) (d : Nat) (a0 a1 : Int) : xcall C M unr d 63 [(.agg [(.int .i64 a0), (.int .i64 a1)])] =
  C.bool (pcall M d 35 [(.agg [(.int .i64 a0), (.int .i64 a1)])]) fun b0 =>
  some (.bool (!b0)) := by kernel_rfl
/-- math/bits.Mul64 -/
theorem r64 (C : Cb) (d : Nat) (a0 a1 : Int) : xcall C M unr d 64 [(.int .u64 a0), (.int .u64 a1)] =
  some (.tup [(.int .u64 (IntKind.wrap .u64 ((IntKind.wrap .u64 ((IntKind.wrap .u64 ((Int.fdiv a0 (2 ^ (min (Int.toNat 32) 64))) * (Int.fdiv a1 (2 ^ (min (Int.toNat 32) 64))))) + (Int.fdiv (IntKind.wrap .u64 ((IntKind.wrap .u64 ((Int.fdiv a0 (2 ^ (min (Int.toNat 32) 64))) * (bits .and .u64 a1 4294967295))) + (Int.fdiv (IntKind.wrap .u64 ((bits .and .u64 a0 4294967295) * (bits .and .u64 a1 4294967295))) (2 ^ (min (Int.toNat 32) 64))))) (2 ^ (min (Int.toNat 32) 64))))) + (Int.fdiv (IntKind.wrap .u64 ((bits .and .u64 (IntKind.wrap .u64 ((IntKind.wrap .u64 ((Int.fdiv a0 (2 ^ (min (Int.toNat 32) 64))) * (bits .and .u64 a1 4294967295))) + (Int.fdiv (IntKind.wrap .u64 ((bits .and .u64 a0 4294967295) * (bits .and .u64 a1 4294967295))) (2 ^ (min (Int.toNat 32) 64))))) 4294967295) + (IntKind.wrap .u64 ((bits .and .u64 a0 4294967295) * (Int.fdiv a1 (2 ^ (min (Int.toNat 32) 64))))))) (2 ^ (min (Int.toNat 32) 64)))))), (.int .u64 (IntKind.wrap .u64 (a0 * a1)))]) := by kernel_rfl
def r65R0 (C : Cb) (d : Nat) (a0 : List AV) : St → (Ex → St → Ans) → Ans := fun s0 k1 =>
  cnd ((List.length (St.env s0)) == 18)
   (C.same (St.env s0)[0]? (.lst a0) <|
   C.same (St.env s0)[1]? (.tup []) <|
   C.int .i64 (St.env s0)[2]? fun x3 =>
   C.same (St.env s0)[3]? (.int .i64 0) <|
   C.same (St.env s0)[4]? (.tup []) <|
   C.any (St.env s0)[5]? fun v4 =>
   C.same (St.env s0)[6]? (.lst a0) <|
   C.same (St.env s0)[7]? (.int .i64 (((List.length a0) : Nat) : Int)) <|
   C.int .i64 (St.env s0)[8]? fun x5 =>
   C.any (St.env s0)[9]? fun v6 =>
   C.any (St.env s0)[10]? fun v7 =>
   C.any (St.env s0)[11]? fun v8 =>
   C.any (St.env s0)[12]? fun v9 =>
   C.any (St.env s0)[13]? fun v10 =>
   C.any (St.env s0)[14]? fun v11 =>
   C.any (St.env s0)[15]? fun v12 =>
   C.any (St.env s0)[16]? fun v13 =>
   C.same (St.env s0)[17]? (.tup []) <|
   C.sameH (St.H s0) [] <|
   cnd (decide (x5 < (((List.length a0) : Nat) : Int)))
   (cnd (decide (0 ≤ x5))
   (C.int .i64 a0[(Int.toNat x5)]? fun x14 =>
   cnd (x14 != 0)
   (k1 .ret ⟨[(.lst a0), (.tup []), (.int .i64 x14), (.int .i64 0), (.tup []), (.int .i64 x14), (.lst a0), (.int .i64 (((List.length a0) : Nat) : Int)), (.int .i64 x5), (.bool true), (.fptr (.int .i64 x14) 0), (.int .i64 x14), (.int .i64 x14), (.int .i64 0), (.bool true), (.int .i64 x14), v13, (.tup [])], []⟩)
   (k1 .normal ⟨[(.lst a0), (.tup []), (.int .i64 x3), (.int .i64 0), (.tup []), (.int .i64 x14), (.lst a0), (.int .i64 (((List.length a0) : Nat) : Int)), (.int .i64 (IntKind.wrap .i64 (x5 + 1))), (.bool true), (.fptr (.int .i64 x14) 0), (.int .i64 x14), (.int .i64 x14), (.int .i64 0), (.bool false), v12, (.int .i64 (IntKind.wrap .i64 (x5 + 1))), (.tup [])], []⟩))
   (none))
   (k1 (.exit 0) ⟨[(.lst a0), (.tup []), (.int .i64 x3), (.int .i64 0), (.tup []), v4, (.lst a0), (.int .i64 (((List.length a0) : Nat) : Int)), (.int .i64 x5), (.bool false), v7, v8, v9, v10, v11, v12, v13, (.tup [])], []⟩))
   (none)
def r65X0_0 (C : Cb) (d : Nat) (a0 : List AV) : St → Ans := fun s15 =>
  cnd ((List.length (St.env s15)) == 18)
   (C.same (St.env s15)[0]? (.lst a0) <|
   C.same (St.env s15)[1]? (.tup []) <|
   C.int .i64 (St.env s15)[2]? fun x16 =>
   C.same (St.env s15)[3]? (.int .i64 0) <|
   C.same (St.env s15)[4]? (.tup []) <|
   C.any (St.env s15)[5]? fun v17 =>
   C.same (St.env s15)[6]? (.lst a0) <|
   C.same (St.env s15)[7]? (.int .i64 (((List.length a0) : Nat) : Int)) <|
   C.int .i64 (St.env s15)[8]? fun x18 =>
   C.any (St.env s15)[9]? fun v19 =>
   C.any (St.env s15)[10]? fun v20 =>
   C.any (St.env s15)[11]? fun v21 =>
   C.any (St.env s15)[12]? fun v22 =>
   C.any (St.env s15)[13]? fun v23 =>
   C.any (St.env s15)[14]? fun v24 =>
   C.any (St.env s15)[15]? fun v25 =>
   C.any (St.env s15)[16]? fun v26 =>
   C.same (St.env s15)[17]? (.tup []) <|
   C.sameH (St.H s15) [] <|
   some (.int .i64 0))
   (none)
def r65E0 (C : Cb) (d : Nat) (a0 : List AV) : St → Ans := fun s2 =>
  cnd ((List.length (St.env s2)) == 18)
   (C.same (St.env s2)[0]? (.lst a0) <|
   C.same (St.env s2)[1]? (.tup []) <|
   C.int .i64 (St.env s2)[2]? fun x27 =>
   C.same (St.env s2)[3]? (.int .i64 0) <|
   C.same (St.env s2)[4]? (.tup []) <|
   C.int .i64 (St.env s2)[5]? fun x28 =>
   C.same (St.env s2)[6]? (.lst a0) <|
   C.same (St.env s2)[7]? (.int .i64 (((List.length a0) : Nat) : Int)) <|
   C.int .i64 (St.env s2)[8]? fun x29 =>
   C.any (St.env s2)[9]? fun v30 =>
   C.any (St.env s2)[10]? fun v31 =>
   C.int .i64 (St.env s2)[11]? fun x32 =>
   C.int .i64 (St.env s2)[12]? fun x33 =>
   C.int .i64 (St.env s2)[13]? fun x34 =>
   C.bool (St.env s2)[14]? fun b35 =>
   C.int .i64 (St.env s2)[15]? fun x36 =>
   C.any (St.env s2)[16]? fun v37 =>
   C.same (St.env s2)[17]? (.tup []) <|
   C.sameH (St.H s2) [] <|
   some (.int .i64 x27))
   (none)
/-- cmp.Or[int] -/
theorem r65 (C : Cb) (d : Nat) (a0 : List AV) : xcall C M unr d 65 [(.lst a0)] =
  C.iter (r65R0 C d a0) 1000000000000000000 ⟨[(.lst a0), (.tup []), (.int .i64 0), (.int .i64 0), (.tup []), (.tup []), (.lst a0), (.int .i64 (((List.length a0) : Nat) : Int)), (.int .i64 0), (.tup []), (.tup []), (.tup []), (.tup []), (.tup []), (.tup []), (.tup []), (.tup []), (.tup [])], []⟩ [0] [r65X0_0 C d a0] (r65E0 C d a0) := by kernel_rfl
/-- cmp.Compare[int64] -/
theorem r66 (C : Cb) (d : Nat) (a0 a1 : Int) : xcall C M unr d 66 [(.int .i64 a0), (.int .i64 a1)] =
  C.bool (pcall M d 74 [(.int .i64 a0)]) fun b0 =>
  C.bool (pcall M d 74 [(.int .i64 a1)]) fun b1 =>
  cnd b0
   (cnd b1
   (some (.int .i64 0))
   (some (.int .i64 (-1))))
   (cnd b1
   (some (.int .i64 1))
   (cnd (decide (a0 < a1))
   (some (.int .i64 (-1)))
   (cnd (decide (a0 > a1))
   (some (.int .i64 1))
   (some (.int .i64 0))))) := by kernel_rfl
/-- cmp.Compare[uint64] -/
theorem r67 (C : Cb) (d : Nat) (a0 a1 : Int) : xcall C M unr d 67 [(.int .u64 a0), (.int .u64 a1)] =
  C.bool (pcall M d 75 [(.int .u64 a0)]) fun b0 =>
  C.bool (pcall M d 75 [(.int .u64 a1)]) fun b1 =>
  cnd b0
   (cnd b1
   (some (.int .i64 0))
   (some (.int .i64 (-1))))
   (cnd b1
   (some (.int .i64 1))
   (cnd (decide (a0 < a1))
   (some (.int .i64 (-1)))
   (cnd (decide (a0 > a1))
   (some (.int .i64 1))
   (some (.int .i64 0))))) := by kernel_rfl
/-- (apogee/wide.Wide).Int -/
theorem r72 (C : Cb) (d : Nat) (a0 a1 : Int) : xcall C M unr d 72 [(.agg [(.int .i64 a0), (.int .u64 a1)])] =
  C.agg 2 (pcall M d 61 [(.int .i64 (IntKind.wrap .i64 a1))]) fun l0 =>
  C.int .i64 l0[0]? fun x1 =>
  C.int .u64 l0[1]? fun x2 =>
  cnd (xor true ((x1 == a0) && ((x2 == a1) && true)))
   (some (.tup [(.int .i64 0), (.bool false)]))
   (some (.tup [(.int .i64 (IntKind.wrap .i64 a1)), (.bool true)])) := by kernel_rfl
/-- cmp.isNaN[int64] -/
theorem r74 (C : Cb) (d : Nat) (a0 : Int) : xcall C M unr d 74 [(.int .i64 a0)] =
  some (.bool (a0 != a0)) := by kernel_rfl
/-- cmp.isNaN[uint64] -/
theorem r75 (C : Cb) (d : Nat) (a0 : Int) : xcall C M unr d 75 [(.int .u64 a0)] =
  some (.bool (a0 != a0)) := by kernel_rfl
/-- apogee/point.Meet -/
theorem r79 (C : Cb) (d : Nat) (a0 a1 a2 a3 a4 a5 a6 a7 : Int) : xcall C M unr d 79 [(.agg [(.int .i64 a0), (.int .i64 a1)]), (.agg [(.int .i64 a2), (.int .i64 a3)]), (.agg [(.int .i64 a4), (.int .i64 a5)]), (.agg [(.int .i64 a6), (.int .i64 a7)])] =
  C.bool (pcall M d 49 [(.lst [(.agg [(.int .i64 a0), (.int .i64 a1)]), (.agg [(.int .i64 a2), (.int .i64 a3)]), (.agg [(.int .i64 a4), (.int .i64 a5)]), (.agg [(.int .i64 a6), (.int .i64 a7)])])]) fun b0 =>
  cnd (!b0)
   (some (.bool false))
   (C.bool (pcall M d 47 [(.agg [(.int .i64 a0), (.int .i64 a1)]), (.agg [(.int .i64 a4), (.int .i64 a5)]), (.agg [(.int .i64 a6), (.int .i64 a7)])]) fun b1 =>
   cnd b1
   (some (.bool true))
   (C.bool (pcall M d 47 [(.agg [(.int .i64 a2), (.int .i64 a3)]), (.agg [(.int .i64 a4), (.int .i64 a5)]), (.agg [(.int .i64 a6), (.int .i64 a7)])]) fun b2 =>
   cnd b2
   (some (.bool true))
   (C.bool (pcall M d 47 [(.agg [(.int .i64 a4), (.int .i64 a5)]), (.agg [(.int .i64 a0), (.int .i64 a1)]), (.agg [(.int .i64 a2), (.int .i64 a3)])]) fun b3 =>
   cnd b3
   (some (.bool true))
   (C.bool (pcall M d 47 [(.agg [(.int .i64 a6), (.int .i64 a7)]), (.agg [(.int .i64 a0), (.int .i64 a1)]), (.agg [(.int .i64 a2), (.int .i64 a3)])]) fun b4 =>
   cnd b4
   (some (.bool true))
   (C.int .i64 (pcall M d 39 [(.agg [(.int .i64 a0), (.int .i64 a1)]), (.agg [(.int .i64 a2), (.int .i64 a3)]), (.agg [(.int .i64 a4), (.int .i64 a5)])]) fun x5 =>
   C.int .i64 (pcall M d 39 [(.agg [(.int .i64 a0), (.int .i64 a1)]), (.agg [(.int .i64 a2), (.int .i64 a3)]), (.agg [(.int .i64 a6), (.int .i64 a7)])]) fun x6 =>
   cnd (decide ((IntKind.wrap .i64 (x5 * x6)) < 0))
   (C.int .i64 (pcall M d 39 [(.agg [(.int .i64 a4), (.int .i64 a5)]), (.agg [(.int .i64 a6), (.int .i64 a7)]), (.agg [(.int .i64 a0), (.int .i64 a1)])]) fun x7 =>
   C.int .i64 (pcall M d 39 [(.agg [(.int .i64 a4), (.int .i64 a5)]), (.agg [(.int .i64 a6), (.int .i64 a7)]), (.agg [(.int .i64 a2), (.int .i64 a3)])]) fun x8 =>
   some (.bool (decide ((IntKind.wrap .i64 (x7 * x8)) < 0))))
   (some (.bool false))))))) := by kernel_rfl
end Go.Proofs.Ytjblhppbjebagaa.AE

namespace Go.Proofs.Ytjblhppbjebagaa.AE
set_option linter.unusedVariables false
set_option linter.unusedSimpArgs false
set_option linter.constructorNameAsVariable false
open Go
set_option maxRecDepth 100000
noncomputable def X53f63_0_0 (d : Nat) (a0 : List AV)  : Ans :=
  some (.int .i64 (-1))
theorem X53f63_0_0_ok (d : Nat) (a0 : List AV) (x21 : Int) (v22 : AV) (x23 : Int) (v24 v25 v26 v27 v28 v29 v30 v31 v32 v33 : AV) : r53f63X0_0 C0 d a0 ⟨[(.lst a0), (.fn 63 [] []), (.tup []), (.tup []), (.int .i64 x21), v22, (.lst a0), (.int .i64 (((List.length a0) : Nat) : Int)), (.int .i64 x23), v24, v25, v26, v27, v28, v29, v30, v31, v32, v33], []⟩ = X53f63_0_0 d a0  := by
  unfold r53f63X0_0; refine Eq.trans (pl_len (by rfl)) ?_; (iterate 4 (refine Eq.trans (pl_same (by rfl)) ?_)); refine Eq.trans (pl_int (by rfl)) ?_; refine Eq.trans (pl_any (by rfl)) ?_; (iterate 2 (refine Eq.trans (pl_same (by rfl)) ?_)); refine Eq.trans (pl_int (by rfl)) ?_; (iterate 10 (refine Eq.trans (pl_any (by rfl)) ?_)); refine Eq.trans (pl_sameH) ?_
  rfl
noncomputable def E53f63_0 (d : Nat) (a0 : List AV) (x34 : Int) : Ans :=
  some (.int .i64 x34)
theorem E53f63_0_ok (d : Nat) (a0 : List AV) (x34 x35 x36 : Int) (v37 : AV) (x38 : Int) (v39 v40 : AV) (x41 : Int) (v42 : AV) (x44 x45 : Int) (b46 : Bool) (x47 : Int) (v48 : AV) : r53f63E0 C0 d a0 ⟨[(.lst a0), (.fn 63 [] []), (.tup []), (.tup []), (.int .i64 x34), (.int .i64 x35), (.lst a0), (.int .i64 (((List.length a0) : Nat) : Int)), (.int .i64 x36), v37, (.int .i64 x38), v39, v40, (.int .i64 x41), v42, (.agg [(.int .i64 x44), (.int .i64 x45)]), (.bool b46), (.int .i64 x47), v48], []⟩ = E53f63_0 d a0 x34 := by
  unfold r53f63E0; refine Eq.trans (pl_len (by rfl)) ?_; (iterate 4 (refine Eq.trans (pl_same (by rfl)) ?_)); (iterate 2 (refine Eq.trans (pl_int (by rfl)) ?_)); (iterate 2 (refine Eq.trans (pl_same (by rfl)) ?_)); refine Eq.trans (pl_int (by rfl)) ?_; refine Eq.trans (pl_any (by rfl)) ?_; refine Eq.trans (pl_int (by rfl)) ?_; (iterate 2 (refine Eq.trans (pl_any (by rfl)) ?_)); refine Eq.trans (pl_int (by rfl)) ?_; refine Eq.trans (pl_any (by rfl)) ?_; refine Eq.trans (pl_agg (by rfl) (by rfl)) ?_; (iterate 2 (refine Eq.trans (pl_int (by rfl)) ?_)); refine Eq.trans (pl_bool (by rfl)) ?_; refine Eq.trans (pl_int (by rfl)) ?_; refine Eq.trans (pl_any (by rfl)) ?_; refine Eq.trans (pl_sameH) ?_
  rfl
noncomputable def L53f63_0 (d : Nat) (a0 : List AV) : Nat → Int → Ans
  | 0, _ => none
  | n + 1, x5 =>
  cnd (decide (x5 < (((List.length a0) : Nat) : Int)))
   (cnd (decide (0 ≤ x5))
   (C0.agg 2 a0[(Int.toNat x5)]? fun l16 =>
   C0.int .i64 l16[0]? fun x17 =>
   C0.int .i64 l16[1]? fun x18 =>
   C0.bool (pcall M d 63 [(.agg [(.int .i64 x17), (.int .i64 x18)])]) fun b19 =>
   cnd b19
   (E53f63_0 d a0 x5)
   (L53f63_0 d a0 n (IntKind.wrap .i64 (x5 + 1))))
   (none))
   (X53f63_0_0 d a0)
theorem it53f63_0 (d : Nat) (a0 : List AV)   : ∀ (n : Nat) (x3 : Int) (v4 : AV) (x5 : Int) (v6 v7 v8 v9 v10 v11 v12 v13 v14 v15 : AV), C0.iter (r53f63R0 C0 d a0) n ⟨[(.lst a0), (.fn 63 [] []), (.tup []), (.tup []), (.int .i64 x3), v4, (.lst a0), (.int .i64 (((List.length a0) : Nat) : Int)), (.int .i64 x5), v6, v7, v8, v9, v10, v11, v12, v13, v14, v15], []⟩ [0] [r53f63X0_0 C0 d a0] (r53f63E0 C0 d a0) = L53f63_0 d a0 n x5 := by
  generalize hR : r53f63R0 C0 d a0 = R
  intro n
  induction n with
  | zero => intros; rfl
  | succ n ih =>
    intro x3 v4 x5 v6 v7 v8 v9 v10 v11 v12 v13 v14 v15
    simp only [it_ret] at ih
    rw [it_ret, xiter_s]
    refine Eq.trans (congrFun (congrFun hR.symm _) _) ?_
    unfold r53f63R0
    refine Eq.trans (pl_len (by rfl)) ?_; (iterate 4 (refine Eq.trans (pl_same (by rfl)) ?_)); refine Eq.trans (pl_int (by rfl)) ?_; refine Eq.trans (pl_any (by rfl)) ?_; (iterate 2 (refine Eq.trans (pl_same (by rfl)) ?_)); refine Eq.trans (pl_int (by rfl)) ?_; (iterate 10 (refine Eq.trans (pl_any (by rfl)) ?_)); refine Eq.trans (pl_sameH) ?_
    simp only [L53f63_0, kIter_n, kIter_x, kIter_r, kOut_x, kOut_r, xgo_hit, xgo_miss, ih, X53f63_0_0_ok d a0  , E53f63_0_ok d a0  ]
/-- slices.IndexFunc[[]apogee/api.Point,apogee/api.Point] -/
theorem q53f63 (d : Nat) (a0 : List AV) (a1 : AV) : xcall C0 M unr d 53 [(.lst a0), (.fn 63 [] [])] =
  L53f63_0 d a0 1000000000000000000 0 := (r53f63 C0 d a0 a1).trans (by simp only [it53f63_0])
noncomputable def X65_0_0 (d : Nat) (a0 : List AV)  : Ans :=
  some (.int .i64 0)
theorem X65_0_0_ok (d : Nat) (a0 : List AV) (x16 : Int) (v17 : AV) (x18 : Int) (v19 v20 v21 v22 v23 v24 v25 v26 : AV) : r65X0_0 C0 d a0 ⟨[(.lst a0), (.tup []), (.int .i64 x16), (.int .i64 0), (.tup []), v17, (.lst a0), (.int .i64 (((List.length a0) : Nat) : Int)), (.int .i64 x18), v19, v20, v21, v22, v23, v24, v25, v26, (.tup [])], []⟩ = X65_0_0 d a0  := by
  unfold r65X0_0; refine Eq.trans (pl_len (by rfl)) ?_; (iterate 2 (refine Eq.trans (pl_same (by rfl)) ?_)); refine Eq.trans (pl_int (by rfl)) ?_; (iterate 2 (refine Eq.trans (pl_same (by rfl)) ?_)); refine Eq.trans (pl_any (by rfl)) ?_; (iterate 2 (refine Eq.trans (pl_same (by rfl)) ?_)); refine Eq.trans (pl_int (by rfl)) ?_; (iterate 8 (refine Eq.trans (pl_any (by rfl)) ?_)); refine Eq.trans (pl_same (by rfl)) ?_; refine Eq.trans (pl_sameH) ?_
  rfl
noncomputable def E65_0 (d : Nat) (a0 : List AV) (x27 : Int) : Ans :=
  some (.int .i64 x27)
theorem E65_0_ok (d : Nat) (a0 : List AV) (x27 x28 x29 : Int) (v30 v31 : AV) (x32 x33 x34 : Int) (b35 : Bool) (x36 : Int) (v37 : AV) : r65E0 C0 d a0 ⟨[(.lst a0), (.tup []), (.int .i64 x27), (.int .i64 0), (.tup []), (.int .i64 x28), (.lst a0), (.int .i64 (((List.length a0) : Nat) : Int)), (.int .i64 x29), v30, v31, (.int .i64 x32), (.int .i64 x33), (.int .i64 x34), (.bool b35), (.int .i64 x36), v37, (.tup [])], []⟩ = E65_0 d a0 x27 := by
  unfold r65E0; refine Eq.trans (pl_len (by rfl)) ?_; (iterate 2 (refine Eq.trans (pl_same (by rfl)) ?_)); refine Eq.trans (pl_int (by rfl)) ?_; (iterate 2 (refine Eq.trans (pl_same (by rfl)) ?_)); refine Eq.trans (pl_int (by rfl)) ?_; (iterate 2 (refine Eq.trans (pl_same (by rfl)) ?_)); refine Eq.trans (pl_int (by rfl)) ?_; (iterate 2 (refine Eq.trans (pl_any (by rfl)) ?_)); (iterate 3 (refine Eq.trans (pl_int (by rfl)) ?_)); refine Eq.trans (pl_bool (by rfl)) ?_; refine Eq.trans (pl_int (by rfl)) ?_; refine Eq.trans (pl_any (by rfl)) ?_; refine Eq.trans (pl_same (by rfl)) ?_; refine Eq.trans (pl_sameH) ?_
  rfl
noncomputable def L65_0 (d : Nat) (a0 : List AV) : Nat → Int → Ans
  | 0, _ => none
  | n + 1, x5 =>
  cnd (decide (x5 < (((List.length a0) : Nat) : Int)))
   (cnd (decide (0 ≤ x5))
   (C0.int .i64 a0[(Int.toNat x5)]? fun x14 =>
   cnd (x14 != 0)
   (E65_0 d a0 x14)
   (L65_0 d a0 n (IntKind.wrap .i64 (x5 + 1))))
   (none))
   (X65_0_0 d a0)
theorem it65_0 (d : Nat) (a0 : List AV)   : ∀ (n : Nat) (x3 : Int) (v4 : AV) (x5 : Int) (v6 v7 v8 v9 v10 v11 v12 v13 : AV), C0.iter (r65R0 C0 d a0) n ⟨[(.lst a0), (.tup []), (.int .i64 x3), (.int .i64 0), (.tup []), v4, (.lst a0), (.int .i64 (((List.length a0) : Nat) : Int)), (.int .i64 x5), v6, v7, v8, v9, v10, v11, v12, v13, (.tup [])], []⟩ [0] [r65X0_0 C0 d a0] (r65E0 C0 d a0) = L65_0 d a0 n x5 := by
  generalize hR : r65R0 C0 d a0 = R
  intro n
  induction n with
  | zero => intros; rfl
  | succ n ih =>
    intro x3 v4 x5 v6 v7 v8 v9 v10 v11 v12 v13
    simp only [it_ret] at ih
    rw [it_ret, xiter_s]
    refine Eq.trans (congrFun (congrFun hR.symm _) _) ?_
    unfold r65R0
    refine Eq.trans (pl_len (by rfl)) ?_; (iterate 2 (refine Eq.trans (pl_same (by rfl)) ?_)); refine Eq.trans (pl_int (by rfl)) ?_; (iterate 2 (refine Eq.trans (pl_same (by rfl)) ?_)); refine Eq.trans (pl_any (by rfl)) ?_; (iterate 2 (refine Eq.trans (pl_same (by rfl)) ?_)); refine Eq.trans (pl_int (by rfl)) ?_; (iterate 8 (refine Eq.trans (pl_any (by rfl)) ?_)); refine Eq.trans (pl_same (by rfl)) ?_; refine Eq.trans (pl_sameH) ?_
    simp only [L65_0, kIter_n, kIter_x, kIter_r, kOut_x, kOut_r, xgo_hit, xgo_miss, ih, X65_0_0_ok d a0  , E65_0_ok d a0  ]
/-- cmp.Or[int] -/
theorem q65 (d : Nat) (a0 : List AV) : xcall C0 M unr d 65 [(.lst a0)] =
  L65_0 d a0 1000000000000000000 0 := (r65 C0 d a0).trans (by simp only [it65_0])
end Go.Proofs.Ytjblhppbjebagaa.AE

namespace Go.Proofs.Ytjblhppbjebagaa.AE
set_option linter.unusedVariables false
set_option linter.unusedSimpArgs false
set_option linter.constructorNameAsVariable false
open Go
theorem hg_lt {H : Heap} {id : Nat} {b : Blk} (h : hget H id = some b) : id < H.length := by
  unfold hget at h
  rcases Nat.lt_or_ge id H.length with h1 | h1
  · exact h1
  · rw [List.getElem?_eq_none h1] at h; cases h
theorem hget_app {H l : Heap} {id : Nat} {b : Blk} (h : hget H id = some b) : hget (H ++ l) id = some b := by
  have := hg_lt h
  unfold hget at *
  rw [List.getElem?_append_left this]; exact h
theorem ix_lst {H : Heap} {l : List AV} {es : Nat} {q : Int} {x : AV} {K : AV → Heap → Ans} (h0 : 0 ≤ q) (hx : l[q.toNat]? = some x) (he : x.cells.length = es) :
    C0.hop H (.ixAS .any es (.v (.lst l)) (.v (.int .i64 q))) K = K (.fptr x 0) H := hop_eq (by simp [aop, evO, aInt, aIx, h0, hx, he])
theorem ld_ptr {H : Heap} {id i j n : Nat} {ag : Bool} {b : Blk} {el v : AV} {K : AV → Heap → Ans} (h : hget H id = some b) (hi : b.els[i]? = some el) (hs : sub ag n j el = some v) :
    C0.hop H (.load ag n (.v (.ptr id i j))) K = K v H := hop_eq (by simp [aop, evO, aLoad, h, hi, hs])
theorem st_ptr {H : Heap} {id i j n : Nat} {b : Blk} {el el' x : AV} {K : AV → Heap → Ans} (h : hget H id = some b) (hi : b.els[i]? = some el) (hs : putSub n j x el = some el') :
    C0.hop H (.store n (.v (.ptr id i j)) (.v x)) K = K .undef (H.set id (some { b with els := b.els.set i el' })) := hop_eq (by simp [aop, evO, aStore, h, hi, hs])
theorem sh_ptr {H : Heap} {id i j d : Nat} {K : AV → Heap → Ans} : C0.hop H (.fldA d (.v (.ptr id i j))) K = K (.ptr id i (j + d)) H := hop_eq rfl
end Go.Proofs.Ytjblhppbjebagaa.AE

namespace Go.Proofs.Ytjblhppbjebagaa.AE
set_option linter.unusedVariables false
set_option linter.unusedSimpArgs false
set_option linter.constructorNameAsVariable false
open Go
theorem i64w (n : Int) : IntKind.i64.wrap n = (n + 9223372036854775808) % 18446744073709551616 - 9223372036854775808 := IntKind.wrap_i64 n
theorem u64w (n : Int) : IntKind.u64.wrap n = n % 18446744073709551616 := by simp [IntKind.wrap, IntKind.bits, IntKind.signed]
theorem u64_small {n : Int} (h : 0 ≤ n) (h' : n < 18446744073709551616) : IntKind.u64.wrap n = n := by rw [u64w]; omega
theorem i64_small {n : Int} (h : -9223372036854775808 ≤ n) (h' : n < 9223372036854775808) : IntKind.i64.wrap n = n := by rw [i64w]; omega
theorem u64_mask (k : Nat) (hk : k ≤ 64) {x : Int} (h : 0 ≤ x) (h' : x < 18446744073709551616) : Go.bits .and .u64 x (2 ^ k - 1) = x % 2 ^ k := by
  obtain ⟨n, rfl⟩ := Int.eq_ofNat_of_zero_le h
  have hn : n < 18446744073709551616 := by omega
  have hp : 1 ≤ 2 ^ k := Nat.one_le_two_pow
  have hm : ((2 : Int) ^ k - 1) = ((2 ^ k - 1 : Nat) : Int) := by
    rw [Int.natCast_sub hp]; simp
  have hk2 : 2 ^ k ≤ 18446744073709551616 := Nat.le_trans (Nat.pow_le_pow_right (by decide) hk) (by decide)
  show IntKind.u64.wrap ((BitVec.ofInt 64 (n : Int) &&& BitVec.ofInt 64 ((2 : Int) ^ k - 1)).toNat : Int) = _
  rw [hm, BitVec.toNat_and]
  rw [BitVec.ofInt_natCast, BitVec.ofInt_natCast, BitVec.toNat_ofNat, BitVec.toNat_ofNat, Nat.mod_eq_of_lt (by simpa using hn), Nat.mod_eq_of_lt (by simpa using (by omega : 2 ^ k - 1 < 18446744073709551616)), Nat.and_two_pow_sub_one_eq_mod]
  have : n % 2 ^ k ≤ n := Nat.mod_le _ _
  rw [u64_small (by omega) (by omega)]
  simp
theorem u64_and32 {x : Int} (h : 0 ≤ x) (h' : x < 18446744073709551616) : Go.bits .and .u64 x 4294967295 = x % 4294967296 := u64_mask 32 (by decide) h h'
def hiw (v : Int) : Int := IntKind.i64.wrap (v / 18446744073709551616)
def low (v : Int) : Int := v % 18446744073709551616
theorem mul_bd63 (a b : Int) (ha : -9223372036854775808 ≤ a) (ha' : a < 9223372036854775808) (hb : -9223372036854775808 ≤ b) (hb' : b < 9223372036854775808) :
    -85070591730234615865843651857942052864 ≤ a * b ∧ a * b ≤ 85070591730234615865843651857942052864 := by
  have h1 := Int.mul_nonneg (show 0 ≤ 9223372036854775808 - a by omega) (show 0 ≤ 9223372036854775808 + b by omega)
  have h2 := Int.mul_nonneg (show 0 ≤ 9223372036854775808 + a by omega) (show 0 ≤ 9223372036854775808 - b by omega)
  have h3 := Int.mul_nonneg (show 0 ≤ 9223372036854775808 - a by omega) (show 0 ≤ 9223372036854775808 - b by omega)
  have h4 := Int.mul_nonneg (show 0 ≤ 9223372036854775808 + a by omega) (show 0 ≤ 9223372036854775808 + b by omega)
  have e1 : (9223372036854775808 - a) * (9223372036854775808 + b) = 85070591730234615865843651857942052864 + 9223372036854775808 * b - 9223372036854775808 * a - a * b := by grind
  have e2 : (9223372036854775808 + a) * (9223372036854775808 - b) = 85070591730234615865843651857942052864 - 9223372036854775808 * b + 9223372036854775808 * a - a * b := by grind
  have e3 : (9223372036854775808 - a) * (9223372036854775808 - b) = 85070591730234615865843651857942052864 - 9223372036854775808 * b - 9223372036854775808 * a + a * b := by grind
  have e4 : (9223372036854775808 + a) * (9223372036854775808 + b) = 85070591730234615865843651857942052864 + 9223372036854775808 * b + 9223372036854775808 * a + a * b := by grind
  omega
theorem prod_bd {x y m : Int} (hx : -m ≤ x) (hx' : x ≤ m) (hy : -m ≤ y) (hy' : y ≤ m) : -(m * m) ≤ x * y ∧ x * y ≤ m * m := by
  have h1 := Int.mul_nonneg (show 0 ≤ m - x by omega) (show 0 ≤ m + y by omega)
  have h2 := Int.mul_nonneg (show 0 ≤ m + x by omega) (show 0 ≤ m - y by omega)
  have h3 := Int.mul_nonneg (show 0 ≤ m - x by omega) (show 0 ≤ m - y by omega)
  have h4 := Int.mul_nonneg (show 0 ≤ m + x by omega) (show 0 ≤ m + y by omega)
  have e1 : (m - x) * (m + y) = m * m + m * y - x * m - x * y := by grind
  have e2 : (m + x) * (m - y) = m * m - m * y + x * m - x * y := by grind
  have e3 : (m - x) * (m - y) = m * m - m * y - x * m + x * y := by grind
  have e4 : (m + x) * (m + y) = m * m + m * y + x * m + x * y := by grind
  generalize m * m = mm at *; generalize m * y = my at *; generalize x * m = xm at *; generalize x * y = xy at *
  omega
theorem prod_bd41 {x y : Int} (hx : -2199023255552 ≤ x) (hx' : x ≤ 2199023255552) (hy : -2199023255552 ≤ y) (hy' : y ≤ 2199023255552) : -4835703278458516698824704 ≤ x * y ∧ x * y ≤ 4835703278458516698824704 := prod_bd hx hx' hy hy'
def cmp (x y : Int) : Int := if x < y then -1 else if y < x then 1 else 0
end Go.Proofs.Ytjblhppbjebagaa.AE

namespace Go.Proofs.Ytjblhppbjebagaa.Geo
set_option linter.unusedVariables false
set_option linter.unusedSimpArgs false
set_option linter.constructorNameAsVariable false
abbrev Pt := Int × Int
def Okc (x : Int) : Prop := -1099511627776 ≤ x ∧ x ≤ 1099511627776
instance (x : Int) : Decidable (Okc x) := by unfold Okc; infer_instance
def OkP (p : Pt) : Prop := Okc p.1 ∧ Okc p.2
instance (p : Pt) : Decidable (OkP p) := by unfold OkP; infer_instance
/-- Twice the area from a over b to c. -/
def TN (a b c : Pt) : Int := (b.1 - a.1) * (c.2 - a.2) - (b.2 - a.2) * (c.1 - a.1)
def sg (v : Int) : Int := if v < 0 then -1 else if v = 0 then 0 else 1
theorem sg_neg (v : Int) : sg (-v) = -sg v := by unfold sg; split <;> split <;> (try split) <;> (try split) <;> omega
theorem sg_zero {v : Int} : sg v = 0 ↔ v = 0 := by unfold sg; split <;> (try split) <;> omega
theorem sg_pos {v : Int} : sg v > 0 ↔ v > 0 := by unfold sg; split <;> (try split) <;> omega
theorem sg_cases (v : Int) : (v < 0 ∧ sg v = -1) ∨ (v = 0 ∧ sg v = 0) ∨ (v > 0 ∧ sg v = 1) := by unfold sg; split <;> (try split) <;> omega
/-- Two signs that are opposite. -/
theorem sg_mul_neg {u v : Int} : sg u * sg v < 0 ↔ (u < 0 ∧ v > 0) ∨ (u > 0 ∧ v < 0) := by
  rcases sg_cases u with ⟨h, e⟩ | ⟨h, e⟩ | ⟨h, e⟩ <;> rcases sg_cases v with ⟨h', e'⟩ | ⟨h', e'⟩ | ⟨h', e'⟩ <;> rw [e, e'] <;> simp <;> omega
theorem TN_swap (a b c : Pt) : TN b a c = -TN a b c := by unfold TN; grind
theorem TN_abb (a b : Pt) : TN a b b = 0 := by unfold TN; grind
theorem TN_aba (a b : Pt) : TN a b a = 0 := by unfold TN; grind
/-- Both numbers are between those of two places. -/
def Btw (p a b : Pt) : Prop := ((a.1 ≤ p.1 ∧ p.1 ≤ b.1) ∨ (b.1 ≤ p.1 ∧ p.1 ≤ a.1)) ∧ ((a.2 ≤ p.2 ∧ p.2 ≤ b.2) ∨ (b.2 ≤ p.2 ∧ p.2 ≤ a.2))
instance (p a b : Pt) : Decidable (Btw p a b) := by unfold Btw; infer_instance
theorem Btw_swap {p a b : Pt} : Btw p b a ↔ Btw p a b := by unfold Btw; omega
/-- On the way from a to b. -/
def On (p a b : Pt) : Prop := TN a b p = 0 ∧ Btw p a b
instance (p a b : Pt) : Decidable (On p a b) := by unfold On; infer_instance
theorem On_swap {p a b : Pt} : On p b a ↔ On p a b := by
  unfold On; rw [TN_swap, Btw_swap]
  exact ⟨fun h => ⟨by have := h.1; omega, h.2⟩, fun h => ⟨by have := h.1; omega, h.2⟩⟩
/-- The one way crosses the other one. -/
def Cross (a b c d : Pt) : Prop := sg (TN a b c) * sg (TN a b d) < 0 ∧ sg (TN c d a) * sg (TN c d b) < 0
instance (a b c d : Pt) : Decidable (Cross a b c d) := by unfold Cross; infer_instance
def Meet (a b c d : Pt) : Prop := On a c d ∨ On b c d ∨ On c a b ∨ On d a b ∨ Cross a b c d
instance (a b c d : Pt) : Decidable (Meet a b c d) := by unfold Meet; infer_instance
theorem Cross_swap {a b c d : Pt} : Cross c d a b ↔ Cross a b c d := by unfold Cross; exact And.comm
theorem Cross_ab {a b c d : Pt} : Cross b a c d ↔ Cross a b c d := by
  unfold Cross; rw [TN_swap a b c, TN_swap a b d, sg_neg, sg_neg, Int.neg_mul_neg, Int.mul_comm (sg (TN c d b))]
theorem Meet_swap {a b c d : Pt} : Meet c d a b ↔ Meet a b c d := by unfold Meet; rw [Cross_swap]; constructor <;> (rintro (h | h | h | h | h) <;> simp [h])
theorem Meet_ab {a b c d : Pt} : Meet b a c d ↔ Meet a b c d := by
  unfold Meet; rw [Cross_ab, On_swap (p := c), On_swap (p := d)]; constructor <;> (rintro (h | h | h | h | h) <;> simp [h])
theorem Meet_cd {a b c d : Pt} : Meet a b d c ↔ Meet a b c d := by rw [← Meet_swap, Meet_ab, Meet_swap]
def mv (p : Pt) (x y : Int) : Pt := (p.1 + x, p.2 + y)
end Go.Proofs.Ytjblhppbjebagaa.Geo

namespace Go.Proofs.Ytjblhppbjebagaa.AE
set_option linter.unusedVariables false
set_option linter.unusedSimpArgs false
set_option linter.constructorNameAsVariable false
open Go Go.Proofs.Ytjblhppbjebagaa.Geo
abbrev i64 (n : Int) : AV := .int .i64 n
abbrev u64 (n : Int) : AV := .int .u64 n
abbrev pt (p : Int × Int) : AV := .agg [.int .i64 p.1, .int .i64 p.2]
theorem s74 (d : Nat) (x : Int) : pcall M (d + 1) 74 [.int .i64 x] = some (.bool false) := told (r74 C0 d x) (by simp)
theorem s75 (d : Nat) (x : Int) : pcall M (d + 1) 75 [.int .u64 x] = some (.bool false) := told (r75 C0 d x) (by simp)
theorem s66 (d : Nat) (x y : Int) : pcall M (d + 2) 66 [.int .i64 x, .int .i64 y] = some (.int .i64 (cmp x y)) := told (r66 C0 (d + 1) x y) (by
  rw [s74, s74, C0_bool, C0_bool, cnd_f, cnd_f]
  unfold cmp
  by_cases h : x < y
  · simp [h, cnd_t]
  · by_cases h2 : y < x <;> simp [h, h2, cnd_t, cnd_f])
theorem s67 (d : Nat) (x y : Int) : pcall M (d + 2) 67 [.int .u64 x, .int .u64 y] = some (.int .i64 (cmp x y)) := told (r67 C0 (d + 1) x y) (by
  rw [s75, s75, C0_bool, C0_bool, cnd_f, cnd_f]
  unfold cmp
  by_cases h : x < y
  · simp [h, cnd_t]
  · by_cases h2 : y < x <;> simp [h, h2, cnd_t, cnd_f])
theorem s50 (d : Nat) (x : Int) : pcall M (d + 1) 50 [.int .i64 x] = some (.bool (decide (Okc x))) := told (r50 C0 d x) (by
  unfold Okc
  by_cases h : x ≥ -1099511627776 <;> by_cases h2 : x ≤ 1099511627776 <;> simp [h, h2, cnd_t, cnd_f])
theorem s35 (d : Nat) (p : Int × Int) : pcall M (d + 2) 35 [pt p] = some (.bool (decide (OkP p))) := told (r35 C0 (d + 1) p.1 p.2) (by
  rw [s50, s50, C0_bool, C0_bool]
  unfold OkP
  by_cases h : Okc p.1 <;> by_cases h2 : Okc p.2 <;> simp [h, h2, cnd_t, cnd_f])
theorem s63 (d : Nat) (p : Int × Int) : pcall M (d + 3) 63 [pt p] = some (.bool (!decide (OkP p))) := told (r63 C0 (d + 2) p.1 p.2) (by
  rw [s35, C0_bool])
def fi : List Pt → Int → Int
  | [], _ => -1
  | p :: l, i => if OkP p then fi l (i + 1) else i
theorem pts_at {ps : List Pt} {i : Nat} (h : i < ps.length) : (ps.map pt)[((i : Nat) : Int).toNat]? = some (pt ps[i]) := by simp [h]
theorem s53_0 (d : Nat) (ps : List Pt) (hl : ps.length < 1000000000000000000) : ∀ (l2 : List Pt) (i f : Nat), ps.drop i = l2 → l2.length < f →
    L53f63_0 (d + 3) (ps.map pt) f (i : Nat) = some (.int .i64 (fi l2 (i : Nat))) := by
  intro l2
  induction l2 with
  | nil =>
    intro i f hd hf
    obtain ⟨f, rfl⟩ : ∃ m, f = m + 1 := ⟨f - 1, by omega⟩
    have : ps.length ≤ i := List.drop_eq_nil_iff.mp hd
    rw [L53f63_0, decide_eq_false (by simp; omega), cnd_f]; rfl
  | cons p l2 ih =>
    intro i f hd hf
    obtain ⟨f, rfl⟩ : ∃ m, f = m + 1 := ⟨f - 1, by simp at hf; omega⟩
    have hi : i < ps.length := by
      rcases Nat.lt_or_ge i ps.length with h | h
      · exact h
      · rw [List.drop_eq_nil_of_le h] at hd; cases hd
    have hp : ps[i] = p := by have := List.drop_eq_getElem_cons hi; rw [hd] at this; exact (List.cons.inj this).1.symm
    have hd2 : ps.drop (i + 1) = l2 := by have := List.drop_eq_getElem_cons hi; rw [hd] at this; exact (List.cons.inj this).2.symm
    rw [L53f63_0, decide_eq_true (by simp; omega), cnd_t, decide_eq_true (by omega), cnd_t, pts_at hi]
    refine Eq.trans (pl_agg (by rfl) (by rfl)) ?_; refine Eq.trans (pl_int (by rfl)) ?_; refine Eq.trans (pl_int (by rfl)) ?_
    rw [show pcall M (d + 3) 63 [.agg [.int .i64 ps[i].1, .int .i64 ps[i].2]] = some (.bool (!decide (OkP ps[i]))) from s63 d ps[i], C0_bool, hp]
    simp only [fi]
    by_cases h : OkP p
    · rw [decide_eq_true h, if_pos h, show IntKind.wrap .i64 ((i : Int) + 1) = ((i + 1 : Nat) : Int) by rw [IntKind.wrap_i64]; omega]
      refine (ih (i + 1) f hd2 (by simp at hf; omega)).trans ?_
      simp
    · rw [decide_eq_false h, if_neg h]; rfl
theorem s53 (d : Nat) (ps : List Pt) (hl : ps.length < 140737488355329) : pcall M (d + 4) 53 [.lst (ps.map pt), .fn 63 [] []] = some (.int .i64 (fi ps 0)) :=
  told (q53f63 (d + 3) (ps.map pt) .nilp) (s53_0 d ps (by omega) ps 0 _ rfl (by omega))
end Go.Proofs.Ytjblhppbjebagaa.AE

namespace Go.Proofs.Ytjblhppbjebagaa.AE
set_option linter.unusedVariables false
set_option linter.unusedSimpArgs false
set_option linter.constructorNameAsVariable false
open Go Go.Proofs.Ytjblhppbjebagaa.Geo
theorem s65 (d : Nat) (x y : Int) : pcall M (d + 1) 65 [.lst [.int .i64 x, .int .i64 y]] = some (.int .i64 (if x ≠ 0 then x else y)) := told (q65 d _) (by
  rw [show (1000000000000000000 : Nat) = 999999999999999997 + 1 + 1 + 1 from rfl, L65_0]
  refine Eq.trans (pl_len (by rfl)) ?_; refine Eq.trans (pl_len (by rfl)) ?_; refine Eq.trans (pl_int (by rfl)) ?_
  by_cases hx : x = 0
  · subst hx
    refine Eq.trans (pl_f (by rfl)) ?_
    rw [L65_0]
    refine Eq.trans (pl_len (by rfl)) ?_; refine Eq.trans (pl_len (by rfl)) ?_; refine Eq.trans (pl_int (by rfl)) ?_
    by_cases hy : y = 0
    · subst hy
      refine Eq.trans (pl_f (by rfl)) ?_
      rw [L65_0]; rfl
    · rw [show (y != 0) = true by simp [hy], cnd_t]; rfl
  · rw [show (x != 0) = true by simp [hx], cnd_t, if_pos hx]; rfl)
theorem s52 (d : Nat) (a b : Int) (ha : -170141183460469231731687303715884105728 ≤ a) (ha' : a < 170141183460469231731687303715884105728) (hb : -170141183460469231731687303715884105728 ≤ b) (hb' : b < 170141183460469231731687303715884105728) :
    pcall M (d + 3) 52 [.agg [.int .i64 (hiw a), .int .u64 (low a)], .agg [.int .i64 (hiw b), .int .u64 (low b)]] = some (.int .i64 (cmp a b)) := told (r52 C0 (d + 2) _ _ _ _) (by
  rw [s66, s67, C0_int, C0_int, s65, C0_int]
  have e1 : hiw a = a / 18446744073709551616 := by unfold hiw; rw [i64_small (by omega) (by omega)]
  have e2 : hiw b = b / 18446744073709551616 := by unfold hiw; rw [i64_small (by omega) (by omega)]
  rw [e1, e2]
  unfold low cmp
  congr 2
  repeat' split
  all_goals omega)
theorem s64 (d : Nat) (a b : Int) (ha : 0 ≤ a) (ha' : a < 18446744073709551616) (hb : 0 ≤ b) (hb' : b < 18446744073709551616) :
    ∃ hi lo, pcall M (d + 1) 64 [.int .u64 a, .int .u64 b] = some (.tup [.int .u64 hi, .int .u64 lo]) ∧ hi * 18446744073709551616 + lo = a * b ∧ 0 ≤ lo ∧ lo < 18446744073709551616 ∧ 0 ≤ hi ∧ hi < 18446744073709551616 := by
  refine ⟨_, _, told (r64 C0 d a b) rfl, ?_⟩
  have h32 : ∀ x : Int, Int.fdiv x (2 ^ (min (Int.toNat 32) 64)) = x / 4294967296 := by
    intro x
    rw [show ((2 : Int) ^ (min (Int.toNat 32) 64)) = 4294967296 from by decide]
    exact Int.fdiv_eq_ediv_of_nonneg x (by decide)
  rw [u64_and32 ha ha', u64_and32 hb hb']
  simp only [h32]
  obtain ⟨a1, a0, e1, e2, e3, e4⟩ : ∃ a1 a0 : Int, a / 4294967296 = a1 ∧ a % 4294967296 = a0 ∧ a = a1 * 4294967296 + a0 ∧ (0 ≤ a0 ∧ a0 < 4294967296 ∧ 0 ≤ a1 ∧ a1 < 4294967296) := ⟨_, _, rfl, rfl, by omega, by omega⟩
  obtain ⟨b1, b0, f1, f2, f3, f4⟩ : ∃ a1 a0 : Int, b / 4294967296 = a1 ∧ b % 4294967296 = a0 ∧ b = a1 * 4294967296 + a0 ∧ (0 ≤ a0 ∧ a0 < 4294967296 ∧ 0 ≤ a1 ∧ a1 < 4294967296) := ⟨_, _, rfl, rfl, by omega, by omega⟩
  rw [e1, e2, f1, f2]
  have hp : a * b = (a1 * b1) * 18446744073709551616 + (a1 * b0 + a0 * b1) * 4294967296 + a0 * b0 := by rw [e3, f3]; grind
  rw [hp]
  have bd : ∀ x y : Int, 0 ≤ x → x < 4294967296 → 0 ≤ y → y < 4294967296 → 0 ≤ x * y ∧ x * y ≤ 18446744065119617025 := by
    intro x y h1 h2 h3 h4
    exact ⟨Int.mul_nonneg h1 h3, Int.le_trans (Int.mul_le_mul (show x ≤ 4294967295 by omega) (show y ≤ 4294967295 by omega) h3 (by omega)) (by decide)⟩
  have B11 := bd a1 b1 (by omega) (by omega) (by omega) (by omega)
  have B10 := bd a1 b0 (by omega) (by omega) (by omega) (by omega)
  have B01 := bd a0 b1 (by omega) (by omega) (by omega) (by omega)
  have B00 := bd a0 b0 (by omega) (by omega) (by omega) (by omega)
  generalize a1 * b1 = p11 at *
  generalize a1 * b0 = p10 at *
  generalize a0 * b1 = p01 at *
  generalize a0 * b0 = p00 at *
  simp only [u64w]
  rw [show ∀ x : Int, Go.bits .and .u64 (x % 18446744073709551616) 4294967295 = (x % 18446744073709551616) % 4294967296 from fun x => u64_and32 (by omega) (by omega)]
  omega
theorem s51 (d : Nat) (a b : Int) (ha : -9223372036854775808 ≤ a) (ha' : a < 9223372036854775808) (hb : -9223372036854775808 ≤ b) (hb' : b < 9223372036854775808) :
    pcall M (d + 2) 51 [.int .i64 a, .int .i64 b] = some (.agg [.int .i64 (hiw (a * b)), .int .u64 (low (a * b))]) := told (r51 C0 (d + 1) a b) (by
  obtain ⟨hi, lo, e, h0, l0, l1, i0, i1⟩ := s64 d (IntKind.u64.wrap a) (IntKind.u64.wrap b) (by rw [u64w]; omega) (by rw [u64w]; omega) (by rw [u64w]; omega) (by rw [u64w]; omega)
  have bd := mul_bd63 a b ha ha' hb hb'
  rw [e, C0_tup2]
  simp only [at0, at1, C0_int, u64w]
  rw [u64w, u64w] at h0
  unfold hiw low
  have fin : ∀ h : Int, (h * 18446744073709551616 + lo - a * b) % 340282366920938463463374607431768211456 = 0 → (some (.agg [.int .i64 (IntKind.i64.wrap h), .int .u64 lo]) : Ans) = some (.agg [.int .i64 (IntKind.i64.wrap (a * b / 18446744073709551616)), .int .u64 (a * b % 18446744073709551616)]) := by
    intro h hh
    generalize a * b = p at *
    have e2 : lo = p % 18446744073709551616 := by omega
    have e1 : IntKind.i64.wrap h = IntKind.i64.wrap (p / 18446744073709551616) := by rw [i64w, i64w]; omega
    rw [e1, e2]
  by_cases ca : a < 0
  · rw [decide_eq_true ca, cnd_t]
    have ua : a % 18446744073709551616 = a + 18446744073709551616 := by omega
    by_cases cb : b < 0
    · rw [decide_eq_true cb, cnd_t]
      have ub : b % 18446744073709551616 = b + 18446744073709551616 := by omega
      have hp : (a + 18446744073709551616) * (b + 18446744073709551616) = a * b + 18446744073709551616 * (a + b) + 340282366920938463463374607431768211456 := by grind
      rw [ua, ub, hp] at h0
      rw [ua, ub]
      refine fin _ ?_
      generalize a * b = p at *
      omega
    · rw [decide_eq_false cb, cnd_f]
      have ub : b % 18446744073709551616 = b := by omega
      have hp : (a + 18446744073709551616) * b = a * b + 18446744073709551616 * b := by grind
      rw [ua, ub, hp] at h0
      rw [ub]
      refine fin _ ?_
      generalize a * b = p at *
      omega
  · rw [decide_eq_false ca, cnd_f]
    have ua : a % 18446744073709551616 = a := by omega
    by_cases cb : b < 0
    · rw [decide_eq_true cb, cnd_t]
      have ub : b % 18446744073709551616 = b + 18446744073709551616 := by omega
      have hp : a * (b + 18446744073709551616) = a * b + 18446744073709551616 * a := by grind
      rw [ua, ub, hp] at h0
      rw [ua]
      refine fin _ ?_
      generalize a * b = p at *
      omega
    · rw [decide_eq_false cb, cnd_f]
      have ub : b % 18446744073709551616 = b := by omega
      rw [ua, ub] at h0
      refine fin _ ?_
      generalize a * b = p at *
      omega)
theorem fi_ge (ps : List Pt) : ∀ i : Int, 0 ≤ i → (fi ps i ≥ 0 ↔ ¬ ∀ p ∈ ps, OkP p) := by
  induction ps with
  | nil => intro i hi; simp [fi]
  | cons p l ih =>
    intro i hi
    simp only [fi]
    by_cases h : OkP p
    · simp only [h, if_true]; rw [ih (i + 1) (by omega)]; simp [h]
    · simp only [h, if_false]
      exact ⟨fun _ hh => h (hh p (by simp)), fun _ => hi⟩
theorem s49 (d : Nat) (ps : List Pt) (hl : ps.length < 140737488355329) : pcall M (d + 6) 49 [.lst (ps.map pt)] = some (.bool (decide (∀ p ∈ ps, OkP p))) := told (r49 C0 (d + 5) _) (by
  have h30 : pcall M (d + 5) 40 [.lst (ps.map pt), .fn 63 [] []] = some (.bool (decide (fi ps 0 ≥ 0))) := told (r40f63 C0 (d + 4) _ .nilp) (by rw [s53 d ps hl, C0_int])
  rw [h30, C0_bool]
  congr 2
  have := fi_ge ps 0 (by decide)
  by_cases h : ∀ p ∈ ps, OkP p
  · have : ¬ fi ps 0 ≥ 0 := fun hh => (this.mp hh) h
    rw [decide_eq_true h, decide_eq_false this]; rfl
  · rw [decide_eq_false h, decide_eq_true (this.mpr h)]; rfl)
def ok3 (a b c : Pt) : Prop := OkP a ∧ OkP b ∧ OkP c
instance (a b c : Pt) : Decidable (ok3 a b c) := by unfold ok3; infer_instance
def tn3 (a b c : Pt) : Int := if ok3 a b c then sg (TN a b c) else 0
def onB (p a b : Pt) : Bool := decide (ok3 p a b ∧ On p a b)
def ok4 (a b c d : Pt) : Prop := OkP a ∧ OkP b ∧ OkP c ∧ OkP d
instance (a b c d : Pt) : Decidable (ok4 a b c d) := by unfold ok4; infer_instance
def meetB (a b c d : Pt) : Bool := decide (ok4 a b c d ∧ Meet a b c d)
theorem cmp_sg (p q : Int) : cmp p q = sg (p - q) := by unfold cmp sg; split <;> split <;> (try split) <;> (try split) <;> omega
theorem s39 (d : Nat) (a b c : Pt) : pcall M (d + 7) 39 [pt a, pt b, pt c] = some (.int .i64 (tn3 a b c)) := told (r39 C0 (d + 6) _ _ _ _ _ _) (by
  have h22 := s49 d [a, b, c] (by simp)
  simp only [List.map_cons, List.map_nil, pt] at h22
  rw [h22, C0_bool]
  unfold tn3
  by_cases h : ok3 a b c
  · rw [if_pos h, decide_eq_true (by simpa [ok3] using h)]
    obtain ⟨⟨⟨ha, ha'⟩, hb, hb'⟩, ⟨⟨hc, hc'⟩, hd, hd'⟩, ⟨he, he'⟩, hf, hf'⟩ := h
    rw [i64_small (n := b.1 - a.1) (by omega) (by omega), i64_small (n := c.2 - a.2) (by omega) (by omega), i64_small (n := b.2 - a.2) (by omega) (by omega), i64_small (n := c.1 - a.1) (by omega) (by omega)]
    rw [s51 (d + 4) _ _ (by omega) (by omega) (by omega) (by omega), s51 (d + 4) _ _ (by omega) (by omega) (by omega) (by omega)]
    have p1 := prod_bd41 (x := b.1 - a.1) (y := c.2 - a.2) (by omega) (by omega) (by omega) (by omega)
    have p2 := prod_bd41 (x := b.2 - a.2) (y := c.1 - a.1) (by omega) (by omega) (by omega) (by omega)
    simp only [Bool.not_true, cnd_f, C0_agg2, at0, at1, C0_int]
    rw [s52 (d + 3) _ _ (by omega) (by omega) (by omega) (by omega), C0_int, cmp_sg]
    rfl
  · rw [if_neg h, decide_eq_false (by simpa [ok3] using h)]
    rfl)
end Go.Proofs.Ytjblhppbjebagaa.AE

namespace Go.Proofs.Ytjblhppbjebagaa.AE
set_option linter.unusedVariables false
set_option linter.unusedSimpArgs false
set_option linter.constructorNameAsVariable false
open Go Go.Proofs.Ytjblhppbjebagaa.Geo
def btw (x y z : Int) : Bool := decide ((y ≤ x ∧ x ≤ z) ∨ (z ≤ x ∧ x ≤ y))
theorem btw_t {x y z : Int} : btw x y z = true ↔ (y ≤ x ∧ x ≤ z) ∨ (z ≤ x ∧ x ≤ y) := decide_eq_true_iff
def okB (l : List Pt) : Bool := decide (∀ p ∈ l, OkP p)
theorem okB_t {l : List Pt} : okB l = true ↔ ∀ p ∈ l, OkP p := decide_eq_true_iff
def zeroB (x : Int) : Bool := x == 0
theorem zeroB_t {x : Int} : zeroB x = true ↔ x = 0 := beq_iff_eq
def negB (x : Int) : Bool := decide (x < 0)
theorem negB_t {x : Int} : negB x = true ↔ x < 0 := decide_eq_true_iff
theorem onB_t {p a b : Pt} : onB p a b = true ↔ ok3 p a b ∧ On p a b := decide_eq_true_iff
theorem meetB_t {a b c d : Pt} : meetB a b c d = true ↔ ok4 a b c d ∧ Meet a b c d := decide_eq_true_iff
theorem s59 (d : Nat) (x y z : Int) : pcall M (d + 1) 59 [.int .i64 x, .int .i64 y, .int .i64 z] = some (.bool (btw x y z)) := told (r59 C0 d x y z) (by
  have e1 : (if z < y then z else y) = min z y := by omega
  have e2 : (if z > y then z else y) = max z y := by omega
  rw [e1, e2]
  unfold btw
  by_cases h : min z y ≤ x
  · rw [decide_eq_true h, cnd_t]; congr 2; rw [decide_eq_decide]; omega
  · rw [decide_eq_false h, cnd_f]; congr 2; symm; rw [decide_eq_false_iff_not]; omega)
theorem s47 (d : Nat) (p a b : Pt) : pcall M (d + 8) 47 [pt p, pt a, pt b] = some (.bool (onB p a b)) := told (r47 C0 (d + 7) _ _ _ _ _ _) (by
  have h22 := s49 (d + 1) [p, a, b] (by simp)
  simp only [List.map_cons, List.map_nil, pt] at h22
  have h12 := s39 d a b p
  simp only [pt] at h12
  rw [h22, C0_bool, h12, C0_int, s59 (d + 6), s59 (d + 6), C0_bool, C0_bool]
  change cnd (okB [p, a, b]) (cnd (zeroB (tn3 a b p)) (cnd (btw p.1 a.1 b.1) (some (.bool (btw p.2 a.2 b.2))) (some (.bool false))) (some (.bool false))) (some (.bool false)) = _
  have hok : okB [p, a, b] = true ↔ ok3 p a b := by rw [okB_t]; simp [ok3]
  have key : onB p a b = (okB [p, a, b] && (zeroB (tn3 a b p) && (btw p.1 a.1 b.1 && btw p.2 a.2 b.2))) := by
    rw [Bool.eq_iff_iff]
    simp only [Bool.and_eq_true, onB_t, hok, zeroB_t, btw_t]
    constructor
    · rintro ⟨h, hT, hB⟩
      exact ⟨h, by rw [tn3, if_pos ⟨h.2.1, h.2.2, h.1⟩, sg_zero]; exact hT, hB⟩
    · rintro ⟨h, hT, hB⟩
      rw [tn3, if_pos ⟨h.2.1, h.2.2, h.1⟩, sg_zero] at hT
      exact ⟨h, hT, hB⟩
  rw [key]
  cases okB [p, a, b] <;> cases zeroB (tn3 a b p) <;> cases btw p.1 a.1 b.1 <;> rfl)
theorem tn3_sg {a b c : Pt} (h : ok3 a b c) : tn3 a b c = sg (TN a b c) := if_pos h
theorem sg_small (u v : Int) : IntKind.i64.wrap (sg u * sg v) = sg u * sg v := by
  rcases sg_cases u with ⟨_, h⟩ | ⟨_, h⟩ | ⟨_, h⟩ <;> rcases sg_cases v with ⟨_, h'⟩ | ⟨_, h'⟩ | ⟨_, h'⟩ <;> rw [h, h', i64w] <;> decide
theorem s79 (d : Nat) (a b c e : Pt) : pcall M (d + 9) 79 [pt a, pt b, pt c, pt e] = some (.bool (meetB a b c e)) := told (r79 C0 (d + 8) _ _ _ _ _ _ _ _) (by
  have h22 := s49 (d + 2) [a, b, c, e] (by simp)
  simp only [List.map_cons, List.map_nil, pt] at h22
  have o := fun p q r => s47 d p q r
  have t := fun p q r => s39 (d + 1) p q r
  simp only [pt] at o t
  rw [h22, C0_bool, o a c e, o b c e, o c a b, o e a b, t a b c, t a b e, t c e a, t c e b]
  simp only [C0_bool, C0_int]
  change cnd (!okB [a, b, c, e]) (some (.bool false)) (cnd (onB a c e) (some (.bool true)) (cnd (onB b c e) (some (.bool true)) (cnd (onB c a b) (some (.bool true)) (cnd (onB e a b) (some (.bool true))
    (cnd (negB (IntKind.wrap .i64 (tn3 a b c * tn3 a b e))) (some (.bool (negB (IntKind.wrap .i64 (tn3 c e a * tn3 c e b))))) (some (.bool false))))))) = _
  have hok : okB [a, b, c, e] = true ↔ ok4 a b c e := by rw [okB_t]; simp [ok4]
  have key : meetB a b c e = (okB [a, b, c, e] && (onB a c e || (onB b c e || (onB c a b || (onB e a b || (negB (IntKind.wrap .i64 (tn3 a b c * tn3 a b e)) && negB (IntKind.wrap .i64 (tn3 c e a * tn3 c e b)))))))) := by
    rw [Bool.eq_iff_iff]
    simp only [Bool.and_eq_true, Bool.or_eq_true, onB_t, hok, negB_t, meetB_t]
    refine and_congr_right fun h => ?_
    obtain ⟨ha, hb, hc, he⟩ := h
    rw [tn3_sg ⟨ha, hb, hc⟩, tn3_sg ⟨ha, hb, he⟩, tn3_sg ⟨hc, he, ha⟩, tn3_sg ⟨hc, he, hb⟩, sg_small, sg_small]
    simp only [ok3, ha, hb, hc, he, true_and, and_true]
    exact Iff.rfl
  rw [key]
  cases okB [a, b, c, e] <;> cases onB a c e <;> cases onB b c e <;> cases onB c a b <;> cases onB e a b <;> cases negB (IntKind.wrap .i64 (tn3 a b c * tn3 a b e)) <;> rfl)
theorem s26 (d : Nat) (p : Pt) : pcall M (d + 1) 26 [pt p] = some (.bool (decide (OkP p))) := told (r26 C0 d _ _) (by
  unfold OkP Okc
  by_cases h1 : p.1 ≥ -1099511627776 <;> by_cases h2 : p.1 ≤ 1099511627776 <;> by_cases h3 : p.2 ≥ -1099511627776 <;> by_cases h4 : p.2 ≤ 1099511627776 <;> simp [h1, h2, h3, h4, cnd_t, cnd_f])
end Go.Proofs.Ytjblhppbjebagaa.AE

namespace Go.Proofs.Ytjblhppbjebagaa.AE
set_option linter.unusedVariables false
set_option linter.unusedSimpArgs false
open Go
def bin : List Int → Int
  | [] => 0
  | x :: l => x + 2 * bin l
end Go.Proofs.Ytjblhppbjebagaa.AE

namespace Go.Proofs.Ytjblhppbjebagaa.AE
set_option linter.unusedVariables false
set_option linter.unusedSimpArgs false
open Go
theorem sgn_i64 (b : BitVec 64) : (IntKind.i64.wrap (b.toNat : Int) < 0) ↔ b.msb = true := by
  rw [i64w, BitVec.msb_eq_decide]; have := b.isLt; simp; omega
theorem msb_i64 (x : Int) (h : -9223372036854775808 ≤ x) (h' : x < 9223372036854775808) : (BitVec.ofInt 64 x).msb = decide (x < 0) := by
  rw [BitVec.msb_eq_decide, BitVec.toNat_ofInt]
  by_cases hx : x < 0 <;> simp [hx] <;> omega
theorem bits_xor_sgn (x y : Int) (h : -9223372036854775808 ≤ x) (h' : x < 9223372036854775808) (g : -9223372036854775808 ≤ y) (g' : y < 9223372036854775808) :
    Go.bits .xor .i64 x y < 0 ↔ ¬ (x < 0 ↔ y < 0) := by
  show IntKind.i64.wrap ((BitVec.ofInt 64 x ^^^ BitVec.ofInt 64 y).toNat : Int) < 0 ↔ _
  rw [sgn_i64, BitVec.msb_xor, msb_i64 x h h', msb_i64 y g g']
  by_cases a : x < 0 <;> by_cases b : y < 0 <;> simp [a, b]
theorem bits_rng_i64 (op : BinOp) (x y : Int) : -9223372036854775808 ≤ Go.bits op .i64 x y ∧ Go.bits op .i64 x y < 9223372036854775808 := by
  unfold Go.bits; rw [show ∀ n, IntKind.wrap .i64 n = _ from i64w]; omega
theorem bits_and_sgn (x y : Int) (h : -9223372036854775808 ≤ x) (h' : x < 9223372036854775808) (g : -9223372036854775808 ≤ y) (g' : y < 9223372036854775808) :
    Go.bits .and .i64 x y < 0 ↔ (x < 0 ∧ y < 0) := by
  show IntKind.i64.wrap ((BitVec.ofInt 64 x &&& BitVec.ofInt 64 y).toNat : Int) < 0 ↔ _
  rw [sgn_i64, BitVec.msb_and, msb_i64 x h h', msb_i64 y g g']
  by_cases a : x < 0 <;> by_cases b : y < 0 <;> simp [a, b]
end Go.Proofs.Ytjblhppbjebagaa.AE

namespace Go.Proofs.Ytjblhppbjebagaa.AE
set_option linter.unusedVariables false
set_option linter.unusedSimpArgs false
set_option linter.constructorNameAsVariable false
open Go Go.Proofs.Ytjblhppbjebagaa.Geo
def okb (p : Pt) : Bool := decide (OkP p)
theorem okb_t {p : Pt} : okb p = true ↔ OkP p := decide_eq_true_iff
end Go.Proofs.Ytjblhppbjebagaa.AE

namespace Go.Proofs.Ytjblhppbjebagaa.AE
set_option linter.unusedVariables false
set_option linter.unusedSimpArgs false
set_option linter.constructorNameAsVariable false
open Go
set_option maxRecDepth 100000
def r31R0 (C : Cb) (d : Nat) (a0 : List AV) (a1 a2 : Int) (v0 : AV) (b4 : Bool) (x8 x9 : Int) (b10 : Bool) (x13 : Int) : St → (Ex → St → Ans) → Ans := fun s14 k15 =>
  cnd ((List.length (St.env s14)) == 62)
   (C.same (St.env s14)[0]? (.lst a0) <|
   C.same (St.env s14)[1]? (.agg [(.int .i64 a1), (.int .i64 a2)]) <|
   C.same (St.env s14)[2]? (.tup []) <|
   C.same (St.env s14)[3]? v0 <|
   C.int .i64 (St.env s14)[4]? fun x17 =>
   C.int .i64 (St.env s14)[5]? fun x18 =>
   C.any (St.env s14)[6]? fun v19 =>
   C.any (St.env s14)[7]? fun v20 =>
   C.any (St.env s14)[8]? fun v21 =>
   C.same (St.env s14)[9]? (.lst a0) <|
   C.same (St.env s14)[10]? (.bool b4) <|
   C.same (St.env s14)[11]? (.bool (!b4)) <|
   C.same (St.env s14)[12]? (.bool false) <|
   C.same (St.env s14)[13]? (.agg [(.int .i64 x8), (.int .i64 x9)]) <|
   C.same (St.env s14)[14]? (.bool b10) <|
   C.same (St.env s14)[15]? (.bool (!b10)) <|
   C.same (St.env s14)[16]? (.bool false) <|
   C.same (St.env s14)[17]? (.lst a0) <|
   C.same (St.env s14)[18]? (.int .i64 x13) <|
   C.int .i64 (St.env s14)[19]? fun x22 =>
   C.any (St.env s14)[20]? fun v23 =>
   C.any (St.env s14)[21]? fun v24 =>
   C.any (St.env s14)[22]? fun v25 =>
   C.any (St.env s14)[23]? fun v26 =>
   C.any (St.env s14)[24]? fun v27 =>
   C.any (St.env s14)[25]? fun v28 =>
   C.any (St.env s14)[26]? fun v29 =>
   C.any (St.env s14)[27]? fun v30 =>
   C.any (St.env s14)[28]? fun v31 =>
   C.any (St.env s14)[29]? fun v32 =>
   C.any (St.env s14)[30]? fun v33 =>
   C.any (St.env s14)[31]? fun v34 =>
   C.any (St.env s14)[32]? fun v35 =>
   C.any (St.env s14)[33]? fun v36 =>
   C.any (St.env s14)[34]? fun v37 =>
   C.any (St.env s14)[35]? fun v38 =>
   C.any (St.env s14)[36]? fun v39 =>
   C.any (St.env s14)[37]? fun v40 =>
   C.any (St.env s14)[38]? fun v41 =>
   C.any (St.env s14)[39]? fun v42 =>
   C.any (St.env s14)[40]? fun v43 =>
   C.any (St.env s14)[41]? fun v44 =>
   C.any (St.env s14)[42]? fun v45 =>
   C.any (St.env s14)[43]? fun v46 =>
   C.any (St.env s14)[44]? fun v47 =>
   C.any (St.env s14)[45]? fun v48 =>
   C.any (St.env s14)[46]? fun v49 =>
   C.any (St.env s14)[47]? fun v50 =>
   C.any (St.env s14)[48]? fun v51 =>
   C.any (St.env s14)[49]? fun v52 =>
   C.any (St.env s14)[50]? fun v53 =>
   C.any (St.env s14)[51]? fun v54 =>
   C.any (St.env s14)[52]? fun v55 =>
   C.any (St.env s14)[53]? fun v56 =>
   C.any (St.env s14)[54]? fun v57 =>
   C.any (St.env s14)[55]? fun v58 =>
   C.any (St.env s14)[56]? fun v59 =>
   C.any (St.env s14)[57]? fun v60 =>
   C.any (St.env s14)[58]? fun v61 =>
   C.any (St.env s14)[59]? fun v62 =>
   C.any (St.env s14)[60]? fun v63 =>
   C.same (St.env s14)[61]? (.tup []) <|
   cnd (decide (x22 < x13))
   (C.snp (St.H s14) [(.lst a0), (.int .i64 x22)] fun l64 b65 =>
   C.tup 2 (pcall M d 46 l64) fun l66 =>
   C.agg 2 l66[0]? fun l67 =>
   C.int .i64 l67[0]? fun x68 =>
   C.int .i64 l67[1]? fun x69 =>
   C.agg 2 l66[1]? fun l70 =>
   C.int .i64 l70[0]? fun x71 =>
   C.int .i64 l70[1]? fun x72 =>
   cnd (b65 || true)
   (C.hop (St.H s14) (.alloc E23) fun v73 h74 =>
   C.hop h74 (.alloc E23) fun v75 h76 =>
   C.hop h76 (.store 2 (.v v73) (.v (.agg [(.int .i64 x68), (.int .i64 x69)]))) fun v77 h78 =>
   C.hop h78 (.store 2 (.v v75) (.v (.agg [(.int .i64 x71), (.int .i64 x72)]))) fun v79 h80 =>
   C.hop h80 (.load true 2 (.v v0)) fun v81 h82 =>
   C.agg 2 (some v81) fun l83 =>
   C.int .i64 l83[0]? fun x84 =>
   C.int .i64 l83[1]? fun x85 =>
   C.hop h82 (.load true 2 (.v v73)) fun v86 h87 =>
   C.agg 2 (some v86) fun l88 =>
   C.int .i64 l88[0]? fun x89 =>
   C.int .i64 l88[1]? fun x90 =>
   C.hop h87 (.load true 2 (.v v75)) fun v91 h92 =>
   C.agg 2 (some v91) fun l93 =>
   C.int .i64 l93[0]? fun x94 =>
   C.int .i64 l93[1]? fun x95 =>
   C.bool (pcall M d 47 [(.agg [(.int .i64 x84), (.int .i64 x85)]), (.agg [(.int .i64 x89), (.int .i64 x90)]), (.agg [(.int .i64 x94), (.int .i64 x95)])]) fun b96 =>
   cnd b96
   (k15 .ret ⟨[(.lst a0), (.agg [(.int .i64 a1), (.int .i64 a2)]), (.tup []), v0, (.int .i64 0), (.int .i64 x18), (.int .i64 x22), v73, v75, (.lst a0), (.bool b4), (.bool (!b4)), (.bool false), (.agg [(.int .i64 x8), (.int .i64 x9)]), (.bool b10), (.bool (!b10)), (.bool false), (.lst a0), (.int .i64 x13), (.int .i64 x22), (.bool true), (.int .i64 x22), (.tup [(.agg [(.int .i64 x68), (.int .i64 x69)]), (.agg [(.int .i64 x71), (.int .i64 x72)])]), (.lst a0), (.int .i64 x22), (.tup [(.agg [(.int .i64 x68), (.int .i64 x69)]), (.agg [(.int .i64 x71), (.int .i64 x72)])]), (.agg [(.int .i64 x68), (.int .i64 x69)]), (.agg [(.int .i64 x71), (.int .i64 x72)]), (.agg [(.int .i64 x84), (.int .i64 x85)]), (.agg [(.int .i64 x89), (.int .i64 x90)]), (.agg [(.int .i64 x94), (.int .i64 x95)]), (.bool true), v35, v36, v37, v38, v39, v40, v41, v42, v43, v44, v45, v46, v47, v48, v49, v50, v51, v52, v53, v54, v55, v56, v57, v58, v59, v60, v61, v62, v63, (.tup [])], h92⟩)
   (C.hop h92 (.fldA 1 (.v v73)) fun v97 h98 =>
   C.hop h98 (.load false 1 (.v v97)) fun v99 h100 =>
   C.int .i64 (some v99) fun x101 =>
   C.hop h100 (.fldA 1 (.v v75)) fun v102 h103 =>
   C.hop h103 (.load false 1 (.v v102)) fun v104 h105 =>
   C.int .i64 (some v104) fun x106 =>
   cnd (decide (x101 > x106))
   (C.hop h105 (.load true 2 (.v v75)) fun v107 h108 =>
   C.agg 2 (some v107) fun l109 =>
   C.int .i64 l109[0]? fun x110 =>
   C.int .i64 l109[1]? fun x111 =>
   C.hop h108 (.load true 2 (.v v73)) fun v112 h113 =>
   C.agg 2 (some v112) fun l114 =>
   C.int .i64 l114[0]? fun x115 =>
   C.int .i64 l114[1]? fun x116 =>
   C.hop h113 (.store 2 (.v v73) (.v (.agg [(.int .i64 x110), (.int .i64 x111)]))) fun v117 h118 =>
   C.hop h118 (.store 2 (.v v75) (.v (.agg [(.int .i64 x115), (.int .i64 x116)]))) fun v119 h120 =>
   C.hop h120 (.fldA 1 (.v v73)) fun v121 h122 =>
   C.hop h122 (.load false 1 (.v v121)) fun v123 h124 =>
   C.int .i64 (some v123) fun x125 =>
   C.hop h124 (.fldA 1 (.v v0)) fun v126 h127 =>
   C.hop h127 (.load false 1 (.v v126)) fun v128 h129 =>
   C.int .i64 (some v128) fun x130 =>
   cnd (decide (x125 ≤ x130))
   (C.hop h129 (.fldA 1 (.v v0)) fun v131 h132 =>
   C.hop h132 (.load false 1 (.v v131)) fun v133 h134 =>
   C.int .i64 (some v133) fun x135 =>
   C.hop h134 (.fldA 1 (.v v75)) fun v136 h137 =>
   C.hop h137 (.load false 1 (.v v136)) fun v138 h139 =>
   C.int .i64 (some v138) fun x140 =>
   cnd (decide (x135 < x140))
   (C.hop h139 (.load true 2 (.v v73)) fun v141 h142 =>
   C.agg 2 (some v141) fun l143 =>
   C.int .i64 l143[0]? fun x144 =>
   C.int .i64 l143[1]? fun x145 =>
   C.hop h142 (.load true 2 (.v v75)) fun v146 h147 =>
   C.agg 2 (some v146) fun l148 =>
   C.int .i64 l148[0]? fun x149 =>
   C.int .i64 l148[1]? fun x150 =>
   C.hop h147 (.load true 2 (.v v0)) fun v151 h152 =>
   C.agg 2 (some v151) fun l153 =>
   C.int .i64 l153[0]? fun x154 =>
   C.int .i64 l153[1]? fun x155 =>
   C.int .i64 (pcall M d 39 [(.agg [(.int .i64 x144), (.int .i64 x145)]), (.agg [(.int .i64 x149), (.int .i64 x150)]), (.agg [(.int .i64 x154), (.int .i64 x155)])]) fun x156 =>
   cnd (decide (x156 > 0))
   (k15 .normal ⟨[(.lst a0), (.agg [(.int .i64 a1), (.int .i64 a2)]), (.tup []), v0, (.int .i64 x17), (.int .i64 (IntKind.wrap .i64 (0 - x18))), (.int .i64 x22), v73, v75, (.lst a0), (.bool b4), (.bool (!b4)), (.bool false), (.agg [(.int .i64 x8), (.int .i64 x9)]), (.bool b10), (.bool (!b10)), (.bool false), (.lst a0), (.int .i64 x13), (.int .i64 (IntKind.wrap .i64 (x22 + 1))), (.bool true), (.int .i64 x22), (.tup [(.agg [(.int .i64 x68), (.int .i64 x69)]), (.agg [(.int .i64 x71), (.int .i64 x72)])]), (.lst a0), (.int .i64 x22), (.tup [(.agg [(.int .i64 x68), (.int .i64 x69)]), (.agg [(.int .i64 x71), (.int .i64 x72)])]), (.agg [(.int .i64 x68), (.int .i64 x69)]), (.agg [(.int .i64 x71), (.int .i64 x72)]), (.agg [(.int .i64 x84), (.int .i64 x85)]), (.agg [(.int .i64 x89), (.int .i64 x90)]), (.agg [(.int .i64 x94), (.int .i64 x95)]), (.bool false), v97, (.int .i64 x101), v102, (.int .i64 x106), (.bool true), (.agg [(.int .i64 x110), (.int .i64 x111)]), (.agg [(.int .i64 x115), (.int .i64 x116)]), v121, (.int .i64 x125), v126, (.int .i64 x130), (.bool (decide (x125 ≤ x130))), (.bool true), v131, (.int .i64 x135), v136, (.int .i64 x140), (.bool (decide (x135 < x140))), (.bool (decide (x135 < x140))), (.bool true), (.agg [(.int .i64 x144), (.int .i64 x145)]), (.agg [(.int .i64 x149), (.int .i64 x150)]), (.agg [(.int .i64 x154), (.int .i64 x155)]), (.int .i64 x156), (.bool (decide (x156 > 0))), (.bool true), (.int .i64 x18), (.int .i64 (IntKind.wrap .i64 (0 - x18))), (.int .i64 (IntKind.wrap .i64 (x22 + 1))), (.tup [])], h152⟩)
   (k15 .normal ⟨[(.lst a0), (.agg [(.int .i64 a1), (.int .i64 a2)]), (.tup []), v0, (.int .i64 x17), (.int .i64 x18), (.int .i64 x22), v73, v75, (.lst a0), (.bool b4), (.bool (!b4)), (.bool false), (.agg [(.int .i64 x8), (.int .i64 x9)]), (.bool b10), (.bool (!b10)), (.bool false), (.lst a0), (.int .i64 x13), (.int .i64 (IntKind.wrap .i64 (x22 + 1))), (.bool true), (.int .i64 x22), (.tup [(.agg [(.int .i64 x68), (.int .i64 x69)]), (.agg [(.int .i64 x71), (.int .i64 x72)])]), (.lst a0), (.int .i64 x22), (.tup [(.agg [(.int .i64 x68), (.int .i64 x69)]), (.agg [(.int .i64 x71), (.int .i64 x72)])]), (.agg [(.int .i64 x68), (.int .i64 x69)]), (.agg [(.int .i64 x71), (.int .i64 x72)]), (.agg [(.int .i64 x84), (.int .i64 x85)]), (.agg [(.int .i64 x89), (.int .i64 x90)]), (.agg [(.int .i64 x94), (.int .i64 x95)]), (.bool false), v97, (.int .i64 x101), v102, (.int .i64 x106), (.bool true), (.agg [(.int .i64 x110), (.int .i64 x111)]), (.agg [(.int .i64 x115), (.int .i64 x116)]), v121, (.int .i64 x125), v126, (.int .i64 x130), (.bool (decide (x125 ≤ x130))), (.bool true), v131, (.int .i64 x135), v136, (.int .i64 x140), (.bool (decide (x135 < x140))), (.bool (decide (x135 < x140))), (.bool true), (.agg [(.int .i64 x144), (.int .i64 x145)]), (.agg [(.int .i64 x149), (.int .i64 x150)]), (.agg [(.int .i64 x154), (.int .i64 x155)]), (.int .i64 x156), (.bool (decide (x156 > 0))), (.bool false), v61, v62, (.int .i64 (IntKind.wrap .i64 (x22 + 1))), (.tup [])], h152⟩))
   (k15 .normal ⟨[(.lst a0), (.agg [(.int .i64 a1), (.int .i64 a2)]), (.tup []), v0, (.int .i64 x17), (.int .i64 x18), (.int .i64 x22), v73, v75, (.lst a0), (.bool b4), (.bool (!b4)), (.bool false), (.agg [(.int .i64 x8), (.int .i64 x9)]), (.bool b10), (.bool (!b10)), (.bool false), (.lst a0), (.int .i64 x13), (.int .i64 (IntKind.wrap .i64 (x22 + 1))), (.bool true), (.int .i64 x22), (.tup [(.agg [(.int .i64 x68), (.int .i64 x69)]), (.agg [(.int .i64 x71), (.int .i64 x72)])]), (.lst a0), (.int .i64 x22), (.tup [(.agg [(.int .i64 x68), (.int .i64 x69)]), (.agg [(.int .i64 x71), (.int .i64 x72)])]), (.agg [(.int .i64 x68), (.int .i64 x69)]), (.agg [(.int .i64 x71), (.int .i64 x72)]), (.agg [(.int .i64 x84), (.int .i64 x85)]), (.agg [(.int .i64 x89), (.int .i64 x90)]), (.agg [(.int .i64 x94), (.int .i64 x95)]), (.bool false), v97, (.int .i64 x101), v102, (.int .i64 x106), (.bool true), (.agg [(.int .i64 x110), (.int .i64 x111)]), (.agg [(.int .i64 x115), (.int .i64 x116)]), v121, (.int .i64 x125), v126, (.int .i64 x130), (.bool (decide (x125 ≤ x130))), (.bool true), v131, (.int .i64 x135), v136, (.int .i64 x140), (.bool (decide (x135 < x140))), (.bool (decide (x135 < x140))), (.bool false), (.tup []), (.tup []), (.tup []), (.tup []), (.tup []), (.bool false), v61, v62, (.int .i64 (IntKind.wrap .i64 (x22 + 1))), (.tup [])], h139⟩))
   (k15 .normal ⟨[(.lst a0), (.agg [(.int .i64 a1), (.int .i64 a2)]), (.tup []), v0, (.int .i64 x17), (.int .i64 x18), (.int .i64 x22), v73, v75, (.lst a0), (.bool b4), (.bool (!b4)), (.bool false), (.agg [(.int .i64 x8), (.int .i64 x9)]), (.bool b10), (.bool (!b10)), (.bool false), (.lst a0), (.int .i64 x13), (.int .i64 (IntKind.wrap .i64 (x22 + 1))), (.bool true), (.int .i64 x22), (.tup [(.agg [(.int .i64 x68), (.int .i64 x69)]), (.agg [(.int .i64 x71), (.int .i64 x72)])]), (.lst a0), (.int .i64 x22), (.tup [(.agg [(.int .i64 x68), (.int .i64 x69)]), (.agg [(.int .i64 x71), (.int .i64 x72)])]), (.agg [(.int .i64 x68), (.int .i64 x69)]), (.agg [(.int .i64 x71), (.int .i64 x72)]), (.agg [(.int .i64 x84), (.int .i64 x85)]), (.agg [(.int .i64 x89), (.int .i64 x90)]), (.agg [(.int .i64 x94), (.int .i64 x95)]), (.bool false), v97, (.int .i64 x101), v102, (.int .i64 x106), (.bool true), (.agg [(.int .i64 x110), (.int .i64 x111)]), (.agg [(.int .i64 x115), (.int .i64 x116)]), v121, (.int .i64 x125), v126, (.int .i64 x130), (.bool (decide (x125 ≤ x130))), (.bool false), (.tup []), (.tup []), (.tup []), (.tup []), (.tup []), (.bool false), (.bool false), (.tup []), (.tup []), (.tup []), (.tup []), (.tup []), (.bool false), v61, v62, (.int .i64 (IntKind.wrap .i64 (x22 + 1))), (.tup [])], h129⟩))
   (C.hop h105 (.fldA 1 (.v v73)) fun v157 h158 =>
   C.hop h158 (.load false 1 (.v v157)) fun v159 h160 =>
   C.int .i64 (some v159) fun x161 =>
   C.hop h160 (.fldA 1 (.v v0)) fun v162 h163 =>
   C.hop h163 (.load false 1 (.v v162)) fun v164 h165 =>
   C.int .i64 (some v164) fun x166 =>
   cnd (decide (x161 ≤ x166))
   (C.hop h165 (.fldA 1 (.v v0)) fun v167 h168 =>
   C.hop h168 (.load false 1 (.v v167)) fun v169 h170 =>
   C.int .i64 (some v169) fun x171 =>
   C.hop h170 (.fldA 1 (.v v75)) fun v172 h173 =>
   C.hop h173 (.load false 1 (.v v172)) fun v174 h175 =>
   C.int .i64 (some v174) fun x176 =>
   cnd (decide (x171 < x176))
   (C.hop h175 (.load true 2 (.v v73)) fun v177 h178 =>
   C.agg 2 (some v177) fun l179 =>
   C.int .i64 l179[0]? fun x180 =>
   C.int .i64 l179[1]? fun x181 =>
   C.hop h178 (.load true 2 (.v v75)) fun v182 h183 =>
   C.agg 2 (some v182) fun l184 =>
   C.int .i64 l184[0]? fun x185 =>
   C.int .i64 l184[1]? fun x186 =>
   C.hop h183 (.load true 2 (.v v0)) fun v187 h188 =>
   C.agg 2 (some v187) fun l189 =>
   C.int .i64 l189[0]? fun x190 =>
   C.int .i64 l189[1]? fun x191 =>
   C.int .i64 (pcall M d 39 [(.agg [(.int .i64 x180), (.int .i64 x181)]), (.agg [(.int .i64 x185), (.int .i64 x186)]), (.agg [(.int .i64 x190), (.int .i64 x191)])]) fun x192 =>
   cnd (decide (x192 > 0))
   (k15 .normal ⟨[(.lst a0), (.agg [(.int .i64 a1), (.int .i64 a2)]), (.tup []), v0, (.int .i64 x17), (.int .i64 (IntKind.wrap .i64 (0 - x18))), (.int .i64 x22), v73, v75, (.lst a0), (.bool b4), (.bool (!b4)), (.bool false), (.agg [(.int .i64 x8), (.int .i64 x9)]), (.bool b10), (.bool (!b10)), (.bool false), (.lst a0), (.int .i64 x13), (.int .i64 (IntKind.wrap .i64 (x22 + 1))), (.bool true), (.int .i64 x22), (.tup [(.agg [(.int .i64 x68), (.int .i64 x69)]), (.agg [(.int .i64 x71), (.int .i64 x72)])]), (.lst a0), (.int .i64 x22), (.tup [(.agg [(.int .i64 x68), (.int .i64 x69)]), (.agg [(.int .i64 x71), (.int .i64 x72)])]), (.agg [(.int .i64 x68), (.int .i64 x69)]), (.agg [(.int .i64 x71), (.int .i64 x72)]), (.agg [(.int .i64 x84), (.int .i64 x85)]), (.agg [(.int .i64 x89), (.int .i64 x90)]), (.agg [(.int .i64 x94), (.int .i64 x95)]), (.bool false), v97, (.int .i64 x101), v102, (.int .i64 x106), (.bool false), v40, v41, v157, (.int .i64 x161), v162, (.int .i64 x166), (.bool (decide (x161 ≤ x166))), (.bool true), v167, (.int .i64 x171), v172, (.int .i64 x176), (.bool (decide (x171 < x176))), (.bool (decide (x171 < x176))), (.bool true), (.agg [(.int .i64 x180), (.int .i64 x181)]), (.agg [(.int .i64 x185), (.int .i64 x186)]), (.agg [(.int .i64 x190), (.int .i64 x191)]), (.int .i64 x192), (.bool (decide (x192 > 0))), (.bool true), (.int .i64 x18), (.int .i64 (IntKind.wrap .i64 (0 - x18))), (.int .i64 (IntKind.wrap .i64 (x22 + 1))), (.tup [])], h188⟩)
   (k15 .normal ⟨[(.lst a0), (.agg [(.int .i64 a1), (.int .i64 a2)]), (.tup []), v0, (.int .i64 x17), (.int .i64 x18), (.int .i64 x22), v73, v75, (.lst a0), (.bool b4), (.bool (!b4)), (.bool false), (.agg [(.int .i64 x8), (.int .i64 x9)]), (.bool b10), (.bool (!b10)), (.bool false), (.lst a0), (.int .i64 x13), (.int .i64 (IntKind.wrap .i64 (x22 + 1))), (.bool true), (.int .i64 x22), (.tup [(.agg [(.int .i64 x68), (.int .i64 x69)]), (.agg [(.int .i64 x71), (.int .i64 x72)])]), (.lst a0), (.int .i64 x22), (.tup [(.agg [(.int .i64 x68), (.int .i64 x69)]), (.agg [(.int .i64 x71), (.int .i64 x72)])]), (.agg [(.int .i64 x68), (.int .i64 x69)]), (.agg [(.int .i64 x71), (.int .i64 x72)]), (.agg [(.int .i64 x84), (.int .i64 x85)]), (.agg [(.int .i64 x89), (.int .i64 x90)]), (.agg [(.int .i64 x94), (.int .i64 x95)]), (.bool false), v97, (.int .i64 x101), v102, (.int .i64 x106), (.bool false), v40, v41, v157, (.int .i64 x161), v162, (.int .i64 x166), (.bool (decide (x161 ≤ x166))), (.bool true), v167, (.int .i64 x171), v172, (.int .i64 x176), (.bool (decide (x171 < x176))), (.bool (decide (x171 < x176))), (.bool true), (.agg [(.int .i64 x180), (.int .i64 x181)]), (.agg [(.int .i64 x185), (.int .i64 x186)]), (.agg [(.int .i64 x190), (.int .i64 x191)]), (.int .i64 x192), (.bool (decide (x192 > 0))), (.bool false), v61, v62, (.int .i64 (IntKind.wrap .i64 (x22 + 1))), (.tup [])], h188⟩))
   (k15 .normal ⟨[(.lst a0), (.agg [(.int .i64 a1), (.int .i64 a2)]), (.tup []), v0, (.int .i64 x17), (.int .i64 x18), (.int .i64 x22), v73, v75, (.lst a0), (.bool b4), (.bool (!b4)), (.bool false), (.agg [(.int .i64 x8), (.int .i64 x9)]), (.bool b10), (.bool (!b10)), (.bool false), (.lst a0), (.int .i64 x13), (.int .i64 (IntKind.wrap .i64 (x22 + 1))), (.bool true), (.int .i64 x22), (.tup [(.agg [(.int .i64 x68), (.int .i64 x69)]), (.agg [(.int .i64 x71), (.int .i64 x72)])]), (.lst a0), (.int .i64 x22), (.tup [(.agg [(.int .i64 x68), (.int .i64 x69)]), (.agg [(.int .i64 x71), (.int .i64 x72)])]), (.agg [(.int .i64 x68), (.int .i64 x69)]), (.agg [(.int .i64 x71), (.int .i64 x72)]), (.agg [(.int .i64 x84), (.int .i64 x85)]), (.agg [(.int .i64 x89), (.int .i64 x90)]), (.agg [(.int .i64 x94), (.int .i64 x95)]), (.bool false), v97, (.int .i64 x101), v102, (.int .i64 x106), (.bool false), v40, v41, v157, (.int .i64 x161), v162, (.int .i64 x166), (.bool (decide (x161 ≤ x166))), (.bool true), v167, (.int .i64 x171), v172, (.int .i64 x176), (.bool (decide (x171 < x176))), (.bool (decide (x171 < x176))), (.bool false), (.tup []), (.tup []), (.tup []), (.tup []), (.tup []), (.bool false), v61, v62, (.int .i64 (IntKind.wrap .i64 (x22 + 1))), (.tup [])], h175⟩))
   (k15 .normal ⟨[(.lst a0), (.agg [(.int .i64 a1), (.int .i64 a2)]), (.tup []), v0, (.int .i64 x17), (.int .i64 x18), (.int .i64 x22), v73, v75, (.lst a0), (.bool b4), (.bool (!b4)), (.bool false), (.agg [(.int .i64 x8), (.int .i64 x9)]), (.bool b10), (.bool (!b10)), (.bool false), (.lst a0), (.int .i64 x13), (.int .i64 (IntKind.wrap .i64 (x22 + 1))), (.bool true), (.int .i64 x22), (.tup [(.agg [(.int .i64 x68), (.int .i64 x69)]), (.agg [(.int .i64 x71), (.int .i64 x72)])]), (.lst a0), (.int .i64 x22), (.tup [(.agg [(.int .i64 x68), (.int .i64 x69)]), (.agg [(.int .i64 x71), (.int .i64 x72)])]), (.agg [(.int .i64 x68), (.int .i64 x69)]), (.agg [(.int .i64 x71), (.int .i64 x72)]), (.agg [(.int .i64 x84), (.int .i64 x85)]), (.agg [(.int .i64 x89), (.int .i64 x90)]), (.agg [(.int .i64 x94), (.int .i64 x95)]), (.bool false), v97, (.int .i64 x101), v102, (.int .i64 x106), (.bool false), v40, v41, v157, (.int .i64 x161), v162, (.int .i64 x166), (.bool (decide (x161 ≤ x166))), (.bool false), (.tup []), (.tup []), (.tup []), (.tup []), (.tup []), (.bool false), (.bool false), (.tup []), (.tup []), (.tup []), (.tup []), (.tup []), (.bool false), v61, v62, (.int .i64 (IntKind.wrap .i64 (x22 + 1))), (.tup [])], h165⟩))))
   (none))
   (k15 (.exit 0) ⟨[(.lst a0), (.agg [(.int .i64 a1), (.int .i64 a2)]), (.tup []), v0, (.int .i64 x17), (.int .i64 x18), v19, v20, v21, (.lst a0), (.bool b4), (.bool (!b4)), (.bool false), (.agg [(.int .i64 x8), (.int .i64 x9)]), (.bool b10), (.bool (!b10)), (.bool false), (.lst a0), (.int .i64 x13), (.int .i64 x22), (.bool false), v24, v25, v26, v27, v28, v29, v30, v31, v32, v33, v34, v35, v36, v37, v38, v39, v40, v41, v42, v43, v44, v45, v46, v47, v48, v49, v50, v51, v52, v53, v54, v55, v56, v57, v58, v59, v60, v61, v62, v63, (.tup [])], (St.H s14)⟩))
   (none)
def r31X0_0 (C : Cb) (d : Nat) (a0 : List AV) (a1 a2 : Int) (v0 : AV) (b4 : Bool) (x8 x9 : Int) (b10 : Bool) (x13 : Int) : St → Ans := fun s193 =>
  cnd ((List.length (St.env s193)) == 62)
   (C.same (St.env s193)[0]? (.lst a0) <|
   C.same (St.env s193)[1]? (.agg [(.int .i64 a1), (.int .i64 a2)]) <|
   C.same (St.env s193)[2]? (.tup []) <|
   C.same (St.env s193)[3]? v0 <|
   C.int .i64 (St.env s193)[4]? fun x194 =>
   C.int .i64 (St.env s193)[5]? fun x195 =>
   C.any (St.env s193)[6]? fun v196 =>
   C.any (St.env s193)[7]? fun v197 =>
   C.any (St.env s193)[8]? fun v198 =>
   C.same (St.env s193)[9]? (.lst a0) <|
   C.same (St.env s193)[10]? (.bool b4) <|
   C.same (St.env s193)[11]? (.bool (!b4)) <|
   C.same (St.env s193)[12]? (.bool false) <|
   C.same (St.env s193)[13]? (.agg [(.int .i64 x8), (.int .i64 x9)]) <|
   C.same (St.env s193)[14]? (.bool b10) <|
   C.same (St.env s193)[15]? (.bool (!b10)) <|
   C.same (St.env s193)[16]? (.bool false) <|
   C.same (St.env s193)[17]? (.lst a0) <|
   C.same (St.env s193)[18]? (.int .i64 x13) <|
   C.int .i64 (St.env s193)[19]? fun x199 =>
   C.any (St.env s193)[20]? fun v200 =>
   C.any (St.env s193)[21]? fun v201 =>
   C.any (St.env s193)[22]? fun v202 =>
   C.any (St.env s193)[23]? fun v203 =>
   C.any (St.env s193)[24]? fun v204 =>
   C.any (St.env s193)[25]? fun v205 =>
   C.any (St.env s193)[26]? fun v206 =>
   C.any (St.env s193)[27]? fun v207 =>
   C.any (St.env s193)[28]? fun v208 =>
   C.any (St.env s193)[29]? fun v209 =>
   C.any (St.env s193)[30]? fun v210 =>
   C.any (St.env s193)[31]? fun v211 =>
   C.any (St.env s193)[32]? fun v212 =>
   C.any (St.env s193)[33]? fun v213 =>
   C.any (St.env s193)[34]? fun v214 =>
   C.any (St.env s193)[35]? fun v215 =>
   C.any (St.env s193)[36]? fun v216 =>
   C.any (St.env s193)[37]? fun v217 =>
   C.any (St.env s193)[38]? fun v218 =>
   C.any (St.env s193)[39]? fun v219 =>
   C.any (St.env s193)[40]? fun v220 =>
   C.any (St.env s193)[41]? fun v221 =>
   C.any (St.env s193)[42]? fun v222 =>
   C.any (St.env s193)[43]? fun v223 =>
   C.any (St.env s193)[44]? fun v224 =>
   C.any (St.env s193)[45]? fun v225 =>
   C.any (St.env s193)[46]? fun v226 =>
   C.any (St.env s193)[47]? fun v227 =>
   C.any (St.env s193)[48]? fun v228 =>
   C.any (St.env s193)[49]? fun v229 =>
   C.any (St.env s193)[50]? fun v230 =>
   C.any (St.env s193)[51]? fun v231 =>
   C.any (St.env s193)[52]? fun v232 =>
   C.any (St.env s193)[53]? fun v233 =>
   C.any (St.env s193)[54]? fun v234 =>
   C.any (St.env s193)[55]? fun v235 =>
   C.any (St.env s193)[56]? fun v236 =>
   C.any (St.env s193)[57]? fun v237 =>
   C.any (St.env s193)[58]? fun v238 =>
   C.any (St.env s193)[59]? fun v239 =>
   C.any (St.env s193)[60]? fun v240 =>
   C.same (St.env s193)[61]? (.tup []) <|
   C.fin (St.H s193) (.int .i64 x195))
   (none)
def r31E0 (C : Cb) (d : Nat) (a0 : List AV) (a1 a2 : Int) (v0 : AV) (b4 : Bool) (x8 x9 : Int) (b10 : Bool) (x13 : Int) : St → Ans := fun s16 =>
  cnd ((List.length (St.env s16)) == 62)
   (C.same (St.env s16)[0]? (.lst a0) <|
   C.same (St.env s16)[1]? (.agg [(.int .i64 a1), (.int .i64 a2)]) <|
   C.same (St.env s16)[2]? (.tup []) <|
   C.same (St.env s16)[3]? v0 <|
   C.int .i64 (St.env s16)[4]? fun x241 =>
   C.int .i64 (St.env s16)[5]? fun x242 =>
   C.int .i64 (St.env s16)[6]? fun x243 =>
   C.any (St.env s16)[7]? fun v244 =>
   C.any (St.env s16)[8]? fun v245 =>
   C.same (St.env s16)[9]? (.lst a0) <|
   C.same (St.env s16)[10]? (.bool b4) <|
   C.same (St.env s16)[11]? (.bool (!b4)) <|
   C.same (St.env s16)[12]? (.bool false) <|
   C.same (St.env s16)[13]? (.agg [(.int .i64 x8), (.int .i64 x9)]) <|
   C.same (St.env s16)[14]? (.bool b10) <|
   C.same (St.env s16)[15]? (.bool (!b10)) <|
   C.same (St.env s16)[16]? (.bool false) <|
   C.same (St.env s16)[17]? (.lst a0) <|
   C.same (St.env s16)[18]? (.int .i64 x13) <|
   C.int .i64 (St.env s16)[19]? fun x246 =>
   C.any (St.env s16)[20]? fun v247 =>
   C.int .i64 (St.env s16)[21]? fun x248 =>
   C.tup 2 (St.env s16)[22]? fun l249 =>
   C.agg 2 l249[0]? fun l250 =>
   C.int .i64 l250[0]? fun x251 =>
   C.int .i64 l250[1]? fun x252 =>
   C.agg 2 l249[1]? fun l253 =>
   C.int .i64 l253[0]? fun x254 =>
   C.int .i64 l253[1]? fun x255 =>
   C.any (St.env s16)[23]? fun v256 =>
   C.int .i64 (St.env s16)[24]? fun x257 =>
   C.tup 2 (St.env s16)[25]? fun l258 =>
   C.agg 2 l258[0]? fun l259 =>
   C.int .i64 l259[0]? fun x260 =>
   C.int .i64 l259[1]? fun x261 =>
   C.agg 2 l258[1]? fun l262 =>
   C.int .i64 l262[0]? fun x263 =>
   C.int .i64 l262[1]? fun x264 =>
   C.agg 2 (St.env s16)[26]? fun l265 =>
   C.int .i64 l265[0]? fun x266 =>
   C.int .i64 l265[1]? fun x267 =>
   C.agg 2 (St.env s16)[27]? fun l268 =>
   C.int .i64 l268[0]? fun x269 =>
   C.int .i64 l268[1]? fun x270 =>
   C.agg 2 (St.env s16)[28]? fun l271 =>
   C.int .i64 l271[0]? fun x272 =>
   C.int .i64 l271[1]? fun x273 =>
   C.agg 2 (St.env s16)[29]? fun l274 =>
   C.int .i64 l274[0]? fun x275 =>
   C.int .i64 l274[1]? fun x276 =>
   C.agg 2 (St.env s16)[30]? fun l277 =>
   C.int .i64 l277[0]? fun x278 =>
   C.int .i64 l277[1]? fun x279 =>
   C.bool (St.env s16)[31]? fun b280 =>
   C.any (St.env s16)[32]? fun v281 =>
   C.any (St.env s16)[33]? fun v282 =>
   C.any (St.env s16)[34]? fun v283 =>
   C.any (St.env s16)[35]? fun v284 =>
   C.any (St.env s16)[36]? fun v285 =>
   C.any (St.env s16)[37]? fun v286 =>
   C.any (St.env s16)[38]? fun v287 =>
   C.any (St.env s16)[39]? fun v288 =>
   C.any (St.env s16)[40]? fun v289 =>
   C.any (St.env s16)[41]? fun v290 =>
   C.any (St.env s16)[42]? fun v291 =>
   C.any (St.env s16)[43]? fun v292 =>
   C.any (St.env s16)[44]? fun v293 =>
   C.any (St.env s16)[45]? fun v294 =>
   C.any (St.env s16)[46]? fun v295 =>
   C.any (St.env s16)[47]? fun v296 =>
   C.any (St.env s16)[48]? fun v297 =>
   C.any (St.env s16)[49]? fun v298 =>
   C.any (St.env s16)[50]? fun v299 =>
   C.any (St.env s16)[51]? fun v300 =>
   C.any (St.env s16)[52]? fun v301 =>
   C.any (St.env s16)[53]? fun v302 =>
   C.any (St.env s16)[54]? fun v303 =>
   C.any (St.env s16)[55]? fun v304 =>
   C.any (St.env s16)[56]? fun v305 =>
   C.any (St.env s16)[57]? fun v306 =>
   C.any (St.env s16)[58]? fun v307 =>
   C.any (St.env s16)[59]? fun v308 =>
   C.any (St.env s16)[60]? fun v309 =>
   C.same (St.env s16)[61]? (.tup []) <|
   C.fin (St.H s16) (.int .i64 x241))
   (none)
/-- apogee/poly.Side -/
theorem r31 (C : Cb) (d : Nat) (a0 : List AV) (a1 a2 : Int) : xcall C M unr d 31 [(.lst a0), (.agg [(.int .i64 a1), (.int .i64 a2)])] =
  C.hop [] (.box E23 (.v (.agg [(.int .i64 a1), (.int .i64 a2)]))) fun v0 h1 =>
  C.snp h1 [(.lst a0)] fun l2 b3 =>
  C.bool (pcall M d 43 l2) fun b4 =>
  cnd (b3 || true)
   (cnd (!b4)
   (C.fin h1 (.int .i64 (-1)))
   (C.hop h1 (.load true 2 (.v v0)) fun v5 h6 =>
   C.agg 2 (some v5) fun l7 =>
   C.int .i64 l7[0]? fun x8 =>
   C.int .i64 l7[1]? fun x9 =>
   C.bool (pcall M d 35 [(.agg [(.int .i64 x8), (.int .i64 x9)])]) fun b10 =>
   cnd (!b10)
   (C.fin h6 (.int .i64 (-1)))
   (C.hop h6 (.bk .lenV [(.v (.lst a0))]) fun v11 h12 =>
   C.int .i64 (some v11) fun x13 =>
   C.iter (r31R0 C d a0 a1 a2 v0 b4 x8 x9 b10 x13) 1000000000000000000 ⟨[(.lst a0), (.agg [(.int .i64 a1), (.int .i64 a2)]), (.tup []), v0, (.int .i64 0), (.int .i64 (-1)), (.tup []), (.tup []), (.tup []), (.lst a0), (.bool b4), (.bool (!b4)), (.bool false), (.agg [(.int .i64 x8), (.int .i64 x9)]), (.bool b10), (.bool (!b10)), (.bool false), (.lst a0), (.int .i64 x13), (.int .i64 0), (.tup []), (.tup []), (.tup []), (.tup []), (.tup []), (.tup []), (.tup []), (.tup []), (.tup []), (.tup []), (.tup []), (.tup []), (.tup []), (.tup []), (.tup []), (.tup []), (.tup []), (.tup []), (.tup []), (.tup []), (.tup []), (.tup []), (.tup []), (.tup []), (.tup []), (.tup []), (.tup []), (.tup []), (.tup []), (.tup []), (.tup []), (.tup []), (.tup []), (.tup []), (.tup []), (.tup []), (.tup []), (.tup []), (.tup []), (.tup []), (.tup []), (.tup [])], h12⟩ [0] [r31X0_0 C d a0 a1 a2 v0 b4 x8 x9 b10 x13] (r31E0 C d a0 a1 a2 v0 b4 x8 x9 b10 x13))))
   (none) := by kernel_rfl
/-- slices.ContainsFunc[[]apogee/api.Point,apogee/api.Point] -/
theorem r40f70 (C : Cb) (d : Nat) (a0 : List AV) (a1 : AV) : xcall C M unr d 40 [(.lst a0), (.fn 70 [] [])] =
  C.int .i64 (pcall M d 53 [(.lst a0), (.fn 70 [] [])]) fun x0 =>
  some (.bool (decide (x0 ≥ 0))) := by kernel_rfl
/-- slices.ContainsFunc[[]apogee/api.Point,apogee/api.Point] -/
theorem r40f57 (C : Cb) (d : Nat) (a0 : List AV) (a1 : AV) : xcall C M unr d 40 [(.lst a0), (.fn 57 [] [])] =
  C.int .i64 (pcall M d 53 [(.lst a0), (.fn 57 [] [])]) fun x0 =>
  some (.bool (decide (x0 ≥ 0))) := by kernel_rfl
/-- apogee/poly.Right -/
theorem r43 (C : Cb) (d : Nat) (a0 : List AV) : xcall C M unr d 43 [(.lst a0)] =
  C.bool (pcall M d 56 [(.lst a0)]) fun b0 =>
  cnd b0
   (C.bool (pcall M d 40 [(.lst a0), (.fn 57 [] [])]) fun b1 =>
   some (.bool (!b1)))
   (some (.bool false)) := by kernel_rfl
/-- apogee/poly.edge -/
theorem r46 (C : Cb) (d : Nat) (a0 : List AV) (a1 : Int) : xcall C M unr d 46 [(.lst a0), (.int .i64 a1)] =
  cnd (decide (0 ≤ a1))
   (C.agg 2 a0[(Int.toNat a1)]? fun l0 =>
   C.int .i64 l0[0]? fun x1 =>
   C.int .i64 l0[1]? fun x2 =>
   cnd (decide ((((List.length a0) : Nat) : Int) = 0))
   (none)
   (cnd (decide (0 ≤ (Int.tmod (IntKind.wrap .i64 (a1 + 1)) (((List.length a0) : Nat) : Int))))
   (C.agg 2 a0[(Int.toNat (Int.tmod (IntKind.wrap .i64 (a1 + 1)) (((List.length a0) : Nat) : Int)))]? fun l3 =>
   C.int .i64 l3[0]? fun x4 =>
   C.int .i64 l3[1]? fun x5 =>
   some (.tup [(.agg [(.int .i64 x1), (.int .i64 x2)]), (.agg [(.int .i64 x4), (.int .i64 x5)])]))
   (none)))
   (none) := by kernel_rfl
def r53f70R0 (C : Cb) (d : Nat) (a0 : List AV) : St → (Ex → St → Ans) → Ans := fun s0 k1 =>
  cnd ((List.length (St.env s0)) == 19)
   (C.same (St.env s0)[0]? (.lst a0) <|
   C.same (St.env s0)[1]? (.fn 70 [] []) <|
   C.same (St.env s0)[2]? (.tup []) <|
   C.same (St.env s0)[3]? (.tup []) <|
   C.int .i64 (St.env s0)[4]? fun x3 =>
   C.any (St.env s0)[5]? fun v4 =>
   C.same (St.env s0)[6]? (.lst a0) <|
   C.same (St.env s0)[7]? (.int .i64 (((List.length a0) : Nat) : Int)) <|
   C.int .i64 (St.env s0)[8]? fun x5 =>
   C.any (St.env s0)[9]? fun v6 =>
   C.any (St.env s0)[10]? fun v7 =>
   C.any (St.env s0)[11]? fun v8 =>
   C.any (St.env s0)[12]? fun v9 =>
   C.any (St.env s0)[13]? fun v10 =>
   C.any (St.env s0)[14]? fun v11 =>
   C.any (St.env s0)[15]? fun v12 =>
   C.any (St.env s0)[16]? fun v13 =>
   C.any (St.env s0)[17]? fun v14 =>
   C.any (St.env s0)[18]? fun v15 =>
   C.sameH (St.H s0) [] <|
   cnd (decide (x5 < (((List.length a0) : Nat) : Int)))
   (cnd (decide (0 ≤ x5))
   (C.agg 2 a0[(Int.toNat x5)]? fun l16 =>
   C.int .i64 l16[0]? fun x17 =>
   C.int .i64 l16[1]? fun x18 =>
   C.bool (pcall M d 70 [(.agg [(.int .i64 x17), (.int .i64 x18)])]) fun b19 =>
   cnd b19
   (k1 .ret ⟨[(.lst a0), (.fn 70 [] []), (.tup []), (.tup []), (.int .i64 x5), (.int .i64 x5), (.lst a0), (.int .i64 (((List.length a0) : Nat) : Int)), (.int .i64 x5), (.bool true), (.int .i64 x5), (.fn 70 [] []), (.lst a0), (.int .i64 x5), (.fptr (.agg [(.int .i64 x17), (.int .i64 x18)]) 0), (.agg [(.int .i64 x17), (.int .i64 x18)]), (.bool true), (.int .i64 x5), v15], []⟩)
   (k1 .normal ⟨[(.lst a0), (.fn 70 [] []), (.tup []), (.tup []), (.int .i64 x3), (.int .i64 x5), (.lst a0), (.int .i64 (((List.length a0) : Nat) : Int)), (.int .i64 (IntKind.wrap .i64 (x5 + 1))), (.bool true), (.int .i64 x5), (.fn 70 [] []), (.lst a0), (.int .i64 x5), (.fptr (.agg [(.int .i64 x17), (.int .i64 x18)]) 0), (.agg [(.int .i64 x17), (.int .i64 x18)]), (.bool false), v14, (.int .i64 (IntKind.wrap .i64 (x5 + 1)))], []⟩))
   (none))
   (k1 (.exit 0) ⟨[(.lst a0), (.fn 70 [] []), (.tup []), (.tup []), (.int .i64 x3), v4, (.lst a0), (.int .i64 (((List.length a0) : Nat) : Int)), (.int .i64 x5), (.bool false), v7, v8, v9, v10, v11, v12, v13, v14, v15], []⟩))
   (none)
def r53f70X0_0 (C : Cb) (d : Nat) (a0 : List AV) : St → Ans := fun s20 =>
  cnd ((List.length (St.env s20)) == 19)
   (C.same (St.env s20)[0]? (.lst a0) <|
   C.same (St.env s20)[1]? (.fn 70 [] []) <|
   C.same (St.env s20)[2]? (.tup []) <|
   C.same (St.env s20)[3]? (.tup []) <|
   C.int .i64 (St.env s20)[4]? fun x21 =>
   C.any (St.env s20)[5]? fun v22 =>
   C.same (St.env s20)[6]? (.lst a0) <|
   C.same (St.env s20)[7]? (.int .i64 (((List.length a0) : Nat) : Int)) <|
   C.int .i64 (St.env s20)[8]? fun x23 =>
   C.any (St.env s20)[9]? fun v24 =>
   C.any (St.env s20)[10]? fun v25 =>
   C.any (St.env s20)[11]? fun v26 =>
   C.any (St.env s20)[12]? fun v27 =>
   C.any (St.env s20)[13]? fun v28 =>
   C.any (St.env s20)[14]? fun v29 =>
   C.any (St.env s20)[15]? fun v30 =>
   C.any (St.env s20)[16]? fun v31 =>
   C.any (St.env s20)[17]? fun v32 =>
   C.any (St.env s20)[18]? fun v33 =>
   C.sameH (St.H s20) [] <|
   some (.int .i64 (-1)))
   (none)
def r53f70E0 (C : Cb) (d : Nat) (a0 : List AV) : St → Ans := fun s2 =>
  cnd ((List.length (St.env s2)) == 19)
   (C.same (St.env s2)[0]? (.lst a0) <|
   C.same (St.env s2)[1]? (.fn 70 [] []) <|
   C.same (St.env s2)[2]? (.tup []) <|
   C.same (St.env s2)[3]? (.tup []) <|
   C.int .i64 (St.env s2)[4]? fun x34 =>
   C.int .i64 (St.env s2)[5]? fun x35 =>
   C.same (St.env s2)[6]? (.lst a0) <|
   C.same (St.env s2)[7]? (.int .i64 (((List.length a0) : Nat) : Int)) <|
   C.int .i64 (St.env s2)[8]? fun x36 =>
   C.any (St.env s2)[9]? fun v37 =>
   C.int .i64 (St.env s2)[10]? fun x38 =>
   C.any (St.env s2)[11]? fun v39 =>
   C.any (St.env s2)[12]? fun v40 =>
   C.int .i64 (St.env s2)[13]? fun x41 =>
   C.any (St.env s2)[14]? fun v42 =>
   C.agg 2 (St.env s2)[15]? fun l43 =>
   C.int .i64 l43[0]? fun x44 =>
   C.int .i64 l43[1]? fun x45 =>
   C.bool (St.env s2)[16]? fun b46 =>
   C.int .i64 (St.env s2)[17]? fun x47 =>
   C.any (St.env s2)[18]? fun v48 =>
   C.sameH (St.H s2) [] <|
   some (.int .i64 x34))
   (none)
/-- slices.IndexFunc[[]apogee/api.Point,apogee/api.Point] -/
theorem r53f70 (C : Cb) (d : Nat) (a0 : List AV) (a1 : AV) : xcall C M unr d 53 [(.lst a0), (.fn 70 [] [])] =
  C.iter (r53f70R0 C d a0) 1000000000000000000 ⟨[(.lst a0), (.fn 70 [] []), (.tup []), (.tup []), (.int .i64 0), (.tup []), (.lst a0), (.int .i64 (((List.length a0) : Nat) : Int)), (.int .i64 0), (.tup []), (.tup []), (.tup []), (.tup []), (.tup []), (.tup []), (.tup []), (.tup []), (.tup []), (.tup [])], []⟩ [0] [r53f70X0_0 C d a0] (r53f70E0 C d a0) := by kernel_rfl
def r53f57R0 (C : Cb) (d : Nat) (a0 : List AV) : St → (Ex → St → Ans) → Ans := fun s0 k1 =>
  cnd ((List.length (St.env s0)) == 19)
   (C.same (St.env s0)[0]? (.lst a0) <|
   C.same (St.env s0)[1]? (.fn 57 [] []) <|
   C.same (St.env s0)[2]? (.tup []) <|
   C.same (St.env s0)[3]? (.tup []) <|
   C.int .i64 (St.env s0)[4]? fun x3 =>
   C.any (St.env s0)[5]? fun v4 =>
   C.same (St.env s0)[6]? (.lst a0) <|
   C.same (St.env s0)[7]? (.int .i64 (((List.length a0) : Nat) : Int)) <|
   C.int .i64 (St.env s0)[8]? fun x5 =>
   C.any (St.env s0)[9]? fun v6 =>
   C.any (St.env s0)[10]? fun v7 =>
   C.any (St.env s0)[11]? fun v8 =>
   C.any (St.env s0)[12]? fun v9 =>
   C.any (St.env s0)[13]? fun v10 =>
   C.any (St.env s0)[14]? fun v11 =>
   C.any (St.env s0)[15]? fun v12 =>
   C.any (St.env s0)[16]? fun v13 =>
   C.any (St.env s0)[17]? fun v14 =>
   C.any (St.env s0)[18]? fun v15 =>
   C.sameH (St.H s0) [] <|
   cnd (decide (x5 < (((List.length a0) : Nat) : Int)))
   (cnd (decide (0 ≤ x5))
   (C.agg 2 a0[(Int.toNat x5)]? fun l16 =>
   C.int .i64 l16[0]? fun x17 =>
   C.int .i64 l16[1]? fun x18 =>
   C.bool (pcall M d 57 [(.agg [(.int .i64 x17), (.int .i64 x18)])]) fun b19 =>
   cnd b19
   (k1 .ret ⟨[(.lst a0), (.fn 57 [] []), (.tup []), (.tup []), (.int .i64 x5), (.int .i64 x5), (.lst a0), (.int .i64 (((List.length a0) : Nat) : Int)), (.int .i64 x5), (.bool true), (.int .i64 x5), (.fn 57 [] []), (.lst a0), (.int .i64 x5), (.fptr (.agg [(.int .i64 x17), (.int .i64 x18)]) 0), (.agg [(.int .i64 x17), (.int .i64 x18)]), (.bool true), (.int .i64 x5), v15], []⟩)
   (k1 .normal ⟨[(.lst a0), (.fn 57 [] []), (.tup []), (.tup []), (.int .i64 x3), (.int .i64 x5), (.lst a0), (.int .i64 (((List.length a0) : Nat) : Int)), (.int .i64 (IntKind.wrap .i64 (x5 + 1))), (.bool true), (.int .i64 x5), (.fn 57 [] []), (.lst a0), (.int .i64 x5), (.fptr (.agg [(.int .i64 x17), (.int .i64 x18)]) 0), (.agg [(.int .i64 x17), (.int .i64 x18)]), (.bool false), v14, (.int .i64 (IntKind.wrap .i64 (x5 + 1)))], []⟩))
   (none))
   (k1 (.exit 0) ⟨[(.lst a0), (.fn 57 [] []), (.tup []), (.tup []), (.int .i64 x3), v4, (.lst a0), (.int .i64 (((List.length a0) : Nat) : Int)), (.int .i64 x5), (.bool false), v7, v8, v9, v10, v11, v12, v13, v14, v15], []⟩))
   (none)
def r53f57X0_0 (C : Cb) (d : Nat) (a0 : List AV) : St → Ans := fun s20 =>
  cnd ((List.length (St.env s20)) == 19)
   (C.same (St.env s20)[0]? (.lst a0) <|
   C.same (St.env s20)[1]? (.fn 57 [] []) <|
   C.same (St.env s20)[2]? (.tup []) <|
   C.same (St.env s20)[3]? (.tup []) <|
   C.int .i64 (St.env s20)[4]? fun x21 =>
   C.any (St.env s20)[5]? fun v22 =>
   C.same (St.env s20)[6]? (.lst a0) <|
   C.same (St.env s20)[7]? (.int .i64 (((List.length a0) : Nat) : Int)) <|
   C.int .i64 (St.env s20)[8]? fun x23 =>
   C.any (St.env s20)[9]? fun v24 =>
   C.any (St.env s20)[10]? fun v25 =>
   C.any (St.env s20)[11]? fun v26 =>
   C.any (St.env s20)[12]? fun v27 =>
   C.any (St.env s20)[13]? fun v28 =>
   C.any (St.env s20)[14]? fun v29 =>
   C.any (St.env s20)[15]? fun v30 =>
   C.any (St.env s20)[16]? fun v31 =>
   C.any (St.env s20)[17]? fun v32 =>
   C.any (St.env s20)[18]? fun v33 =>
   C.sameH (St.H s20) [] <|
   some (.int .i64 (-1)))
   (none)
def r53f57E0 (C : Cb) (d : Nat) (a0 : List AV) : St → Ans := fun s2 =>
  cnd ((List.length (St.env s2)) == 19)
   (C.same (St.env s2)[0]? (.lst a0) <|
   C.same (St.env s2)[1]? (.fn 57 [] []) <|
   C.same (St.env s2)[2]? (.tup []) <|
   C.same (St.env s2)[3]? (.tup []) <|
   C.int .i64 (St.env s2)[4]? fun x34 =>
   C.int .i64 (St.env s2)[5]? fun x35 =>
   C.same (St.env s2)[6]? (.lst a0) <|
   C.same (St.env s2)[7]? (.int .i64 (((List.length a0) : Nat) : Int)) <|
   C.int .i64 (St.env s2)[8]? fun x36 =>
   C.any (St.env s2)[9]? fun v37 =>
   C.int .i64 (St.env s2)[10]? fun x38 =>
   C.any (St.env s2)[11]? fun v39 =>
   C.any (St.env s2)[12]? fun v40 =>
   C.int .i64 (St.env s2)[13]? fun x41 =>
   C.any (St.env s2)[14]? fun v42 =>
   C.agg 2 (St.env s2)[15]? fun l43 =>
   C.int .i64 l43[0]? fun x44 =>
   C.int .i64 l43[1]? fun x45 =>
   C.bool (St.env s2)[16]? fun b46 =>
   C.int .i64 (St.env s2)[17]? fun x47 =>
   C.any (St.env s2)[18]? fun v48 =>
   C.sameH (St.H s2) [] <|
   some (.int .i64 x34))
   (none)
/-- slices.IndexFunc[[]apogee/api.Point,apogee/api.Point] -/
theorem r53f57 (C : Cb) (d : Nat) (a0 : List AV) (a1 : AV) : xcall C M unr d 53 [(.lst a0), (.fn 57 [] [])] =
  C.iter (r53f57R0 C d a0) 1000000000000000000 ⟨[(.lst a0), (.fn 57 [] []), (.tup []), (.tup []), (.int .i64 0), (.tup []), (.lst a0), (.int .i64 (((List.length a0) : Nat) : Int)), (.int .i64 0), (.tup []), (.tup []), (.tup []), (.tup []), (.tup []), (.tup []), (.tup []), (.tup []), (.tup []), (.tup [])], []⟩ [0] [r53f57X0_0 C d a0] (r53f57E0 C d a0) := by kernel_rfl
def r56R1 (C : Cb) (d : Nat) (a0 : List AV) (b0 : Bool) (k2 : Ex → St → Ans) (x7 : Int) (v31 : AV) : St → (Ex → St → Ans) → Ans := fun s32 k33 =>
  cnd ((List.length (St.env s32)) == 44)
   (C.same (St.env s32)[0]? (.lst a0) <|
   C.same (St.env s32)[1]? (.tup []) <|
   C.bool (St.env s32)[2]? fun b35 =>
   C.same (St.env s32)[3]? (.int .i64 (((List.length a0) : Nat) : Int)) <|
   C.same (St.env s32)[4]? (.int .i64 x7) <|
   C.any (St.env s32)[5]? fun v36 =>
   C.same (St.env s32)[6]? (.lst a0) <|
   C.same (St.env s32)[7]? (.int .i64 (((List.length a0) : Nat) : Int)) <|
   C.same (St.env s32)[8]? (.int .i64 (((List.length a0) : Nat) : Int)) <|
   C.same (St.env s32)[9]? (.bool (decide ((((List.length a0) : Nat) : Int) < 3))) <|
   C.same (St.env s32)[10]? (.bool false) <|
   C.same (St.env s32)[11]? (.int .i64 (((List.length a0) : Nat) : Int)) <|
   C.same (St.env s32)[12]? (.bool (decide ((((List.length a0) : Nat) : Int) > 8))) <|
   C.same (St.env s32)[13]? (.bool (decide ((((List.length a0) : Nat) : Int) > 8))) <|
   C.same (St.env s32)[14]? (.bool false) <|
   C.same (St.env s32)[15]? (.lst a0) <|
   C.same (St.env s32)[16]? (.bool b0) <|
   C.same (St.env s32)[17]? (.bool false) <|
   C.same (St.env s32)[18]? (.int .i64 (((List.length a0) : Nat) : Int)) <|
   C.same (St.env s32)[19]? (.int .i64 x7) <|
   C.same (St.env s32)[20]? (.bool true) <|
   C.same (St.env s32)[21]? (.int .i64 x7) <|
   C.same (St.env s32)[22]? (.int .i64 x7) <|
   C.int .i64 (St.env s32)[23]? fun x37 =>
   C.any (St.env s32)[24]? fun v38 =>
   C.any (St.env s32)[25]? fun v39 =>
   C.any (St.env s32)[26]? fun v40 =>
   C.any (St.env s32)[27]? fun v41 =>
   C.any (St.env s32)[28]? fun v42 =>
   C.any (St.env s32)[29]? fun v43 =>
   C.any (St.env s32)[30]? fun v44 =>
   C.any (St.env s32)[31]? fun v45 =>
   C.any (St.env s32)[32]? fun v46 =>
   C.any (St.env s32)[33]? fun v47 =>
   C.any (St.env s32)[34]? fun v48 =>
   C.any (St.env s32)[35]? fun v49 =>
   C.any (St.env s32)[36]? fun v50 =>
   C.any (St.env s32)[37]? fun v51 =>
   C.any (St.env s32)[38]? fun v52 =>
   C.any (St.env s32)[39]? fun v53 =>
   C.any (St.env s32)[40]? fun v54 =>
   C.any (St.env s32)[41]? fun v55 =>
   C.any (St.env s32)[42]? fun v56 =>
   C.same (St.env s32)[43]? v31 <|
   C.sameH (St.H s32) [] <|
   cnd (decide (x37 < x7))
   (cnd (decide (0 ≤ x7))
   (C.agg 2 a0[(Int.toNat x7)]? fun l57 =>
   C.int .i64 l57[0]? fun x58 =>
   C.int .i64 l57[1]? fun x59 =>
   cnd (decide (0 ≤ x37))
   (C.agg 2 a0[(Int.toNat x37)]? fun l60 =>
   C.int .i64 l60[0]? fun x61 =>
   C.int .i64 l60[1]? fun x62 =>
   cnd (xor false ((x58 == x61) && ((x59 == x62) && true)))
   (k33 .ret ⟨[(.lst a0), (.tup []), (.bool false), (.int .i64 (((List.length a0) : Nat) : Int)), (.int .i64 x7), (.int .i64 x37), (.lst a0), (.int .i64 (((List.length a0) : Nat) : Int)), (.int .i64 (((List.length a0) : Nat) : Int)), (.bool (decide ((((List.length a0) : Nat) : Int) < 3))), (.bool false), (.int .i64 (((List.length a0) : Nat) : Int)), (.bool (decide ((((List.length a0) : Nat) : Int) > 8))), (.bool (decide ((((List.length a0) : Nat) : Int) > 8))), (.bool false), (.lst a0), (.bool b0), (.bool false), (.int .i64 (((List.length a0) : Nat) : Int)), (.int .i64 x7), (.bool true), (.int .i64 x7), (.int .i64 x7), (.int .i64 x37), (.bool true), (.int .i64 x37), (.lst a0), (.int .i64 x7), (.fptr (.agg [(.int .i64 x58), (.int .i64 x59)]) 0), (.agg [(.int .i64 x58), (.int .i64 x59)]), (.lst a0), (.int .i64 x37), (.fptr (.agg [(.int .i64 x61), (.int .i64 x62)]) 0), (.agg [(.int .i64 x61), (.int .i64 x62)]), (.bool (xor false ((x58 == x61) && ((x59 == x62) && true)))), (.bool true), (.tup []), (.tup []), (.tup []), (.tup []), (.tup []), (.bool true), v56, v31], []⟩)
   (C.bool (pcall M d 71 [(.lst a0), (.int .i64 x37), (.int .i64 x7)]) fun b63 =>
   cnd (!b63)
   (k33 .ret ⟨[(.lst a0), (.tup []), (.bool false), (.int .i64 (((List.length a0) : Nat) : Int)), (.int .i64 x7), (.int .i64 x37), (.lst a0), (.int .i64 (((List.length a0) : Nat) : Int)), (.int .i64 (((List.length a0) : Nat) : Int)), (.bool (decide ((((List.length a0) : Nat) : Int) < 3))), (.bool false), (.int .i64 (((List.length a0) : Nat) : Int)), (.bool (decide ((((List.length a0) : Nat) : Int) > 8))), (.bool (decide ((((List.length a0) : Nat) : Int) > 8))), (.bool false), (.lst a0), (.bool b0), (.bool false), (.int .i64 (((List.length a0) : Nat) : Int)), (.int .i64 x7), (.bool true), (.int .i64 x7), (.int .i64 x7), (.int .i64 x37), (.bool true), (.int .i64 x37), (.lst a0), (.int .i64 x7), (.fptr (.agg [(.int .i64 x58), (.int .i64 x59)]) 0), (.agg [(.int .i64 x58), (.int .i64 x59)]), (.lst a0), (.int .i64 x37), (.fptr (.agg [(.int .i64 x61), (.int .i64 x62)]) 0), (.agg [(.int .i64 x61), (.int .i64 x62)]), (.bool (xor false ((x58 == x61) && ((x59 == x62) && true)))), (.bool false), (.lst a0), (.int .i64 x37), (.int .i64 x7), (.bool b63), (.bool (!b63)), (.bool true), v56, v31], []⟩)
   (k33 .normal ⟨[(.lst a0), (.tup []), (.bool b35), (.int .i64 (((List.length a0) : Nat) : Int)), (.int .i64 x7), (.int .i64 x37), (.lst a0), (.int .i64 (((List.length a0) : Nat) : Int)), (.int .i64 (((List.length a0) : Nat) : Int)), (.bool (decide ((((List.length a0) : Nat) : Int) < 3))), (.bool false), (.int .i64 (((List.length a0) : Nat) : Int)), (.bool (decide ((((List.length a0) : Nat) : Int) > 8))), (.bool (decide ((((List.length a0) : Nat) : Int) > 8))), (.bool false), (.lst a0), (.bool b0), (.bool false), (.int .i64 (((List.length a0) : Nat) : Int)), (.int .i64 x7), (.bool true), (.int .i64 x7), (.int .i64 x7), (.int .i64 (IntKind.wrap .i64 (x37 + 1))), (.bool true), (.int .i64 x37), (.lst a0), (.int .i64 x7), (.fptr (.agg [(.int .i64 x58), (.int .i64 x59)]) 0), (.agg [(.int .i64 x58), (.int .i64 x59)]), (.lst a0), (.int .i64 x37), (.fptr (.agg [(.int .i64 x61), (.int .i64 x62)]) 0), (.agg [(.int .i64 x61), (.int .i64 x62)]), (.bool (xor false ((x58 == x61) && ((x59 == x62) && true)))), (.bool false), (.lst a0), (.int .i64 x37), (.int .i64 x7), (.bool b63), (.bool (!b63)), (.bool false), (.int .i64 (IntKind.wrap .i64 (x37 + 1))), v31], []⟩)))
   (none))
   (none))
   (k33 (.exit 2) ⟨[(.lst a0), (.tup []), (.bool b35), (.int .i64 (((List.length a0) : Nat) : Int)), (.int .i64 x7), v36, (.lst a0), (.int .i64 (((List.length a0) : Nat) : Int)), (.int .i64 (((List.length a0) : Nat) : Int)), (.bool (decide ((((List.length a0) : Nat) : Int) < 3))), (.bool false), (.int .i64 (((List.length a0) : Nat) : Int)), (.bool (decide ((((List.length a0) : Nat) : Int) > 8))), (.bool (decide ((((List.length a0) : Nat) : Int) > 8))), (.bool false), (.lst a0), (.bool b0), (.bool false), (.int .i64 (((List.length a0) : Nat) : Int)), (.int .i64 x7), (.bool true), (.int .i64 x7), (.int .i64 x7), (.int .i64 x37), (.bool false), v39, v40, v41, v42, v43, v44, v45, v46, v47, v48, v49, v50, v51, v52, v53, v54, v55, v56, v31], []⟩))
   (none)
def r56X1_0 (C : Cb) (d : Nat) (a0 : List AV) (b0 : Bool) (k2 : Ex → St → Ans) (x7 : Int) (v31 : AV) : St → Ans := fun s64 =>
  cnd ((List.length (St.env s64)) == 44)
   (C.same (St.env s64)[0]? (.lst a0) <|
   C.same (St.env s64)[1]? (.tup []) <|
   C.bool (St.env s64)[2]? fun b65 =>
   C.same (St.env s64)[3]? (.int .i64 (((List.length a0) : Nat) : Int)) <|
   C.same (St.env s64)[4]? (.int .i64 x7) <|
   C.any (St.env s64)[5]? fun v66 =>
   C.same (St.env s64)[6]? (.lst a0) <|
   C.same (St.env s64)[7]? (.int .i64 (((List.length a0) : Nat) : Int)) <|
   C.same (St.env s64)[8]? (.int .i64 (((List.length a0) : Nat) : Int)) <|
   C.same (St.env s64)[9]? (.bool (decide ((((List.length a0) : Nat) : Int) < 3))) <|
   C.same (St.env s64)[10]? (.bool false) <|
   C.same (St.env s64)[11]? (.int .i64 (((List.length a0) : Nat) : Int)) <|
   C.same (St.env s64)[12]? (.bool (decide ((((List.length a0) : Nat) : Int) > 8))) <|
   C.same (St.env s64)[13]? (.bool (decide ((((List.length a0) : Nat) : Int) > 8))) <|
   C.same (St.env s64)[14]? (.bool false) <|
   C.same (St.env s64)[15]? (.lst a0) <|
   C.same (St.env s64)[16]? (.bool b0) <|
   C.same (St.env s64)[17]? (.bool false) <|
   C.same (St.env s64)[18]? (.int .i64 (((List.length a0) : Nat) : Int)) <|
   C.same (St.env s64)[19]? (.int .i64 x7) <|
   C.same (St.env s64)[20]? (.bool true) <|
   C.same (St.env s64)[21]? (.int .i64 x7) <|
   C.same (St.env s64)[22]? (.int .i64 x7) <|
   C.int .i64 (St.env s64)[23]? fun x67 =>
   C.bool (St.env s64)[24]? fun b68 =>
   C.any (St.env s64)[25]? fun v69 =>
   C.any (St.env s64)[26]? fun v70 =>
   C.any (St.env s64)[27]? fun v71 =>
   C.any (St.env s64)[28]? fun v72 =>
   C.any (St.env s64)[29]? fun v73 =>
   C.any (St.env s64)[30]? fun v74 =>
   C.any (St.env s64)[31]? fun v75 =>
   C.any (St.env s64)[32]? fun v76 =>
   C.any (St.env s64)[33]? fun v77 =>
   C.any (St.env s64)[34]? fun v78 =>
   C.any (St.env s64)[35]? fun v79 =>
   C.any (St.env s64)[36]? fun v80 =>
   C.any (St.env s64)[37]? fun v81 =>
   C.any (St.env s64)[38]? fun v82 =>
   C.any (St.env s64)[39]? fun v83 =>
   C.any (St.env s64)[40]? fun v84 =>
   C.any (St.env s64)[41]? fun v85 =>
   C.any (St.env s64)[42]? fun v86 =>
   C.same (St.env s64)[43]? v31 <|
   C.sameH (St.H s64) [] <|
   k2 .normal ⟨[(.lst a0), (.tup []), (.bool b65), (.int .i64 (((List.length a0) : Nat) : Int)), (.int .i64 x7), v66, (.lst a0), (.int .i64 (((List.length a0) : Nat) : Int)), (.int .i64 (((List.length a0) : Nat) : Int)), (.bool (decide ((((List.length a0) : Nat) : Int) < 3))), (.bool false), (.int .i64 (((List.length a0) : Nat) : Int)), (.bool (decide ((((List.length a0) : Nat) : Int) > 8))), (.bool (decide ((((List.length a0) : Nat) : Int) > 8))), (.bool false), (.lst a0), (.bool b0), (.bool false), (.int .i64 (((List.length a0) : Nat) : Int)), (.int .i64 (IntKind.wrap .i64 (x7 + 1))), (.bool true), (.int .i64 x7), (.int .i64 x7), (.int .i64 x67), (.bool b68), v69, v70, v71, v72, v73, v74, v75, v76, v77, v78, v79, v80, v81, v82, v83, v84, v85, v86, (.int .i64 (IntKind.wrap .i64 (x7 + 1)))], []⟩)
   (none)
def r56E1 (C : Cb) (d : Nat) (a0 : List AV) (b0 : Bool) (k2 : Ex → St → Ans) (x7 : Int) (v31 : AV) : St → Ans := fun s34 =>
  cnd ((List.length (St.env s34)) == 44)
   (C.same (St.env s34)[0]? (.lst a0) <|
   C.same (St.env s34)[1]? (.tup []) <|
   C.bool (St.env s34)[2]? fun b87 =>
   C.same (St.env s34)[3]? (.int .i64 (((List.length a0) : Nat) : Int)) <|
   C.same (St.env s34)[4]? (.int .i64 x7) <|
   C.int .i64 (St.env s34)[5]? fun x88 =>
   C.same (St.env s34)[6]? (.lst a0) <|
   C.same (St.env s34)[7]? (.int .i64 (((List.length a0) : Nat) : Int)) <|
   C.same (St.env s34)[8]? (.int .i64 (((List.length a0) : Nat) : Int)) <|
   C.same (St.env s34)[9]? (.bool (decide ((((List.length a0) : Nat) : Int) < 3))) <|
   C.same (St.env s34)[10]? (.bool false) <|
   C.same (St.env s34)[11]? (.int .i64 (((List.length a0) : Nat) : Int)) <|
   C.same (St.env s34)[12]? (.bool (decide ((((List.length a0) : Nat) : Int) > 8))) <|
   C.same (St.env s34)[13]? (.bool (decide ((((List.length a0) : Nat) : Int) > 8))) <|
   C.same (St.env s34)[14]? (.bool false) <|
   C.same (St.env s34)[15]? (.lst a0) <|
   C.same (St.env s34)[16]? (.bool b0) <|
   C.same (St.env s34)[17]? (.bool false) <|
   C.same (St.env s34)[18]? (.int .i64 (((List.length a0) : Nat) : Int)) <|
   C.same (St.env s34)[19]? (.int .i64 x7) <|
   C.same (St.env s34)[20]? (.bool true) <|
   C.same (St.env s34)[21]? (.int .i64 x7) <|
   C.same (St.env s34)[22]? (.int .i64 x7) <|
   C.int .i64 (St.env s34)[23]? fun x89 =>
   C.bool (St.env s34)[24]? fun b90 =>
   C.int .i64 (St.env s34)[25]? fun x91 =>
   C.any (St.env s34)[26]? fun v92 =>
   C.int .i64 (St.env s34)[27]? fun x93 =>
   C.any (St.env s34)[28]? fun v94 =>
   C.agg 2 (St.env s34)[29]? fun l95 =>
   C.int .i64 l95[0]? fun x96 =>
   C.int .i64 l95[1]? fun x97 =>
   C.any (St.env s34)[30]? fun v98 =>
   C.int .i64 (St.env s34)[31]? fun x99 =>
   C.any (St.env s34)[32]? fun v100 =>
   C.agg 2 (St.env s34)[33]? fun l101 =>
   C.int .i64 l101[0]? fun x102 =>
   C.int .i64 l101[1]? fun x103 =>
   C.bool (St.env s34)[34]? fun b104 =>
   C.bool (St.env s34)[35]? fun b105 =>
   C.any (St.env s34)[36]? fun v106 =>
   C.any (St.env s34)[37]? fun v107 =>
   C.any (St.env s34)[38]? fun v108 =>
   C.any (St.env s34)[39]? fun v109 =>
   C.any (St.env s34)[40]? fun v110 =>
   C.bool (St.env s34)[41]? fun b111 =>
   C.any (St.env s34)[42]? fun v112 =>
   C.same (St.env s34)[43]? v31 <|
   C.sameH (St.H s34) [] <|
   k2 .ret ⟨[(.lst a0), (.tup []), (.bool b87), (.int .i64 (((List.length a0) : Nat) : Int)), (.int .i64 x7), (.int .i64 x88), (.lst a0), (.int .i64 (((List.length a0) : Nat) : Int)), (.int .i64 (((List.length a0) : Nat) : Int)), (.bool (decide ((((List.length a0) : Nat) : Int) < 3))), (.bool false), (.int .i64 (((List.length a0) : Nat) : Int)), (.bool (decide ((((List.length a0) : Nat) : Int) > 8))), (.bool (decide ((((List.length a0) : Nat) : Int) > 8))), (.bool false), (.lst a0), (.bool b0), (.bool false), (.int .i64 (((List.length a0) : Nat) : Int)), (.int .i64 x7), (.bool true), (.int .i64 x7), (.int .i64 x7), (.int .i64 x89), (.bool b90), (.int .i64 x91), v92, (.int .i64 x93), v94, (.agg [(.int .i64 x96), (.int .i64 x97)]), v98, (.int .i64 x99), v100, (.agg [(.int .i64 x102), (.int .i64 x103)]), (.bool b104), (.bool b105), v106, v107, v108, v109, v110, (.bool b111), v112, v31], []⟩)
   (none)
def r56R0 (C : Cb) (d : Nat) (a0 : List AV) (b0 : Bool) : St → (Ex → St → Ans) → Ans := fun s1 k2 =>
  cnd ((List.length (St.env s1)) == 44)
   (C.same (St.env s1)[0]? (.lst a0) <|
   C.same (St.env s1)[1]? (.tup []) <|
   C.bool (St.env s1)[2]? fun b4 =>
   C.same (St.env s1)[3]? (.int .i64 (((List.length a0) : Nat) : Int)) <|
   C.any (St.env s1)[4]? fun v5 =>
   C.any (St.env s1)[5]? fun v6 =>
   C.same (St.env s1)[6]? (.lst a0) <|
   C.same (St.env s1)[7]? (.int .i64 (((List.length a0) : Nat) : Int)) <|
   C.same (St.env s1)[8]? (.int .i64 (((List.length a0) : Nat) : Int)) <|
   C.same (St.env s1)[9]? (.bool (decide ((((List.length a0) : Nat) : Int) < 3))) <|
   C.same (St.env s1)[10]? (.bool false) <|
   C.same (St.env s1)[11]? (.int .i64 (((List.length a0) : Nat) : Int)) <|
   C.same (St.env s1)[12]? (.bool (decide ((((List.length a0) : Nat) : Int) > 8))) <|
   C.same (St.env s1)[13]? (.bool (decide ((((List.length a0) : Nat) : Int) > 8))) <|
   C.same (St.env s1)[14]? (.bool false) <|
   C.same (St.env s1)[15]? (.lst a0) <|
   C.same (St.env s1)[16]? (.bool b0) <|
   C.same (St.env s1)[17]? (.bool false) <|
   C.same (St.env s1)[18]? (.int .i64 (((List.length a0) : Nat) : Int)) <|
   C.int .i64 (St.env s1)[19]? fun x7 =>
   C.any (St.env s1)[20]? fun v8 =>
   C.any (St.env s1)[21]? fun v9 =>
   C.any (St.env s1)[22]? fun v10 =>
   C.any (St.env s1)[23]? fun v11 =>
   C.any (St.env s1)[24]? fun v12 =>
   C.any (St.env s1)[25]? fun v13 =>
   C.any (St.env s1)[26]? fun v14 =>
   C.any (St.env s1)[27]? fun v15 =>
   C.any (St.env s1)[28]? fun v16 =>
   C.any (St.env s1)[29]? fun v17 =>
   C.any (St.env s1)[30]? fun v18 =>
   C.any (St.env s1)[31]? fun v19 =>
   C.any (St.env s1)[32]? fun v20 =>
   C.any (St.env s1)[33]? fun v21 =>
   C.any (St.env s1)[34]? fun v22 =>
   C.any (St.env s1)[35]? fun v23 =>
   C.any (St.env s1)[36]? fun v24 =>
   C.any (St.env s1)[37]? fun v25 =>
   C.any (St.env s1)[38]? fun v26 =>
   C.any (St.env s1)[39]? fun v27 =>
   C.any (St.env s1)[40]? fun v28 =>
   C.any (St.env s1)[41]? fun v29 =>
   C.any (St.env s1)[42]? fun v30 =>
   C.any (St.env s1)[43]? fun v31 =>
   C.sameH (St.H s1) [] <|
   cnd (decide (x7 < (((List.length a0) : Nat) : Int)))
   (C.iter (r56R1 C d a0 b0 k2 x7 v31) 1000000000000000000 ⟨[(.lst a0), (.tup []), (.bool b4), (.int .i64 (((List.length a0) : Nat) : Int)), (.int .i64 x7), v6, (.lst a0), (.int .i64 (((List.length a0) : Nat) : Int)), (.int .i64 (((List.length a0) : Nat) : Int)), (.bool (decide ((((List.length a0) : Nat) : Int) < 3))), (.bool false), (.int .i64 (((List.length a0) : Nat) : Int)), (.bool (decide ((((List.length a0) : Nat) : Int) > 8))), (.bool (decide ((((List.length a0) : Nat) : Int) > 8))), (.bool false), (.lst a0), (.bool b0), (.bool false), (.int .i64 (((List.length a0) : Nat) : Int)), (.int .i64 x7), (.bool true), (.int .i64 x7), (.int .i64 x7), (.int .i64 0), v12, v13, v14, v15, v16, v17, v18, v19, v20, v21, v22, v23, v24, v25, v26, v27, v28, v29, v30, v31], []⟩ [2] [r56X1_0 C d a0 b0 k2 x7 v31] (r56E1 C d a0 b0 k2 x7 v31))
   (k2 (.exit 0) ⟨[(.lst a0), (.tup []), (.bool b4), (.int .i64 (((List.length a0) : Nat) : Int)), v5, v6, (.lst a0), (.int .i64 (((List.length a0) : Nat) : Int)), (.int .i64 (((List.length a0) : Nat) : Int)), (.bool (decide ((((List.length a0) : Nat) : Int) < 3))), (.bool false), (.int .i64 (((List.length a0) : Nat) : Int)), (.bool (decide ((((List.length a0) : Nat) : Int) > 8))), (.bool (decide ((((List.length a0) : Nat) : Int) > 8))), (.bool false), (.lst a0), (.bool b0), (.bool false), (.int .i64 (((List.length a0) : Nat) : Int)), (.int .i64 x7), (.bool false), v9, v10, v11, v12, v13, v14, v15, v16, v17, v18, v19, v20, v21, v22, v23, v24, v25, v26, v27, v28, v29, v30, v31], []⟩))
   (none)
def r56X0_0 (C : Cb) (d : Nat) (a0 : List AV) (b0 : Bool) : St → Ans := fun s113 =>
  cnd ((List.length (St.env s113)) == 44)
   (C.same (St.env s113)[0]? (.lst a0) <|
   C.same (St.env s113)[1]? (.tup []) <|
   C.bool (St.env s113)[2]? fun b114 =>
   C.same (St.env s113)[3]? (.int .i64 (((List.length a0) : Nat) : Int)) <|
   C.any (St.env s113)[4]? fun v115 =>
   C.any (St.env s113)[5]? fun v116 =>
   C.same (St.env s113)[6]? (.lst a0) <|
   C.same (St.env s113)[7]? (.int .i64 (((List.length a0) : Nat) : Int)) <|
   C.same (St.env s113)[8]? (.int .i64 (((List.length a0) : Nat) : Int)) <|
   C.same (St.env s113)[9]? (.bool (decide ((((List.length a0) : Nat) : Int) < 3))) <|
   C.same (St.env s113)[10]? (.bool false) <|
   C.same (St.env s113)[11]? (.int .i64 (((List.length a0) : Nat) : Int)) <|
   C.same (St.env s113)[12]? (.bool (decide ((((List.length a0) : Nat) : Int) > 8))) <|
   C.same (St.env s113)[13]? (.bool (decide ((((List.length a0) : Nat) : Int) > 8))) <|
   C.same (St.env s113)[14]? (.bool false) <|
   C.same (St.env s113)[15]? (.lst a0) <|
   C.same (St.env s113)[16]? (.bool b0) <|
   C.same (St.env s113)[17]? (.bool false) <|
   C.same (St.env s113)[18]? (.int .i64 (((List.length a0) : Nat) : Int)) <|
   C.int .i64 (St.env s113)[19]? fun x117 =>
   C.bool (St.env s113)[20]? fun b118 =>
   C.any (St.env s113)[21]? fun v119 =>
   C.any (St.env s113)[22]? fun v120 =>
   C.any (St.env s113)[23]? fun v121 =>
   C.any (St.env s113)[24]? fun v122 =>
   C.any (St.env s113)[25]? fun v123 =>
   C.any (St.env s113)[26]? fun v124 =>
   C.any (St.env s113)[27]? fun v125 =>
   C.any (St.env s113)[28]? fun v126 =>
   C.any (St.env s113)[29]? fun v127 =>
   C.any (St.env s113)[30]? fun v128 =>
   C.any (St.env s113)[31]? fun v129 =>
   C.any (St.env s113)[32]? fun v130 =>
   C.any (St.env s113)[33]? fun v131 =>
   C.any (St.env s113)[34]? fun v132 =>
   C.any (St.env s113)[35]? fun v133 =>
   C.any (St.env s113)[36]? fun v134 =>
   C.any (St.env s113)[37]? fun v135 =>
   C.any (St.env s113)[38]? fun v136 =>
   C.any (St.env s113)[39]? fun v137 =>
   C.any (St.env s113)[40]? fun v138 =>
   C.any (St.env s113)[41]? fun v139 =>
   C.any (St.env s113)[42]? fun v140 =>
   C.any (St.env s113)[43]? fun v141 =>
   C.sameH (St.H s113) [] <|
   some (.bool true))
   (none)
def r56E0 (C : Cb) (d : Nat) (a0 : List AV) (b0 : Bool) : St → Ans := fun s3 =>
  cnd ((List.length (St.env s3)) == 44)
   (C.same (St.env s3)[0]? (.lst a0) <|
   C.same (St.env s3)[1]? (.tup []) <|
   C.bool (St.env s3)[2]? fun b142 =>
   C.same (St.env s3)[3]? (.int .i64 (((List.length a0) : Nat) : Int)) <|
   C.int .i64 (St.env s3)[4]? fun x143 =>
   C.int .i64 (St.env s3)[5]? fun x144 =>
   C.same (St.env s3)[6]? (.lst a0) <|
   C.same (St.env s3)[7]? (.int .i64 (((List.length a0) : Nat) : Int)) <|
   C.same (St.env s3)[8]? (.int .i64 (((List.length a0) : Nat) : Int)) <|
   C.same (St.env s3)[9]? (.bool (decide ((((List.length a0) : Nat) : Int) < 3))) <|
   C.same (St.env s3)[10]? (.bool false) <|
   C.same (St.env s3)[11]? (.int .i64 (((List.length a0) : Nat) : Int)) <|
   C.same (St.env s3)[12]? (.bool (decide ((((List.length a0) : Nat) : Int) > 8))) <|
   C.same (St.env s3)[13]? (.bool (decide ((((List.length a0) : Nat) : Int) > 8))) <|
   C.same (St.env s3)[14]? (.bool false) <|
   C.same (St.env s3)[15]? (.lst a0) <|
   C.same (St.env s3)[16]? (.bool b0) <|
   C.same (St.env s3)[17]? (.bool false) <|
   C.same (St.env s3)[18]? (.int .i64 (((List.length a0) : Nat) : Int)) <|
   C.int .i64 (St.env s3)[19]? fun x145 =>
   C.bool (St.env s3)[20]? fun b146 =>
   C.int .i64 (St.env s3)[21]? fun x147 =>
   C.int .i64 (St.env s3)[22]? fun x148 =>
   C.int .i64 (St.env s3)[23]? fun x149 =>
   C.bool (St.env s3)[24]? fun b150 =>
   C.int .i64 (St.env s3)[25]? fun x151 =>
   C.any (St.env s3)[26]? fun v152 =>
   C.int .i64 (St.env s3)[27]? fun x153 =>
   C.any (St.env s3)[28]? fun v154 =>
   C.agg 2 (St.env s3)[29]? fun l155 =>
   C.int .i64 l155[0]? fun x156 =>
   C.int .i64 l155[1]? fun x157 =>
   C.any (St.env s3)[30]? fun v158 =>
   C.int .i64 (St.env s3)[31]? fun x159 =>
   C.any (St.env s3)[32]? fun v160 =>
   C.agg 2 (St.env s3)[33]? fun l161 =>
   C.int .i64 l161[0]? fun x162 =>
   C.int .i64 l161[1]? fun x163 =>
   C.bool (St.env s3)[34]? fun b164 =>
   C.bool (St.env s3)[35]? fun b165 =>
   C.any (St.env s3)[36]? fun v166 =>
   C.any (St.env s3)[37]? fun v167 =>
   C.any (St.env s3)[38]? fun v168 =>
   C.any (St.env s3)[39]? fun v169 =>
   C.any (St.env s3)[40]? fun v170 =>
   C.bool (St.env s3)[41]? fun b171 =>
   C.any (St.env s3)[42]? fun v172 =>
   C.any (St.env s3)[43]? fun v173 =>
   C.sameH (St.H s3) [] <|
   some (.bool b142))
   (none)
/-- apogee/poly.Simple -/
theorem r56 (C : Cb) (d : Nat) (a0 : List AV) : xcall C M unr d 56 [(.lst a0)] =
  cnd (decide ((((List.length a0) : Nat) : Int) < 3))
   (some (.bool false))
   (cnd (decide ((((List.length a0) : Nat) : Int) > 8))
   (some (.bool false))
   (C.bool (pcall M d 40 [(.lst a0), (.fn 70 [] [])]) fun b0 =>
   cnd b0
   (some (.bool false))
   (C.iter (r56R0 C d a0 b0) 1000000000000000000 ⟨[(.lst a0), (.tup []), (.bool false), (.int .i64 (((List.length a0) : Nat) : Int)), (.tup []), (.tup []), (.lst a0), (.int .i64 (((List.length a0) : Nat) : Int)), (.int .i64 (((List.length a0) : Nat) : Int)), (.bool (decide ((((List.length a0) : Nat) : Int) < 3))), (.bool false), (.int .i64 (((List.length a0) : Nat) : Int)), (.bool (decide ((((List.length a0) : Nat) : Int) > 8))), (.bool (decide ((((List.length a0) : Nat) : Int) > 8))), (.bool false), (.lst a0), (.bool b0), (.bool false), (.int .i64 (((List.length a0) : Nat) : Int)), (.int .i64 0), (.tup []), (.tup []), (.tup []), (.tup []), (.tup []), (.tup []), (.tup []), (.tup []), (.tup []), (.tup []), (.tup []), (.tup []), (.tup []), (.tup []), (.tup []), (.tup []), (.tup []), (.tup []), (.tup []), (.tup []), (.tup []), (.tup []), (.tup []), (.tup [])], []⟩ [0] [r56X0_0 C d a0 b0] (r56E0 C d a0 b0)))) := by kernel_rfl
/-- apogee/poly.far -/
theorem r57 (C : Cb) (d : Nat) (a0 a1 : Int) : xcall C M unr d 57 [(.agg [(.int .i64 a0), (.int .i64 a1)])] =
  some (.bool (decide ((if ((IntKind.wrap .i64 (0 - a1)) > (if (a1 > (if ((IntKind.wrap .i64 (0 - a0)) > a0) then (IntKind.wrap .i64 (0 - a0)) else a0)) then a1 else (if ((IntKind.wrap .i64 (0 - a0)) > a0) then (IntKind.wrap .i64 (0 - a0)) else a0))) then (IntKind.wrap .i64 (0 - a1)) else (if (a1 > (if ((IntKind.wrap .i64 (0 - a0)) > a0) then (IntKind.wrap .i64 (0 - a0)) else a0)) then a1 else (if ((IntKind.wrap .i64 (0 - a0)) > a0) then (IntKind.wrap .i64 (0 - a0)) else a0))) > 1073741824))) := by kernel_rfl
/-- apogee/poly.Simple$1 -/
theorem r70 (C : Cb) (d : Nat) (a0 a1 : Int) : xcall C M unr d 70 [(.agg [(.int .i64 a0), (.int .i64 a1)])] =
  C.bool (pcall M d 35 [(.agg [(.int .i64 a0), (.int .i64 a1)])]) fun b0 =>
  some (.bool (!b0)) := by kernel_rfl
/-- apogee/poly.apart -/
theorem r71 (C : Cb) (d : Nat) (a0 : List AV) (a1 a2 : Int) : xcall C M unr d 71 [(.lst a0), (.int .i64 a1), (.int .i64 a2)] =
  C.tup 2 (pcall M d 46 [(.lst a0), (.int .i64 a1)]) fun l0 =>
  C.agg 2 l0[0]? fun l1 =>
  C.int .i64 l1[0]? fun x2 =>
  C.int .i64 l1[1]? fun x3 =>
  C.agg 2 l0[1]? fun l4 =>
  C.int .i64 l4[0]? fun x5 =>
  C.int .i64 l4[1]? fun x6 =>
  C.tup 2 (pcall M d 46 [(.lst a0), (.int .i64 a2)]) fun l7 =>
  C.agg 2 l7[0]? fun l8 =>
  C.int .i64 l8[0]? fun x9 =>
  C.int .i64 l8[1]? fun x10 =>
  C.agg 2 l7[1]? fun l11 =>
  C.int .i64 l11[0]? fun x12 =>
  C.int .i64 l11[1]? fun x13 =>
  cnd (decide ((((List.length a0) : Nat) : Int) = 0))
   (none)
   (cnd ((Int.tmod (IntKind.wrap .i64 (a1 + 1)) (((List.length a0) : Nat) : Int)) == a2)
   (C.bool (pcall M d 47 [(.agg [(.int .i64 x12), (.int .i64 x13)]), (.agg [(.int .i64 x2), (.int .i64 x3)]), (.agg [(.int .i64 x5), (.int .i64 x6)])]) fun b14 =>
   cnd (!b14)
   (C.bool (pcall M d 47 [(.agg [(.int .i64 x2), (.int .i64 x3)]), (.agg [(.int .i64 x9), (.int .i64 x10)]), (.agg [(.int .i64 x12), (.int .i64 x13)])]) fun b15 =>
   some (.bool (!b15)))
   (some (.bool false)))
   (cnd (decide ((((List.length a0) : Nat) : Int) = 0))
   (none)
   (cnd ((Int.tmod (IntKind.wrap .i64 (a2 + 1)) (((List.length a0) : Nat) : Int)) == a1)
   (C.bool (pcall M d 47 [(.agg [(.int .i64 x9), (.int .i64 x10)]), (.agg [(.int .i64 x2), (.int .i64 x3)]), (.agg [(.int .i64 x5), (.int .i64 x6)])]) fun b16 =>
   cnd (!b16)
   (C.bool (pcall M d 47 [(.agg [(.int .i64 x5), (.int .i64 x6)]), (.agg [(.int .i64 x9), (.int .i64 x10)]), (.agg [(.int .i64 x12), (.int .i64 x13)])]) fun b17 =>
   some (.bool (!b17)))
   (some (.bool false)))
   (C.bool (pcall M d 79 [(.agg [(.int .i64 x2), (.int .i64 x3)]), (.agg [(.int .i64 x5), (.int .i64 x6)]), (.agg [(.int .i64 x9), (.int .i64 x10)]), (.agg [(.int .i64 x12), (.int .i64 x13)])]) fun b18 =>
   some (.bool (!b18)))))) := by kernel_rfl
end Go.Proofs.Ytjblhppbjebagaa.AE
