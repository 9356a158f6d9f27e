/- Regions that draw their order: all orders. No conditions. -/
import Derived.Test.YtbcbaidnamebkaaAEsnd16
namespace Go.Proofs.Ytbcbaidnamebkaa.AE
set_option linter.unusedVariables false
set_option linter.unusedSimpArgs false
set_option linter.constructorNameAsVariable false
open Go Go.RowKit

section
variable {P : Program} {call : CallF} {ops : Array Oper} {ios : List IOper} {ps : List Nat} {f : Nat → St} {b e : Nat}
variable {w w0 : World} {bad D0 : Nat → Prop} {ρ ρ0 : Rho} {a : Act} {B : Nat} {s : St} {Q : Exit → Act → World → Prop}

theorem dead_congr {H G : Heap} (h : ∀ id : Nat, ShEq H[id]? G[id]?) : dead H = dead G := by
  funext id
  exact propext (h id).dead

theorem start_mix (S : Stretch ops ios f b e) (h : Sim w0 D0 ρ0 bad B ρ (f b) a w) {L : Nat → Prop} (hL : ∀ m, b ≤ m → m < e → ¬ L m) :
    ∃ s, Sim w0 D0 ρ0 bad B ρ s a w ∧ Mix ops ios f b e L ρ s := by
  have hsh : ∀ id : Nat, ShEq ((f b).H ++ (f e).H.drop (f b).H.length)[id]? (f e).H[id]? := by
    intro id
    rw [List.getElem?_append]
    split
    · rename_i hlt
      exact S.shape (Nat.le_refl _) S.le (Nat.le_refl _) hlt
    · rename_i hge
      rw [List.getElem?_drop, show (f b).H.length + (id - (f b).H.length) = id by omega]
      exact .refl _
  have hdead : dead ((f b).H ++ (f e).H.drop (f b).H.length) = dead (f b).H := by
    funext id
    apply propext
    simp only [dead]
    rw [List.getElem?_append]
    split
    · exact Iff.rfl
    · rename_i hge
      rw [List.getElem?_drop, show (f b).H.length + (id - (f b).H.length) = id by omega, List.getElem?_eq_none (Nat.not_lt.mp hge)]
      have := S.alive S.le (Nat.le_refl _) (Nat.not_lt.mp hge)
      simp [this]
  have hR := h.heap
  refine ⟨⟨(f b).env, (f b).H ++ (f e).H.drop (f b).H.length⟩, ⟨h.defers, h.size, fun t ht => ?_, ⟨fun id bb es cap hid => ?_, fun id hid => ?_, hR.inj⟩, h.low, ?_⟩, rfl, hsh, fun id hid => .inl (lt_of_no hR hid), fun id hid => ?_, fun t => ?_, fun m id h1 h2 h3 => absurd h3 (hL m h1 h2)⟩
  · rw [hdead]; exact h.env t ht
  · obtain ⟨k, hk, hb⟩ := hR.real id bb es cap hid
    refine ⟨k, by rw [List.getElem?_append_left (lt_of_no hR (by simp [hid]))]; exact hk, ?_⟩
    have h2 : BlkRel w bad (dead ((f b).H ++ (f e).H.drop (f b).H.length)) ρ B k bb es cap := by rw [hdead]; exact hb
    exact h2
  · obtain ⟨k, hk, hb⟩ := hR.virt id hid
    exact ⟨k, by rw [List.getElem?_append_left (lt_of_no hR (by simp [hid]))]; exact hk, hb⟩
  · rw [hdead]; exact h.st
  · have hlt := lt_of_no hR hid
    refine ⟨b, Nat.le_refl _, S.le, hlt, List.getElem?_append_left hlt, fun m h1 h2 _ => ?_⟩
    have := hL m h1 h2
    constructor
    · intro h; omega
    · intro h; exact absurd h this
  · refine ⟨b, Nat.le_refl _, S.le, rfl, fun m o h1 h2 _ _ => ?_⟩
    have := hL m h1 h2
    constructor
    · intro h; omega
    · intro h; exact absurd h this

theorem end_mix (S : Stretch ops ios f b e) {L : Nat → Prop} (M : Mix ops ios f b e L ρ s) (h : Sim w0 D0 ρ0 bad B ρ s a w) (hL : ∀ m, b ≤ m → m < e → L m) : Sim w0 D0 ρ0 bad B ρ (f e) a w := by
  have hdead : dead s.H = dead (f e).H := dead_congr M.shape
  have henv : ∀ t, s.env.getD t .undef = (f e).env.getD t .undef := by
    intro t
    obtain ⟨c, h1, h2, h3, h4⟩ := M.cutE t
    rw [h3]
    refine S.sameE h1 h2 S.le (Nat.le_refl _) fun m o q1 q2 q3 q4 => ?_
    rw [h4 m o q1 q2 q3 q4]
    exact ⟨fun _ => q2, fun _ => hL m q1 q2⟩
  have hheap : ∀ id, ρ id ≠ .no → s.H[id]? = (f e).H[id]? := by
    intro id hid
    obtain ⟨c, h1, h2, h3, h4, h5⟩ := M.cutH id hid
    rw [h4]
    refine S.sameH h1 h2 S.le (Nat.le_refl _) h3 (Nat.lt_of_lt_of_le h3 (S.mono h1 h2 (Nat.le_refl _))) fun m q1 q2 q3 => ?_
    rw [h5 m q1 q2 q3]
    exact ⟨fun _ => q2, fun _ => hL m q1 q2⟩
  have hlen : s.env.length = (f e).env.length := by rw [M.len, S.lenE S.le (Nat.le_refl _)]
  refine ⟨h.defers, h.size.trans hlen, fun t ht => ?_, ⟨fun id bb es cap hid => ?_, fun id hid => ?_, h.heap.inj⟩, h.low, by rw [← hdead]; exact h.st⟩
  · rw [← hdead, ← henv t]; exact h.env t (hlen ▸ ht)
  · obtain ⟨k, hk, hb⟩ := h.heap.real id bb es cap hid
    refine ⟨k, (hheap id (by simp [hid])) ▸ hk, ?_⟩
    have h2 : BlkRel w bad (dead (f e).H) ρ B k bb es cap := by rw [← hdead]; exact hb
    exact h2
  · obtain ⟨k, hk, hb⟩ := h.heap.virt id hid
    exact ⟨k, (hheap id (by simp [hid])) ▸ hk, hb⟩

theorem want_congr {env env' : List AV} {ops : Array Oper} {o : Oper} {io : IOper} (hc : cOper P ops.toList o = some io) (h : ∀ t, t ∈ o.looksAt ops → env.getD t .undef = env'.getD t .undef) : want env io.guard = want env' io.guard := by
  unfold cOper at hc
  split at hc <;> (try (cases hc; done))
  cases hc
  cases hg : o.guard with
  | none => rfl
  | some p =>
    obtain ⟨g, q⟩ := p
    simp only
    cases hd : (ops.toList[g]?).bind (·.dst) with
    | none => rfl
    | some t =>
      have ht : t ∈ o.looksAt ops := by
        simp only [Oper.looksAt, hg, List.mem_append]
        right
        have : ops.toList[g]? = ops[g]? := by simp
        rw [this] at hd
        simp [hd]
      simp only [want, h t ht]

theorem seg_step (G : Glob P call ops ios ps f) (S : Stretch ops ios f b e) (hcall : PCallOK P call) (hbad : ∀ b, bad b → b < B) {L : Nat → Prop} {k : Nat} (hb : b ≤ k) (he : k < e) (hnf : ∀ io, ios[k]? = some io → fullOp io.op = false) (hk : ¬ L k) (hready : ∀ m, (ps.getD k 0).testBit m = true → L m)
    (hclosed : ∀ m, L m → ∀ i, (ps.getD m 0).testBit i = true → L i) (h : Sim w0 D0 ρ0 bad B ρ s a w) (M : Mix ops ios f b e L ρ s) {K : Act → World → Prop}
    (hK : ∀ a' w' ρ' s', Sim w0 D0 ρ0 bad B ρ' s' a' w' → Mix ops ios f b e (fun m => L m ∨ m = k) ρ' s' → K a' w') : wpOp P ops Q k K a w := by
  obtain ⟨o, io, e1, e2, e3, e4⟩ := G.at_ k (Nat.lt_of_lt_of_le he S.top)
  obtain ⟨hop, hdst⟩ := cOper_op e3
  have ordL : ∀ m, m ≠ k → Ord ps m k → (m < k ↔ L m) := by
    intro m hmk ho
    constructor
    · intro hlt; exact hready m (ho.1 hlt)
    · intro hl
      rcases Nat.lt_or_ge m k with hlt | hge
      · exact hlt
      · exact absurd (hclosed m hl k (ho.2 (by omega))) hk
  have hord : ∀ m om t, m ≠ k → ops[m]? = some om → om.dst = some t → o.dst = some t → (m < k ↔ L m) := fun m om t h1 h2 h3 h4 => ordL m h1 (G.slots m k om o t h1 h2 e1 h3 (.inr h4))
  have hslot : ∀ t, t ∈ o.looksAt ops → s.env.getD t .undef = (f k).env.getD t .undef := by
    intro t ht
    obtain ⟨c, h1, h2, h3, h4⟩ := M.cutE t
    rw [h3]
    refine S.sameE h1 h2 hb (by omega) fun m om q1 q2 q3 q4 => ?_
    rw [h4 m om q1 q2 q3 q4]
    by_cases hmk : m = k
    · subst hmk; simp [hk]
    · exact (ordL m hmk (G.slots m k om o t hmk q3 e1 q4 (.inl ht))).symm
  have hwant : want s.env io.guard = want (f k).env io.guard := want_congr e3 hslot
  unfold wpOp
  rw [e1]
  simp only
  rcases e4 with ⟨hw, v, H', hv, e5⟩ | ⟨hw, e5⟩
  · rw [want_spec e3 h (hwant.trans hw), if_pos rfl]
    refine .inl ?_
    have hput : (f (k + 1)).env = put (f k).env o.dst v := by rw [e5, ← hdst]
    have hHk : (f (k + 1)).H = H' := by rw [e5]
    have hshk : ∀ id z, hget (f k).H id = some z → ∃ z', s.H[id]? = some (some z') ∧ z'.e = z.e ∧ z'.els.length = z.els.length := by
      intro id z hz
      obtain ⟨q1, q2⟩ := hget_lt hz
      have r1 := S.shape hb (Nat.le_of_lt he) (Nat.le_refl _) q2
      rw [q1] at r1
      obtain ⟨y, r2, r3, r4⟩ := r1.some_r
      have r5 := M.shape id
      rw [r2] at r5
      obtain ⟨x, r6, r7, r8⟩ := r5.some_l
      exact ⟨x, r6, r7.trans r3.symm, r8.trans r4.symm⟩
    have hgets : ∀ {H : Heap} {id : Nat} {z : Blk}, H[id]? = some (some z) → hget H id = some z := by
      intro H id z hz; simp [hget, hz]
    have hO : OpsOk w bad (dead s.H) ρ a (evO (f k).env) o.op.operands.toList := by
      intro x hx y hy
      have h1 := evO_rep h o.op.operands.toList x hx y hy
      have : evO (f k).env y = evO s.env y := by
        cases y with
        | v _ => rfl
        | t t =>
          have hxt : x = .tmp t := by
            cases x with
            | tmp t' => simp [cOpd] at hy; rw [hy]
            | const u => cases hu : cv u <;> simp [cOpd, hu] at hy
            | global g => simp [cOpd] at hy
            | func g => simp [cOpd] at hy
          subst hxt
          exact (hslot t (by simp only [Oper.looksAt, List.mem_append, List.mem_filterMap]; exact .inl ⟨.tmp t, hx, rfl⟩)).symm
      rw [this]; exact h1
    have htc : ∀ id ∈ touch (evO (f k).env) (f k).H io.op, ∀ z, hget (f k).H id = some z → ρ id ≠ .no → hget s.H id = some z := by
      intro id hid z hz hn
      obtain ⟨q1, q2⟩ := hget_lt hz
      obtain ⟨c, h1, h2, h3, h4, h5⟩ := M.cutH id hn
      have : (f c).H[id]? = (f k).H[id]? := by
        refine S.sameH h1 h2 hb (by omega) h3 q2 fun m r1 r2 r3 => ?_
        rw [h5 m r1 r2 r3]
        by_cases hmk : m = k
        · subst hmk; simp [hk]
        · obtain ⟨im, t1, t2, t3, t4⟩ := r3
          exact (ordL m hmk (G.mem m k im io id hmk t1 e2 t2 hw t3 t4 hid)).symm
      exact hgets (h4.trans (this.trans q1))
    have hdd : ∀ id, dead s.H id → hget (f k).H id = none := by
      intro id hd
      cases hz : hget (f k).H id with
      | none => rfl
      | some z =>
        obtain ⟨z', q, _⟩ := hshk id z hz
        simp only [dead] at hd
        rw [hd] at q; cases q
    have hupd : storeOp io.op = false → ∀ id, ¬ Upd ios f k id := by
      rintro hs id ⟨im, t1, t2, t3, t4⟩
      rw [e2] at t1; cases t1
      rw [hs] at t3; cases t3
    have hfin := op_drawn (ev := evO (f k).env) hop hcall (hnf io e2) hbad h.heap h.low hO (fun id z hz => let ⟨z', q1, q2, q3⟩ := hshk id z hz; ⟨z', hgets q1, q3⟩) (fun id z hz => let ⟨z', q1, q2, q3⟩ := hshk id z hz; ⟨z', hgets q1, q2⟩) htc hdd (fun _ => rfl) hv
    rcases hfin with ⟨⟨cv, hr, hrep⟩, hH, hst⟩ | ⟨z, hm, hH, hst⟩ | ⟨id, z, z', w', q1, q2, q3, q4, hH, q5, q6, q7, q8, q9, q10⟩ | ⟨hH, hst, vs, g, hr, hres⟩
    · unfold Oper.wp
      rw [hr]
      exact hK _ _ ρ _ (put_sim o.dst h (Step.refl _ _ _) h.heap hrep) (M.same S hb he e1 hput hord (hupd hst))
    · obtain ⟨cv, w', cur, fz, cap, hr, h1, h2, h3, ⟨h4, h5, h6⟩, h7, h8, h9, h10, h11, h12, h13⟩ := hm
      have hHH : (f (k + 1)).H = (f k).H ++ [some z] := hHk.trans hH
      have hnew : (f (k + 1)).H[(f k).H.length]? = some (some z) := by rw [hHH]; simp
      have hlt1 : (f k).H.length < (f (k + 1)).H.length := by rw [hHH]; simp
      have hno : ρ (f k).H.length = .no := by
        cases hx : ρ (f k).H.length with
        | no => rfl
        | _ =>
          exfalso
          rcases M.made (f k).H.length (by simp [hx]) with h' | ⟨m, r1, r2, r3, r4, r5⟩
          · have := S.mono (Nat.le_refl b) hb (by omega); omega
          · have hmk : m ≠ k := fun hh => hk (hh ▸ r3)
            rcases Nat.lt_or_ge m k with hlt | hge
            · have := S.mono (c := m + 1) (k := k) (by omega) (by omega) (by omega); omega
            · have := S.mono (c := k + 1) (k := m) (by omega) (by omega) (by omega); omega
      have hsn := M.shape (f k).H.length
      have hsx := S.shape (c := k + 1) (k := e) (by omega) (by omega) (Nat.le_refl _) hlt1
      rw [hnew] at hsx
      obtain ⟨y, hy, _, _⟩ := hsx.some_r
      rw [hy] at hsn
      obtain ⟨y2, hy2, _, _⟩ := hsn.some_l
      have hlts : (f k).H.length < s.H.length := (List.getElem?_eq_some_iff.mp hy2).1
      obtain ⟨ρ', hρ', st, hR⟩ := alloc_upd (H' := s.H.set (f k).H.length (some z)) h.heap h.low hno (List.getElem?_set_self hlts) (fun i hi _ => List.getElem?_set_ne (Ne.symm hi)) (fun i hi => by
        have : i ≠ (f k).H.length := by rintro rfl; rw [hy2] at hi; cases hi
        rw [List.getElem?_set_ne (Ne.symm this)]; exact hi) h1 h2 h3 h4 h5 h6 h7 h8 h9 h10 h11 h12
      unfold Oper.wp
      rw [hr]
      refine hK _ _ ρ' _ (put_sim (v := v) o.dst h st hR ?_) (M.makes S hb he e1 hput hHH hord (hupd hst) hno (r := .real w.heap.size z.e.es cap) (by simp) hρ')
      rcases h13 with ⟨rfl, rfl⟩ | ⟨n, c, rfl, q1, q2, rfl⟩
      · have := Rep.ptr (w := w') (bad := bad) (D := dead (s.H.set (f k).H.length (some z))) (ρ := ρ') (id := (f k).H.length) (i := 0) (j := 0) (b := w.heap.size) (es := z.e.es) (cap := cap) (by subst hρ'; simp)
        simpa using this
      · have := Rep.slc (w := w') (bad := bad) (D := dead (s.H.set (f k).H.length (some z))) (ρ := ρ') (id := (f k).H.length) (o := 0) (n := n) (c := c) (b := w.heap.size) (es := z.e.es) (cap := cap) (by subst hρ'; simp) (by omega) q1
        simpa using this
    · obtain ⟨st, hR⟩ := q8 _ rfl
      unfold Oper.wp
      rw [q9]
      subst q7
      refine hK _ _ ρ _ (put_sim (v := .undef) o.dst h st hR (.frz (.undef _))) (M.stores S hb he e1 hput (hHk.trans hH) (hget_lt q2).2 hord ?_ ?_ q1 q3 q4 q10)
      · rintro id' ⟨im, t1, t2, t3, t4⟩
        rw [e2] at t1; cases t1
        unfold tchAt at t4
        rw [q5] at t4
        simpa using t4
      · rintro m hmk ⟨im, t1, t2, t3, t4⟩
        exact ordL m hmk (G.mem m k im io id hmk t1 e2 t2 hw t3 t4 (by unfold tchAt; rw [q5]; simp))
    · unfold Oper.wp
      rw [hr]
      rcases hres with ⟨cv, h1, hbw, hrep⟩ | ⟨h1, h2⟩
      · rw [h1]
        obtain ⟨st, hR⟩ := below_step h.heap hbw
        exact hK _ _ ρ _ (put_sim o.dst h st hR hrep) (M.same S hb he e1 hput hord (hupd hst))
      · rw [h1]
        refine h2.mono ?_
        rintro ex w' ⟨cv, rfl, hbw, hrep⟩
        obtain ⟨st, hR⟩ := below_step h.heap hbw
        exact hK _ _ ρ _ (put_sim o.dst h st hR hrep) (M.same S hb he e1 hput hord (hupd hst))
  · rw [want_spec e3 h (hwant.trans hw), if_neg (by simp)]
    have hput : (f (k + 1)).env = put (f k).env o.dst (.tup []) := by rw [e5, ← hdst]
    refine hK _ _ ρ _ (skip_sim o.dst h) (M.same S hb he e1 hput hord ?_)
    rintro id ⟨im, t1, t2, t3, t4⟩
    rw [e2] at t1; cases t1
    rw [hw] at t2; cases t2
end
end Go.Proofs.Ytbcbaidnamebkaa.AE
