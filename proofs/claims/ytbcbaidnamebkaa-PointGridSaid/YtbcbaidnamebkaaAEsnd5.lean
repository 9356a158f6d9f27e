/- The small evaluator's operations that make memory are the model's. No conditions. -/
import Derived.Test.YtbcbaidnamebkaaAEsnd4
import Derived.Lib.ConvBytes
namespace Go.Proofs.Ytbcbaidnamebkaa.AE
set_option linter.unusedVariables false
set_option linter.unusedSimpArgs false
set_option linter.constructorNameAsVariable false
open Go Go.RowKit

section
variable {P : Program} {w : World} {bad D : Nat → Prop} {ρ : Rho} {a : Act} {ev : Opd → AV} {o : Oper}

/-- Cells of a value of scalars. -/
theorem cells_sc {x : AV} (h : ∀ (j : Nat) (c : AV), x.cells[j]? = some c → isSc c = true) : isSc x = true ∨ ∃ cs, x = .agg cs := by
  by_cases hx : ∃ cs, x = .agg cs
  · exact .inr hx
  · left
    have : x.cells[0]? = some x := by cases x <;> first | rfl | exact absurd ⟨_, rfl⟩ hx
    exact h 0 x this

/-- Where a slice's elements lie. -/
def RowAt (w : World) (bad D : Nat → Prop) (ρ : Rho) (l : List AV) (b o es : Nat) : Prop :=
  0 < es ∧ (∀ (i : Nat) (x : AV), l[i]? = some x → x.cells.length = es) ∧
  ∀ (i : Nat) (x : AV) (j : Nat) (c : AV), l[i]? = some x → x.cells[j]? = some c → ∃ u, w.cell? ⟨b, o + (i * es + j), none⟩ = some u ∧ Rep w bad D ρ c u

theorem elsOf_rep {H H' : Heap} {B : Nat} {X : AV} {l : List AV} {v : Value} (h : elsOf H X = some l) (hX : ∀ s, X ≠ .str s) (hR : HRel w bad ρ B H') (hD : ∀ id, D id ↔ H'[id]? = some none) (hsame : ∀ id u q, X = .slc id u q → ∀ b, hget H id = some b → ρ id ≠ .no → hget H' id = some b) (hdd : ∀ id, D id → hget H id = none)
    (hv : Rep w bad D ρ X v) : ∃ ad c, v = .slice ad l.length c ∧ l.length ≤ c ∧ (l = [] ∨ ∃ b q es, ad = some ⟨b, q, none⟩ ∧ RowAt w bad D ρ l b q es) := by
  have eD : D = fun id => H'[id]? = some none := funext fun id => propext (hD id)
  cases X <;> simp only [elsOf] at h <;> (try (cases h; done))
  · exact absurd rfl (hX _)
  · obtain rfl := Option.some.inj h
    cases hv with
    | frz hv => cases hv with
      | znil => exact ⟨_, _, rfl, Nat.le_refl _, .inl rfl⟩
      | zsl a => exact ⟨_, _, rfl, Nat.le_refl _, .inl rfl⟩
  · rename_i id q n
    have hs := hsame id q n rfl
    cases hg : hget H id with
    | none => simp [hg] at h
    | some k =>
      simp only [hg] at h
      split at h <;> (try (cases h; done))
      rename_i hle
      obtain rfl := Option.some.inj h
      have hs := hs k hg
      have hlen : ((k.els.drop q).take n).length = n := by simp; omega
      rw [hlen]
      cases hv with
      | frz h => cases h
      | slcD ad c hd => rw [hdd _ hd] at hg; cases hg
      | slcV ad hρ => exact ⟨_, _, rfl, Nat.le_refl _, .inl (by simp)⟩
      | slc hρ hc hn =>
        rename_i b es cap c
        obtain ⟨k2, hk2, hb⟩ := hR.real _ b es cap hρ
        rw [agree_of (hs (by simp [hρ]))] at hk2; cases hk2
        obtain ⟨cur, fz, hm1, hm2, hm3, hm4⟩ := hb.mem
        refine ⟨_, _, rfl, hn, .inr ⟨b, q * es, es, rfl, hb.pos, fun i x hx => ?_, fun i x j c hx hj => ?_⟩⟩
        · have hi : i < n := by have := (List.getElem?_eq_some_iff.mp hx).1; omega
          rw [List.getElem?_take_of_lt hi, List.getElem?_drop] at hx
          rw [(elOk_sc (hb.ok _ x hx)).2.1, hb.hes]
        · have hi : i < n := by have := (List.getElem?_eq_some_iff.mp hx).1; omega
          rw [List.getElem?_take_of_lt hi, List.getElem?_drop] at hx
          obtain ⟨u, hu, hr⟩ := hm4 _ x j c hx hj
          refine ⟨u, ?_, eD ▸ hr⟩
          rw [show q * es + (i * es + j) = (q + i) * es + j by rw [Nat.add_mul]; omega]
          simp only [World.cell?, hm1]
          simpa using hu
  · obtain rfl := Option.some.inj h
    cases hv with
    | frz hv => cases hv with
      | lst0 a c => exact ⟨_, _, rfl, Nat.zero_le _, .inl rfl⟩
      | lst _ b q es c vs hn he hb hl hs hc hr => exact ⟨_, _, rfl, hn, .inr ⟨b, q, es, rfl, he, hs, fun i x j c hx hj => ⟨_, hc i x j c hx hj, .frz (hr i x j c hx hj)⟩⟩⟩

theorem b2sL_spec : ∀ {l : List AV} {s : List UInt8}, b2sL l = some s → ∃ ns : List Int, l = ns.map (AV.int .u8) ∧ s = ns.map fun n => UInt8.ofNat n.toNat
  | [], s, h => by simp [b2sL] at h; subst h; exact ⟨[], rfl, rfl⟩
  | x :: l, s, h => by
    unfold b2sL at h
    split at h <;> (try (cases h; done))
    · rename_i heq; cases heq
    · rename_i n l' heq
      cases heq
      cases hl : b2sL l with
      | none => simp [hl] at h
      | some s' =>
        simp [hl] at h
        subst h
        obtain ⟨ns, rfl, rfl⟩ := b2sL_spec hl
        exact ⟨n :: ns, rfl, rfl⟩

theorem push_fold : ∀ (ns : List Int) (s : ByteArray), (ns.foldl (fun r n => r.push (UInt8.ofNat n.toNat)) s) = ⟨(s.data.toList ++ ns.map fun n => UInt8.ofNat n.toNat).toArray⟩
  | [], s => by simp
  | n :: ns, s => by
    rw [List.foldl_cons, push_fold ns]
    apply ByteArray.ext
    simp [ByteArray.push]

theorem says_b2s {H H' : Heap} {B : Nat} {s d e : TypeId} {x : Operand} {x' : Opd} {l : List AV} {z : List UInt8} (ho : o.op = .convert s d x) (hs : P.underlying s = some (.slice e)) (he : P.underlying e = some (.int .u8)) (hd : P.underlying d = some .string) (hx : cOpd x = some x')
    (hl : elsOf H (ev x') = some l) (hX : ∀ s, ev x' ≠ .str s) (hz : b2sL l = some z) (hR : HRel w bad ρ B H') (hD : ∀ id, D id ↔ H'[id]? = some none) (hsame : ∀ id u q, ev x' = .slc id u q → ∀ b, hget H id = some b → ρ id ≠ .no → hget H' id = some b) (hdd : ∀ id, D id → hget H id = none)
    (hO : OpsOk w bad D ρ a ev o.op.operands.toList) : Says P w bad D ρ a o (.str z) := by
  have h2 := hO x (by simp [ho, Op.operands]) x' hx
  obtain ⟨ad, c, e2, hn, hrow⟩ := elsOf_rep hl hX hR hD hsame hdd h2
  obtain ⟨ns, rfl, rfl⟩ := b2sL_spec hz
  refine ⟨_, ?_, .frz (.str _)⟩
  simp only [execOp, ho, e2, Sem.run_bind, run_convert_bytes_string w s d e ad _ c hs he hd]
  have key : (Conv.bytesToString (.slice ad (ns.map (AV.int .u8)).length c)).run P w = .ok (.string ⟨(ns.map fun n => UInt8.ofNat n.toNat).toArray⟩) w := by
    rcases hrow with hnil | ⟨b, q, es, rfl, hpos, hes, hc⟩
    · have : ns = [] := by simpa using hnil
      subst this
      cases ad with
      | none => simp [Conv.bytesToString]; rfl
      | some ad =>
        rw [run_bytesToString w ad _ c [] (by simp [loadCells, loadCellsFrom])]
        rfl
    · rw [run_bytesToString w ⟨b, q, none⟩ _ c ns ?_]
      · rw [push_fold]; simp
      · have := run_loadCells_list (P := P) w ⟨b, q, none⟩ (ns.map (Value.int .u8)) (by
          intro j u hu
          have hj : j < ns.length := by have := (List.getElem?_eq_some_iff.mp hu).1; simpa using this
          have hx : (ns.map (AV.int .u8))[j]? = some (.int .u8 ns[j]) := by simp [hj]
          have h1 := hes j _ hx
          have h1' : es = 1 := by simpa [AV.cells] using h1.symm
          subst h1'
          obtain ⟨u', hu', hr⟩ := hc j _ 0 (.int .u8 ns[j]) hx rfl
          have := rep_int hr
          subst this
          simp [hj] at hu
          subst hu
          rw [Addr.add_lit]
          simpa using hu')
        simpa using this
  simp only [key, Result.andThen_ok, Sem.run_pure]

/-- An operation that makes one block. -/
def Makes (P : Program) (w : World) (bad D : Nat → Prop) (ρ : Rho) (a : Act) (o : Oper) (v : AV) (id : Nat) (k : Blk) : Prop :=
  ∃ cv w' cur fz cap, (execOp a.eval o).run P w = .ok (.value cv) w' ∧ w'.os = w.os ∧ w'.tape = w.tape ∧ w'.output = w.output ∧ (w'.heap.size = w.heap.size + 1 ∧ (∀ j, j < w.heap.size → w'.heap[j]? = w.heap[j]?) ∧ w'.heap[w.heap.size]? = some (.cells cur k.e.tid fz)) ∧
    0 < k.e.es ∧ cur.size = cap * k.e.es ∧ (∀ j, j < cur.size → ¬ (fz.1 ≤ j ∧ j < fz.2)) ∧ k.els.length ≤ cap ∧ (∀ (i : Nat) (el : AV), k.els[i]? = some el → elOk k.e el = true) ∧
    (∀ (i : Nat) (el : AV) (j : Nat) (c : AV), k.els[i]? = some el → el.cells[j]? = some c → ∃ u, cur[i * k.e.es + j]? = some u ∧ Rep w bad D ρ c u) ∧
    ((v = .ptr id 0 0 ∧ cv = .pointer (some ⟨w.heap.size, 0, none⟩)) ∨ ∃ n c, v = .slc id 0 n ∧ n ≤ c ∧ c ≤ cap ∧ cv = .slice (some ⟨w.heap.size, 0, none⟩) n c)

theorem alloc3 (w : World) (cur : Array Value) {t u : TypeId} (h : u = t) : (w.alloc (.cells cur t)).heap.size = w.heap.size + 1 ∧ (∀ j, j < w.heap.size → (w.alloc (.cells cur t)).heap[j]? = w.heap[j]?) ∧ (w.alloc (.cells cur t)).heap[w.heap.size]? = some (.cells cur u (0, 0)) := by
  subst h
  refine ⟨by simp, fun j hj => Below.heap_alloc w _ j hj, heap_alloc_new w _⟩

theorem cETy_spec {t : TypeId} {e : ETy} (h : cETy P t = some e) : ∃ i z, P.info? t = some i ∧ agB P t = some e.ag ∧ i.zero = some z ∧ cv z = some e.zero ∧ e.tid = t ∧ e.es = i.size ∧ e.bytes = i.bytes ∧ elOk e e.zero = true ∧ 0 < e.es := by
  unfold cETy at h
  split at h <;> (try (cases h; done))
  rename_i i ag hi ha
  split at h <;> (try (cases h; done))
  rename_i z hz
  split at h <;> (try (cases h; done))
  rename_i v hv
  split at h <;> (try (cases h; done))
  rename_i hok
  cases h
  exact ⟨i, z, hi, ha, hz, hv, rfl, rfl, rfl, hok.1, hok.2⟩

theorem elOk_rep {e : ETy} {x : AV} {v : Value} (h : elOk e x = true) (hv : Rep w bad D ρ x v) : v.cells.size = e.es ∧ ∀ (j : Nat) (c : AV), x.cells[j]? = some c → ∃ u, v.cells[j]? = some u ∧ Rep w bad D ρ c u := by
  obtain ⟨h1, h2, h3⟩ := elOk_sc h
  obtain ⟨e1, e2⟩ := rep_cells hv h1
  refine ⟨by omega, fun j c hj => ?_⟩
  have hlt : j < v.cells.size := by have := (List.getElem?_eq_some_iff.mp hj).1; omega
  exact ⟨_, Array.getElem?_eq_getElem hlt, e2 j c _ hj (Array.getElem?_eq_getElem hlt)⟩

theorem makes_one {e : ETy} {t : TypeId} {x : AV} {v : Value} (id : Nat) (he : cETy P t = some e) (hok : elOk e x = true) (hv : Rep w bad D ρ x v)
    (hrun : (execOp a.eval o).run P w = .ok (.value (.pointer (some ⟨w.heap.size, 0, none⟩))) (w.alloc (.cells v.cells t))) : Makes P w bad D ρ a o (.ptr id 0 0) id ⟨e, [x]⟩ := by
  obtain ⟨i, z, hi, ha, hz, hzv, ht, hes, hby, hzo, hpos⟩ := cETy_spec he
  obtain ⟨h1, h2⟩ := elOk_rep hok hv
  refine ⟨_, _, v.cells, (0, 0), 1, hrun, rfl, rfl, rfl, alloc3 _ _ ht, hpos, by simpa using h1, fun j _ => by simp, by simp, ?_, ?_, .inl ⟨rfl, rfl⟩⟩
  · intro i el hel
    cases i with
    | zero => simp at hel; subst hel; exact hok
    | succ i => simp at hel
  · intro i el j c hel hj
    cases i with
    | zero => simp at hel; subst hel; simpa using h2 j c hj
    | succ i => simp at hel

theorem makes_box {e : ETy} {t : TypeId} {x : Operand} {x' : Opd} (id : Nat) (ho : o.op = .box t x) (he : cETy P t = some e) (hx : cOpd x = some x') (hok : elOk e (ev x') = true) (hO : OpsOk w bad D ρ a ev o.op.operands.toList) :
    Makes P w bad D ρ a o (.ptr id 0 0) id ⟨e, [ev x']⟩ := by
  have h2 := hO x (by simp [ho, Op.operands]) x' hx
  refine makes_one id he hok h2 ?_
  simp [execOp, ho, Instr.box, newVar, newRow]

theorem makes_alloc {e : ETy} {t : TypeId} (id : Nat) (ho : o.op = .alloc t) (he : cETy P t = some e) : Makes P w bad D ρ a o (.ptr id 0 0) id ⟨e, [e.zero]⟩ := by
  obtain ⟨i, z, hi, ha, hz, hzv, ht, hes, hby, hzo, hpos⟩ := cETy_spec he
  refine makes_one id he hzo (.frz (cv_rep hzv)) ?_
  simp [execOp, ho, Instr.alloc, newVar, newRow, zeroValue, typeInfo, hi, hz]

theorem zero_cells {z : Array Value} {es n i j : Nat} (hz : z.size = es) (hi : i < n) (hj : j < es) : ((Array.range (n * es)).map fun k => z[k % z.size]!)[i * es + j]? = z[j]? := by
  have h1 : i * es + j < n * es := by
    have := Nat.mul_le_mul_right es hi
    rw [Nat.succ_mul] at this
    omega
  have h2 : (i * es + j) % es = j := by rw [Nat.add_comm, Nat.add_mul_mod_self_right]; exact Nat.mod_eq_of_lt hj
  have h3 : j < z.size := by omega
  simp [h1, hz, h2]
  rw [getElem!_pos z j h3, Array.getElem?_eq_getElem h3]

theorem makes_row {e : ETy} {t : TypeId} {n : Nat} (id : Nat) (he : cETy P t = some e) {z : Value} {i : TypeInfo} (hi : P.info? t = some i) (hz : i.zero = some z)
    (hrun : (execOp a.eval o).run P w = .ok (.value (.slice (some ⟨w.heap.size, 0, none⟩) n n)) (w.alloc (.cells ((Array.range (n * i.size)).map fun k => z.cells[k % z.cells.size]!) t))) :
    Makes P w bad D ρ a o (.slc id 0 n) id ⟨e, List.replicate n e.zero⟩ := by
  obtain ⟨i', z', hi', ha, hz', hzv, ht, hes, hby, hzo, hpos⟩ := cETy_spec he
  rw [hi] at hi'; cases hi'
  rw [hz] at hz'; cases hz'
  obtain ⟨h1, h2⟩ := elOk_rep hzo (.frz (cv_rep (w := w) (bad := fun b => bad b ∨ own ρ b) hzv) : Rep w bad D ρ e.zero z)
  refine ⟨_, _, _, (0, 0), n, hrun, rfl, rfl, rfl, alloc3 _ _ ht, hpos, by simp [hes], fun j _ => by simp, by simp, ?_, ?_, .inr ⟨n, n, rfl, Nat.le_refl _, Nat.le_refl _, rfl⟩⟩
  · intro k el hel
    simp only [List.getElem?_replicate] at hel
    split at hel <;> simp at hel
    subst hel; exact hzo
  · intro k el j c hel hj
    simp only [List.getElem?_replicate] at hel
    split at hel
    · rename_i hk
      simp at hel
      subst hel
      obtain ⟨u, hu, hr⟩ := h2 j c hj
      refine ⟨u, ?_, hr⟩
      have hjl : j < e.es := by have := (List.getElem?_eq_some_iff.mp hj).1; have := (elOk_sc hzo).2.1; omega
      simp only
      rw [hes] at hjl ⊢
      rw [zero_cells (by omega) hk hjl]
      exact hu
    · cases hel

theorem makes_mkslice {e : ETy} {t et : TypeId} {x y : Operand} {x' y' : Opd} {n : Int} (id : Nat) (ho : o.op = .makeSlice t x y) (hs : P.underlying t = some (.slice et)) (he : cETy P et = some e) (hx : cOpd x = some x') (hy : cOpd y = some y')
    (hn : aInt (ev x') = some n) (hm : aInt (ev y') = some n) (h0 : 0 ≤ n) (hb : n * e.bytes ≤ 140737488355328) (hl : n ≤ 9223372036854775807) (hO : OpsOk w bad D ρ a ev o.op.operands.toList) :
    Makes P w bad D ρ a o (.slc id 0 n.toNat) id ⟨e, List.replicate n.toNat e.zero⟩ := by
  obtain ⟨i, z, hi, ha, hz, hzv, ht, hes, hby, hzo, hpos⟩ := cETy_spec he
  have h2 := hO x (by simp [ho, Op.operands]) x' hx
  have h3 := hO y (by simp [ho, Op.operands]) y' hy
  refine makes_row id he hi hz ?_
  have e2 : ∃ k, a.eval x = .int k n := by
    generalize ev x' = X at *
    cases X <;> simp [aInt] at hn
    subst hn
    exact ⟨_, rep_int h2⟩
  have e3 : ∃ k, a.eval y = .int k n := by
    generalize ev y' = X at *
    cases X <;> simp [aInt] at hm
    subst hm
    exact ⟨_, rep_int h3⟩
  obtain ⟨k1, e2⟩ := e2
  obtain ⟨k2, e3⟩ := e3
  have hw : IntKind.i64.wrap n = n := by rw [IntKind.wrap_i64]; omega
  rw [hby] at hb
  have hsz : 0 < i.size := by omega
  simp only [execOp, ho, Instr.makeSlice, e2, e3, Sem.run_bind, run_underlying hs, Result.andThen_ok, asInt, asIntOf, Sem.run_pure, typeInfo, run_program, hi, hw]
  have c1 : ¬ ((decide (n < 0) || decide ((i.bytes : Int) * n > 2 ^ 48)) || decide (n < 0) || decide (n > n)) = true := by
    have : (i.bytes : Int) * n ≤ 140737488355328 := by rw [Int.mul_comm]; exact hb
    simp
    omega
  rw [if_neg c1]
  simp only [Sem.run_bind, run_askRoom, Result.andThen_ok, run_size hi]
  by_cases hz0 : n.toNat * i.size = 0
  · rw [if_pos hz0]
    have hr : ∀ f : Nat → Value, Array.map f (Array.range (n.toNat * i.size)) = #[] := fun f => by rw [hz0]; apply Array.ext'; simp
    simp [newRow, hr]
  · rw [if_neg hz0]
    simp [newRow, zeroValue, typeInfo, hi, hz]

/-- Parts of a slice's literal. -/
theorem fillR_run {e : ETy} (hes : 0 < e.es) : ∀ (ps : List (Nat × AV)) (qs : List (Nat × Value)) (els els' : List AV) (vs : List Value), ps.length = qs.length → vs.length = els.length * e.es →
    (∀ (i : Nat) (el : AV), els[i]? = some el → elOk e el = true) →
    (∀ (i : Nat) (el : AV) (j : Nat) (c : AV), els[i]? = some el → el.cells[j]? = some c → ∃ u, vs[i * e.es + j]? = some u ∧ Rep w bad D ρ c u) →
    (∀ (i : Nat) (p : Nat × AV) (q : Nat × Value), ps[i]? = some p → qs[i]? = some q → q.1 = p.1 ∧ Rep w bad D ρ p.2 q.2) → fillR e els ps = some els' →
    ∃ vs' : List Value, Instr.fill (fun i => some (i * e.es, e.es)) vs.toArray qs = some vs'.toArray ∧ els'.length = els.length ∧ vs'.length = els'.length * e.es ∧
      (∀ (i : Nat) (el : AV), els'[i]? = some el → elOk e el = true) ∧
      (∀ (i : Nat) (el : AV) (j : Nat) (c : AV), els'[i]? = some el → el.cells[j]? = some c → ∃ u, vs'[i * e.es + j]? = some u ∧ Rep w bad D ρ c u)
  | [], qs, els, els', vs, hl, hv, hok, hp, _, h => by
    cases qs with
    | nil => simp [fillR] at h; subst h; exact ⟨vs, rfl, rfl, hv, hok, hp⟩
    | cons q qs => simp at hl
  | (k, x) :: ps, qs, els, els', vs, hl, hv, hok, hp, hq, h => by
    cases qs with
    | nil => simp at hl
    | cons q qs =>
      obtain ⟨h1, h2⟩ := hq 0 _ _ rfl rfl
      obtain ⟨i0, u⟩ := q
      simp only at h1 h2
      subst h1
      simp only [fillR] at h
      split at h <;> (try (cases h; done))
      rename_i hx
      split at h <;> (try (cases h; done))
      rename_i hlt
      obtain ⟨e1, e2⟩ := elOk_rep hx h2
      have hb : i0 * e.es + e.es ≤ els.length * e.es := by
        have := Nat.mul_le_mul_right e.es hlt
        rwa [Nat.succ_mul] at this
      have hz : (u.cells.zipIdx.foldl (fun (cs : Array Value) (x : Value × Nat) => cs.setIfInBounds (i0 * e.es + x.2) x.1) vs.toArray) = (vs.take (i0 * e.es) ++ u.cells.toList ++ vs.drop (i0 * e.es + e.es)).toArray := by
        obtain ⟨ul, hul⟩ : ∃ l : List Value, u.cells = l.toArray := ⟨u.cells.toList, by simp⟩
        have hlen : ul.length = e.es := by rw [hul] at e1; simpa using e1
        have z := zip_fold (i0 * e.es) ul 0 vs.toArray (by simp; omega)
        rw [hul]
        apply Array.ext'
        have e3 : ul.toArray.zipIdx = (ul.zipIdx 0).toArray := by simp
        rw [e3, List.foldl_toArray]
        simpa [hlen] using z
      have hlen' : (vs.take (i0 * e.es) ++ u.cells.toList ++ vs.drop (i0 * e.es + e.es)).length = (els.set i0 x).length * e.es := by
        simp; omega
      obtain ⟨vs', f1, f2, f3, f4, f5⟩ := fillR_run hes ps qs (els.set i0 x) els' _ (by simpa using hl) hlen' (by
          intro i el hel
          by_cases hii : i0 = i
          · subst hii
            rw [List.getElem?_set_self hlt] at hel
            cases hel; exact hx
          · rw [List.getElem?_set_ne hii] at hel
            exact hok i el hel) (by
          intro i el j c hel hj
          by_cases hne : i0 = i
          · subst hne
            rw [List.getElem?_set_self hlt] at hel
            cases hel
            obtain ⟨y, hy, hr⟩ := e2 j c hj
            refine ⟨y, ?_, hr⟩
            have hjl : j < u.cells.size := (Array.getElem?_eq_some_iff.mp hy).1
            rw [List.append_assoc, List.getElem?_append_right (by simp; omega), List.getElem?_append_left (by simp; omega)]
            have : i0 * e.es + j - (vs.take (i0 * e.es)).length = j := by simp; omega
            rw [this]
            simpa using hy
          · rw [List.getElem?_set_ne hne] at hel
            obtain ⟨y, hy, hr⟩ := hp i el j c hel hj
            refine ⟨y, ?_, hr⟩
            have hjl : j < e.es := by have h9 := (List.getElem?_eq_some_iff.mp hj).1; have := (elOk_sc (hok i el hel)).2.1; omega
            rcases Nat.lt_or_gt_of_ne hne with hlt' | hgt'
            · have h8 : i0 * e.es + e.es ≤ i * e.es := by
                have := Nat.mul_le_mul_right e.es hlt'
                rwa [Nat.succ_mul] at this
              rw [List.getElem?_append_right (by simp; omega)]
              simp only [List.length_append, List.length_take, Array.length_toList, List.getElem?_drop]
              have : i0 * e.es + e.es + (i * e.es + j - (min (i0 * e.es) vs.length + u.cells.size)) = i * e.es + j := by omega
              rw [this]; exact hy
            · have h8 : i * e.es + e.es ≤ i0 * e.es := by
                have := Nat.mul_le_mul_right e.es hgt'
                rwa [Nat.succ_mul] at this
              rw [List.append_assoc, List.getElem?_append_left (by simp; omega), List.getElem?_take_of_lt (by omega)]
              exact hy) (fun i p q hp hq' => hq (i + 1) p q (by simpa using hp) (by simpa using hq')) h
      refine ⟨vs', ?_, by rw [f2]; simp, f3, f4, f5⟩
      unfold Instr.fill
      simp only
      rw [if_neg (by simp; omega)]
      exact (congrArg (fun z => Instr.fill _ z qs) hz).trans f1

theorem makes_mkrow {e : ETy} {t et : TypeId} {n : Nat} {ps : Array (Nat × Operand)} {l : List (Nat × Opd)} {els : List AV} (id : Nat) (ho : o.op = .buildSlice t n ps) (hs : P.underlying t = some (.slice et)) (he : cETy P et = some e) (hl : cParts ps.toList = some l)
    (hn : n * e.es ≤ 16777216) (hf : fillR e (List.replicate n e.zero) (l.map fun p => (p.1, ev p.2)) = some els) (hO : OpsOk w bad D ρ a ev o.op.operands.toList) : Makes P w bad D ρ a o (.slc id 0 n) id ⟨e, els⟩ := by
  obtain ⟨i, z, hi, ha, hz, hzv, ht, hes, hby, hzo, hpos⟩ := cETy_spec he
  obtain ⟨o1, o2⟩ := optAll_spec hl
  obtain ⟨z1, z2⟩ := elOk_rep hzo (.frz (cv_rep (w := w) (bad := fun b => bad b ∨ own ρ b) hzv) : Rep w bad D ρ e.zero z)
  have hev : ∀ q ∈ ps.toList, ∀ y, cOpd q.2 = some y → Rep w bad D ρ (ev y) (a.eval q.2) := fun q hq y hy => hO q.2 (by simp only [ho, Op.operands]; simp; exact ⟨q.1, by simpa using hq⟩) y hy
  have hmap : (ps.map fun p => (p.1, a.eval p.2)).toList = ps.toList.map fun p => (p.1, a.eval p.2) := by simp
  obtain ⟨vs', f1, f2, f3, f4, f5⟩ := fillR_run (w := w) (bad := bad) (D := D) (ρ := ρ) hpos (l.map fun p => (p.1, ev p.2)) (ps.toList.map fun p => (p.1, a.eval p.2)) (List.replicate n e.zero) els
    ((Array.range (n * e.es)).map fun k => z.cells[k % z.cells.size]!).toList (by simp [o1]) (by simp) (fun i el hel => by
      simp only [List.getElem?_replicate] at hel
      split at hel <;> simp at hel
      subst hel; exact hzo) (fun k el j c hel hj => by
      simp only [List.getElem?_replicate] at hel
      split at hel
      · rename_i hk
        simp at hel
        subst hel
        obtain ⟨u, hu, hr⟩ := z2 j c hj
        refine ⟨u, ?_, hr⟩
        have hjl : j < e.es := by have := (List.getElem?_eq_some_iff.mp hj).1; have := (elOk_sc hzo).2.1; omega
        rw [Array.getElem?_toList, zero_cells z1 hk hjl]
        exact hu
      · cases hel) (fun k p q hp hq => by
      rw [List.getElem?_map] at hp hq
      obtain ⟨p', hp', rfl⟩ := Option.map_eq_some_iff.mp hp
      obtain ⟨q', hq', rfl⟩ := Option.map_eq_some_iff.mp hq
      obtain ⟨b, hb, hbe⟩ := o2 k q' hq'
      rw [hb] at hp'; cases hp'
      split at hbe
      · rename_i y hy
        cases hbe
        exact ⟨rfl, hev q' (List.mem_of_getElem? hq') _ hy⟩
      · cases hbe) hf
  have f2' : els.length = n := by simpa using f2
  rw [Array.toArray_toList] at f1
  refine ⟨.slice (some ⟨w.heap.size, 0, none⟩) n n, w.alloc (.cells vs'.toArray et), vs'.toArray, (0, 0), n, ?_, rfl, rfl, rfl, alloc3 _ _ ht, hpos, by simp only [List.size_toArray, f3, f2'], fun j _ => by simp, by simp only [f2']; exact Nat.le_refl _, f4,
    fun i el j c hel hj => by simpa using f5 i el j c hel hj, .inr ⟨n, n, rfl, Nat.le_refl _, Nat.le_refl _, rfl⟩⟩
  have hbig : ¬ (n * i.size > 2 ^ 24) := by rw [← hes]; omega
  simp only [execOp, ho, Instr.buildSlice, Sem.run_bind, run_underlying hs, Result.andThen_ok, run_size hi, if_neg hbig, Sem.run_pure, hmap]
  rw [hes] at f1
  have hzr : (zeroValue et).run P w = .ok z w := by simp [zeroValue, typeInfo, hi, hz]
  by_cases hz0 : n * i.size = 0
  · rw [if_pos hz0]
    have hr : ∀ f : Nat → Value, Array.map f (Array.range (n * i.size)) = #[] := fun f => by rw [hz0]; apply Array.ext'; simp
    rw [hr] at f1
    simp only [Sem.run_pure, Result.andThen_ok, hr, f1]
    simp [newRow]
  · rw [if_neg hz0]
    simp only [Sem.run_bind, hzr, Result.andThen_ok, Sem.run_pure, f1]
    simp [newRow]

theorem makes_s2b {e : ETy} {s d et : TypeId} {ds : TypeDesc} {x : Operand} {x' : Opd} {l : List UInt8} (id : Nat) (ho : o.op = .convert s d x) (hs : P.underlying s = some ds) (hd : P.underlying d = some (.slice et)) (hu : P.underlying et = some (.int .u8))
    (he : cETy P et = some e) (he1 : e.es = 1) (hx : cOpd x = some x') (hv : ev x' = .str l) (hO : OpsOk w bad D ρ a ev o.op.operands.toList) : Makes P w bad D ρ a o (.slc id 0 l.length) id ⟨e, bytesAV l⟩ := by
  obtain ⟨i, z, hi, ha, hz, hzv, ht, hes, hby, hzo, hpos⟩ := cETy_spec he
  subst ht
  have h2 := hO x (by simp [ho, Op.operands]) x' hx
  rw [hv] at h2
  have e2 := rep_str h2
  have hrun := Lib.run_convert_string_bytes (P := P) w s d e.tid ⟨l.toArray⟩ hs hd hu
  have hsz : (⟨l.toArray⟩ : ByteArray).size = l.length := by simp [ByteArray.size]
  have hge := grownCap_ge w (⟨l.toArray⟩ : ByteArray).size 0 e.tid
  have hcur : (Lib.bytesCells w e.tid ⟨l.toArray⟩).size = grownCap w (⟨l.toArray⟩ : ByteArray).size 0 e.tid := by
    simp only [Lib.bytesCells, Array.size_append, Array.size_map, Array.size_replicate]
    have h8 : l.toArray.size = l.length := by simp
    rw [hsz] at hge ⊢
    omega
  rw [hsz] at hge hcur
  refine ⟨.slice (some ⟨w.heap.size, 0, none⟩) l.length (grownCap w l.length 0 e.tid), Lib.bytesWorld w e.tid ⟨l.toArray⟩, Lib.bytesCells w e.tid ⟨l.toArray⟩, _, grownCap w l.length 0 e.tid, ?_, rfl, rfl, rfl,
    ⟨Lib.bytesWorld_size _ _ _, fun j hj => Lib.bytesWorld_at_old _ _ _ j hj, Lib.bytesWorld_at_new w _ _⟩, hpos, by rw [he1, hcur, Nat.mul_one], fun j hj => by simp; omega, by simpa [bytesAV] using hge, ?_, ?_,
    .inr ⟨l.length, _, rfl, hge, Nat.le_refl _, rfl⟩⟩
  · rw [hsz] at hrun
    simp only [execOp, ho, e2, Sem.run_bind, hrun, Result.andThen_ok, Sem.run_pure]
  · intro k el hel
    simp only [bytesAV, List.getElem?_map] at hel
    obtain ⟨b, hb, rfl⟩ := Option.map_eq_some_iff.mp hel
    simp [elOk, AV.cells, isSc, he1]
  · intro k el j c hel hj
    simp only [bytesAV, List.getElem?_map] at hel
    obtain ⟨b, hb, rfl⟩ := Option.map_eq_some_iff.mp hel
    cases j with
    | succ j => simp [AV.cells] at hj
    | zero =>
      simp [AV.cells] at hj
      subst hj
      have hk := (List.getElem?_eq_some_iff.mp hb).1
      refine ⟨.int .u8 b.toNat, ?_, .frz (.int _ _)⟩
      simp only [he1, Nat.mul_one, Nat.add_zero, Lib.bytesCells]
      rw [Array.getElem?_append_left (by simpa using hk)]
      simp [hb]
end
end Go.Proofs.Ytbcbaidnamebkaa.AE
