/- The small evaluator's plain operations are the model's. No conditions. -/
import Derived.Test.YtbcbaidnamebkaaAEsnd1
namespace Go.Proofs.Ytbcbaidnamebkaa.AE
set_option linter.unusedVariables false
set_option linter.unusedSimpArgs false
set_option linter.constructorNameAsVariable false
open Go Go.RowKit

section
variable {P : Program} {w : World} {bad D : Nat → Prop} {ρ : Rho}

theorem rep_int {k : IntKind} {n : Int} {v : Value} (h : Rep w bad D ρ (.int k n) v) : v = .int k n := by
  cases h with
  | frz h => cases h; rfl
theorem rep_bool {b : Bool} {v : Value} (h : Rep w bad D ρ (.bool b) v) : v = .bool b := by
  cases h with
  | frz h => cases h; rfl
theorem rep_str {s : List UInt8} {v : Value} (h : Rep w bad D ρ (.str s) v) : v = .string ⟨s.toArray⟩ := by
  cases h with
  | frz h => cases h; rfl
theorem rep_nilp {v : Value} (h : Rep w bad D ρ .nilp v) : v = .pointer none := by
  cases h with
  | frz h => cases h; rfl
theorem rep_nilf {v : Value} (h : Rep w bad D ρ .nilf v) : v = .nilFunc := by
  cases h with
  | frz h => cases h; rfl
theorem rep_agg {cs : List AV} {v : Value} (h : Rep w bad D ρ (.agg cs) v) : ∃ vs : List Value, v = .agg vs.toArray ∧ cs.length = vs.length ∧ ∀ (i : Nat) (c : AV) (u : Value), cs[i]? = some c → vs[i]? = some u → Rep w bad D ρ c u := by
  cases h with
  | frz h => cases h with
    | agg cs vs hl h => exact ⟨vs, rfl, hl, fun i c u hc hu => .frz (h i c u hc hu)⟩
  | agg cs vs hl h => exact ⟨vs, rfl, hl, h⟩
theorem rep_tup {cs : List AV} {v : Value} (h : Rep w bad D ρ (.tup cs) v) : ∃ vs : List Value, v = .tuple vs.toArray ∧ cs.length = vs.length ∧ ∀ (i : Nat) (c : AV) (u : Value), cs[i]? = some c → vs[i]? = some u → Rep w bad D ρ c u := by
  cases h with
  | frz h => cases h with
    | tup cs vs hl h => exact ⟨vs, rfl, hl, fun i c u hc hu => .frz (h i c u hc hu)⟩
  | tup cs vs hl h => exact ⟨vs, rfl, hl, h⟩
theorem rep_fn {g : FuncId} {a b : List AV} {v : Value} (h : Rep w bad D ρ (.fn g a b) v) : ∃ va vb : List Value, v = .func (.func g) va.toArray vb.toArray ∧ a.length = va.length ∧ b.length = vb.length ∧
    (∀ (i : Nat) (c : AV) (u : Value), a[i]? = some c → va[i]? = some u → Rep w bad D ρ c u) ∧ (∀ (i : Nat) (c : AV) (u : Value), b[i]? = some c → vb[i]? = some u → Rep w bad D ρ c u) := by
  cases h with
  | frz h => cases h with
    | fn g a b va vb hla hlb ha hb => exact ⟨va, vb, rfl, hla, hlb, fun i c u hc hu => .frz (ha i c u hc hu), fun i c u hc hu => .frz (hb i c u hc hu)⟩
  | fn g a b va vb hla hlb ha hb => exact ⟨va, vb, rfl, hla, hlb, ha, hb⟩

/-- A scalar stands for one cell. -/
theorem rep_one {x : AV} {v : Value} (h : Rep w bad D ρ x v) (hx : isSc x = true) : v.oneCell' = true ∧ v.cells = #[v] := by
  cases h with
  | frz h => cases h <;> first | exact ⟨rfl, rfl⟩ | (simp [isSc] at hx; done)
  | _ => first | exact ⟨rfl, rfl⟩ | (simp [isSc] at hx; done)

theorem rep_cells {x : AV} {v : Value} (h : Rep w bad D ρ x v) (hx : isSc x = true ∨ ∃ cs, x = .agg cs) :
    x.cells.length = v.cells.size ∧ ∀ (i : Nat) (c : AV) (u : Value), x.cells[i]? = some c → v.cells[i]? = some u → Rep w bad D ρ c u := by
  rcases hx with hx | ⟨cs, rfl⟩
  · have e : x.cells = [x] := by cases x <;> first | rfl | (simp [isSc] at hx; done)
    obtain ⟨_, e2⟩ := rep_one h hx
    rw [e, e2]
    refine ⟨rfl, fun i c u hc hu => ?_⟩
    cases i with
    | zero => simp at hc hu; subst hc; subst hu; exact h
    | succ i => simp at hc
  · obtain ⟨vs, rfl, hl, hp⟩ := rep_agg h
    exact ⟨by simpa [AV.cells, Value.cells] using hl, fun i c u hc hu => hp i c u (by simpa [AV.cells] using hc) (by simpa [Value.cells] using hu)⟩

theorem run_ag {t : TypeId} {ag : Bool} (h : agB P t = some ag) : (isAgg t).run P w = .ok ag w := by
  unfold agB at h
  unfold isAgg
  cases hu : P.underlying t with
  | none => simp [hu] at h
  | some d =>
    simp only [Sem.run_bind, run_underlying hu, Result.andThen_ok]
    rw [hu] at h
    cases d <;> simp_all
theorem run_size {t : TypeId} {i : TypeInfo} (h : P.info? t = some i) : (sizeOf t).run P w = .ok i.size w := by simp [sizeOf, typeInfo, h]

theorem run_part {t : TypeId} {i : TypeInfo} {ag : Bool} (hi : P.info? t = some i) (ha : agB P t = some ag) (cs : Array Value) (off : Nat) :
    (part t cs off).run P w = if ag then .ok (.agg (cs.extract off (off + i.size))) w else match cs[off]? with
      | some v => .ok v w
      | none => .halt (.stuck "part: no such cell") w := by
  unfold part
  simp only [Sem.run_bind, run_ag ha, Result.andThen_ok]
  cases ag with
  | true => simp [run_size hi]
  | false => simp only [Bool.false_eq_true, if_false]; cases cs[off]? <;> simp

theorem sub_rep {ag : Bool} {n j : Nat} {cs : List AV} {vs : List Value} {x : AV} (h : sub ag n j (.agg cs) = some x) (hl : cs.length = vs.length)
    (hp : ∀ (i : Nat) (c : AV) (u : Value), cs[i]? = some c → vs[i]? = some u → Rep w bad D ρ c u) :
    ∃ v, (if ag then some (Value.agg (vs.toArray.extract j (j + n))) else vs[j]?) = some v ∧ Rep w bad D ρ x v := by
  unfold sub at h
  cases ag with
  | true =>
    simp only [if_true] at h ⊢
    split at h
    · rename_i hle
      obtain rfl := Option.some.inj h
      refine ⟨_, rfl, ?_⟩
      have e : vs.toArray.extract j (j + n) = ((vs.drop j).take n).toArray := by
        apply Array.ext'
        simp
      rw [e]
      refine .agg _ _ (by simp [hl]) fun i c u hc hu => ?_
      have hi : i < n := by
        have := (List.getElem?_eq_some_iff.mp hc).1
        simp at this; omega
      rw [List.getElem?_take_of_lt hi, List.getElem?_drop] at hc hu
      exact hp _ c u hc hu
    · cases h
  | false =>
    simp only [Bool.false_eq_true, if_false] at h ⊢
    have hj := (List.getElem?_eq_some_iff.mp h).1
    refine ⟨vs[j]'(by omega), List.getElem?_eq_getElem _, hp j x _ h (List.getElem?_eq_getElem _)⟩

/-- Loading from cells that stand for a value's. -/
theorem load_rep {t : TypeId} {i : TypeInfo} {ag : Bool} {j : Nat} {el x : AV} {b o : Nat} (hi : P.info? t = some i) (ha : agB P t = some ag) (h : sub ag i.size j el = some x)
    (hm : ∀ (k : Nat) (c : AV), el.cells[k]? = some c → ∃ v, w.cell? ⟨b, o + k, none⟩ = some v ∧ Rep w bad D ρ c v) :
    ∃ v, (Instr.loadAt t (.pointer (some ⟨b, o + j, none⟩))).run P w = .ok v w ∧ Rep w bad D ρ x v := by
  have hall : ∀ (k : Nat), k < el.cells.length → ∃ v, w.cell? ⟨b, o + k, none⟩ = some v ∧ ∀ c, el.cells[k]? = some c → Rep w bad D ρ c v := by
    intro k hk
    obtain ⟨v, hv, hr⟩ := hm k _ (List.getElem?_eq_getElem hk)
    refine ⟨v, hv, fun c hc => ?_⟩
    rw [List.getElem?_eq_getElem hk] at hc
    cases hc; exact hr
  cases ag with
  | true =>
    obtain ⟨cs, rfl⟩ : ∃ cs, el = .agg cs := by
      cases el <;> first | (simp [sub] at h; done) | exact ⟨_, rfl⟩
    simp only [sub, if_true] at h
    split at h
    · rename_i hle
      obtain rfl := Option.some.inj h
      simp only [AV.cells] at hall hm
      have hcell : ∀ k, k < i.size → ∃ v, w.cell? (Addr.add ⟨b, o + j, none⟩ k) = some v := by
        intro k hk
        obtain ⟨v, hv, _⟩ := hall (j + k) (by omega)
        exact ⟨v, by rw [Addr.add_lit, Nat.add_assoc]; exact hv⟩
      let f : Nat → Value := fun k => (w.cell? (Addr.add ⟨b, o + j, none⟩ k)).getD undef
      have hf : ∀ k, k < i.size → w.cell? (Addr.add ⟨b, o + j, none⟩ k) = some (f k) := by
        intro k hk
        obtain ⟨v, hv⟩ := hcell k hk
        simp only [f, hv, Option.getD_some]
      refine ⟨.agg ((List.range i.size).map f).toArray, ?_, ?_⟩
      · simp only [Instr.loadAt, Instr.sureAddr, Sem.run_bind, Sem.run_pure, Result.andThen_ok, loadVar, run_ag ha, if_true, run_size hi, run_loadCells w _ _ f hf]
      · refine .agg _ _ (by simp; omega) fun k c u hc hu => ?_
        have hk : k < i.size := by
          have := (List.getElem?_eq_some_iff.mp hc).1
          simp at this; omega
        rw [List.getElem?_take_of_lt hk, List.getElem?_drop] at hc
        obtain ⟨v, hv, hr⟩ := hm _ c hc
        simp [List.getElem?_range hk] at hu
        subst hu
        have := hf k hk
        rw [Addr.add_lit, Nat.add_assoc, hv] at this
        cases this
        exact hr
    · cases h
  | false =>
    have hx : el.cells[j]? = some x := by
      cases el <;> simp [sub] at h <;> first | (simpa [AV.cells] using h) | (cases j <;> simp_all [AV.cells])
    obtain ⟨v, hv, hr⟩ := hm j x hx
    refine ⟨v, ?_, hr⟩
    simp only [Instr.loadAt, Instr.sureAddr, Sem.run_bind, Sem.run_pure, Result.andThen_ok, loadVar, run_ag ha, Bool.false_eq_true, if_false, run_load, hv]

theorem elOk_sc {e : ETy} {x : AV} (h : elOk e x = true) : (isSc x = true ∨ ∃ cs, x = .agg cs) ∧ x.cells.length = e.es ∧ (∀ c ∈ x.cells, isSc c = true) := by
  simp only [elOk, Bool.and_eq_true, beq_iff_eq, List.all_eq_true] at h
  refine ⟨?_, h.1, h.2⟩
  by_cases hx : ∃ cs, x = .agg cs
  · exact .inr hx
  · left
    have e : x.cells = [x] := by cases x <;> first | rfl | exact absurd ⟨_, rfl⟩ hx
    exact h.2 x (by rw [e]; simp)

/-- A load from what it names. -/
theorem aLoad_rep {H H' : Heap} {B : Nat} {t : TypeId} {i : TypeInfo} {ag : Bool} {p x : AV} {v : Value} (hi : P.info? t = some i) (ha : agB P t = some ag) (h : aLoad H ag i.size p = some x)
    (hR : HRel w bad ρ B H') (hD : ∀ id, D id ↔ H'[id]? = some none) (hsame : ∀ id u q, p = .ptr id u q → ∀ b, hget H id = some b → ρ id ≠ .no → hget H' id = some b) (hdd : ∀ id, D id → hget H id = none) (hv : Rep w bad D ρ p v) :
    ∃ u, (Instr.loadAt t v).run P w = .ok u w ∧ Rep w bad D ρ x u := by
  have eD : D = fun id => H'[id]? = some none := funext fun id => propext (hD id)
  cases p with
  | ptr id u q =>
    simp only [aLoad] at h
    have hs := hsame id u q rfl
    cases hk : hget H id with
    | none => simp [hk] at h
    | some k =>
      simp only [hk] at h
      have hk' : ρ id ≠ .no → H'[id]? = some (some k) := by
        intro hn
        have hs := hs k hk hn
        unfold hget at hs
        cases hq : H'[id]? with
        | none => simp [hq] at hs
        | some y => cases y with
          | none => simp [hq] at hs
          | some y => simp [hq] at hs; rw [hs]
      cases he : k.els[u]? with
      | none => simp [he] at h
      | some el =>
        simp only [he] at h
        cases hv with
        | frz hv => cases hv
        | ptrD b o hd => rw [hdd _ hd] at hk; cases hk
        | ptr hρ =>
          rename_i b es cap
          obtain ⟨k2, hk2, hb⟩ := hR.real id b es cap hρ
          rw [hk' (by simp [hρ])] at hk2; cases hk2
          obtain ⟨cur, fz, hm1, hm2, hm3, hm4⟩ := hb.mem
          refine load_rep (bad := bad) (D := D) (ρ := ρ) (o := u * es) hi ha h fun c y hy => ?_
          obtain ⟨z, hz1, hz2⟩ := hm4 u el c y he hy
          refine ⟨z, ?_, eD ▸ hz2⟩
          simp only [World.cell?, hm1]
          simpa using hz1
  | fptr y q =>
    simp only [aLoad] at h
    cases hv with
    | frz hv =>
      cases hv with
      | fptr _ b o _ vs hb hl hc hr =>
        exact load_rep hi ha h fun k c hk => ⟨vs k, hc k c hk, .frz (hr k c hk)⟩
  | _ => simp [aLoad] at h

theorem eqGuard_off (op : BinOp) (t : TypeId) (x y : Operand) (a b : Value) (h1 : a ≠ .nilIface) (h2 : ∀ cs, a ≠ .agg cs) : eqGuard op t x y a b = pure () := by
  cases a <;> first | exact absurd rfl h1 | exact absurd rfl (h2 _) | (cases op <;> rfl)

theorem aBin_run {op : BinOp} {t : TypeId} {x y : Operand} {a b : AV} {va vb : Value} {r : AV} (h : aBin op a b = some r) (ha : Rep w bad D ρ a va) (hb : Rep w bad D ρ b vb) :
    ∃ v, (do eqGuard op t x y va vb; binOp op t va vb : Sem Value).run P w = .ok v w ∧ Rep w bad D ρ r v := by
  cases a <;> cases b <;> (try (simp [aBin] at h; done))
  · rename_i k n k' m
    obtain rfl := rep_int ha
    obtain rfl := rep_int hb
    rw [eqGuard_off _ _ _ _ _ _ (by simp) (by simp)]
    simp only [aBin] at h
    cases op
    case shl =>
      simp only [] at h
      split at h
      · cases h
      · rename_i hm
        obtain rfl := Option.some.inj h
        exact ⟨_, by simp [binOp, Op.shift, hm], .frz (.int _ _)⟩
    case shr =>
      simp only [] at h
      split at h
      · cases h
      · rename_i hm
        obtain rfl := Option.some.inj h
        exact ⟨_, by simp [binOp, Op.shift, hm], .frz (.int _ _)⟩
    case quo =>
      simp only [] at h
      split at h
      · rename_i hk
        subst hk
        split at h
        · cases h
        · rename_i hm
          obtain rfl := Option.some.inj h
          exact ⟨_, by simp [binOp, Op.intDiv, hm], .frz (.int _ _)⟩
      · cases h
    case rem =>
      simp only [] at h
      split at h
      · rename_i hk
        subst hk
        split at h
        · cases h
        · rename_i hm
          obtain rfl := Option.some.inj h
          exact ⟨_, by simp [binOp, Op.intDiv, hm], .frz (.int _ _)⟩
      · cases h
    all_goals
      simp only [] at h
      split at h
      · rename_i hk
        subst hk
        obtain rfl := Option.some.inj h
        refine ⟨_, ?_, by first | exact .frz (.int _ _) | exact .frz (.bool _)⟩
        simp only [binOp_add, binOp_sub, binOp_mul, binOp_and, binOp_or, binOp_xor, binOp_andNot, binOp_eql, binOp_neq, binOp_lss, binOp_leq, binOp_gtr, binOp_geq, Op.intArith, intBits_and, intBits_or, intBits_xor, intBits_andNot, pure_bind, Sem.run_pure]
      · cases h
  · rename_i s u
    obtain rfl := rep_str ha
    obtain rfl := rep_str hb
    rw [eqGuard_off _ _ _ _ _ _ (by simp) (by simp)]
    have hl : ∀ z : List UInt8, (⟨z.toArray⟩ : ByteArray).toList = z := fun z => by simp [ByteArray.toList_eq]
    have hz : ∀ z : List UInt8, (⟨z.toArray⟩ : ByteArray).size = z.length := fun z => by simp [ByteArray.size]
    cases op <;> simp only [aBin] at h <;> first | (cases h; done) | skip
    case add =>
      split at h
      · rename_i hle
        obtain rfl := Option.some.inj h
        refine ⟨.string ⟨(s ++ u).toArray⟩, ?_, .frz (.str _)⟩
        have hn : ¬ (((⟨s.toArray⟩ : ByteArray).size + (⟨u.toArray⟩ : ByteArray).size : Nat) : Int) > IntKind.i64.max := by rw [hz, hz]; simp [IntKind.max, IntKind.signed, IntKind.bits]; omega
        simp only [binOp, Op.stringOp, Sem.run_bind, Sem.run_pure, Result.andThen_ok, if_neg hn]
        congr 2
      · cases h
    all_goals
      obtain rfl := Option.some.inj h
      refine ⟨_, ?_, .frz (.bool _)⟩
      simp [binOp, Op.stringOp, hl]

theorem aUn_run {op : UnOp} {a : AV} {va : Value} {r : AV} (h : aUn op a = some r) (ha : Rep w bad D ρ a va) : ∃ v, (Op.unary op va).run P w = .ok v w ∧ Rep w bad D ρ r v := by
  cases a <;> (try (simp [aUn] at h; done))
  · obtain rfl := rep_int ha
    cases op <;> simp only [aUn] at h <;> first | (cases h; done) | skip
    · obtain rfl := Option.some.inj h
      exact ⟨_, by simp [Op.unary, Op.intArith], .frz (.int _ _)⟩
    · obtain rfl := Option.some.inj h
      exact ⟨_, by simp [Op.unary, Op.intBits, bits], .frz (.int _ _)⟩
  · obtain rfl := rep_bool ha
    cases op <;> simp only [aUn] at h <;> first | (cases h; done) | skip
    obtain rfl := Option.some.inj h
    exact ⟨_, by simp [Op.unary], .frz (.bool _)⟩
end
end Go.Proofs.Ytbcbaidnamebkaa.AE
