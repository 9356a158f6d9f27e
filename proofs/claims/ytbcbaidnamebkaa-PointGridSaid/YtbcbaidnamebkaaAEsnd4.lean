/- The small evaluator's operations that write nothing are the model's: all kinds. No conditions. -/
import Derived.Test.YtbcbaidnamebkaaAEsnd3
namespace Go.Proofs.Ytbcbaidnamebkaa.AE
set_option linter.unusedVariables false
set_option linter.unusedSimpArgs false
set_option linter.constructorNameAsVariable false
open Go Go.RowKit

section
variable {P : Program} {w : World} {bad D : Nat → Prop} {ρ : Rho} {a : Act} {ev : Opd → AV} {o : Oper}

/-- What an operation that writes nothing comes to. -/
def Says (P : Program) (w : World) (bad D : Nat → Prop) (ρ : Rho) (a : Act) (o : Oper) (v : AV) : Prop :=
  ∃ cv, (execOp a.eval o).run P w = .ok (.value cv) w ∧ Rep w bad D ρ v cv

theorem says_mov {x : Operand} {y : Opd} (ho : o.op = .move x ∨ o.op = .assign x) (hx : cOpd x = some y) (hO : OpsOk w bad D ρ a ev o.op.operands.toList) : Says P w bad D ρ a o (ev y) := by
  rcases ho with ho | ho
  all_goals exact ⟨a.eval x, by simp [execOp, ho], hO x (by simp [ho, Op.operands]) y hx⟩

theorem says_pick {c x y : Operand} {c' x' y' : Opd} {t : Bool} (ho : o.op = .pick c x y) (hc : cOpd c = some c') (hx : cOpd x = some x') (hy : cOpd y = some y') (ht : ev c' = .bool t) (hO : OpsOk w bad D ρ a ev o.op.operands.toList) :
    Says P w bad D ρ a o (bif t then ev x' else ev y') := by
  have h1 := hO c (by simp [ho, Op.operands]) c' hc
  have h2 := hO x (by simp [ho, Op.operands]) x' hx
  have h3 := hO y (by simp [ho, Op.operands]) y' hy
  rw [ht] at h1
  have e := rep_bool h1
  cases t with
  | true => exact ⟨a.eval x, by simp [execOp, ho, e, asBool], h2⟩
  | false => exact ⟨a.eval y, by simp [execOp, ho, e, asBool], h3⟩

theorem says_bin {op : BinOp} {t u : TypeId} {x y : Operand} {x' y' : Opd} {v : AV} (ho : o.op = .binOp op t x y u) (hx : cOpd x = some x') (hy : cOpd y = some y') (hv : aBin op (ev x') (ev y') = some v) (hO : OpsOk w bad D ρ a ev o.op.operands.toList) :
    Says P w bad D ρ a o v := by
  have h2 := hO x (by simp [ho, Op.operands]) x' hx
  have h3 := hO y (by simp [ho, Op.operands]) y' hy
  obtain ⟨r, hr, hp⟩ := aBin_run (P := P) (t := t) (x := x) (y := y) hv h2 h3
  exact ⟨r, by simp only [execOp, ho, Sem.run_bind] at hr ⊢; simp only [hr, Result.andThen_ok, Sem.run_pure], hp⟩

theorem says_un {op : UnOp} {t : TypeId} {x : Operand} {x' : Opd} {v : AV} (ho : o.op = .unOp op t x) (hx : cOpd x = some x') (hv : aUn op (ev x') = some v) (hO : OpsOk w bad D ρ a ev o.op.operands.toList) : Says P w bad D ρ a o v := by
  have h2 := hO x (by simp [ho, Op.operands]) x' hx
  obtain ⟨r, hr, hp⟩ := aUn_run (P := P) hv h2
  exact ⟨r, by simp [execOp, ho, hr], hp⟩

theorem says_load {H H' : Heap} {B : Nat} {t : TypeId} {i : TypeInfo} {ag : Bool} {x : Operand} {x' : Opd} {v : AV} (ho : o.op = .load t x) (hi : P.info? t = some i) (ha : agB P t = some ag) (hx : cOpd x = some x')
    (hv : aLoad H ag i.size (ev x') = some v) (hR : HRel w bad ρ B H') (hD : ∀ id, D id ↔ H'[id]? = some none) (hsame : ∀ id u q, ev x' = .ptr id u q → ∀ b, hget H id = some b → ρ id ≠ .no → hget H' id = some b) (hdd : ∀ id, D id → hget H id = none)
    (hO : OpsOk w bad D ρ a ev o.op.operands.toList) : Says P w bad D ρ a o v := by
  have h2 := hO x (by simp [ho, Op.operands]) x' hx
  obtain ⟨u, hu, hp⟩ := aLoad_rep hi ha hv hR hD hsame hdd h2
  exact ⟨u, by simp [execOp, ho, hu], hp⟩

theorem says_nilck {x : Operand} {x' : Opd} {v : AV} (ho : o.op = .nilCheck x) (hx : cOpd x = some x')
    (hv : (∃ id i j, ev x' = .ptr id i j) ∨ (∃ y j, ev x' = .fptr y j) ∨ (∃ g p q, ev x' = .fn g p q)) (he : v = ev x') (hO : OpsOk w bad D ρ a ev o.op.operands.toList) : Says P w bad D ρ a o v := by
  have h2 := hO x (by simp [ho, Op.operands]) x' hx
  subst he
  refine ⟨a.eval x, ?_, h2⟩
  have hX : ∃ V, a.eval x = V := ⟨_, rfl⟩
  obtain ⟨V, hX⟩ := hX
  rw [hX] at h2
  rcases hv with ⟨id, i, j, e⟩ | ⟨y, j, e⟩ | ⟨g, p, q, e⟩
  · rw [e] at h2
    obtain ⟨b, o', h3⟩ : ∃ b o, V = .pointer (some ⟨b, o, none⟩) := by
      cases h2 with
      | frz h => cases h
      | ptr h => exact ⟨_, _, rfl⟩
      | ptrD b o h => exact ⟨_, _, rfl⟩
    simp [execOp, ho, hX, h3]
  · rw [e] at h2
    obtain ⟨b, o', h3⟩ : ∃ b o, V = .pointer (some ⟨b, o, none⟩) := by
      cases h2 with
      | frz h => cases h with
        | fptr => exact ⟨_, _, rfl⟩
    simp [execOp, ho, hX, h3]
  · rw [e] at h2
    obtain ⟨va, vb, h3, _⟩ := rep_fn h2
    simp [execOp, ho, hX, h3]

theorem says_conv {s d : TypeId} {ds : TypeDesc} {k k0 : IntKind} {n : Int} {x : Operand} {x' : Opd} (ho : o.op = .convert s d x) (hs : P.underlying s = some ds) (hd : P.underlying d = some (.int k)) (hx : cOpd x = some x') (hv : ev x' = .int k0 n)
    (hO : OpsOk w bad D ρ a ev o.op.operands.toList) : Says P w bad D ρ a o (.int k (k.wrap n)) := by
  have h2 := hO x (by simp [ho, Op.operands]) x' hx
  rw [hv] at h2
  have e := rep_int h2
  exact ⟨.int k (k.wrap n), by simp [execOp, ho, e, convert, run_underlying hs, run_underlying hd, Conv.intToInt], .frz (.int _ _)⟩

theorem says_cid {s d : TypeId} {l : List UInt8} {x : Operand} {x' : Opd} (ho : o.op = .convert s d x) (hs : P.underlying s = some .string) (hd : P.underlying d = some .string) (hx : cOpd x = some x') (hv : ev x' = .str l)
    (hO : OpsOk w bad D ρ a ev o.op.operands.toList) : Says P w bad D ρ a o (.str l) := by
  have h2 := hO x (by simp [ho, Op.operands]) x' hx
  rw [hv] at h2
  have e := rep_str h2
  exact ⟨_, by simp [execOp, ho, e, convert, run_underlying hs, run_underlying hd], .frz (.str _)⟩

theorem says_mkfn {g : FuncId} {p q : Array Operand} {p' q' : List Opd} (ho : o.op = .makeFunc (.func g) p q) (hp : cOpds p.toList = some p') (hq : cOpds q.toList = some q') (hO : OpsOk w bad D ρ a ev o.op.operands.toList) :
    Says P w bad D ρ a o (.fn g (p'.map ev) (q'.map ev)) := by
  obtain ⟨h1, h2⟩ := opds_rep hp (fun x hx y hy => hO x (by simp [ho, Op.operands] at hx ⊢; exact .inl hx) y hy)
  obtain ⟨h3, h4⟩ := opds_rep hq (fun x hx y hy => hO x (by simp [ho, Op.operands] at hx ⊢; exact .inr hx) y hy)
  refine ⟨.func (.func g) (p.toList.map a.eval).toArray (q.toList.map a.eval).toArray, ?_, .fn g _ _ _ _ h1 h3 h2 h4⟩
  have e1 : ∀ p : Array Operand, p.map a.eval = (p.toList.map a.eval).toArray := fun p => by simp [← Array.toList_map]
  simp only [execOp, ho, Instr.makeFunc, Sem.run_bind, Sem.run_pure, Result.andThen_ok, e1]

theorem says_extr {x : Operand} {x' : Opd} {i : Nat} {vs : List AV} {v : AV} (ho : o.op = .extract x i) (hx : cOpd x = some x') (hv : ev x' = .tup vs) (hi : vs[i]? = some v) (hO : OpsOk w bad D ρ a ev o.op.operands.toList) : Says P w bad D ρ a o v := by
  have h2 := hO x (by simp [ho, Op.operands]) x' hx
  rw [hv] at h2
  obtain ⟨us, e, hl, hp⟩ := rep_tup h2
  have hlt := (List.getElem?_eq_some_iff.mp hi).1
  have hu : us[i]? = some (us[i]'(by omega)) := List.getElem?_eq_getElem _
  refine ⟨us[i]'(by omega), ?_, hp i v _ hi hu⟩
  simp only [execOp, ho, e, Instr.extract, List.getElem?_toArray, hu, Sem.run_bind, Sem.run_pure, Result.andThen_ok]

theorem says_fld {s : TypeId} {fs : Array Field} {fd : Field} {f : Nat} {i : TypeInfo} {ag : Bool} {x : Operand} {x' : Opd} {cs : List AV} {v : AV} (ho : o.op = .field s x f) (hs : P.underlying s = some (.struct fs)) (hf : fs[f]? = some fd)
    (hi : P.info? fd.type = some i) (ha : agB P fd.type = some ag) (hx : cOpd x = some x') (hv : ev x' = .agg cs) (hsub : sub ag i.size fd.offset (.agg cs) = some v) (hO : OpsOk w bad D ρ a ev o.op.operands.toList) : Says P w bad D ρ a o v := by
  have h2 := hO x (by simp [ho, Op.operands]) x' hx
  rw [hv] at h2
  obtain ⟨us, e, hl, hp⟩ := rep_agg h2
  obtain ⟨r, hr, hrep⟩ := sub_rep hsub hl hp
  refine ⟨r, ?_, hrep⟩
  simp only [execOp, ho, e, Instr.field, Sem.run_bind, run_underlying hs, Result.andThen_ok, hf, asAgg, Sem.run_pure, run_part hi ha]
  cases ag with
  | true => simp at hr ⊢; exact hr
  | false => simp at hr ⊢; simp [hr]

theorem says_fldA {s : TypeId} {fs : Array Field} {fd : Field} {f : Nat} {i : TypeInfo} {x : Operand} {x' : Opd} {v : AV} (ho : o.op = .fieldAddr s x f) (hs : P.underlying s = some (.struct fs)) (hf : fs[f]? = some fd)
    (hi : P.info? fd.type = some i) (hz : 0 < i.size) (hx : cOpd x = some x') (hv : aShift fd.offset (ev x') = some v) (hO : OpsOk w bad D ρ a ev o.op.operands.toList) : Says P w bad D ρ a o v := by
  have h2 := hO x (by simp [ho, Op.operands]) x' hx
  obtain ⟨b, q, e, hrep⟩ := shift_rep hv h2
  refine ⟨_, ?_, hrep⟩
  have hne : ¬ i.size = 0 := by omega
  simp [execOp, ho, e, Instr.fieldAt, run_underlying hs, hf, Instr.sureAddr, fieldPlace, run_size hi, hne, Addr.add_lit]

theorem says_ixAA {t et : TypeId} {n : Nat} {i : TypeInfo} {x y : Operand} {x' y' : Opd} {k : IntKind} {q : Int} {v : AV} (ho : o.op = .indexAddr t x y) (hs : P.underlying t = some (.array n et)) (hi : P.info? et = some i) (hx : cOpd x = some x') (hy : cOpd y = some y')
    (hq : ev y' = .int k q) (hb : 0 ≤ q ∧ q < (n : Int)) (hv : aShift (q.toNat * i.size) (ev x') = some v) (hO : OpsOk w bad D ρ a ev o.op.operands.toList) : Says P w bad D ρ a o v := by
  have h2 := hO x (by simp [ho, Op.operands]) x' hx
  have h3 := hO y (by simp [ho, Op.operands]) y' hy
  rw [hq] at h3
  have e3 := rep_int h3
  obtain ⟨b, u, e, hrep⟩ := shift_rep hv h2
  refine ⟨_, ?_, hrep⟩
  simp [execOp, ho, e, e3, Instr.indexAt, asIntOf, run_underlying hs, Instr.sureAddr, hb, run_size hi, Addr.add_lit]

theorem says_ixS {t : TypeId} {x y : Operand} {x' y' : Opd} {k : IntKind} {q : Int} {s : List UInt8} {c : UInt8} (ho : o.op = .index t x y) (hs : P.underlying t = some .string) (hx : cOpd x = some x') (hy : cOpd y = some y')
    (hq : ev y' = .int k q) (hv : ev x' = .str s) (h0 : 0 ≤ q) (hc : s[q.toNat]? = some c) (hO : OpsOk w bad D ρ a ev o.op.operands.toList) : Says P w bad D ρ a o (.int .u8 c.toNat) := by
  have h2 := hO x (by simp [ho, Op.operands]) x' hx
  have h3 := hO y (by simp [ho, Op.operands]) y' hy
  rw [hq] at h3
  rw [hv] at h2
  have e3 := rep_int h3
  have e2 := rep_str h2
  refine ⟨.int .u8 c.toNat, ?_, .frz (.int _ _)⟩
  have hg : (⟨s.toArray⟩ : ByteArray)[q.toNat]? = some c := by
    obtain ⟨hlt, he⟩ := List.getElem?_eq_some_iff.mp hc
    have : q.toNat < (⟨s.toArray⟩ : ByteArray).size := by simpa [ByteArray.size] using hlt
    rw [getElem?_pos (⟨s.toArray⟩ : ByteArray) q.toNat this]
    simp only [Option.some.injEq]
    exact he
  simp [execOp, ho, e2, e3, Instr.index, asIntOf, run_underlying hs, h0, hg]

theorem says_ixA {t et : TypeId} {n : Nat} {i : TypeInfo} {ag : Bool} {x y : Operand} {x' y' : Opd} {k : IntKind} {q : Int} {cs : List AV} {v : AV} (ho : o.op = .index t x y) (hs : P.underlying t = some (.array n et)) (hi : P.info? et = some i) (ha : agB P et = some ag)
    (hx : cOpd x = some x') (hy : cOpd y = some y') (hq : ev y' = .int k q) (hv : ev x' = .agg cs) (hb : 0 ≤ q ∧ q < (n : Int)) (hsub : sub ag i.size (q.toNat * i.size) (.agg cs) = some v) (hO : OpsOk w bad D ρ a ev o.op.operands.toList) : Says P w bad D ρ a o v := by
  have h2 := hO x (by simp [ho, Op.operands]) x' hx
  have h3 := hO y (by simp [ho, Op.operands]) y' hy
  rw [hq] at h3
  rw [hv] at h2
  have e3 := rep_int h3
  obtain ⟨us, e, hl, hp⟩ := rep_agg h2
  obtain ⟨r, hr, hrep⟩ := sub_rep hsub hl hp
  refine ⟨r, ?_, hrep⟩
  simp only [execOp, ho, e, e3, Instr.index, asIntOf, Sem.run_bind, Sem.run_pure, run_underlying hs, Result.andThen_ok, if_pos hb, run_size hi, run_part hi ha]
  cases ag with
  | true => simp at hr ⊢; exact hr
  | false => simp at hr ⊢; simp [hr]

theorem says_ixAS {H H' : Heap} {B : Nat} {t et : TypeId} {i : TypeInfo} {x y : Operand} {x' y' : Opd} {k : IntKind} {q : Int} {v : AV} (ho : o.op = .indexAddr t x y) (hs : P.underlying t = some (.slice et)) (hi : P.info? et = some i)
    (hx : cOpd x = some x') (hy : cOpd y = some y') (hq : ev y' = .int k q) (hv : aIx H i.size (ev x') q = some v) (hR : HRel w bad ρ B H') (hD : ∀ id, D id ↔ H'[id]? = some none)
    (hsh : ∀ id b, hget H id = some b → ∃ b', hget H' id = some b' ∧ b'.els.length = b.els.length) (hse : ∀ id b, hget H id = some b → ∃ b', hget H' id = some b' ∧ b'.e = b.e)
    (hO : OpsOk w bad D ρ a ev o.op.operands.toList) : Says P w bad D ρ a o v := by
  have h2 := hO x (by simp [ho, Op.operands]) x' hx
  have h3 := hO y (by simp [ho, Op.operands]) y' hy
  rw [hq] at h3
  have e3 := rep_int h3
  generalize hX : ev x' = X at *
  cases X <;> simp only [aIx] at hv <;> (try (cases hv; done))
  · rename_i id u n
    cases hg : hget H id with
    | none => simp [hg] at hv
    | some b =>
      simp only [hg] at hv
      split at hv
      · rename_i hb
        obtain ⟨hb0, hb1, hb2⟩ := hb
        obtain rfl := Option.some.inj hv
        obtain ⟨b9, hb9, hbe⟩ := hse id b hg
        obtain ⟨b', hb', hbl⟩ := hsh id b hg
        generalize hV : a.eval x = V at *
        cases h2 with
        | frz h => cases h
        | slcD ad c hd => rw [hD, agree_of hb'] at hd; cases hd
        | slcV ad hρ => omega
        | slc hρ hc hn =>
          rename_i b2 es cap c
          have he : es = i.size := by
            obtain ⟨k9, hk9, hbr⟩ := hR.real _ _ _ _ hρ
            rw [agree_of hb9] at hk9
            cases hk9
            rw [← hbr.hes, hbe, hb2]
          subst he
          refine ⟨_, ?_, .ptr hρ⟩
          have : (q.toNat < n) := by omega
          simp [execOp, ho, hV, e3, Instr.indexAt, asIntOf, run_underlying hs, hb0, hb1, run_size hi, Addr.add_lit, Nat.add_mul]
      · cases hv
  · rename_i l
    split at hv
    · rename_i h0
      cases hl : l[q.toNat]? with
      | none => simp [hl] at hv
      | some z =>
        simp only [hl] at hv
        split at hv
        case isFalse => cases hv
        rename_i h8
        obtain rfl := Option.some.inj hv
        have hlt := (List.getElem?_eq_some_iff.mp hl).1
        generalize hV : a.eval x = V at *
        cases h2 with
        | frz h => cases h with
          | lst0 => simp at hl
          | lst _ b u es c vs hn he hb hlw hs2 hc hr =>
            have h9 := hs2 _ _ hl
            have hes2 : es = i.size := by omega
            subst hes2
            refine ⟨.pointer (some ⟨b, u + q.toNat * i.size + 0, none⟩), ?_, .frz (.fptr z b (u + q.toNat * i.size) 0 (fun k => vs q.toNat k) hb hlw (fun k y hk => ?_) (fun k y hk => hr _ _ _ _ hl hk))⟩
            · have h7 : q < (l.length : Int) := by omega
              simp [execOp, ho, hV, e3, Instr.indexAt, asIntOf, run_underlying hs, h0, h7, run_size hi, Addr.add_lit]
            · have := hc _ _ k y hl hk
              rw [Nat.add_assoc]; exact this
    · cases hv

theorem fill_says {ps : List (Nat × Operand)} {zs cs : List AV} {zvs : List Value} {l : List (Nat × Nat × Opd)} (place : Nat → Option (Nat × Nat)) (hl : l.length = ps.length)
    (hpl : ∀ (i : Nat) p q, ps[i]? = some p → l[i]? = some q → place p.1 = some (q.1, q.2.1) ∧ cOpd p.2 = some q.2.2) (hzl : zs.length = zvs.length) (hzp : ∀ (i : Nat) (c : AV) (u : Value), zs[i]? = some c → zvs[i]? = some u → Rep w bad D ρ c u)
    (hev : ∀ q ∈ ps, ∀ y, cOpd q.2 = some y → Rep w bad D ρ (ev y) (a.eval q.2)) (hf : fillP zs (l.map fun p => (p.1, p.2.1, ev p.2.2)) = some cs) :
    ∃ vs' : List Value, Instr.fill place zvs.toArray (ps.map fun p => (p.1, a.eval p.2)) = some vs'.toArray ∧ Rep w bad D ρ (.agg cs) (.agg vs'.toArray) := by
  obtain ⟨vs', f1, f2, f3, f4⟩ := fill_run place _ (ps.map fun p => (p.1, a.eval p.2)) zs zvs cs (by simp [hl]) hzl hzp (by
    intro i p q hp hq
    rw [List.getElem?_map] at hp hq
    obtain ⟨p', hp', rfl⟩ := Option.map_eq_some_iff.mp hp
    obtain ⟨q', hq', rfl⟩ := Option.map_eq_some_iff.mp hq
    obtain ⟨h1, h2⟩ := hpl i q' p' hq' hp'
    exact ⟨h1, hev q' (List.mem_of_getElem? hq') _ h2⟩) hf
  exact ⟨vs', f1, .agg _ _ f2 f4⟩

theorem says_build {t : TypeId} {ps : Array (Nat × Operand)} {zs cs : List AV} {l : List (Nat × Nat × Opd)} (ho : o.op = .build t ps) (hc : cBuild P t ps.toList = some (.build zs l))
    (hf : fillP zs (l.map fun p => (p.1, p.2.1, ev p.2.2)) = some cs) (hO : OpsOk w bad D ρ a ev o.op.operands.toList) : Says P w bad D ρ a o (.agg cs) := by
  unfold cBuild at hc
  split at hc <;> (try (cases hc; done))
  rename_i i hi
  split at hc <;> (try (cases hc; done))
  rename_i z hz
  split at hc <;> (try (cases hc; done))
  rename_i zs' hzs
  have hzero : (zeroValue t).run P w = .ok z w := by simp [zeroValue, typeInfo, hi, hz]
  obtain ⟨zvs, hze, hzl, hzp⟩ := rep_agg (D := D) (ρ := ρ) (.frz (cv_rep (w := w) (bad := fun b => bad b ∨ own ρ b) hzs))
  have hev : ∀ q ∈ ps.toList, ∀ y, cOpd q.2 = some y → Rep w bad D ρ (ev y) (a.eval q.2) := fun q hq y hy => hO q.2 (by simp only [ho, Op.operands]; simp; exact ⟨q.1, by simpa using hq⟩) y hy
  have hmap : (ps.map fun p => (p.1, a.eval p.2)).toList = ps.toList.map fun p => (p.1, a.eval p.2) := by simp
  split at hc <;> (try (cases hc; done))
  · rename_i fs hfs
    split at hc <;> (try (cases hc; done))
    rename_i pl hpl
    split at hc <;> (try (cases hc; done))
    rename_i l' hl'
    obtain ⟨rfl, rfl⟩ : zs' = zs ∧ l' = l := by simpa using hc
    obtain ⟨o1, o2⟩ := optAll_spec hl'
    obtain ⟨vs', f1, f2⟩ := fill_says (w := w) (bad := bad) (D := D) (ρ := ρ) (a := a) (ev := ev) (fun k => pl.toArray[k]?) o1 (by
      intro i p q hp hq
      obtain ⟨b, hb, he⟩ := o2 i p hp
      rw [hb] at hq; cases hq
      split at he
      · rename_i h1 h2
        cases he
        exact ⟨by simpa using h1, h2⟩
      · cases he) hzl hzp hev hf
    refine ⟨.agg vs'.toArray, ?_, f2⟩
    subst hze
    have hcells : (Value.agg zvs.toArray).cells = zvs.toArray := rfl
    have f1' : Instr.fill (fun x => pl[x]?) zvs.toArray (List.map (fun p => (p.fst, a.eval p.snd)) ps.toList) = some vs'.toArray := by simpa using f1
    simp [execOp, ho, Instr.build, run_underlying hfs, hzero, Array.mapM_eq_mapM_toList, run_places w _ _ hpl, hcells, f1']
  · rename_i n e hfs
    split at hc <;> (try (cases hc; done))
    rename_i ie hie
    split at hc <;> (try (cases hc; done))
    rename_i l' hl'
    obtain ⟨rfl, rfl⟩ : zs' = zs ∧ l' = l := by simpa using hc
    obtain ⟨o1, o2⟩ := optAll_spec hl'
    obtain ⟨vs', f1, f2⟩ := fill_says (w := w) (bad := bad) (D := D) (ρ := ρ) (a := a) (ev := ev) (fun k => some (k * ie.size, ie.size)) o1 (by
      intro i p q hp hq
      obtain ⟨b, hb, he⟩ := o2 i p hp
      rw [hb] at hq; cases hq
      split at he
      · rename_i h2
        cases he
        exact ⟨rfl, h2⟩
      · cases he) hzl hzp hev hf
    refine ⟨.agg vs'.toArray, ?_, f2⟩
    subst hze
    have hcells : (Value.agg zvs.toArray).cells = zvs.toArray := rfl
    simp only [execOp, ho, Instr.build, Sem.run_bind, hzero, run_underlying hfs, Result.andThen_ok, run_size hie, hmap, hcells, f1, Sem.run_pure]

theorem says_subS {t : TypeId} {x : Operand} {lo hi : Option Operand} {x' : Opd} {lo' hi' : Option Opd} {v : AV} (ho : o.op = .slice t x lo hi none) (hs : P.underlying t = some .string) (hx : cOpd x = some x') (hlo : cOptOpd lo = some lo') (hhi : cOptOpd hi = some hi')
    (hv : aSubS (ev x') (lo'.map ev) (hi'.map ev) = some v) (hO : OpsOk w bad D ρ a ev o.op.operands.toList) : Says P w bad D ρ a o v := by
  have h2 := hO x (by simp [ho, Op.operands]) x' hx
  have rlo := optOpd_rep hlo hO (fun z hz => by subst hz; simp [ho, Op.operands])
  have rhi := optOpd_rep hhi hO (fun z hz => by subst hz; simp [ho, Op.operands])
  generalize hX : ev x' = X at *
  cases X <;> simp only [aSubS] at hv <;> (try (cases hv; done))
  rename_i s
  have e2 := rep_str h2
  have hsz : (⟨s.toArray⟩ : ByteArray).size = s.length := by simp [ByteArray.size]
  cases hh : bound (hi'.map ev) s.length s.length with
  | none => simp [hh] at hv
  | some h =>
    simp only [hh] at hv
    cases hl : bound (lo'.map ev) 0 h with
    | none => simp [hl] at hv
    | some l =>
      simp only [hl] at hv
      obtain rfl := Option.some.inj hv
      obtain ⟨hb, hb1, hb2, hb3⟩ := sliceBounds_run (P := P) (w := w) (isSlice := false) (cap := s.length) (m := s.length) (mx := none) (mx' := none) (by rfl) hh hl (Nat.le_refl _) rlo rhi (.inl ⟨rfl, rfl⟩) (by simp)
      refine ⟨.string ⟨((s.take h).drop l).toArray⟩, ?_, .frz (.str _)⟩
      have hex : (⟨s.toArray⟩ : ByteArray).extract l h = ⟨((s.take h).drop l).toArray⟩ := by
        apply ByteArray.ext
        simp [ByteArray.data_extract, List.drop_take]
      simp only [execOp, ho, e2, Instr.sliceAt, Sem.run_bind, run_underlying hs, Result.andThen_ok, Instr.slice, Option.map_none, Option.isSome_none, hsz, hb, Bool.false_eq_true, if_false, Sem.run_pure, hex]

theorem says_lenS {t : TypeId} {c : Call} {x : Operand} {x' : Opd} {s : List UInt8} (ho : o.op = .call c) (hcc : c.callee = .builtin .len) (hca : c.args.toList = [x]) (hct : c.argTypes.toList = [t]) (hs : P.underlying t = some .string)
    (hx : cOpd x = some x') (hv : ev x' = .str s) (hO : OpsOk w bad D ρ a ev o.op.operands.toList) : Says P w bad D ρ a o (.int .i64 s.length) := by
  obtain ⟨cal, args, tys⟩ := c
  obtain ⟨args⟩ := args
  obtain ⟨tys⟩ := tys
  simp only at hcc hca hct
  subst hcc; subst hca; subst hct
  have h2 := hO x (by simp [ho, Op.operands, Call.operands]) x' hx
  rw [hv] at h2
  have e2 := rep_str h2
  have hsz : (⟨s.toArray⟩ : ByteArray).size = s.length := by simp [ByteArray.size]
  exact ⟨.int .i64 s.length, by simp [execOp, ho, resolve, invoke, builtin, Builtin.len_, run_underlying hs, e2, goInt, hsz], .frz (.int _ _)⟩

theorem says_lenV {H H' : Heap} {t e : TypeId} {c : Call} {x : Operand} {x' : Opd} {n : Nat} (ho : o.op = .call c) (hcc : c.callee = .builtin .len) (hca : c.args.toList = [x]) (hct : c.argTypes.toList = [t]) (hs : P.underlying t = some (.slice e))
    (hx : cOpd x = some x') (hv : lenOf H (ev x') = some n) (hD : ∀ id, D id ↔ H'[id]? = some none)
    (hsh : ∀ id b, hget H id = some b → ∃ b', hget H' id = some b' ∧ b'.els.length = b.els.length)
    (hO : OpsOk w bad D ρ a ev o.op.operands.toList) : Says P w bad D ρ a o (.int .i64 n) := by
  obtain ⟨cal, args, tys⟩ := c
  obtain ⟨args⟩ := args
  obtain ⟨tys⟩ := tys
  simp only at hcc hca hct
  subst hcc; subst hca; subst hct
  have h2 := hO x (by simp [ho, Op.operands, Call.operands]) x' hx
  obtain ⟨ad, c, e2, _⟩ := lenOf_rep hv hD hsh h2
  exact ⟨.int .i64 n, by simp [execOp, ho, resolve, invoke, builtin, Builtin.len_, run_underlying hs, e2, goInt], .frz (.int _ _)⟩

theorem says_min {c : Call} {ys : List Opd} {v : AV} (ho : o.op = .call c) (hcc : c.callee = .builtin .min) (hx : cOpds c.args.toList = some ys) (hv : aMin (ys.map ev) = some v) (hO : OpsOk w bad D ρ a ev o.op.operands.toList) : Says P w bad D ρ a o v := by
  obtain ⟨cal, args, tys⟩ := c
  simp only at hcc hx
  subst hcc
  obtain ⟨h1, h2⟩ := opds_rep hx (fun x hx y hy => hO x (by simpa [ho, Op.operands, Call.operands] using hx) y hy)
  have hmap : args.map a.eval = (args.toList.map a.eval).toArray := by simp [← Array.toList_map]
  generalize ys.map ev = l at *
  generalize args.toList.map a.eval = us at *
  cases l with
  | nil => simp [aMin] at hv
  | cons x l =>
    cases us with
    | nil => simp at h1
    | cons u us =>
      cases x <;> simp only [aMin] at hv <;> (try (cases hv; done))
      rename_i k n
      have e0 := rep_int (h2 0 _ u rfl rfl)
      obtain ⟨r, hr, hp⟩ := min_run (P := P) l us k n v (by simpa using h1) (fun i c u hc hu => h2 (i + 1) c u (by simpa using hc) (by simpa using hu)) hv
      refine ⟨r, ?_, hp⟩
      subst e0
      simp only [execOp, ho, resolve, invoke, builtin, Builtin.min_, hmap, Sem.run_bind, Sem.run_pure, Result.andThen_ok, hr]

theorem says_max {c : Call} {ys : List Opd} {v : AV} (ho : o.op = .call c) (hcc : c.callee = .builtin .max) (hx : cOpds c.args.toList = some ys) (hv : aMax (ys.map ev) = some v) (hO : OpsOk w bad D ρ a ev o.op.operands.toList) : Says P w bad D ρ a o v := by
  obtain ⟨cal, args, tys⟩ := c
  simp only at hcc hx
  subst hcc
  obtain ⟨h1, h2⟩ := opds_rep hx (fun x hx y hy => hO x (by simpa [ho, Op.operands, Call.operands] using hx) y hy)
  have hmap : args.map a.eval = (args.toList.map a.eval).toArray := by simp [← Array.toList_map]
  generalize ys.map ev = l at *
  generalize args.toList.map a.eval = us at *
  cases l with
  | nil => simp [aMax] at hv
  | cons x l =>
    cases us with
    | nil => simp at h1
    | cons u us =>
      cases x <;> simp only [aMax] at hv <;> (try (cases hv; done))
      rename_i k n
      have e0 := rep_int (h2 0 _ u rfl rfl)
      obtain ⟨r, hr, hp⟩ := max_run (P := P) l us k n v (by simpa using h1) (fun i c u hc hu => h2 (i + 1) c u (by simpa using hc) (by simpa using hu)) hv
      refine ⟨r, ?_, hp⟩
      subst e0
      simp only [execOp, ho, resolve, invoke, builtin, Builtin.max_, hmap, Sem.run_bind, Sem.run_pure, Result.andThen_ok, hr]

theorem frz_drop {l : List AV} {b o' es c : Nat} {vs : Nat → Nat → Value} {bad' : Nat → Prop} (h1 h2 c' : Nat) (he : 0 < es) (hb : ¬ bad' b) (hl : b < w.heap.size) (hn : h2 ≤ l.length) (hle : h1 ≤ h2) (hcc : h2 - h1 ≤ c')
    (hs : ∀ (i : Nat) (x : AV), l[i]? = some x → x.cells.length = es)
    (hc : ∀ (i : Nat) (x : AV) (j : Nat) (c : AV), l[i]? = some x → x.cells[j]? = some c → w.cell? ⟨b, o' + (i * es + j), none⟩ = some (vs i j))
    (hr : ∀ (i : Nat) (x : AV) (j : Nat) (c : AV), l[i]? = some x → x.cells[j]? = some c → FRep w bad' c (vs i j)) :
    FRep w bad' (.lst ((l.take h2).drop h1)) (.slice (some ⟨b, o' + h1 * es, none⟩) (h2 - h1) c') := by
  have hlen : ((l.take h2).drop h1).length = h2 - h1 := by simp; omega
  have key : ∀ (i : Nat) (x : AV), ((l.take h2).drop h1)[i]? = some x → l[h1 + i]? = some x := by
    intro i x hx
    have hi : i < h2 - h1 := by have := (List.getElem?_eq_some_iff.mp hx).1; omega
    rw [List.getElem?_drop, List.getElem?_take_of_lt (by omega)] at hx
    exact hx
  rw [← hlen]
  refine .lst _ b (o' + h1 * es) es c' (fun i j => vs (h1 + i) j) (by omega) he hb hl (fun i x hx => hs _ x (key i x hx)) (fun i x j c hx hj => ?_) (fun i x j c hx hj => hr _ x j c (key i x hx) hj)
  have := hc _ x j c (key i x hx) hj
  rw [show o' + h1 * es + (i * es + j) = o' + ((h1 + i) * es + j) by rw [Nat.add_mul]; omega]
  exact this

theorem says_subV {H H' : Heap} {B : Nat} {t e : TypeId} {ie : TypeInfo} {x : Operand} {lo hi mx : Option Operand} {x' : Opd} {lo' hi' mx' : Option Opd} {v : AV} (ho : o.op = .slice t x lo hi mx) (hs : P.underlying t = some (.slice e)) (hie : P.info? e = some ie)
    (hx : cOpd x = some x') (hlo : cOptOpd lo = some lo') (hhi : cOptOpd hi = some hi') (hmx : cOptOpd mx = some mx') (hmh : (mx.isSome && hi.isNone) = false)
    (hv : aSubV H ie.size (ev x') (lo'.map ev) (hi'.map ev) (mx'.map ev) = some v) (hR : HRel w bad ρ B H') (hD : ∀ id, D id ↔ H'[id]? = some none)
    (hsh : ∀ id b, hget H id = some b → ∃ b', hget H' id = some b' ∧ b'.els.length = b.els.length) (hse : ∀ id b, hget H id = some b → ∃ b', hget H' id = some b' ∧ b'.e = b.e)
    (hO : OpsOk w bad D ρ a ev o.op.operands.toList) : Says P w bad D ρ a o v := by
  have h2 := hO x (by simp [ho, Op.operands]) x' hx
  have rlo := optOpd_rep hlo hO (fun z hz => by subst hz; simp [ho, Op.operands])
  have rhi := optOpd_rep hhi hO (fun z hz => by subst hz; simp [ho, Op.operands])
  have rmx := optOpd_rep hmx hO (fun z hz => by subst hz; simp [ho, Op.operands])
  have hmh' : (mx'.map ev).isSome = true → (hi'.map ev).isSome = true := by
    cases mx <;> cases hi <;> simp [cOptOpd] at hmx hhi hmh ⊢
    · subst hmx; simp
    · subst hmx; simp
    · rename_i p q
      cases hq : cOpd q <;> simp [hq] at hhi
      subst hhi; simp
  unfold aSubV at hv
  split at hv <;> (try (cases hv; done))
  rename_i n hn
  split at hv <;> (try (cases hv; done))
  rename_i m hm
  split at hv <;> (try (cases hv; done))
  rename_i h hh
  split at hv <;> (try (cases hv; done))
  rename_i l hl
  obtain ⟨ad, c, e2, hnc, hkind⟩ := lenOf_rep hn hD hsh h2
  obtain ⟨hb, hb1, hb2, hb3⟩ := sliceBounds_run (P := P) (w := w) (isSlice := true) (cap := c) hm hh hl hnc rlo rhi rmx hmh'
  have hrun : (execOp a.eval o).run P w = .ok (.value (.slice (if (if (mx'.map ev).isSome = true then m else c) = l then ad else ad.map (·.add (l * ie.size))) (h - l) ((if (mx'.map ev).isSome = true then m else c) - l))) w := by
    simp only [execOp, ho, e2, Instr.sliceAt, Sem.run_bind, run_underlying hs, Result.andThen_ok, Instr.slice, hb, run_size hie, Sem.run_pure]
  refine ⟨_, hrun, ?_⟩
  rw [e2] at h2
  generalize ev x' = X at *
  cases X <;> simp only at hv <;> (try (cases hv; done))
  · rename_i b
    obtain rfl := Option.some.inj hv
    have hn0 : n = 0 := by simpa [lenOf] using hn.symm
    subst hn0
    have q1 : h = 0 := by omega
    have q2 : l = 0 := by omega
    subst q1; subst q2
    have hm0 : m = 0 := by omega
    subst hm0
    cases h2 with
    | frz h2 => cases h2 with
      | znil => simp; exact .frz .znil
      | zsl a => simp; exact .frz (.zsl _)
  · rename_i id q nn
    have hnn : nn = n := by
      simp only [lenOf] at hn
      cases hg : hget H id with
      | none => simp [hg] at hn
      | some b => simpa [hg] using hn
    subst hnn
    split at hv
    · rename_i hcond
      obtain rfl := Option.some.inj hv
      simp only [Bool.and_eq_true, beq_iff_eq] at hcond
      have q1 : h = 0 := by omega
      have q2 : l = 0 := by omega
      have q3 := hcond.2
      subst q1; subst q2; subst q3
      simp [hcond.1]
      exact .frz (.zsl _)
    · rename_i hcond
      split at hv
      · rename_i heq
        obtain rfl := Option.some.inj hv
        subst heq
        simp
        exact .frz (.lst0 _ _)
      · rename_i hne
        split at hv
        · cases hv
        · rename_i hms
          split at hv <;> (try (cases hv; done))
          rename_i b hg
          split at hv <;> (try (cases hv; done))
          rename_i hbe
          obtain rfl := Option.some.inj hv
          simp only [hms, Bool.false_eq_true, if_false]
          have hlt : l < h := by omega
          have hne' : ¬ c = l := by omega
          rw [if_neg hne']
          obtain ⟨b', hb', hble⟩ := hse id b hg
          cases h2 with
          | frz h => cases h
          | slcD ad c hd => rw [hD, agree_of hb'] at hd; cases hd
          | slcV ad hρ => omega
          | slc hρ hc hn2 =>
            rename_i b2 es cap
            have he : es = ie.size := by
              obtain ⟨k9, hk9, hbr⟩ := hR.real _ _ _ _ hρ
              rw [agree_of hb'] at hk9
              cases hk9
              rw [← hbr.hes, hble, hbe]
            subst he
            simp only [Option.map_some, Addr.add_lit, ← Nat.add_mul]
            exact .slc hρ (by omega) (by omega)
  · rename_i al
    have hnl : n = al.length := by simpa [lenOf] using hn.symm
    subst hnl
    split at hv
    · rename_i hcond
      obtain rfl := Option.some.inj hv
      simp only [Bool.and_eq_true, beq_iff_eq] at hcond
      have q1 : h = 0 := by omega
      have q2 : l = 0 := by omega
      have q3 := hcond.2
      subst q1; subst q2; subst q3
      simp [hcond.1]
      exact .frz (.zsl _)
    · rename_i hcond
      split at hv <;> (try (cases hv; done))
      rename_i hall
      obtain rfl := Option.some.inj hv
      by_cases heq : l = h
      · subst heq
        have : (al.take l).drop l = [] := by simp
        rw [this, Nat.sub_self]
        exact .frz (.lst0 _ _)
      · have hne' : ¬ (if (mx'.map ev).isSome = true then m else c) = l := by split <;> omega
        rw [if_neg hne']
        cases h2 with
        | frz h2 => cases h2 with
          | lst0 => simp at hb3 hb2 hb1; omega
          | lst _ b u es c vs hn he hb hlw hs2 hc hr =>
            have hpos : 0 < al.length := by omega
            have e0 : al[0]? = some al[0] := List.getElem?_eq_getElem hpos
            have he2 : es = ie.size := by
              rw [← hs2 0 _ e0]
              exact by simpa using (List.all_eq_true.mp hall) _ (List.mem_of_getElem? e0)
            subst he2
            simp only [Option.map_some, Addr.add_lit]
            exact .frz (frz_drop (vs := vs) (c := c) l h _ he hb hlw (by omega) (by omega) (by split <;> omega) hs2 hc hr)
end
end Go.Proofs.Ytbcbaidnamebkaa.AE
