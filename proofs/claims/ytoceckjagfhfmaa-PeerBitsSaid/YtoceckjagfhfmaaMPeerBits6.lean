/- The texts that the law PeerBits needs, part 6. No conditions. -/
import Derived.ChangeArms
import Derived.WideShapes
import Derived.OpenShut
import Derived.Deep.Slices
import Derived.Test.YtoceckjagfhfmaaMPeerBits5
namespace Go.Proofs.Ytoceckjagfhfmaa.AE
set_option linter.unusedVariables false
set_option linter.unusedSimpArgs false
set_option linter.constructorNameAsVariable false
open Go Go.WideShapes

/-- The form of a cell. -/
inductive CT where
  | i (k : IntKind)
  | b
  | s
  | sl (ag : Bool) (es : List CT)
mutual
def CTok : CT → AV → Prop
  | .i k, v => ∃ n, v = .int k n ∧ (Lit.int k n).wf = true
  | .b, v => ∃ x, v = .bool x
  | .s, v => ∃ x, v = .str x ∧ x.length ≤ maxLen
  | .sl ag es, v => ∃ l, v = .lst l ∧ l.length ≤ maxLen ∧ ∀ x ∈ l, ∃ cs, (match ag with
    | true => x = .agg cs
    | false => cs = [x]) ∧ CTall es cs
def CTall : List CT → List AV → Prop
  | [], l => l = []
  | c :: cs, l => ∃ x t, l = x :: t ∧ CTok c x ∧ CTall cs t
end
/-- An argument of a form: is it a struct or an array; its cells. -/
def TyOK (ag : Bool) (cs : List CT) (v : AV) : Prop := ∃ l, (match ag with
  | true => v = .agg l
  | false => l = [v]) ∧ CTall cs l
theorem CTall_len : ∀ {cs : List CT} {l : List AV}, CTall cs l → l.length = cs.length
  | [], l, h => by simp only [CTall] at h; subst h; rfl
  | c :: cs, l, h => by
    simp only [CTall] at h
    obtain ⟨x, t, rfl, _, h⟩ := h
    simp [CTall_len h]
theorem CTall_app : ∀ {a b : List CT} {l m : List AV}, CTall a l → CTall b m → CTall (a ++ b) (l ++ m)
  | [], b, l, m, h, h' => by simp only [CTall] at h; subst h; exact h'
  | c :: cs, b, l, m, h, h' => by
    simp only [CTall] at h
    obtain ⟨x, t, rfl, h1, h⟩ := h
    simp only [List.cons_append, CTall]
    exact ⟨x, t ++ m, rfl, h1, CTall_app h h'⟩

section
variable (P : Program)
def ctFs (g : TypeId → Option (List CT)) : List Field → Nat → Option (List CT)
  | [], _ => some []
  | f :: fs, off => if f.offset = off then match g f.type with
      | some l => if P.cellsOf f.type = l.length then match ctFs g fs (off + l.length) with
          | some m => some (l ++ m)
          | none => none
        else none
      | none => none
    else none
def ctOf : Nat → TypeId → Option (List CT)
  | 0, _ => none
  | d + 1, t => match P.underlying t with
    | some (.int k) => some [.i k]
    | some .bool => some [.b]
    | some .string => some [.s]
    | some (.slice e) => match ctOf d e, agB P e with
      | some l, some ag => if P.cellsOf e = l.length ∧ 0 < l.length ∧ (ag || l.length == 1) = true then some [.sl ag l] else none
      | _, _ => none
    | some (.struct fs) => match ctFs P (ctOf d) fs.toList 0 with
      | some l => if P.cellsOf t = l.length then some l else none
      | none => none
    | some (.array n e) => match ctOf d e with
      | some l => if P.cellsOf e = l.length ∧ P.cellsOf t = n * l.length then some (List.replicate n l).flatten else none
      | none => none
    | _ => none
end

section
variable {H : Type} {enc : TypeId × Value → H} {P : Program} {w : World} {base : Nat} {spare : Nat → Bool} {held : Bool}
abbrev noBad : Nat → Prop := fun _ => False

/-- Each cell is told. -/
def Cells (w : World) (avs : List AV) (cs : List Value) : Prop := ∀ (i : Nat) (c : AV) (u : Value), avs[i]? = some c → cs[i]? = some u → FRep w noBad c u

theorem cells_one {c : AV} {u : Value} (h : FRep w noBad c u) : Cells w [c] [u] := by
  intro i a b ha hb
  match i with
  | 0 => cases ha; cases hb; exact h
  | i + 1 => cases ha

theorem ctFs_open {g : TypeId → Option (List CT)} {cs : List Value} (hg : ∀ t l (ds : List Value) fuel x, g t = some l → DataW.trod enc P w base spare held fuel t ds = some x → ∃ avs, avs.length = ds.length ∧ CTall l avs ∧ Cells w avs ds) :
    ∀ (fs : List Field) (off : Nat) (l : List CT), ctFs P g fs off = some l → (∀ f ∈ fs, ∃ fuel y, DataW.trod enc P w base spare held fuel f.type ((cs.drop f.offset).take (P.cellsOf f.type)) = some y) →
      ∃ avs, CTall l avs ∧ Cells w avs (cs.drop off)
  | [], off, l, h, _ => by
    simp only [ctFs] at h; cases h
    exact ⟨[], rfl, fun i c u hc _ => by cases hc⟩
  | f :: fs, off, l, h, ht => by
    simp only [ctFs] at h
    split at h
    · rename_i ho
      split at h <;> (try (cases h; done))
      rename_i l1 h1
      split at h
      · rename_i hn
        split at h <;> (try (cases h; done))
        rename_i m hm
        cases h
        obtain ⟨fuel, y, hy⟩ := ht f (List.mem_cons_self ..)
        obtain ⟨a1, e1, e2, e3⟩ := hg _ _ _ _ _ h1 hy
        obtain ⟨a2, q1, q2⟩ := ctFs_open hg fs (off + l1.length) m hm (fun f hf => ht f (List.mem_cons_of_mem _ hf))
        refine ⟨a1 ++ a2, CTall_app e2 q1, ?_⟩
        have hl : a1.length = l1.length := CTall_len e2
        intro i c u hc hu
        by_cases hi : i < a1.length
        · rw [List.getElem?_append_left hi] at hc
          refine e3 i c u hc ?_
          rw [ho, hn, List.getElem?_take, if_pos (by omega)]; exact hu
        · rw [List.getElem?_append_right (by omega)] at hc
          refine q2 (i - a1.length) c u hc ?_
          rw [List.getElem?_drop] at hu ⊢
          rw [← hu]; congr 1; omega
      · cases h
    · cases h

theorem cells?_at {a : Addr} {n : Nat} {cs : List Value} (h : w.cells? base a n = some cs) : cs.length = n ∧ ∀ j u, cs[j]? = some u → w.cell? (a.add j) = some u := by
  unfold World.cells? at h
  split at h
  · have hl : cs.length = n := by simpa using mapM_some_length h
    refine ⟨hl, fun j u hu => ?_⟩
    have hj : j < n := by
      rcases Nat.lt_or_ge j n with h1 | h1
      · exact h1
      · rw [List.getElem?_eq_none (by omega)] at hu; cases hu
    have := mapM_some_get h j j (by simp [hj])
    rw [hu] at this
    exact this
  · cases h

theorem rng_at {n i j : Nat} (h : (List.range n)[i]? = some j) : i < n ∧ i = j := by
  rcases Nat.lt_or_ge i n with h1 | h1
  · rw [List.getElem?_range h1] at h; exact ⟨h1, Option.some.inj h⟩
  · rw [List.getElem?_eq_none (by simpa using h1)] at h; cases h
theorem add_pl (b o n : Nat) : (⟨b, o, none⟩ : Addr).add n = ⟨b, o + n, none⟩ := by
  unfold Addr.add; split <;> simp_all

theorem open_cells : ∀ (d : Nat) (t : TypeId) (l : List CT) (cs : List Value) (fuel : Nat) (x : DataW H × List MemPlace), ctOf P d t = some l → DataW.trod enc P w base spare held fuel t cs = some x →
    ∃ avs, avs.length = cs.length ∧ CTall l avs ∧ Cells w avs cs
  | 0, t, l, cs, fuel, x, h, _ => by cases h
  | d + 1, t, l, cs, fuel, x, h, ht => by
    simp only [ctOf] at h
    split at h <;> (try (cases h; done))
    · rename_i k hu
      cases h
      obtain ⟨n, rfl, _, hw⟩ := DataW.trod_int hu ht
      exact ⟨[.int k n], rfl, ⟨_, _, rfl, ⟨n, rfl, hw⟩, rfl⟩, cells_one (.int k n)⟩
    · rename_i hu
      cases h
      obtain ⟨b, rfl, _⟩ := DataW.trod_bool hu ht
      exact ⟨[.bool b], rfl, ⟨_, _, rfl, ⟨b, rfl⟩, rfl⟩, cells_one (.bool b)⟩
    · rename_i hu
      cases h
      obtain ⟨s, rfl, _, hs⟩ := DataW.trod_string hu ht
      refine ⟨[.str s.data.toList], rfl, ⟨_, _, rfl, ⟨_, rfl, by simpa using hs⟩, rfl⟩, cells_one ?_⟩
      have := FRep.str (w := w) (bad := noBad) s.data.toList
      simpa using this
    · rename_i e hu
      split at h <;> (try (cases h; done))
      rename_i le ag hle hag
      split at h
      · rename_i hc
        obtain ⟨hc1, hc2, hc3⟩ := hc
        cases h
        rcases DataW.trod_slice hu ht with ⟨rfl, _⟩ | ⟨a, len, cap, elems, rest, n, _, rfl, _, hb, hl, hm, hel, hat, _, _⟩
        · exact ⟨[.lst []], rfl, ⟨_, _, rfl, ⟨[], rfl, by simp, fun x hx => by cases hx⟩, rfl⟩, cells_one (.lst0 none 0 fun _ => rfl)⟩
        · have each : ∀ i, i < len → ∃ ex : List AV × List Value, w.cells? base (a.add (i * P.cellsOf e)) (P.cellsOf e) = some ex.2 ∧ CTall le ex.1 ∧ Cells w ex.1 ex.2 := by
            intro i hi
            have h1 := hat i hi
            rw [List.getElem?_eq_getElem (by omega)] at h1
            obtain ⟨ds, h2, h3⟩ := Option.bind_eq_some_iff.mp h1
            obtain ⟨avs, _, q2, q3⟩ := open_cells d e le ds n _ hle h3
            exact ⟨(avs, ds), h2, q2, q3⟩
          obtain ⟨f, hf⟩ := Go.Deep.choose_lt each
          let el : List AV → AV := fun cs => match ag with
            | true => .agg cs
            | false => cs.headD .undef
          have elc : ∀ cs, CTall le cs → (el cs).cells = cs ∨ (ag = false ∧ ∃ v, cs = [v] ∧ el cs = v) := by
            intro cs hcs
            cases ag with
            | true => exact .inl rfl
            | false =>
              have hl1 : le.length = 1 := by simpa using hc3
              have := CTall_len hcs
              match cs, this.trans hl1 with
              | [v], _ => exact .inr ⟨rfl, v, rfl, rfl⟩
          have scal : ∀ cs, CTall le cs → (el cs).cells = cs := by
            intro cs hcs
            rcases elc cs hcs with h1 | ⟨hag', v, rfl, h2⟩
            · exact h1
            · rw [h2]
              match v, hcs with
              | .agg l', hcs =>
                exfalso
                cases le with
                | nil => simp only [CTall] at hcs; cases hcs
                | cons c cs' =>
                  simp only [CTall] at hcs
                  obtain ⟨x', t', hx', hok, _⟩ := hcs
                  injection hx' with hx1 _
                  subst hx1
                  cases c <;> simp [CTok] at hok
              | .int .., _ | .bool _, _ | .str _, _ | .nilp, _ | .zsl _, _ | .ptr .., _ | .slc .., _ | .lst _, _ | .fptr .., _ | .tup _, _ | .fn .., _ | .nilf, _ | .undef, _ | .emp, _ => rfl
          have hlen : ∀ i, i < len → ((f i).1).length = P.cellsOf e := fun i hi => by rw [CTall_len (hf i hi).2.1, hc1]
          refine ⟨[.lst ((List.range len).map fun i => el (f i).1)], rfl, ⟨_, _, rfl, ⟨_, rfl, by simp; omega, ?_⟩, rfl⟩, cells_one ?_⟩
          · intro y hy
            obtain ⟨i, hi, rfl⟩ := List.mem_map.mp hy
            have hi := List.mem_range.mp hi
            refine ⟨(f i).1, ?_, (hf i hi).2.1⟩
            cases ag with
            | true => rfl
            | false =>
              rcases elc _ (hf i hi).2.1 with h1 | ⟨_, v, h1, h2⟩
              · have h3 := scal _ (hf i hi).2.1
                have hl1 : le.length = 1 := by simpa using hc3
                have h4 := (CTall_len (hf i hi).2.1).trans hl1
                show (f i).1 = [(f i).1.headD .undef]
                match (f i).1, h4 with
                | [v], _ => rfl
              · show (f i).1 = [(f i).1.headD .undef]
                rw [h1]; rfl
          · by_cases h0 : len = 0
            · subst h0; exact .lst0 (some a) cap (fun h => by cases h)
            · have hsp : a.spot = none ∧ a.block < w.heap.size := by
                obtain ⟨g1, g2, g3⟩ := hf 0 (by omega)
                obtain ⟨g4, g5⟩ := cells?_at g1
                have h6 : ∃ u, (f 0).2[0]? = some u := ⟨_, List.getElem?_eq_getElem (by omega)⟩
                obtain ⟨u, hu0⟩ := h6
                have := g5 0 u hu0
                rw [Nat.zero_mul, show (a.add 0).add 0 = a by simp [Addr.add]] at this
                unfold World.cell? at this
                split at this
                · rename_i c _ _ hh
                  split at this
                  · cases this
                  · rename_i hs
                    refine ⟨by simpa using hs, ?_⟩
                    rcases Nat.lt_or_ge a.block w.heap.size with h7 | h7
                    · exact h7
                    · rw [Array.getElem?_eq_none h7] at hh; cases hh
                · cases this
              obtain ⟨b, o, sp⟩ := a
              obtain ⟨hsp1, hsp2⟩ := hsp
              simp only at hsp1 hsp2
              subst hsp1
              have hlm : ((List.range len).map fun i => el (f i).1).length = len := by simp
              have key := FRep.lst (w := w) (bad := noBad) ((List.range len).map fun i => el (f i).1) b o (P.cellsOf e) cap (fun i j => (f i).2.getD j (.bool false)) (by rw [hlm]; exact hl) (by omega) (fun h => h) hsp2 ?_ ?_ ?_
              · rw [hlm] at key; exact key
              · intro i y hy
                rw [List.getElem?_map] at hy
                obtain ⟨i', h1, rfl⟩ := Option.map_eq_some_iff.mp hy
                obtain ⟨h2, rfl⟩ := rng_at h1
                rw [scal _ (hf _ h2).2.1, hlen _ h2]
              · intro i y j c hy hc
                rw [List.getElem?_map] at hy
                obtain ⟨i', h1, rfl⟩ := Option.map_eq_some_iff.mp hy
                obtain ⟨h2, rfl⟩ := rng_at h1
                rw [scal _ (hf _ h2).2.1] at hc
                obtain ⟨g4, g5⟩ := cells?_at (hf _ h2).1
                have hj : j < (f i).2.length := by
                  rw [g4, ← hlen _ h2]
                  rcases Nat.lt_or_ge j (f i).1.length with h7 | h7
                  · exact h7
                  · rw [List.getElem?_eq_none h7] at hc; cases hc
                have := g5 j _ (List.getElem?_eq_getElem hj)
                rw [add_pl, add_pl] at this
                rw [List.getD_eq_getElem?_getD, List.getElem?_eq_getElem hj]
                simp only [Option.getD_some]
                rw [← Nat.add_assoc]; exact this
              · intro i y j c hy hc
                rw [List.getElem?_map] at hy
                obtain ⟨i', h1, rfl⟩ := Option.map_eq_some_iff.mp hy
                obtain ⟨h2, rfl⟩ := rng_at h1
                rw [scal _ (hf _ h2).2.1] at hc
                obtain ⟨g4, g5⟩ := cells?_at (hf _ h2).1
                have hj : j < (f i).2.length := by
                  rw [g4, ← hlen _ h2]
                  rcases Nat.lt_or_ge j (f i).1.length with h7 | h7
                  · exact h7
                  · rw [List.getElem?_eq_none h7] at hc; cases hc
                refine (hf _ h2).2.2 j c _ hc ?_
                rw [List.getD_eq_getElem?_getD, List.getElem?_eq_getElem hj]; rfl
      · cases h
    · rename_i fs hu
      split at h <;> (try (cases h; done))
      rename_i l' hl'
      split at h
      · rename_i hc
        cases h
        obtain ⟨xs, n, _, _, hlen, hxs, hf⟩ := DataW.trod_struct hu ht
        obtain ⟨avs, q1, q2⟩ := ctFs_open (cs := cs) (enc := enc) (base := base) (spare := spare) (held := held) (fun t l ds fuel x => open_cells d t l ds fuel x) fs.toList 0 l hl' (fun f hfm => by
          obtain ⟨i, hi⟩ := List.getElem?_of_mem hfm
          have h1 := hf i f (by simpa using hi)
          have hi' : i < xs.length := by
            rw [hxs]
            rcases Nat.lt_or_ge i fs.size with h7 | h7
            · exact h7
            · rw [List.getElem?_eq_none (by simpa using h7)] at hi; cases hi
          exact ⟨n, _, h1.trans (List.getElem?_eq_getElem hi')⟩)
        exact ⟨avs, by rw [CTall_len q1, hlen, hc], q1, by simpa using q2⟩
      · cases h
    · rename_i n e hu
      split at h <;> (try (cases h; done))
      rename_i le hle
      split at h
      · rename_i hc
        obtain ⟨hc1, hc2⟩ := hc
        cases h
        obtain ⟨xs, m, _, _, hlen, hxs, hf⟩ := DataW.trod_array hu ht
        have key : ∀ k, k ≤ n → ∃ avs, CTall (List.replicate k le).flatten avs ∧ Cells w avs (cs.drop ((n - k) * le.length)) := by
          intro k
          induction k with
          | zero => intro _; exact ⟨[], rfl, fun i c u hc _ => by cases hc⟩
          | succ k ih =>
            intro hk
            obtain ⟨a2, q1, q2⟩ := ih (by omega)
            have h1 := hf (n - (k + 1)) (by omega)
            rw [List.getElem?_eq_getElem (by omega)] at h1
            obtain ⟨a1, e1, e2, e3⟩ := open_cells d e le _ m _ hle h1
            refine ⟨a1 ++ a2, by rw [List.replicate_succ, List.flatten_cons]; exact CTall_app e2 q1, ?_⟩
            have hl : a1.length = le.length := CTall_len e2
            intro i c u hc hu
            by_cases hi : i < a1.length
            · rw [List.getElem?_append_left hi] at hc
              refine e3 i c u hc ?_
              rw [hc1, List.getElem?_take, if_pos (by omega)]; exact hu
            · rw [List.getElem?_append_right (by omega)] at hc
              refine q2 (i - a1.length) c u hc ?_
              rw [List.getElem?_drop] at hu ⊢
              rw [← hu]; congr 1
              have : n - k = n - (k + 1) + 1 := by omega
              rw [this, Nat.add_mul]; omega
        obtain ⟨avs, q1, q2⟩ := key n (Nat.le_refl _)
        refine ⟨avs, ?_, q1, by simpa using q2⟩
        rw [CTall_len q1, hlen, hc2]; simp
      · cases h

theorem okWide_array {r : Reach} {n : Nat} {t e : TypeId} {v : Value} (ht : P.underlying t = some (.array n e)) (h : Value.okWide P w r base t v) : ∃ cs, v = .agg cs ∧ cs.size = P.cellsOf t := by
  simp only [Value.okWide, ht] at h
  obtain ⟨cs, h1, h2, _⟩ := h
  exact ⟨cs, h1, h2⟩
/-- A scalar argument. -/
theorem open_sc {t : TypeId} {v : Value} {d : DataW H} {ps : List MemPlace} {l : List CT} (hv : v.cells.toList = [v]) (hl : ctOf P 9 t = some l) (h : DataW.Trod enc P w base spare held t v d ps) :
    ∃ a, TyOK false l a ∧ FRep w noBad a v := by
  obtain ⟨fuel, h⟩ := h
  obtain ⟨avs, h1, h2, h3⟩ := open_cells 9 t l _ fuel _ hl h
  rw [hv] at h1 h3
  match avs, h1 with
  | [a], _ => exact ⟨a, ⟨_, rfl, h2⟩, h3 0 a v rfl rfl⟩
/-- A struct, or an array. -/
theorem open_ag {t : TypeId} {cs : Array Value} {d : DataW H} {ps : List MemPlace} {l : List CT} (hl : ctOf P 9 t = some l) (h : DataW.Trod enc P w base spare held t (.agg cs) d ps) :
    ∃ a, TyOK true l a ∧ FRep w noBad a (.agg cs) := by
  obtain ⟨fuel, h⟩ := h
  obtain ⟨avs, h1, h2, h3⟩ := open_cells 9 t l _ fuel _ hl h
  refine ⟨.agg avs, ⟨_, rfl, h2⟩, ?_⟩
  have := FRep.agg (w := w) (bad := noBad) avs cs.toList h1 h3
  simpa using this
end
end Go.Proofs.Ytoceckjagfhfmaa.AE

namespace Go.Proofs.Ytoceckjagfhfmaa.Geo
set_option linter.unusedVariables false
set_option linter.unusedSimpArgs false
/-- A text's bits, each byte's lowest first. -/
def tb (s : List UInt8) : List Bool := s.flatMap bitsOf
theorem tb_cons (b : UInt8) (s : List UInt8) : tb (b :: s) = bitsOf b ++ tb s := rfl
theorem tb_len : ∀ s : List UInt8, (tb s).length = 8 * s.length
  | [] => rfl
  | b :: s => by rw [tb_cons, List.length_append, bitsOf_len, tb_len s, List.length_cons]; omega
theorem bitsOf_at (b : UInt8) {i : Nat} (h : i < 8) : (bitsOf b)[i]? = some (b.toBitVec.getLsbD i) := by
  unfold bitsOf
  rw [List.getElem?_map, List.getElem?_range h]; rfl
theorem tb_at : ∀ (s : List UInt8) (q r : Nat), r < 8 → (tb s)[8 * q + r]? = s[q]?.map fun b => b.toBitVec.getLsbD r
  | [], q, r, h => by simp [tb]
  | b :: s, 0, r, h => by
    rw [tb_cons, List.getElem?_append_left (by rw [bitsOf_len]; omega), show 8 * 0 + r = r by omega, bitsOf_at b h]; rfl
  | b :: s, q + 1, r, h => by
    rw [tb_cons, List.getElem?_append_right (by rw [bitsOf_len]; omega), bitsOf_len, show 8 * (q + 1) + r - 8 = 8 * q + r by omega, tb_at s q r h, List.getElem?_cons_succ]
theorem byte_ext {a b : UInt8} (h : ∀ r, r < 8 → a.toBitVec.getLsbD r = b.toBitVec.getLsbD r) : a = b := by
  apply UInt8.eq_of_toBitVec_eq
  apply BitVec.eq_of_getLsbD_eq
  intro i hi
  exact h i hi
theorem tb_inj {s t : List UInt8} (hl : s.length = t.length) (h : ∀ j : Nat, (tb s)[j]? = (tb t)[j]?) : s = t := by
  apply List.ext_getElem?
  intro q
  rcases Nat.lt_or_ge q s.length with hq | hq
  · rw [List.getElem?_eq_getElem hq, List.getElem?_eq_getElem (by omega)]
    congr 1
    apply byte_ext
    intro r hr
    have := h (8 * q + r)
    rw [tb_at s q r hr, tb_at t q r hr, List.getElem?_eq_getElem hq, List.getElem?_eq_getElem (by omega)] at this
    simpa using this
  · rw [List.getElem?_eq_none hq, List.getElem?_eq_none (by omega)]
/-- A bit turned. -/
def flip (s : List UInt8) (k : Nat) : List UInt8 := s.set (k / 8) (s.getD (k / 8) 0 ^^^ UInt8.ofNat (2 ^ (k % 8)))
theorem flip_len (s : List UInt8) (k : Nat) : (flip s k).length = s.length := by simp [flip]
theorem pow_bit : ∀ (j r : Fin 8), (UInt8.ofNat (2 ^ j.val)).toBitVec.getLsbD r.val = decide (r = j) := by decide
theorem flip_bit (b : UInt8) {j r : Nat} (hj : j < 8) (hr : r < 8) : (b ^^^ UInt8.ofNat (2 ^ j)).toBitVec.getLsbD r = xor (b.toBitVec.getLsbD r) (decide (r = j)) := by
  rw [UInt8.toBitVec_xor, BitVec.getLsbD_xor]
  have := pow_bit ⟨j, hj⟩ ⟨r, hr⟩
  simp only [Fin.mk.injEq] at this
  rw [this]
theorem tb_flip (s : List UInt8) {k : Nat} (hk : k < 8 * s.length) (j : Nat) : (tb (flip s k))[j]? = (tb s)[j]?.map fun b => xor b (decide (j = k)) := by
  have hj : j = 8 * (j / 8) + j % 8 := (Nat.div_add_mod j 8).symm
  have hj8 : j % 8 < 8 := Nat.mod_lt _ (by decide)
  rw [hj, tb_at _ _ _ hj8, tb_at _ _ _ hj8, ← hj]
  unfold flip
  by_cases h : k / 8 = j / 8
  · have hlt : k / 8 < s.length := by omega
    rw [← h, List.getElem?_set_self hlt, List.getElem?_eq_getElem hlt, List.getD_eq_getElem?_getD, List.getElem?_eq_getElem hlt]
    simp only [Option.map_some, Option.getD_some]
    rw [flip_bit _ (Nat.mod_lt _ (by decide)) hj8]
    congr 2
    rw [decide_eq_decide]
    omega
  · rw [List.getElem?_set_ne h]
    have hne : decide (j = k) = false := by rw [decide_eq_false_iff_not]; rintro rfl; exact h rfl
    rw [hne]
    simp only [Bool.xor_false, Option.map_map]
    rfl
/-- Where they differ. -/
def offs (s t : List UInt8) (j : Nat) : Prop := (tb s)[j]? ≠ (tb t)[j]?
theorem crc_window {s t : List UInt8} {a : Nat} (hl : s.length = t.length) (h : ∀ j, offs s t j → a ≤ j ∧ j < a + 32) (hne : s ≠ t) : crcF s ≠ crcF t := by
  have hl8 : (tb s).length = (tb t).length := by rw [tb_len, tb_len, hl]
  obtain ⟨j, hj⟩ : ∃ j, offs s t j := by
    refine Classical.byContradiction fun c => hne (tb_inj hl fun j => ?_)
    exact Classical.byContradiction fun k => c ⟨j, k⟩
  have hjl : j < (tb s).length := by
    rcases Nat.lt_or_ge j (tb s).length with h1 | h1
    · exact h1
    · exact absurd (by rw [List.getElem?_eq_none h1, List.getElem?_eq_none (by omega)]) hj
  obtain ⟨j1, j2⟩ := h j hj
  have hd : (List.zipWith xor (tb s) (tb t)).length = (tb s).length := by simp [hl8]
  have hat : ∀ i (hi : i < (tb s).length), (List.zipWith xor (tb s) (tb t))[i]? = some (xor (tb s)[i] ((tb t)[i]'(by omega))) := by
    intro i hi
    rw [List.getElem?_zipWith, List.getElem?_eq_getElem hi, List.getElem?_eq_getElem (by omega)]
  have hfalse : ∀ i, i < (tb s).length → ¬ (a ≤ i ∧ i < a + 32) → (List.zipWith xor (tb s) (tb t))[i]? = some false := by
    intro i hi hn
    have : ¬ offs s t i := fun k => hn (h i k)
    have : (tb s)[i]? = (tb t)[i]? := Classical.byContradiction this
    rw [hat i hi]
    rw [List.getElem?_eq_getElem hi, List.getElem?_eq_getElem (by omega)] at this
    simp only [Option.some.injEq] at this
    rw [this, Bool.xor_self]
  refine crc_burst (a := a) (r := (tb s).length - (a + 32)) (w := ((List.zipWith xor (tb s) (tb t)).drop a).take 32) hl ?_ (by simp; omega) ?_
  · change List.zipWith xor (tb s) (tb t) = _
    apply List.ext_getElem?
    intro i
    have hw : (((List.zipWith xor (tb s) (tb t)).drop a).take 32).length = min 32 ((tb s).length - a) := by simp only [List.length_take, List.length_drop, hd]
    rcases Nat.lt_or_ge i (tb s).length with hi | hi
    · rcases Nat.lt_or_ge i a with h1 | h1
      · rw [hfalse i hi (by omega), List.append_assoc, List.getElem?_append_left (by simpa using h1), List.getElem?_replicate, if_pos h1]
      · rw [List.append_assoc, List.getElem?_append_right (by simpa using h1), List.length_replicate]
        rcases Nat.lt_or_ge i (a + 32) with h2 | h2
        · rw [List.getElem?_append_left (by rw [hw]; omega), List.getElem?_take, if_pos (by omega), List.getElem?_drop]
          congr 1; omega
        · rw [List.getElem?_append_right (by rw [hw]; omega), hw, List.getElem?_replicate, if_pos (by omega), hfalse i hi (by omega)]
    · rw [List.getElem?_eq_none (by rw [hd]; exact hi), List.getElem?_eq_none]
      simp only [List.length_append, List.length_replicate, hw]
      omega
  · have : (List.zipWith xor (tb s) (tb t))[j]? = some true := by
      rw [hat j hjl]
      have hj' : (tb s)[j]? ≠ (tb t)[j]? := hj
      rw [List.getElem?_eq_getElem hjl, List.getElem?_eq_getElem (by omega)] at hj'
      simp only [ne_eq, Option.some.injEq] at hj'
      congr 1
      cases h1 : (tb s)[j] <;> cases h2 : ((tb t)[j]'(by omega)) <;> simp_all
    refine List.mem_of_getElem? (i := j - a) ?_
    rw [List.getElem?_take, if_pos (by omega), List.getElem?_drop, show a + (j - a) = j by omega, this]
/-- Some of the bits from a place on turned: those below n. -/
def turned (s : List UInt8) (from_ n turns : Nat) : Nat → List UInt8
  | 0 => s
  | i + 1 => if turns.testBit i = true ∧ from_ + i < n then flip (turned s from_ n turns i) (from_ + i) else turned s from_ n turns i
def anyT (from_ n turns : Nat) : Nat → Bool
  | 0 => false
  | i + 1 => if turns.testBit i = true ∧ from_ + i < n then true else anyT from_ n turns i
theorem turned_len (s : List UInt8) (f n t : Nat) : ∀ m, (turned s f n t m).length = s.length
  | 0 => rfl
  | i + 1 => by unfold turned; split <;> simp [flip_len, turned_len s f n t i]
theorem turned_at (s : List UInt8) (f n t : Nat) (hn : n ≤ 8 * s.length) (j : Nat) : ∀ m, (tb (turned s f n t m))[j]? = (tb s)[j]?.map fun b => xor b (decide (f ≤ j ∧ j < f + m ∧ j < n ∧ t.testBit (j - f) = true))
  | 0 => by
    have : decide (f ≤ j ∧ j < f + 0 ∧ j < n ∧ t.testBit (j - f) = true) = false := by rw [decide_eq_false_iff_not]; omega
    rw [this]; simp [turned]
  | i + 1 => by
    have ih := turned_at s f n t hn j i
    unfold turned
    split
    · rename_i hc
      rw [tb_flip _ (by rw [turned_len]; omega), ih, Option.map_map]
      congr 1
      funext b
      simp only [Function.comp, Bool.xor_assoc]
      congr 1
      by_cases he : j = f + i
      · subst he
        have h1 : decide (f ≤ f + i ∧ f + i < f + i ∧ f + i < n ∧ t.testBit (f + i - f) = true) = false := by rw [decide_eq_false_iff_not]; omega
        have h2 : decide (f ≤ f + i ∧ f + i < f + (i + 1) ∧ f + i < n ∧ t.testBit (f + i - f) = true) = true := by
          rw [decide_eq_true_iff, show f + i - f = i by omega]
          exact ⟨by omega, by omega, hc.2, hc.1⟩
        rw [h1, h2, decide_eq_true rfl]; rfl
      · rw [decide_eq_false he, Bool.xor_false, decide_eq_decide]
        constructor
        · rintro ⟨a, b, c⟩; exact ⟨a, by omega, c⟩
        · rintro ⟨a, b, c⟩; exact ⟨a, by omega, c⟩
    · rename_i hc
      rw [ih]
      congr 1
      funext b
      congr 1
      rw [decide_eq_decide]
      constructor
      · rintro ⟨a, b, c⟩; exact ⟨a, by omega, c⟩
      · rintro ⟨a, b, c, d⟩
        refine ⟨a, ?_, c, d⟩
        rcases Nat.lt_or_ge j (f + i) with h1 | h1
        · exact h1
        · have : j = f + i := by omega
          subst this
          rw [show f + i - f = i by omega] at d
          exact absurd ⟨d, c⟩ hc
theorem anyT_iff (f n t : Nat) : ∀ m, anyT f n t m = true ↔ ∃ i, i < m ∧ t.testBit i = true ∧ f + i < n
  | 0 => by simp [anyT]
  | m + 1 => by
    unfold anyT
    split
    · rename_i h
      simp only [true_iff]
      exact ⟨m, by omega, h.1, h.2⟩
    · rename_i h
      rw [anyT_iff f n t m]
      constructor
      · rintro ⟨i, h1, h2⟩; exact ⟨i, by omega, h2⟩
      · rintro ⟨i, h1, h2⟩
        refine ⟨i, ?_, h2⟩
        rcases Nat.lt_or_ge i m with h3 | h3
        · exact h3
        · have : i = m := by omega
          subst this; exact absurd h2 h
theorem turned_offs {s : List UInt8} {f n t m j : Nat} (hn : n ≤ 8 * s.length) (h : offs (turned s f n t m) s j) : f ≤ j ∧ j < f + m ∧ j < n ∧ t.testBit (j - f) = true := by
  unfold offs at h
  rw [turned_at s f n t hn j m] at h
  by_cases hc : f ≤ j ∧ j < f + m ∧ j < n ∧ t.testBit (j - f) = true
  · exact hc
  · rw [decide_eq_false hc] at h
    exact absurd (by simp) h
theorem turned_ne {s : List UInt8} {f n t m : Nat} (hn : n ≤ 8 * s.length) : turned s f n t m ≠ s ↔ anyT f n t m = true := by
  rw [anyT_iff]
  constructor
  · intro h
    refine Classical.byContradiction fun c => h (tb_inj (turned_len ..) fun j => ?_)
    refine Classical.byContradiction fun k => c ?_
    obtain ⟨h1, h2, h3, h4⟩ := turned_offs hn k
    exact ⟨j - f, by omega, h4, by omega⟩
  · rintro ⟨i, h1, h2, h3⟩ c
    have := turned_at s f n t hn (f + i) m
    rw [c, decide_eq_true ⟨by omega, by omega, h3, by rw [show f + i - f = i by omega]; exact h2⟩] at this
    have hlt : f + i < (tb s).length := by rw [tb_len]; omega
    rw [List.getElem?_eq_getElem hlt] at this
    simp at this
theorem flip_offs {s : List UInt8} {k j : Nat} (hk : k < 8 * s.length) (h : offs (flip s k) s j) : j = k := by
  unfold offs at h
  rw [tb_flip s hk] at h
  by_cases hc : j = k
  · exact hc
  · rw [decide_eq_false hc] at h
    exact absurd (by simp) h
theorem flip_ne {s : List UInt8} {k : Nat} (hk : k < 8 * s.length) : flip s k ≠ s := by
  intro c
  have := tb_flip s hk k
  have hlt : k < (tb s).length := by rw [tb_len]; omega
  rw [c, decide_eq_true rfl, List.getElem?_eq_getElem hlt] at this
  simp at this
/-- Ahead of a place turned, behind it the same. -/
theorem offs_take {s t : List UInt8} {n : Nat} (hl : s.length = t.length) (h : ∀ j, offs s t j → j < 8 * n) : s.drop n = t.drop n := by
  apply List.ext_getElem?
  intro q
  rw [List.getElem?_drop, List.getElem?_drop]
  rcases Nat.lt_or_ge (n + q) s.length with hq | hq
  · rw [List.getElem?_eq_getElem hq, List.getElem?_eq_getElem (by omega)]
    congr 1
    apply byte_ext
    intro r hr
    have : ¬ offs s t (8 * (n + q) + r) := fun k => by have := h _ k; omega
    have : (tb s)[8 * (n + q) + r]? = (tb t)[8 * (n + q) + r]? := Classical.byContradiction this
    rw [tb_at s _ r hr, tb_at t _ r hr, List.getElem?_eq_getElem hq, List.getElem?_eq_getElem (by omega)] at this
    simpa using this
  · rw [List.getElem?_eq_none hq, List.getElem?_eq_none (by omega)]
theorem tb_take (s : List UInt8) (n j : Nat) (hj : j < 8 * n) : (tb (s.take n))[j]? = (tb s)[j]? := by
  have e : j = 8 * (j / 8) + j % 8 := (Nat.div_add_mod j 8).symm
  have h8 : j % 8 < 8 := Nat.mod_lt _ (by decide)
  rw [e, tb_at _ _ _ h8, tb_at _ _ _ h8, List.getElem?_take, if_pos (by omega)]
theorem take_offs {s t : List UInt8} {n j : Nat} (h : offs (s.take n) (t.take n) j) : offs s t j := by
  unfold offs at *
  rcases Nat.lt_or_ge j (8 * n) with hj | hj
  · rwa [tb_take s n j hj, tb_take t n j hj] at h
  · refine absurd ?_ h
    rw [List.getElem?_eq_none (by rw [tb_len, List.length_take]; omega), List.getElem?_eq_none (by rw [tb_len, List.length_take]; omega)]
end Go.Proofs.Ytoceckjagfhfmaa.Geo

namespace Go.Proofs.Ytoceckjagfhfmaa.AE
set_option linter.unusedVariables false
set_option linter.unusedSimpArgs false
set_option linter.constructorNameAsVariable false
open Go Go.Proofs.Ytoceckjagfhfmaa.Geo
attribute [local irreducible] pcall C0
set_option maxRecDepth 100000
theorem fin_b {H : Heap} {b : Bool} : C0.fin H (.bool b) = some (.bool b) := f_free rfl
/-! What a turned text is -/
theorem tail_turned {p s : List UInt8} {a : Nat} (hd : s.drop p.length = (sealF p).drop p.length) (hne : s ≠ sealF p) (hw : ∀ j, offs s (sealF p) j → a ≤ j ∧ j < a + 32) : openF s p.length ≠ 0 := by
  intro h0
  obtain ⟨hl, hs⟩ := open_is h0
  have htl : (s.take p.length).length = p.length := by rw [List.length_take]; omega
  have e1 : s.drop p.length = be4 (w32 (crcF (s.take p.length))) := by
    have := congrArg (List.drop p.length) hs
    unfold sealF at this
    rw [List.drop_left' htl] at this
    exact this.symm
  have e2 : (sealF p).drop p.length = be4 (w32 (crcF p)) := by unfold sealF; rw [List.drop_left' rfl]
  rw [e1, e2] at hd
  have hd := congrArg num4 hd
  have n1 := num4_be4 (w32_bd (crcF (s.take p.length))).1 (w32_bd (crcF (s.take p.length))).2 []
  have n2 := num4_be4 (w32_bd (crcF p)).1 (w32_bd (crcF p)).2 []
  rw [List.append_nil] at n1 n2
  rw [n1, n2] at hd
  have hc : crcF (s.take p.length) = crcF p := BitVec.eq_of_toNat_eq (by have : ((crcF (s.take p.length)).toNat : Int) = ((crcF p).toNat : Int) := hd; omega)
  have tp : (sealF p).take p.length = p := by unfold sealF; rw [List.take_left' rfl]
  by_cases hp : s.take p.length = p
  · rw [hp] at hs; exact hne hs.symm
  · refine crc_window (a := a) htl (fun j hj => hw j (take_offs (n := p.length) ?_)) hp hc
    rw [tp]; exact hj
theorem turned_bad (p : List UInt8) (f t : Nat) (hne : turned (sealF p) f (8 * p.length) t 32 ≠ sealF p) : openF (turned (sealF p) f (8 * p.length) t 32) p.length ≠ 0 := by
  have hn : 8 * p.length ≤ 8 * (sealF p).length := by rw [sealF_len]; omega
  refine tail_turned (a := f) (offs_take (turned_len ..) fun j hj => ?_) hne fun j hj => ?_
  · exact (turned_offs hn hj).2.2.1
  · obtain ⟨h1, h2, _⟩ := turned_offs hn hj; exact ⟨h1, h2⟩
theorem flip_bad (p : List UInt8) (k : Nat) (hk : k < 8 * (sealF p).length) : openF (flip (sealF p) k) p.length ≠ 0 := by
  by_cases h : k < 8 * p.length
  · refine tail_turned (a := k) (offs_take (flip_len ..) fun j hj => ?_) (flip_ne hk) fun j hj => ?_
    · rw [flip_offs hk hj]; exact h
    · rw [flip_offs hk hj]; omega
  · intro h0
    obtain ⟨hl, hs⟩ := open_is h0
    have ht : (flip (sealF p) k).take p.length = p := by
      have tp : (sealF p).take p.length = p := by unfold sealF; rw [List.take_left' rfl]
      refine tb_inj (by rw [List.length_take]; omega) fun j => ?_
      rcases Nat.lt_or_ge j (8 * p.length) with hj | hj
      · have k1 : ¬ offs (flip (sealF p) k) (sealF p) j := fun c => by have := flip_offs hk c; omega
        have k2 : (tb (flip (sealF p) k))[j]? = (tb (sealF p))[j]? := Classical.byContradiction k1
        rw [tb_take _ _ _ hj, k2, ← tb_take _ p.length j hj, tp]
      · rw [List.getElem?_eq_none (by rw [tb_len, List.length_take]; omega), List.getElem?_eq_none (by rw [tb_len]; omega)]
    rw [ht] at hs
    exact flip_ne hk hs.symm
/-- What reading tells, by kind. -/
def cdF (k : Nat) (s : List UInt8) : Int := if k = 0 then (readW s).2 else if k = 1 then (readR s).2 else (readC s).2
/-- A printed text of that kind. -/
def Good (k : Nat) (s : List UInt8) : Prop := ∃ p, s = sealF p ∧ 1 ≤ p.length ∧ p.length ≤ 10 ∧ cdF k s = 0 ∧ ∀ s', cdF k s' = 0 → openF s' p.length = 0
theorem good_W {x : Wrd} (h : WordOk x) : Good 0 (printW x) := by
  refine ⟨wordF x, by unfold printW; rw [if_pos h], by simp [wordF, be4], by simp [wordF, be4], ?_, fun s hs => ?_⟩
  · show (readW (printW x)).2 = 0
    rw [read_printW h]
  · have hs : (readW s).2 = 0 := hs
    show openF s 6 = 0
    refine Classical.byContradiction fun c => ?_
    unfold readW at hs
    rw [if_pos c] at hs
    exact c hs
theorem good_R {x : Rep7} (h : RepOk x) : Good 1 (printR x) := by
  refine ⟨repF x, by unfold printR; rw [if_pos h], by simp [repF, be4], by simp [repF, be4], ?_, fun s hs => ?_⟩
  · show (readR (printR x)).2 = 0
    rw [read_printR h]
  · have hs : (readR s).2 = 0 := hs
    show openF s 10 = 0
    refine Classical.byContradiction fun c => ?_
    unfold readR at hs
    rw [if_pos c] at hs
    exact c hs
theorem good_C {c : Int} (h : 1 ≤ c) (h' : c ≤ 3) : Good 2 (printC c) := by
  refine ⟨comF c, by unfold printC; rw [if_neg (by omega)], by simp [comF], by simp [comF], ?_, fun s hs => ?_⟩
  · show (readC (printC c)).2 = 0
    rw [read_printC h h']
  · have hs : (readC s).2 = 0 := hs
    show openF s 4 = 0
    refine Classical.byContradiction fun c => ?_
    unfold readC at hs
    rw [if_pos c] at hs
    exact c hs
/-! What is asked of a text -/
theorem ask9 (d : Nat) (s : List UInt8) (b : Bool) (i : Int) (x : List UInt8) (e : Int) (kN : Int → Heap → Ans) (kR : Bool → Heap → Ans) (H : Heap) (h1 : x = s → b = false ∧ e = 0) (h2 : x ≠ s → e ≠ 0) :
    L6_9 d s b i x e kN kR 1 H = kN (IntKind.wrap .i64 (i + 1)) H := by
  rw [L6_9_s]
  unfold X6_9_0
  by_cases h : x = s
  · obtain ⟨rfl, rfl⟩ := h1 h
    rw [h, beq_self_eq_true]; rfl
  · have he := h2 h
    rw [beq_eq_false_iff_ne.mpr h, beq_eq_false_iff_ne.mpr he]; rfl
theorem ask8 (k : Nat) (hk : k < 3) (s : List UInt8) (b : Bool) (i : Int) (x : List UInt8) (hx : x.length < 1000000000000000000) (kN : Int → Heap → Ans) (kR : Bool → Heap → Ans) (H : Heap) (h1 : x = s → b = false ∧ cdF k x = 0) (h2 : x ≠ s → cdF k x ≠ 0) :
    L6_8 40 ((k : Nat) : Int) s b i x kN kR 1 H = kN (IntKind.wrap .i64 (i + 1)) H := by
  rw [L6_8_s]
  unfold X6_8_0
  match k, hk with
  | 0, _ =>
    refine Eq.trans (pl_len rfl) ?_
    refine Eq.trans (pl_tup (s10 36 x hx) (by rfl)) ?_
    repeat with_reducible first | refine tt sh_ptr ?_ | refine tt sh_fptr ?_ | refine tt w2 ?_ | refine tt w3 ?_ | refine tt w8 ?_ | refine tt w9 ?_ | refine tt wf ?_ | refine tt wg ?_ | refine tt wh ?_ | refine tt wi ?_ | refine tt wj ?_ | refine tt wk ?_ | refine tt wl ?_ | refine tt wn ?_ | refine tt c_ort ?_ | refine tt c_nt ?_ | refine tt c_nf ?_ | refine tt (cnd_t _ _) ?_ | refine tt (cnd_f _ _) ?_ | refine tt w6 ?_ | refine tt w4 ?_ | refine tt w5 ?_ | refine tt w7 ?_ | refine tt wm ?_ | refine tt wo ?_ | refine tt wx ?_ | refine tt nil_ptr ?_ | refine tt len_lst ?_ | refine tt len_zsl ?_
    exact ask9 40 s b i x _ kN kR H h1 h2
  | 1, _ =>
    refine Eq.trans (pl_f rfl) ?_
    refine Eq.trans (pl_len rfl) ?_
    refine Eq.trans (pl_tup (s15 36 x hx) (by rfl)) ?_
    repeat with_reducible first | refine tt sh_ptr ?_ | refine tt sh_fptr ?_ | refine tt w2 ?_ | refine tt w3 ?_ | refine tt w8 ?_ | refine tt w9 ?_ | refine tt wf ?_ | refine tt wg ?_ | refine tt wh ?_ | refine tt wi ?_ | refine tt wj ?_ | refine tt wk ?_ | refine tt wl ?_ | refine tt wn ?_ | refine tt c_ort ?_ | refine tt c_nt ?_ | refine tt c_nf ?_ | refine tt (cnd_t _ _) ?_ | refine tt (cnd_f _ _) ?_ | refine tt w6 ?_ | refine tt w4 ?_ | refine tt w5 ?_ | refine tt w7 ?_ | refine tt wm ?_ | refine tt wo ?_ | refine tt wx ?_ | refine tt nil_ptr ?_ | refine tt len_lst ?_ | refine tt len_zsl ?_
    exact ask9 40 s b i x _ kN kR H h1 h2
  | 2, _ =>
    refine Eq.trans (pl_f rfl) ?_
    refine Eq.trans (pl_f rfl) ?_
    refine Eq.trans (pl_tup (s20 36 x hx) (by rfl)) ?_
    repeat with_reducible first | refine tt sh_ptr ?_ | refine tt sh_fptr ?_ | refine tt w2 ?_ | refine tt w3 ?_ | refine tt w8 ?_ | refine tt w9 ?_ | refine tt wf ?_ | refine tt wg ?_ | refine tt wh ?_ | refine tt wi ?_ | refine tt wj ?_ | refine tt wk ?_ | refine tt wl ?_ | refine tt wn ?_ | refine tt c_ort ?_ | refine tt c_nt ?_ | refine tt c_nf ?_ | refine tt (cnd_t _ _) ?_ | refine tt (cnd_f _ _) ?_ | refine tt w6 ?_ | refine tt w4 ?_ | refine tt w5 ?_ | refine tt w7 ?_ | refine tt wm ?_ | refine tt wo ?_ | refine tt wx ?_ | refine tt nil_ptr ?_ | refine tt len_lst ?_ | refine tt len_zsl ?_
    exact ask9 40 s b i x _ kN kR H h1 h2
theorem ask7 (k : Nat) (hk : k < 3) (s : List UInt8) (b : Bool) (x y : List UInt8) (hx : x.length < 1000000000000000000) (hy : y.length < 1000000000000000000) (kN : Int → Heap → Ans) (kR : Bool → Heap → Ans) (H : Heap) (u : Nat) (F : Nat)
    (hu : hget H u = some ⟨E9, [.str x, .str y]⟩) (h1 : x = s → b = false ∧ cdF k x = 0) (h2 : x ≠ s → cdF k x ≠ 0) (h3 : y ≠ s) (h4 : cdF k y ≠ 0) :
    L6_7 40 ((k : Nat) : Int) s b (.slc u 0 2) 2 kN kR (F + 3) 0 H = kN (IntKind.wrap .i64 (((k : Nat) : Int) + 1)) H := by
  rw [L6_7_s, decide_eq_true (by omega), cnd_t]
  refine Eq.trans (ix_slc (b := ⟨E9, [.str x, .str y]⟩) hu (by omega) (by omega) rfl) ?_
  refine Eq.trans (ld_ptr (b := ⟨E9, [.str x, .str y]⟩) (v := .str x) hu rfl rfl) ?_
  refine Eq.trans (pl_str rfl) ?_
  rw [ask8 k hk s b _ x hx _ _ H h1 h2]
  show L6_7 40 ((k : Nat) : Int) s b (.slc u 0 2) 2 kN kR (F + 2) 1 H = _
  rw [L6_7_s, decide_eq_true (by omega), cnd_t]
  refine Eq.trans (ix_slc (b := ⟨E9, [.str x, .str y]⟩) hu (by omega) (by omega) rfl) ?_
  refine Eq.trans (ld_ptr (b := ⟨E9, [.str x, .str y]⟩) (v := .str y) hu rfl rfl) ?_
  refine Eq.trans (pl_str rfl) ?_
  rw [ask8 k hk s b _ y hy _ _ H (fun c => absurd c h3) (fun _ => h4)]
  show L6_7 40 ((k : Nat) : Int) s b (.slc u 0 2) 2 kN kR (F + 1) 2 H = _
  rw [L6_7_s, decide_eq_false (by omega), cnd_f]
  rfl
/-! Bits -/
theorem b2sL_bytes : ∀ s : List UInt8, b2sL (bytesAV s) = some s
  | [] => rfl
  | b :: s => by
    show (match b2sL (bytesAV s) with | some s => some (UInt8.ofNat ((b.toNat : Int)).toNat :: s) | none => none) = _
    rw [b2sL_bytes s]
    simp
theorem b2s_h {H : Heap} {id : Nat} {e : ETy} {s : List UInt8} {n : Nat} {K : AV → Heap → Ans} (h : hget H id = some ⟨e, bytesAV s⟩) (hn : n = s.length) : C0.hop H (.b2s (.v (.slc id 0 n))) K = K (.str s) H := hop_eq (by
  subst hn
  have : elsOf H (.slc id 0 s.length) = some (bytesAV s) := by
    show (match hget H id with | some b => if 0 + s.length ≤ b.els.length then some ((b.els.drop 0).take s.length) else none | none => none) = _
    rw [h]
    have hl : (bytesAV s).length = s.length := by simp [bytesAV]
    simp only [List.drop_zero, Nat.zero_add]
    rw [if_pos (by rw [hl]; exact Nat.le_refl _), List.take_of_length_le (by rw [hl]; exact Nat.le_refl _)]
  simp only [aop, evO, this, b2sL_bytes])
theorem bit_one (x : BitVec 32) (i : Nat) (hi : i < 32) : ((Go.bits .and .u32 (Int.fdiv (w32 x) (2 ^ (min (Int.toNat ((i : Nat) : Int)) 32))) 1) == 1) = x.toNat.testBit i := by
  have e : Int.fdiv (w32 x) (2 ^ (min (Int.toNat ((i : Nat) : Int)) 32)) = w32 (x >>> i) := by
    show Int.fdiv (x.toNat : Int) _ = ((x >>> i).toNat : Int)
    have : (2 : Int) ^ (min (Int.toNat ((i : Nat) : Int)) 32) = ((2 ^ i : Nat) : Int) := by
      rw [show min (Int.toNat ((i : Nat) : Int)) 32 = i by omega]; exact (Int.natCast_pow 2 i).symm
    rw [this, Int.fdiv_eq_ediv_of_nonneg _ (Int.natCast_nonneg _), BitVec.toNat_ushiftRight, Nat.shiftRight_eq_div_pow]; rfl
  have k : x.toNat.testBit i = (x >>> i).getLsbD 0 := by rw [BitVec.getLsbD_ushiftRight]; rfl
  rw [e, k, show (1 : Int) = w32 1#32 from rfl, u32_and, lsb]
  have : ((x >>> i) &&& 1#32).toNat = (x >>> i).toNat % 2 := by rw [BitVec.toNat_and]; exact Nat.and_one_is_mod _
  rw [this]
  by_cases h : (x >>> i).toNat % 2 = 1
  · rw [h, decide_eq_true rfl]; rfl
  · have h0 : (x >>> i).toNat % 2 = 0 := by omega
    rw [h0, decide_eq_false (by omega)]; rfl
theorem lo_mask : ∀ r : Fin 8, IntKind.wrap .u8 (1 * (2 ^ (min (Int.toNat ((r.val : Nat) : Int)) 8))) = (((UInt8.ofNat (2 ^ r.val)).toNat : Nat) : Int) := by decide
theorem u8_xorN {a b : Nat} (ha : a < 256) (hb : b < 256) : Go.bits .xor .u8 (a : Int) (b : Int) = ((a ^^^ b : Nat) : Int) := by
  show IntKind.u8.wrap ((BitVec.ofInt 8 (a : Int) ^^^ BitVec.ofInt 8 (b : Int)).toNat : Int) = _
  have e : IntKind.u8.wrap = fun n => n % 256 := by funext n; simp [IntKind.wrap, IntKind.bits, IntKind.signed]
  rw [BitVec.ofInt_natCast, BitVec.ofInt_natCast, BitVec.toNat_xor, BitVec.toNat_ofNat, BitVec.toNat_ofNat, Nat.mod_eq_of_lt ha, Nat.mod_eq_of_lt hb, e]
  have := Nat.xor_lt_two_pow (n := 8) ha hb
  simp only
  omega
theorem xor_u8 (a b : UInt8) : Go.bits .xor .u8 (a.toNat : Int) (b.toNat : Int) = ((a ^^^ b).toNat : Int) := by
  rw [u8_xorN a.toNat_lt b.toNat_lt, UInt8.toNat_xor]
theorem set_bytes (s : List UInt8) (q : Nat) (b : UInt8) : (bytesAV s).set q (.int .u8 (b.toNat : Int)) = bytesAV (s.set q b) := by simp [bytesAV, List.map_set]
theorem byte_ge {s : List UInt8} {q : Nat} (h : q < s.length) : (bytesAV s)[q]? = some (.int .u8 ((s.getD q 0).toNat : Int)) := by rw [bytes_at h, List.getD_eq_getElem?_getD, List.getElem?_eq_getElem h]; rfl
theorem mod_nat (a : Int) (m : Nat) (h : 1 ≤ m) (h' : m ≤ 1000) : ∃ f : Nat, IntKind.wrap .i64 (Int.tmod (IntKind.wrap .u64 a) ((m : Nat) : Int)) = ((f : Nat) : Int) ∧ f < m := by
  rw [u64w, Int.tmod_eq_emod_of_nonneg (by omega)]
  have k1 := Int.emod_nonneg (a % 18446744073709551616) (show ((m : Nat) : Int) ≠ 0 by omega)
  have k2 := Int.emod_lt_of_pos (a % 18446744073709551616) (show (0 : Int) < ((m : Nat) : Int) by omega)
  rw [i64_small (by omega) (by omega)]
  exact ⟨(a % 18446744073709551616 % ((m : Nat) : Int)).toNat, by omega, by omega⟩
/-- Two texts in memory, and the three printed ones. -/
structure P3 (R : List AV) (u v : Nat) (B C : List UInt8) (H : Heap) : Prop where
  r : hget H 2 = some ⟨E9, R⟩
  b : hget H u = some ⟨E5, bytesAV B⟩
  c : hget H v = some ⟨E5, bytesAV C⟩
theorem flip_step {H : Heap} {u : Nat} {B : List UInt8} {k : Nat} {K : AV → Heap → Ans} (hb : hget H u = some ⟨E5, bytesAV B⟩) (hk : k < 8 * B.length) {q r : Int} (hq : q = ((k / 8 : Nat) : Int)) (hr : r = ((k % 8 : Nat) : Int)) {n : Nat} (hn : n = B.length) :
    (C0.hop H (.ixAS .any 1 (.v (.slc u 0 n)) (.v (.int .i64 q))) fun v328 h329 =>
      C0.hop h329 (.load false 1 (.v v328)) fun v330 h331 =>
      C0.int .u8 (some v330) fun x332 =>
      cnd (decide (r < 0))
       (none)
       (C0.hop h331 (.ixAS .any 1 (.v (.slc u 0 n)) (.v (.int .i64 q))) fun v333 h334 =>
        C0.hop h334 (.store 1 (.v v333) (.v (.int .u8 (bits .xor .u8 x332 (IntKind.wrap .u8 (1 * (2 ^ (min (Int.toNat r) 8)))))))) K)) = K .undef (H.set u (some ⟨E5, bytesAV (flip B k)⟩)) := by
  subst hq hr hn
  have q8 : k / 8 < B.length := by omega
  have m2 := lo_mask ⟨k % 8, Nat.mod_lt _ (by decide)⟩
  simp only at m2
  rw [m2]
  refine Eq.trans (ix_slc (b := ⟨E5, bytesAV B⟩) hb (by omega) (by omega) rfl) ?_
  refine Eq.trans (ld_ptr (b := ⟨E5, bytesAV B⟩) (v := .int .u8 ((B.getD (k / 8) 0).toNat : Int)) hb (by rw [Nat.zero_add, Int.toNat_natCast]; exact byte_ge q8) rfl) ?_
  refine Eq.trans (pl_int rfl) ?_
  rw [decide_eq_false (by omega), cnd_f]
  refine Eq.trans (ix_slc (b := ⟨E5, bytesAV B⟩) hb (by omega) (by omega) rfl) ?_
  rw [xor_u8]
  refine Eq.trans (st_ptr (b := ⟨E5, bytesAV B⟩) (el := .int .u8 ((B.getD (k / 8) 0).toNat : Int)) (el' := .int .u8 ((B.getD (k / 8) 0 ^^^ UInt8.ofNat (2 ^ (k % 8))).toNat : Int)) hb (by rw [Nat.zero_add, Int.toNat_natCast]; exact byte_ge q8) rfl) ?_
  rw [Nat.zero_add, Int.toNat_natCast, set_bytes]
  rfl
theorem p3_b {R : List AV} {u v : Nat} {B B' C : List UInt8} {H : Heap} (h : P3 R u v B C H) (h2 : 2 < u) (huv : u ≠ v) : P3 R u v B' C (H.set u (some ⟨E5, bytesAV B'⟩)) :=
  ⟨by rw [hget_set_ne (by omega)]; exact h.r, hget_set (hg_lt h.b), by rw [hget_set_ne huv]; exact h.c⟩
theorem p3_c {R : List AV} {u v : Nat} {B C C' : List UInt8} {H : Heap} (h : P3 R u v B C H) (h2 : 2 < v) (huv : u ≠ v) : P3 R u v B C' (H.set v (some ⟨E5, bytesAV C'⟩)) :=
  ⟨by rw [hget_set_ne (by omega)]; exact h.r, by rw [hget_set_ne (Ne.symm huv)]; exact h.b, hget_set (hg_lt h.c)⟩
theorem len4 {p s : List UInt8} (hs : s = sealF p) (hp : p.length ≤ 10) : IntKind.wrap .i64 (8 * (IntKind.wrap .i64 (((s.length : Nat) : Int) - 4))) = ((8 * p.length : Nat) : Int) := by
  have := congrArg List.length hs
  rw [sealF_len] at this
  rw [i64_small (n := ((s.length : Nat) : Int) - 4) (by omega) (by omega), i64_small (by omega) (by omega)]; omega
section
variable (a : Int) (x : BitVec 32) (p s : List UInt8) (hs : s = sealF p) (hp1 : 1 ≤ p.length) (hp : p.length ≤ 10) (f : Nat) (hf8 : f < 8 * p.length)
  (hf : IntKind.wrap .i64 (Int.tmod (IntKind.wrap .u64 a) ((8 * p.length : Nat) : Int)) = ((f : Nat) : Int)) (R : List AV) (u v : Nat) (hu : 2 < u) (hv : 2 < v) (huv : u ≠ v) (kd : Int) (kN : Int → Heap → Ans) (kR : Bool → Heap → Ans)
include hs hp1 hp hf8 hf hu hv huv
theorem turn_go : ∀ (k i : Nat), i + k = 32 → ∀ F, k < F → ∀ H, P3 R u v (turned s f (8 * p.length) x.toNat i) s H →
    ∃ H', P3 R u v (turned s f (8 * p.length) x.toNat 32) s H' ∧
      L6_2 40 a (w32 x) kd s (.slc u 0 s.length) (.slc v 0 s.length) kN kR F (anyT f (8 * p.length) x.toNat i) ((i : Nat) : Int) H = X6_2_0 40 a (w32 x) kd s (.slc u 0 s.length) (.slc v 0 s.length) kN kR (anyT f (8 * p.length) x.toNat 32) H'
  | 0, i, h, F + 1, _, H, hP => by
    have _ := hv
    have : i = 32 := by omega
    subst this
    refine ⟨H, hP, ?_⟩
    rw [L6_2_s, decide_eq_false (by omega), cnd_f]
  | k + 1, i, h, F + 1, hF, H, hP => by
    have e8 := len4 hs hp
    have hsl : s.length = p.length + 4 := by rw [hs, sealF_len]
    have e8u : IntKind.wrap .u64 ((8 * p.length : Nat) : Int) = ((8 * p.length : Nat) : Int) := u64_small (by omega) (by omega)
    have ek : IntKind.wrap .i64 (((f : Nat) : Int) + ((i : Nat) : Int)) = ((f + i : Nat) : Int) := by rw [i64_small (by omega) (by omega)]; omega
    have eq : IntKind.wrap .i64 (Int.tdiv ((f + i : Nat) : Int) 8) = (((f + i) / 8 : Nat) : Int) := by rw [Int.tdiv_eq_ediv_of_nonneg (by omega), i64_small (by omega) (by omega)]; omega
    have er : Int.tmod ((f + i : Nat) : Int) 8 = (((f + i) % 8 : Nat) : Int) := by rw [Int.tmod_eq_emod_of_nonneg (by omega)]; omega
    rw [L6_2_s, decide_eq_true (by omega), cnd_t, L6_3_s, L6_4_s, decide_eq_false (by omega), cnd_f, bit_one x i (by omega)]
    unfold X6_4_0 X6_3_0
    rw [i64_up (by omega)]
    simp only [e8, e8u, hf, ek, eq, er]
    by_cases hc : x.toNat.testBit i = true ∧ f + i < 8 * p.length
    · obtain ⟨c1, c2⟩ := hc
      have t32 : turned s f (8 * p.length) x.toNat (i + 1) = flip (turned s f (8 * p.length) x.toNat i) (f + i) := if_pos ⟨c1, c2⟩
      have n32 : anyT f (8 * p.length) x.toNat (i + 1) = true := if_pos ⟨c1, c2⟩
      have hl := turned_len s f (8 * p.length) x.toNat i
      rw [c1, cnd_t, decide_eq_true (by omega), cnd_t]
      obtain ⟨H', h1, h2⟩ := turn_go k (i + 1) (by omega) F (by omega) (H.set u (some ⟨E5, bytesAV (flip (turned s f (8 * p.length) x.toNat i) (f + i))⟩)) (by rw [t32]; exact p3_b hP hu huv)
      refine ⟨H', h1, ?_⟩
      rw [n32] at h2
      rw [← h2]
      exact flip_step hP.b (by omega) rfl rfl hl.symm
    · have t32 : turned s f (8 * p.length) x.toNat (i + 1) = turned s f (8 * p.length) x.toNat i := if_neg hc
      have n32 : anyT f (8 * p.length) x.toNat (i + 1) = anyT f (8 * p.length) x.toNat i := if_neg hc
      obtain ⟨H', h1, h2⟩ := turn_go k (i + 1) (by omega) F (by omega) H (by rw [t32]; exact hP)
      refine ⟨H', h1, ?_⟩
      rw [n32] at h2
      rw [← h2]
      cases hb : x.toNat.testBit i
      · rw [cnd_f, cnd_f]
      · rw [cnd_t, decide_eq_false (by have : ¬ f + i < 8 * p.length := fun k => hc ⟨hb, k⟩; omega), cnd_f]
theorem behind (k : Nat) (hk : k < 3) (hg : cdF k s = 0) (hgo : ∀ s', cdF k s' = 0 → openF s' p.length = 0) (H : Heap) (hP : P3 R u v (turned s f (8 * p.length) x.toNat 32) s H) :
    ∃ H', hget H' 2 = some ⟨E9, R⟩ ∧ X6_2_0 40 a (w32 x) ((k : Nat) : Int) s (.slc u 0 s.length) (.slc v 0 s.length) kN kR (anyT f (8 * p.length) x.toNat 32) H = kN (((k + 1 : Nat) : Int)) H' := by
  have _ := hf8
  have _ := hf
  have _ := hu
  have hsl : s.length = p.length + 4 := by rw [hs, sealF_len]
  have e8 : IntKind.wrap .u64 (IntKind.wrap .i64 (8 * ((s.length : Nat) : Int))) = ((8 * s.length : Nat) : Int) := by
    rw [i64_small (by omega) (by omega), u64_small (by omega) (by omega)]; omega
  obtain ⟨g, hg1, hg2⟩ := mod_nat a (8 * s.length) (by omega) (by omega)
  have eq : IntKind.wrap .i64 (Int.tdiv ((g : Nat) : Int) 8) = ((g / 8 : Nat) : Int) := by rw [Int.tdiv_eq_ediv_of_nonneg (by omega), i64_small (by omega) (by omega)]; omega
  have er : Int.tmod ((g : Nat) : Int) 8 = ((g % 8 : Nat) : Int) := by rw [Int.tmod_eq_emod_of_nonneg (by omega)]; omega
  have hP2 := p3_c (C' := flip s g) hP hv huv
  refine ⟨H.set v (some ⟨E5, bytesAV (flip s g)⟩) ++ [some ⟨E9, [.str (turned s f (8 * p.length) x.toNat 32), .str (flip s g)]⟩], hget_app hP2.r, ?_⟩
  · unfold X6_2_0
    rw [e8, decide_eq_false (by omega), cnd_f]
    simp only [hg1, eq, er]
    refine Eq.trans (flip_step hP.c hg2 rfl rfl rfl) ?_
    refine Eq.trans (b2s_h hP2.b (turned_len ..).symm) ?_
    refine Eq.trans (pl_str rfl) ?_
    refine Eq.trans (b2s_h hP2.c (flip_len ..).symm) ?_
    refine Eq.trans (pl_str rfl) ?_
    refine Eq.trans (hop_eq (by rfl)) ?_
    refine Eq.trans (len_slc (b := ⟨E9, [.str (turned s f (8 * p.length) x.toNat 32), .str (flip s g)]⟩) hget_new) ?_
    refine Eq.trans (pl_int rfl) ?_
    have e := ask7 k hk s (anyT f (8 * p.length) x.toNat 32) (turned s f (8 * p.length) x.toNat 32) (flip s g) (by rw [turned_len]; omega) (by rw [flip_len]; omega) kN kR (H.set v (some ⟨E5, bytesAV (flip s g)⟩) ++ [some ⟨E9, [.str (turned s f (8 * p.length) x.toNat 32), .str (flip s g)]⟩]) (H.set v (some ⟨E5, bytesAV (flip s g)⟩)).length 999999999999999997 hget_new
      (fun c => ⟨by
        have := turned_ne (s := s) (f := f) (n := 8 * p.length) (t := x.toNat) (m := 32) (by omega)
        cases ha : anyT f (8 * p.length) x.toNat 32
        · rfl
        · exact absurd c (this.mpr ha), by rw [c]; exact hg⟩)
      (fun c h0 => by
        subst hs
        exact turned_bad p f x.toNat c (hgo _ h0)) (flip_ne hg2) (fun h0 => by subst hs; exact flip_bad p g hg2 (hgo _ h0))
    rw [i64_up (by omega)] at e
    exact e
end
theorem round1 (a : Int) (x : BitVec 32) (R : List AV) (k : Nat) (hk : k < 3) (s : List UInt8) (hR : R[k]? = some (.str s)) (hg : Good k s) (H : Heap) (h2 : hget H 2 = some ⟨E9, R⟩) (F : Nat) :
    ∃ H', hget H' 2 = some ⟨E9, R⟩ ∧ L6_1 40 a (w32 x) (.slc 2 0 3) 3 (F + 1) ((k : Nat) : Int) H = L6_1 40 a (w32 x) (.slc 2 0 3) 3 F ((k + 1 : Nat) : Int) H' := by
  obtain ⟨p, hs, hp1, hp, hg1, hg2⟩ := hg
  have hsl : s.length = p.length + 4 := by rw [hs, sealF_len]
  have e8 := len4 hs hp
  have e8u : IntKind.wrap .u64 ((8 * p.length : Nat) : Int) = ((8 * p.length : Nat) : Int) := u64_small (by omega) (by omega)
  obtain ⟨f, hf, hf8⟩ := mod_nat a (8 * p.length) (by omega) (by omega)
  have hlen : 2 < H.length := hg_lt h2
  have hP : P3 R H.length (H ++ [some (⟨E5, bytesAV s⟩ : Blk)]).length s s ((H ++ [some ⟨E5, bytesAV s⟩]) ++ [some ⟨E5, bytesAV s⟩]) := ⟨hget_app (hget_app h2), hget_app hget_new, hget_new⟩
  have hne : H.length ≠ (H ++ [some (⟨E5, bytesAV s⟩ : Blk)]).length := by simp
  have hv : 2 < (H ++ [some (⟨E5, bytesAV s⟩ : Blk)]).length := by simp; omega
  obtain ⟨H1, q1, q2⟩ := turn_go a x p s hs hp1 hp f hf8 hf R H.length (H ++ [some (⟨E5, bytesAV s⟩ : Blk)]).length hlen hv hne ((k : Nat) : Int) (fun x117 H => L6_1 40 a (w32 x) (.slc 2 0 3) 3 F x117 H) (fun b912 H => E6_1 40 a (w32 x) (.slc 2 0 3) 3 b912 H) 32 0 (by omega) 1000000000000000000 (by omega) _ hP
  obtain ⟨H2, q3, q4⟩ := behind a x p s hs hp1 hp f hf8 hf R H.length (H ++ [some (⟨E5, bytesAV s⟩ : Blk)]).length hlen hv hne (fun x117 H => L6_1 40 a (w32 x) (.slc 2 0 3) 3 F x117 H) (fun b912 H => E6_1 40 a (w32 x) (.slc 2 0 3) 3 b912 H) k hk hg1 hg2 H1 q1
  refine ⟨H2, q3, ?_⟩
  rw [L6_1_s, decide_eq_true (by omega), cnd_t]
  refine Eq.trans (ix_slc (b := ⟨E9, R⟩) h2 (by omega) (by omega) rfl) ?_
  refine Eq.trans (ld_ptr (b := ⟨E9, R⟩) (v := .str s) h2 (by rw [Nat.zero_add, Int.toNat_natCast]; exact hR) rfl) ?_
  refine Eq.trans (pl_str rfl) ?_
  rw [e8, e8u, decide_eq_false (by omega), cnd_f]
  refine Eq.trans s2b_h ?_
  refine Eq.trans s2b_h ?_
  exact q2.trans q4
theorem s13 (d : Nat) (x : Wrd) : pcall M (d + 1) 13 [wr x] = some (wr x) := told (r13 C0 d _ _ _ _) rfl
theorem s18 (d : Nat) (x : Rep7) : pcall M (d + 1) 18 [rp x] = some (rp x) := told (r18 C0 d _ _ _ _ _ _ _ _ _) rfl
theorem bits_law (w : Wrd) (r : Rep7) (c a : Int) (x : BitVec 32) : pcall M 41 6 [wr w, rp r, .int .i64 c, .int .i64 a, .int .u32 (w32 x)] = some (.bool true) := told (q6 40 _ _ _ _ _ _ _ _ _ _ _ _ _ _ _ _) (by
  refine Eq.trans (hop_eq (by rfl)) ?_
  refine Eq.trans (hop_eq (by rfl)) ?_
  rw [L6_0_s]
  refine Eq.trans (pl_bool awake) ?_
  refine Eq.trans (pl_f (by rfl)) ?_
  refine Eq.trans (hop_eq (by rfl)) ?_
  refine Eq.trans (pl_agg (by rfl) (by rfl)) ?_
  repeat with_reducible first | refine tt sh_ptr ?_ | refine tt sh_fptr ?_ | refine tt w2 ?_ | refine tt w3 ?_ | refine tt w8 ?_ | refine tt w9 ?_ | refine tt wf ?_ | refine tt wg ?_ | refine tt wh ?_ | refine tt wi ?_ | refine tt wj ?_ | refine tt wk ?_ | refine tt wl ?_ | refine tt wn ?_ | refine tt c_ort ?_ | refine tt c_nt ?_ | refine tt c_nf ?_ | refine tt (cnd_t _ _) ?_ | refine tt (cnd_f _ _) ?_ | refine tt w6 ?_ | refine tt w4 ?_ | refine tt w5 ?_ | refine tt w7 ?_ | refine tt wm ?_ | refine tt wo ?_ | refine tt wx ?_ | refine tt nil_ptr ?_ | refine tt len_lst ?_ | refine tt len_zsl ?_
  refine Eq.trans (pl_agg (s13 39 w) (by rfl)) ?_
  repeat with_reducible first | refine tt sh_ptr ?_ | refine tt sh_fptr ?_ | refine tt w2 ?_ | refine tt w3 ?_ | refine tt w8 ?_ | refine tt w9 ?_ | refine tt wf ?_ | refine tt wg ?_ | refine tt wh ?_ | refine tt wi ?_ | refine tt wj ?_ | refine tt wk ?_ | refine tt wl ?_ | refine tt wn ?_ | refine tt c_ort ?_ | refine tt c_nt ?_ | refine tt c_nf ?_ | refine tt (cnd_t _ _) ?_ | refine tt (cnd_f _ _) ?_ | refine tt w6 ?_ | refine tt w4 ?_ | refine tt w5 ?_ | refine tt w7 ?_ | refine tt wm ?_ | refine tt wo ?_ | refine tt wx ?_ | refine tt nil_ptr ?_ | refine tt len_lst ?_ | refine tt len_zsl ?_
  refine Eq.trans (pl_bool (s23 38 w)) ?_
  have out : ∀ H, X6_0_0 40 c a (w32 x) (.ptr 0 0 0) (.ptr 1 0 0) true H = some (.bool true) := by
    intro H
    unfold X6_0_0
    rw [cnd_t]
    exact Eq.trans (pl_bool awake) fin_b
  by_cases hw : WordOk w
  rotate_left
  · rw [decide_eq_false hw]
    exact out _
  rw [decide_eq_true hw]
  refine Eq.trans (pl_f (by rfl)) ?_
  refine Eq.trans (hop_eq (by rfl)) ?_
  refine Eq.trans (pl_agg (by rfl) (by rfl)) ?_
  repeat with_reducible first | refine tt sh_ptr ?_ | refine tt sh_fptr ?_ | refine tt w2 ?_ | refine tt w3 ?_ | refine tt w8 ?_ | refine tt w9 ?_ | refine tt wf ?_ | refine tt wg ?_ | refine tt wh ?_ | refine tt wi ?_ | refine tt wj ?_ | refine tt wk ?_ | refine tt wl ?_ | refine tt wn ?_ | refine tt c_ort ?_ | refine tt c_nt ?_ | refine tt c_nf ?_ | refine tt (cnd_t _ _) ?_ | refine tt (cnd_f _ _) ?_ | refine tt w6 ?_ | refine tt w4 ?_ | refine tt w5 ?_ | refine tt w7 ?_ | refine tt wm ?_ | refine tt wo ?_ | refine tt wx ?_ | refine tt nil_ptr ?_ | refine tt len_lst ?_ | refine tt len_zsl ?_
  refine Eq.trans (pl_agg (s18 39 r) (by rfl)) ?_
  repeat with_reducible first | refine tt sh_ptr ?_ | refine tt sh_fptr ?_ | refine tt w2 ?_ | refine tt w3 ?_ | refine tt w8 ?_ | refine tt w9 ?_ | refine tt wf ?_ | refine tt wg ?_ | refine tt wh ?_ | refine tt wi ?_ | refine tt wj ?_ | refine tt wk ?_ | refine tt wl ?_ | refine tt wn ?_ | refine tt c_ort ?_ | refine tt c_nt ?_ | refine tt c_nf ?_ | refine tt (cnd_t _ _) ?_ | refine tt (cnd_f _ _) ?_ | refine tt w6 ?_ | refine tt w4 ?_ | refine tt w5 ?_ | refine tt w7 ?_ | refine tt wm ?_ | refine tt wo ?_ | refine tt wx ?_ | refine tt nil_ptr ?_ | refine tt len_lst ?_ | refine tt len_zsl ?_
  refine Eq.trans (pl_bool (s24 38 r)) ?_
  by_cases hr : RepOk r
  rotate_left
  · rw [decide_eq_false hr]
    exact out _
  rw [decide_eq_true hr]
  unfold X6_0_0
  refine Eq.trans (pl_f (by rfl)) ?_
  refine Eq.trans (hop_eq (by rfl)) ?_
  refine Eq.trans (pl_agg (by rfl) (by rfl)) ?_
  repeat with_reducible first | refine tt sh_ptr ?_ | refine tt sh_fptr ?_ | refine tt w2 ?_ | refine tt w3 ?_ | refine tt w8 ?_ | refine tt w9 ?_ | refine tt wf ?_ | refine tt wg ?_ | refine tt wh ?_ | refine tt wi ?_ | refine tt wj ?_ | refine tt wk ?_ | refine tt wl ?_ | refine tt wn ?_ | refine tt c_ort ?_ | refine tt c_nt ?_ | refine tt c_nf ?_ | refine tt (cnd_t _ _) ?_ | refine tt (cnd_f _ _) ?_ | refine tt w6 ?_ | refine tt w4 ?_ | refine tt w5 ?_ | refine tt w7 ?_ | refine tt wm ?_ | refine tt wo ?_ | refine tt wx ?_ | refine tt nil_ptr ?_ | refine tt len_lst ?_ | refine tt len_zsl ?_
  refine Eq.trans (pl_str (s9 36 w)) ?_
  refine Eq.trans (hop_eq (by rfl)) ?_
  refine Eq.trans (pl_agg (by rfl) (by rfl)) ?_
  repeat with_reducible first | refine tt sh_ptr ?_ | refine tt sh_fptr ?_ | refine tt w2 ?_ | refine tt w3 ?_ | refine tt w8 ?_ | refine tt w9 ?_ | refine tt wf ?_ | refine tt wg ?_ | refine tt wh ?_ | refine tt wi ?_ | refine tt wj ?_ | refine tt wk ?_ | refine tt wl ?_ | refine tt wn ?_ | refine tt c_ort ?_ | refine tt c_nt ?_ | refine tt c_nf ?_ | refine tt (cnd_t _ _) ?_ | refine tt (cnd_f _ _) ?_ | refine tt w6 ?_ | refine tt w4 ?_ | refine tt w5 ?_ | refine tt w7 ?_ | refine tt wm ?_ | refine tt wo ?_ | refine tt wx ?_ | refine tt nil_ptr ?_ | refine tt len_lst ?_ | refine tt len_zsl ?_
  refine Eq.trans (pl_str (s14 36 r)) ?_
  refine Eq.trans (pl_str (s19 37 _)) ?_
  have hc : ∃ c', IntKind.wrap .i64 (1 + (IntKind.wrap .i64 (Int.tmod (IntKind.wrap .u64 c) 3))) = c' ∧ 1 ≤ c' ∧ c' ≤ 3 := by
    refine ⟨_, rfl, ?_⟩
    rw [u64w, Int.tmod_eq_emod_of_nonneg (by omega), i64_small (n := c % 18446744073709551616 % 3) (by omega) (by omega), i64_small (by omega) (by omega)]
    omega
  obtain ⟨c', e, c1, c2⟩ := hc
  rw [e]
  refine Eq.trans (hop_eq (by rfl)) ?_
  refine Eq.trans (hop_eq (by rfl)) ?_
  refine Eq.trans (pl_int rfl) ?_
  suffices go : ∀ H, hget H 2 = some ⟨E9, [.str (printW w), .str (printR r), .str (printC c')]⟩ → L6_1 40 a (w32 x) (.slc 2 0 3) 3 1000000000000000000 ((0 : Nat) : Int) H = some (.bool true) from go _ rfl
  intro H0 h0
  obtain ⟨F, hF⟩ : ∃ F : Nat, 1000000000000000000 = F + 4 := ⟨999999999999999996, rfl⟩
  rw [hF]
  obtain ⟨H1, p1, q1⟩ := round1 a x [.str (printW w), .str (printR r), .str (printC c')] 0 (by decide) (printW w) rfl (good_W hw) H0 h0 (F + 3)
  obtain ⟨H2, p2, q2⟩ := round1 a x [.str (printW w), .str (printR r), .str (printC c')] 1 (by decide) (printR r) rfl (good_R hr) H1 p1 (F + 2)
  obtain ⟨H3, p3, q3⟩ := round1 a x [.str (printW w), .str (printR r), .str (printC c')] 2 (by decide) (printC c') rfl (good_C c1 c2) H2 p2 (F + 1)
  refine q1.trans (q2.trans (q3.trans ?_))
  rw [L6_1_s]
  refine Eq.trans (pl_f (by rfl)) ?_
  exact fin_b)
theorem w32_of {n : Int} (h : (Lit.int .u32 n).wf = true) : ∃ x : BitVec 32, n = w32 x := by
  have h2 : 0 ≤ n ∧ n < 4294967296 := by
    have e1 : IntKind.u32.min = 0 := rfl
    have e2 : IntKind.u32.max = 4294967295 := rfl
    simp [Lit.wf, e1, e2] at h; omega
  refine ⟨BitVec.ofNat 32 n.toNat, ?_⟩
  show n = ((BitVec.ofNat 32 n.toNat).toNat : Int)
  rw [BitVec.toNat_ofNat]; omega
theorem law_PeerBits (a0_0 : Int) (a0_1 : Int) (a0_2 : Int) (a0_3 : Int) (a1_0 : Int) (a1_1 : Int) (a1_2 : Int) (a1_3 : Int) (a1_4 : Int) (a1_5 : Int) (a1_6 : Int) (a1_7 : Int) (a1_8 : Int) (a2 : Int) (a3 : Int) (a4 : Int) (w0_0 : (Lit.int .i64 a0_0).wf = true) (w0_1 : (Lit.int .i64 a0_1).wf = true) (w0_2 : (Lit.int .i64 a0_2).wf = true) (w0_3 : (Lit.int .i64 a0_3).wf = true) (w1_0 : (Lit.int .i64 a1_0).wf = true) (w1_1 : (Lit.int .i64 a1_1).wf = true) (w1_2 : (Lit.int .i64 a1_2).wf = true) (w1_3 : (Lit.int .i64 a1_3).wf = true) (w1_4 : (Lit.int .i64 a1_4).wf = true) (w1_5 : (Lit.int .i64 a1_5).wf = true) (w1_6 : (Lit.int .i64 a1_6).wf = true) (w1_7 : (Lit.int .i64 a1_7).wf = true) (w1_8 : (Lit.int .i64 a1_8).wf = true) (w2 : (Lit.int .i64 a2).wf = true) (w3 : (Lit.int .i64 a3).wf = true) (w4 : (Lit.int .u32 a4).wf = true) :
    pcall M 41 6 [.agg [.int .i64 a0_0, .int .i64 a0_1, .int .i64 a0_2, .int .i64 a0_3], .agg [.int .i64 a1_0, .int .i64 a1_1, .int .i64 a1_2, .int .i64 a1_3, .int .i64 a1_4, .int .i64 a1_5, .int .i64 a1_6, .int .i64 a1_7, .int .i64 a1_8], .int .i64 a2, .int .i64 a3, .int .u32 a4] = some (.bool true) := by
  obtain ⟨x, rfl⟩ := w32_of w4
  exact bits_law ⟨a0_0, a0_1, a0_2, a0_3⟩ ⟨a1_0, a1_1, a1_2, a1_3, a1_4, a1_5, a1_6, a1_7, a1_8⟩ a2 a3 x
end Go.Proofs.Ytoceckjagfhfmaa.AE

namespace Go.Proofs.Ytoceckjagfhfmaa.AE
set_option linter.unusedVariables false
set_option linter.unusedSimpArgs false
set_option linter.constructorNameAsVariable false
open Go Go.RowKit

theorem frl_nil {w : World} {bad : Nat → Prop} : ∀ (i : Nat) (c : AV) (u : Value), ([] : List AV)[i]? = some c → ([] : List Value)[i]? = some u → FRep w bad c u := fun _ _ _ h => by cases h
theorem frl_cons {w : World} {bad : Nat → Prop} {c0 : AV} {u0 : Value} {cs : List AV} {us : List Value} (h0 : FRep w bad c0 u0) (h : ∀ (i : Nat) (c : AV) (u : Value), cs[i]? = some c → us[i]? = some u → FRep w bad c u) :
    ∀ (i : Nat) (c : AV) (u : Value), (c0 :: cs)[i]? = some c → (u0 :: us)[i]? = some u → FRep w bad c u
  | 0, c, u, hc, hu => by cases hc; cases hu; exact h0
  | i + 1, c, u, hc, hu => h i c u hc hu
theorem law_calls {d : Nat} {g : FuncId} {args : List AV} {vs : List Value} (h : pcall M d g args = some (.bool true)) (W : World) (hl : args.length = vs.length)
    (hr : ∀ (i : Nat) (c : AV) (u : Value), args[i]? = some c → vs[i]? = some u → FRep W (fun _ => False) c u) (hc : (cFn Try.prog g).isSome = true := by kernel_rfl) : Calls Try.prog g vs.toArray W fun e W' => e = .returned (.bool true) ∧ Below W.heap.size W W' := by
  obtain ⟨fn, hfn⟩ := Option.isSome_iff_exists.mp hc
  rcases pcall_law modOK d g args _ h W (fun _ => False) vs (fun _ h => h.elim) hl hr with ⟨cv, w', h1, _⟩ | ⟨_, h2⟩
  · rw [enter_run hfn] at h1; cases h1
  · refine h2.mono ?_
    rintro e W' ⟨cv, rfl, hf, hb⟩
    cases hf
    exact ⟨rfl, hb⟩
end Go.Proofs.Ytoceckjagfhfmaa.AE
