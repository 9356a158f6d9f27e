/- Own memory that is not told: rules. No conditions. -/
import Derived.Test.YtbcbaidnamebkaaAEsymL
namespace Go.Proofs.Ytbcbaidnamebkaa.AE
set_option linter.unusedVariables false
set_option linter.unusedSimpArgs false
set_option linter.constructorNameAsVariable false
open Go

theorem hg_lt {H : Heap} {id : Nat} {b : Blk} (h : hget H id = some b) : id < H.length := by
  unfold hget at h
  rcases Nat.lt_or_ge id H.length with h1 | h1
  · exact h1
  · rw [List.getElem?_eq_none h1] at h; cases h
theorem hget_app {H l : Heap} {id : Nat} {b : Blk} (h : hget H id = some b) : hget (H ++ l) id = some b := by
  have := hg_lt h
  unfold hget at *
  rw [List.getElem?_append_left this]; exact h
theorem hget_new {H : Heap} {b : Blk} : hget (H ++ [some b]) H.length = some b := by unfold hget; simp
theorem hget_set {H : Heap} {id : Nat} {b : Blk} (h : id < H.length) : hget (H.set id (some b)) id = some b := by unfold hget; simp [h]
theorem hget_set_ne {H : Heap} {id id' : Nat} {x : Option Blk} (h : id ≠ id') : hget (H.set id x) id' = hget H id' := by unfold hget; rw [List.getElem?_set_ne h]
/-- A slice that may grow: all of a block of its own, or none. -/
def Own (H : Heap) (e : ETy) (v : AV) (l : List AV) : Prop := (l = [] ∧ ∃ b, v = .zsl b) ∨ ∃ id, v = .slc id 0 l.length ∧ hget H id = some ⟨e, l⟩
/-- It names that memory. -/
def names (v : AV) (id : Nat) : Prop := ∃ o n, v = .slc id o n
theorem own_els {H : Heap} {e : ETy} {v : AV} {l : List AV} (h : Own H e v l) : elsOf H v = some l := by
  rcases h with ⟨rfl, b, rfl⟩ | ⟨id, rfl, h⟩
  · rfl
  · simp [elsOf, h]
theorem own_len {H : Heap} {e : ETy} {v : AV} {l : List AV} (h : Own H e v l) : lenOf H v = some l.length := by
  rcases h with ⟨rfl, b, rfl⟩ | ⟨id, rfl, h⟩
  · rfl
  · simp [lenOf, h]
theorem own_keep {H H' : Heap} {e : ETy} {v : AV} {l : List AV} (h : Own H e v l) (hk : ∀ id b, names v id → hget H id = some b → hget H' id = some b) : Own H' e v l := by
  rcases h with ⟨rfl, b, rfl⟩ | ⟨id, rfl, h⟩
  · exact .inl ⟨rfl, b, rfl⟩
  · exact .inr ⟨id, rfl, hk _ _ ⟨_, _, rfl⟩ h⟩
/-- Onto a slice of one's own. -/
theorem app_own {H : Heap} {e : ETy} {v : AV} {l xs : List AV} {r : AV} (ho : Own H e v l) (hr : elsOf H r = some xs) (hx : xs.all (elOk e) = true) (hs : (l.length + xs.length) * e.bytes ≤ 140737488355328) (hs2 : l.length + xs.length ≤ 9223372036854775807) :
    ∃ v' H', aop noCall (evO []) H (.app e (.v v) (.v r)) = some (v', H') ∧ Own H' e v' (l ++ xs) ∧ v' = .slc H.length 0 (l.length + xs.length) ∧ H'.length = H.length + 1 ∧ ∀ id b, ¬ names v id → hget H id = some b → hget H' id = some b := by
  rcases ho with ⟨rfl, b, rfl⟩ | ⟨id, rfl, h⟩
  · refine ⟨.slc H.length 0 xs.length, H ++ [some ⟨e, xs⟩], ?_, .inr ⟨H.length, by simp, by simp [hget_new]⟩, by simp, by simp, fun id b _ h => hget_app h⟩
    simp only [aop, evO, hr, aApp]
    rw [if_pos ⟨by simpa using hs, by simpa using hs2, hx⟩]
  · have hid := hg_lt h
    have hl : (H.set id none).length = H.length := by simp
    refine ⟨.slc H.length 0 (l.length + xs.length), H.set id none ++ [some ⟨e, l ++ xs⟩], ?_, .inr ⟨H.length, by simp, ?_⟩, rfl, by simp, fun id' b hn h' => ?_⟩
    · simp only [aop, evO, hr, aApp, h]
      rw [if_pos ⟨trivial, hs, hs2, trivial, trivial, hx⟩]
    · rw [← hl]; exact hget_new
    · refine hget_app ?_
      rw [hget_set_ne]; exact h'
      rintro rfl; exact hn ⟨_, _, rfl⟩
/-- One more. -/
theorem app_one {H : Heap} {e : ETy} {v x : AV} {l : List AV} (ho : Own H e v l) (hx : elOk e x = true) (hs : (l.length + 1) * e.bytes ≤ 140737488355328) (hs2 : l.length + 1 ≤ 9223372036854775807) :
    ∃ v' H', (∀ K : AV → Heap → Ans, (C0.hop H (.mkrow e 1 [(0, .v x)]) fun r H1 => C0.hop H1 (.app e (.v v) (.v r)) K) = K v' H') ∧ Own H' e v' (l ++ [x]) ∧ (∀ id, names v' id → H.length < id) ∧ H.length ≤ H'.length ∧ ∀ id b, ¬ names v id → hget H id = some b → hget H' id = some b := by
  have e1 : aop noCall (evO []) H (.mkrow e 1 [(0, .v x)]) = some (.slc H.length 0 1, H ++ [some ⟨e, [x]⟩]) := by
    simp [aop, evO, fillR, hx]
  have ho' : Own (H ++ [some ⟨e, [x]⟩]) e v l := own_keep ho fun id b _ h => hget_app h
  obtain ⟨v', H', h1, h2, h5, h3, h4⟩ := app_own (xs := [x]) (r := .slc H.length 0 1) ho' (by simp [elsOf, hget_new]) (by simp [hx]) (by simpa using hs) (by simpa using hs2)
  refine ⟨v', H', ?_, h2, ?_, by rw [h3]; simp; omega, fun id b hn h => h4 id b hn (hget_app h)⟩
  · intro K; rw [hop_eq e1, hop_eq h1]
  · rintro id ⟨o, n, rfl⟩
    injection h5 with h6
    rw [h6]; simp

/-- An element's place, a look at it, and a store. -/
theorem ix_slc {H : Heap} {id o n es : Nat} {b : Blk} {q : Int} {K : AV → Heap → Ans} (h : hget H id = some b) (h0 : 0 ≤ q) (h1 : q < n) (he : b.e.es = es) :
    C0.hop H (.ixAS .any es (.v (.slc id o n)) (.v (.int .i64 q))) K = K (.ptr id (o + q.toNat) 0) H := hop_eq (by simp [aop, evO, aInt, aIx, h, h0, h1, he])
theorem ix_lst {H : Heap} {l : List AV} {es : Nat} {q : Int} {x : AV} {K : AV → Heap → Ans} (h0 : 0 ≤ q) (hx : l[q.toNat]? = some x) (he : x.cells.length = es) :
    C0.hop H (.ixAS .any es (.v (.lst l)) (.v (.int .i64 q))) K = K (.fptr x 0) H := hop_eq (by simp [aop, evO, aInt, aIx, h0, hx, he])
theorem ld_ptr {H : Heap} {id i j n : Nat} {ag : Bool} {b : Blk} {el v : AV} {K : AV → Heap → Ans} (h : hget H id = some b) (hi : b.els[i]? = some el) (hs : sub ag n j el = some v) :
    C0.hop H (.load ag n (.v (.ptr id i j))) K = K v H := hop_eq (by simp [aop, evO, aLoad, h, hi, hs])
theorem ld_fptr {H : Heap} {x v : AV} {j n : Nat} {ag : Bool} {K : AV → Heap → Ans} (hs : sub ag n j x = some v) :
    C0.hop H (.load ag n (.v (.fptr x j))) K = K v H := hop_eq (by simp [aop, evO, aLoad, hs])
theorem st_ptr {H : Heap} {id i j n : Nat} {b : Blk} {el el' x : AV} {K : AV → Heap → Ans} (h : hget H id = some b) (hi : b.els[i]? = some el) (hs : putSub n j x el = some el') :
    C0.hop H (.store n (.v (.ptr id i j)) (.v x)) K = K .undef (H.set id (some { b with els := b.els.set i el' })) := hop_eq (by simp [aop, evO, aStore, h, hi, hs])
theorem sh_ptr {H : Heap} {id i j d : Nat} {K : AV → Heap → Ans} : C0.hop H (.fldA d (.v (.ptr id i j))) K = K (.ptr id i (j + d)) H := hop_eq rfl
theorem sh_fptr {H : Heap} {x : AV} {j d : Nat} {K : AV → Heap → Ans} : C0.hop H (.fldA d (.v (.fptr x j))) K = K (.fptr x (j + d)) H := hop_eq rfl
theorem len_own {H : Heap} {e : ETy} {v : AV} {l : List AV} {K : AV → Heap → Ans} (h : Own H e v l) : C0.hop H (.bk .lenV [.v v]) K = K (.int .i64 l.length) H := hop_eq (by simp [aop, evO, own_len h])
theorem len_lst {H : Heap} {l : List AV} {K : AV → Heap → Ans} : C0.hop H (.bk .lenV [.v (.lst l)]) K = K (.int .i64 l.length) H := hop_eq rfl
theorem len_zsl {H : Heap} {b : Bool} {K : AV → Heap → Ans} : C0.hop H (.bk .lenV [.v (.zsl b)]) K = K (.int .i64 0) H := hop_eq rfl
theorem nil_ptr {H : Heap} {id i j : Nat} {K : AV → Heap → Ans} : C0.hop H (.nilck (.v (.ptr id i j))) K = K (.ptr id i j) H := hop_eq rfl
theorem snap_own {H : Heap} {e : ETy} {v : AV} {l : List AV} {k : Nat} (ho : Own H e v l) (hf : ∀ x ∈ l, snap (k + 1) H x = x) : snap (k + 2) H v = .lst l := by
  rcases ho with ⟨rfl, b, rfl⟩ | ⟨id, rfl, h⟩
  · rfl
  · simp only [snap, h]
    rw [if_neg (by omega), if_pos (by simp)]
    congr 1
    simp only [List.drop_zero, List.take_length]
    exact (List.map_congr_left hf).trans (List.map_id _)
def iv (l : List Int) : List AV := l.map fun x => .int .i64 x
theorem iv_len (l : List Int) : (iv l).length = l.length := by simp [iv]
theorem iv_app (l m : List Int) : iv (l ++ m) = iv l ++ iv m := by simp [iv]
theorem iv_at (l : List Int) (i : Nat) : (iv l)[i]? = l[i]?.map fun x => .int .i64 x := by simp [iv]
theorem snap_iv {H : Heap} {e : ETy} {v : AV} {l : List Int} (ho : Own H e v (iv l)) : snap 12 H v = .lst (iv l) :=
  snap_own (k := 10) ho fun x hx => by
    unfold iv at hx
    obtain ⟨n, _, rfl⟩ := List.mem_map.mp hx
    rfl
theorem snp_own {H : Heap} {e : ETy} {v : AV} {l : List Int} {K : List AV → Bool → Ans} (ho : Own H e v (iv l)) (hne : l ≠ []) : C0.snp H [v] K = K [.lst (iv l)] false := by
  have hs := snap_iv ho
  rcases ho with ⟨h, _⟩ | ⟨id, rfl, h⟩
  · exact absurd (by simpa [iv] using h) hne
  · rw [snp_id (by rfl)]
    simp only [List.map_cons, List.map_nil]
    rw [show DEPTH = 12 from rfl, hs]
end Go.Proofs.Ytbcbaidnamebkaa.AE
