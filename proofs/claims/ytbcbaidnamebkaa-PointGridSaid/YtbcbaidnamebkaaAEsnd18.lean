/- Regions that draw their order: the law. No conditions. -/
import Derived.Test.YtbcbaidnamebkaaAEsnd17
namespace Go.Proofs.Ytbcbaidnamebkaa.AE
set_option linter.unusedVariables false
set_option linter.unusedSimpArgs false
set_option linter.constructorNameAsVariable false
open Go Go.RowKit

theorem predsOf_len : ∀ (l : List Oper) (acc : List Nat), (predsOf l acc).length = acc.length + l.length
  | [], acc => by simp [predsOf]
  | o :: l, acc => by
    rw [predsOf, predsOf_len l]
    simp; omega
theorem predsOf_old : ∀ (l : List Oper) (acc : List Nat) (k : Nat), k < acc.length → (predsOf l acc).getD k 0 = acc.getD k 0
  | [], acc, k, _ => by simp [predsOf]
  | o :: l, acc, k, h => by
    rw [predsOf, predsOf_old l _ k (by simp; omega)]
    simp only [List.getD_eq_getElem?_getD, List.getElem?_append_left h]

theorem fold_bits (g : Nat → Nat) : ∀ (l : List _) (m i : Nat), (l.foldl (fun m (e : Edge) => if Region.binds .any e then m ||| 2 ^ e.on ||| g e.on else m) m).testBit i = true →
    m.testBit i = true ∨ ∃ e ∈ l, Region.binds .any e = true ∧ (i = e.on ∨ (g e.on).testBit i = true)
  | [], m, i, h => .inl h
  | e :: l, m, i, h => by
    simp only [List.foldl_cons] at h
    rcases fold_bits g l _ i h with h | ⟨e', h1, h2⟩
    · split at h
      · rename_i hb
        simp only [Nat.testBit_or, Bool.or_eq_true, Nat.testBit_two_pow, decide_eq_true_eq] at h
        rcases h with (h | h) | h
        · exact .inl h
        · exact .inr ⟨e, by simp, hb, .inl h.symm⟩
        · exact .inr ⟨e, by simp, hb, .inr h⟩
      · exact .inl h
    · exact .inr ⟨e', by simp [h1], h2⟩

theorem predsOf_bits : ∀ (l : List Oper) (acc : List Nat) (k i : Nat) (o : Oper), l[k]? = some o → ((predsOf l acc).getD (acc.length + k) 0).testBit i = true → ∃ e ∈ o.after.toList, Region.binds .any e = true ∧ (i = e.on ∨ (((predsOf l acc).getD e.on 0).testBit i = true))
  | [], acc, k, i, o, h, _ => by simp at h
  | p :: l, acc, k, i, o, h, hb => by
    rw [predsOf] at hb ⊢
    generalize hx : p.after.toList.foldl (fun m e => if Region.binds .any e then m ||| 2 ^ e.on ||| acc.getD e.on 0 else m) 0 = x at hb
    cases k with
    | zero =>
      simp only [List.getElem?_cons_zero, Option.some.injEq] at h
      subst h
      rw [predsOf_old l _ _ (by simp)] at hb
      have : (acc ++ [x]).getD (acc.length + 0) 0 = x := by simp [List.getD_eq_getElem?_getD]
      rw [this, ← hx] at hb
      rcases fold_bits (fun n => acc.getD n 0) _ _ _ hb with h | ⟨e, h1, h2, h3⟩
      · simp at h
      · refine ⟨e, h1, h2, h3.imp (fun x => x) fun h3 => ?_⟩
        have hlt : e.on < acc.length := by
          rcases Nat.lt_or_ge e.on acc.length with h' | h'
          · exact h'
          · simp [List.getD_eq_getElem?_getD, List.getElem?_eq_none h'] at h3
        rw [predsOf_old l _ _ (by simp; omega)]
        simp only [List.getD_eq_getElem?_getD, List.getElem?_append_left hlt] at h3 ⊢
        exact h3
    | succ k =>
      simp only [List.getElem?_cons_succ] at h
      have := predsOf_bits l (acc ++ [x]) k i o h (by rw [show (acc ++ [x]).length + k = acc.length + (k + 1) by simp; omega]; exact hb)
      exact this

theorem next_full (ios : List IOper) (n : Nat) : ∀ d b : Nat, n - b = d → b ≤ n → ∃ e, b ≤ e ∧ e ≤ n ∧ (∀ k io, b ≤ k → k < e → ios[k]? = some io → fullOp io.op = false) ∧ (e = n ∨ ∃ io, ios[e]? = some io ∧ fullOp io.op = true)
  | 0, b, h, hb => ⟨b, Nat.le_refl _, hb, fun k io h1 h2 => by omega, .inl (by omega)⟩
  | d + 1, b, h, hb => by
    by_cases hf : ∃ io, ios[b]? = some io ∧ fullOp io.op = true
    · exact ⟨b, Nat.le_refl _, hb, fun k io h1 h2 => by omega, .inr hf⟩
    · obtain ⟨e, h1, h2, h3, h4⟩ := next_full ios n d (b + 1) (by omega) (by omega)
      refine ⟨e, by omega, h2, fun k io q1 q2 q3 => ?_, h4⟩
      by_cases hk : k = b
      · subst hk
        cases hx : fullOp io.op
        · rfl
        · exact absurd ⟨io, q3, hx⟩ hf
      · exact h3 k io (by omega) q2 q3

def open_ (listed : Array Bool) : Nat := listed.toList.countP (· = false)

theorem open_set {listed : Array Bool} {i : Nat} (h : listed.getD i true = false) : open_ (listed.setIfInBounds i true) + 1 = open_ listed := by
  have hlt : i < listed.size := by
    rcases Nat.lt_or_ge i listed.size with h' | h'
    · exact h'
    · simp [Array.getElem?_eq_none h'] at h
  have hv : listed.toList[i] = false := by
    have : listed[i] = false := by simpa [hlt] using h
    simpa using this
  unfold open_
  rw [Array.toList_setIfInBounds, List.countP_set (h := by simpa using hlt)]
  have hpos : 0 < listed.toList.countP (fun x => decide (x = false)) := List.countP_pos_iff.mpr ⟨false, by rw [← hv]; exact List.getElem_mem _, by simp⟩
  have h1 : (if (decide (listed.toList[i] = false)) = true then 1 else 0) = 1 := by rw [hv]; rfl
  have h2 : (if (decide (true = false)) = true then 1 else 0) = 0 := rfl
  simp only [h1, h2]
  omega

theorem open_zero {listed : Array Bool} (h : open_ listed = 0) (i : Nat) : listed.getD i true = true := by
  unfold open_ at h
  rw [List.countP_eq_zero] at h
  rcases Nat.lt_or_ge i listed.size with hlt | hge
  · have := h listed[i] (by simp)
    simp [hlt]
    simpa using this
  · simp [Array.getElem?_eq_none hge]

section
variable {P : Program} {call : CallF} {ops : Array Oper} {ios : List IOper} {ps : List Nat} {f : Nat → St} {b e : Nat}
variable {w w0 : World} {bad D0 : Nat → Prop} {ρ ρ0 : Rho} {a : Act} {B : Nat} {s : St} {Q : Exit → Act → World → Prop}

theorem getD_set {listed : Array Bool} {i m : Nat} (hi : i < listed.size) : (listed.setIfInBounds i true).getD m false = true ↔ (listed.getD m false = true ∨ m = i) := by
  by_cases h : m = i
  · subst h; simp [hi]
  · simp [Array.getElem?_setIfInBounds_ne (Ne.symm h), h]

theorem drawn_main (G : Glob P call ops ios (predsOf ops.toList []) f) (hcall : PCallOK P call) (hbad : ∀ b, bad b → b < B) (hed : edgesOk ops = true) (hsz : ios.length = ops.size) (hQ : ∀ a w ρ, Sim w0 D0 ρ0 bad B ρ (f ops.size) a w → Q .normal a w) :
    ∀ (fuel : Nat) (b e : Nat) (listed : Array Bool) (ρ : Rho) (s : St) (a : Act) (w : World), listed.size = ops.size → open_ listed ≤ fuel → b ≤ e → e ≤ ops.size → (∀ k io, b ≤ k → k < e → ios[k]? = some io → fullOp io.op = false) → (e = ops.size ∨ ∃ io, ios[e]? = some io ∧ fullOp io.op = true) →
      (∀ k, k < b → listed.getD k false = true) → (∀ k, e ≤ k → listed.getD k false = false) → (∀ m, listed.getD m false = true → ∀ i, ((predsOf ops.toList []).getD m 0).testBit i = true → listed.getD i false = true) →
      Sim w0 D0 ρ0 bad B ρ s a w → Mix ops ios f b e (fun m => listed.getD m false = true) ρ s → wpAny P .any ops Q fuel listed a w := by
  intro fuel
  induction fuel with
  | zero =>
    intro b e listed ρ s a w hls hop hbe hen hnf hfe hlo hhi hcl h M
    have hall := open_zero (Nat.le_zero.mp hop)
    have hall2 : ∀ k, k < ops.size → listed.getD k false = true := by
      intro k hk
      have := hall k
      simpa [hls ▸ hk] using this
    have heq : e = ops.size := by
      rcases hfe with h' | ⟨io, h1, _⟩
      · exact h'
      · have hlt : e < ops.size := by rw [← hsz]; exact (List.getElem?_eq_some_iff.mp h1).1
        have := hall2 e hlt
        rw [hhi e (Nat.le_refl _)] at this; cases this
    refine ⟨?_, ?_⟩
    · cases hr : Region.ready .any ops listed with
      | nil => rfl
      | cons j l =>
        have hj : j ∈ Region.ready .any ops listed := by rw [hr]; simp
        have := (mem_ready.1 hj).1
        rw [hall j] at this; cases this
    · have S := G.stretch hcall hbe hen hnf
      have := end_mix S M h (fun m _ h2 => hall2 m (by omega))
      rw [heq] at this
      exact hQ _ _ _ this
  | succ fuel ih =>
    intro b e listed ρ s a w hls hop hbe hen hnf hfe hlo hhi hcl h M
    have S := G.stretch hcall hbe hen hnf
    have hedge : ∀ (k : Nat) (o : Oper), ops[k]? = some o → ∀ x ∈ o.after, Region.binds .any x = true → x.on < k := by
      intro k o ho x hx hb
      have := List.all_eq_true.mp hed (o, k) (by rw [List.mem_zipIdx_iff_getElem?]; simpa using ho)
      have := List.all_eq_true.mp this x (by simpa using hx)
      simpa [hb] using this
    refine ⟨fun hnil => ?_, fun i hi => ?_⟩
    · have hall2 : ∀ k, k < ops.size → listed.getD k false = true := by
        intro k
        induction k using Nat.strongRecOn with
        | _ k ihk =>
          intro hk
          cases hx : listed.getD k false with
          | true => rfl
          | false =>
            exfalso
            have : k ∈ Region.ready .any ops listed := mem_ready.2 ⟨by simpa [hls ▸ hk] using hx, ops[k], by simp [hk], fun x hx hb => by
              have hlt := hedge k ops[k] (by simp [hk]) x hx hb
              exact ihk x.on hlt (by omega)⟩
            rw [hnil] at this
            simp at this
      have heq : e = ops.size := by
        rcases hfe with h' | ⟨io, h1, _⟩
        · exact h'
        · have hlt : e < ops.size := by rw [← hsz]; exact (List.getElem?_eq_some_iff.mp h1).1
          have := hall2 e hlt
          rw [hhi e (Nat.le_refl _)] at this; cases this
      have := end_mix S M h (fun m _ h2 => hall2 m (by omega))
      rw [heq] at this
      exact hQ _ _ _ this
    · obtain ⟨hi0, o, ho, haft⟩ := mem_ready.1 hi
      have hlt : i < ops.size := (Array.getElem?_eq_some_iff.1 ho).1
      have hlt' : i < listed.size := hls ▸ hlt
      have hi1 : listed.getD i false = false := by simpa [hlt'] using hi0
      have hb : b ≤ i := by
        rcases Nat.lt_or_ge i b with h' | h'
        · rw [hlo i h'] at hi1; cases hi1
        · exact h'
      have hready : ∀ m, ((predsOf ops.toList []).getD i 0).testBit m = true → listed.getD m false = true := by
        intro m hm
        obtain ⟨x, h1, h2, h3⟩ := predsOf_bits ops.toList [] i m o (by simpa using ho) (by simpa using hm)
        have hl := haft x (by simpa using h1) h2
        rcases h3 with rfl | h3
        · exact hl
        · exact hcl x.on hl m h3
      have hop' : open_ (listed.setIfInBounds i true) ≤ fuel := by have := open_set hi0; omega
      have hcl' : ∀ m, (listed.setIfInBounds i true).getD m false = true → ∀ j, ((predsOf ops.toList []).getD m 0).testBit j = true → (listed.setIfInBounds i true).getD j false = true := by
        intro m hm j hj
        rw [getD_set hlt'] at hm ⊢
        rcases hm with hm | rfl
        · exact .inl (hcl m hm j hj)
        · exact .inl (hready j hj)
      have hfun : (fun m => listed.getD m false = true ∨ m = i) = fun m => (listed.setIfInBounds i true).getD m false = true := by
        funext m
        exact propext (getD_set hlt').symm
      rcases Nat.lt_or_ge i e with hie | hie
      · refine seg_step G S hcall hbad hb hie (fun io hio => hnf i io hb hie hio) (by simp [hi1]) hready hcl h M fun a' w' ρ' s' h' M' => ?_
        rw [hfun] at M'
        refine ih b e _ ρ' s' a' w' (by simpa using hls) hop' hbe hen hnf hfe (fun k hk => (getD_set hlt').mpr (.inl (hlo k hk))) (fun k hk => ?_) hcl' h' M'
        cases hx : (listed.setIfInBounds i true).getD k false with
        | false => rfl
        | true =>
          rcases (getD_set hlt').mp hx with h1 | h1
          · rw [hhi k hk] at h1; cases h1
          · omega
      · obtain ⟨fio, hf1, hf2⟩ := hfe.resolve_left (by omega)
        have hei : e = i := by
          rcases Nat.lt_or_ge e i with h' | h'
          · have hor := G.full i e fio (by omega) hlt hf1 hf2
            have := hready e (hor.2 h')
            rw [hhi e (Nat.le_refl _)] at this; cases this
          · omega
        subst hei
        have hsim := end_mix S M h fun m h1 h2 => hready m ((G.full m e fio (by omega) (by omega) hf1 hf2).1 h2)
        obtain ⟨o', io, e1, e2, e3, e4⟩ := G.at_ e hlt
        rw [ho] at e1; cases e1
        obtain ⟨hopp, hdst⟩ := cOper_op e3
        have next : ∀ a' w' ρ', Sim w0 D0 ρ0 bad B ρ' (f (e + 1)) a' w' → wpAny P .any ops Q fuel (listed.setIfInBounds e true) a' w' := by
          intro a' w' ρ' h'
          obtain ⟨e', q1, q2, q3, q4⟩ := next_full ios ops.size _ (e + 1) rfl hlt
          have S' := G.stretch hcall q1 q2 q3
          have hoff : ∀ k, e + 1 ≤ k → (listed.setIfInBounds e true).getD k false = false := by
            intro k hk
            cases hx : (listed.setIfInBounds e true).getD k false with
            | false => rfl
            | true =>
              rcases (getD_set hlt').mp hx with h1 | h1
              · rw [hhi k (by omega)] at h1; cases h1
              · omega
          obtain ⟨s', h2, M'⟩ := start_mix S' h' (L := fun m => (listed.setIfInBounds e true).getD m false = true) (fun m h1 _ h3 => by rw [hoff m h1] at h3; cases h3)
          refine ih (e + 1) e' _ ρ' s' a' w' (by simpa using hls) hop' q1 q2 q3 q4 (fun k hk => (getD_set hlt').mpr ?_) (fun k hk => hoff k (by omega)) hcl' h2 M'
          by_cases hke : k = e
          · exact .inr hke
          · exact .inl (hready k ((G.full k e fio hke (by omega) hf1 hf2).1 (by omega)))
        unfold wpOp
        rw [ho]
        simp only
        rcases e4 with ⟨hw, v, H', hv, e5⟩ | ⟨hw, e5⟩
        · rw [want_spec e3 hsim hw, if_pos rfl]
          refine .inl (op_step hopp hcall.call hbad hsim hv fun a' w' ρ' h' => next _ _ ρ' ?_)
          rw [e5, hdst]; exact h'
        · rw [want_spec e3 hsim hw, if_neg (by simp)]
          refine next _ _ ρ ?_
          rw [e5, hdst]
          exact skip_sim o.dst hsim

theorem Sim.draw (h : Sim w0 D0 ρ0 bad B ρ s a w) : Sim w0 D0 ρ0 bad B ρ s a { w with drawn := w.drawn + 1 } := by
  have st : Step w { w with drawn := w.drawn + 1 } (dead s.H) (dead s.H) ρ ρ := ⟨⟨rfl, rfl, rfl, Nat.le_refl _, fun _ _ _ => rfl⟩, RLe.refl _ _, fun _ h => h, fun _ _ => .inl rfl⟩
  refine ⟨h.defers, h.size, fun t ht => (h.env t ht).step st, ⟨fun id b es cap hid => ?_, h.heap.virt, h.heap.inj⟩, h.low, h.st.trans st⟩
  obtain ⟨k, hk, hb⟩ := h.heap.real id b es cap hid
  exact ⟨k, hk, hb.step st rfl⟩
end

theorem draw_law (P : Program) : DrawLaw P := by
  intro call hcall ops ios id hc hd he hns hmo w w0 bad D0 ρ ρ0 a B s s' Q hbad h hr hq
  obtain ⟨f, h0, h1, G⟩ := glob_of hc hd hr
  have hsz : ios.length = ops.size := by simpa using (optAll_spec hc).1
  refine wp_region_any hmo ?_
  obtain ⟨e, q1, q2, q3, q4⟩ := next_full ios ops.size _ 0 rfl (Nat.zero_le _)
  have hoff : ∀ k, (Array.replicate ops.size false).getD k false = false := by
    intro k
    rcases Nat.lt_or_ge k ops.size with h | h
    · simp [h]
    · simp [Array.getElem?_eq_none (xs := Array.replicate ops.size false) (by simpa using h)]
  have S := G.stretch hcall q1 q2 q3
  obtain ⟨s1, h2, M⟩ := start_mix S (h0 ▸ h.draw) (L := fun m => (Array.replicate ops.size false).getD m false = true) (fun m _ _ h3 => by rw [hoff m] at h3; cases h3)
  refine drawn_main G hcall hbad he hsz (fun a w ρ hs => hq _ _ ρ (h1 ▸ hs)) ops.size 0 e _ ρ s1 a _ (by simp) ?_ q1 q2 q3 q4 (fun k hk => by omega) (fun k _ => hoff k) (fun m hm => by rw [hoff m] at hm; cases hm) h2 M
  unfold open_
  exact Nat.le_trans List.countP_le_length (by simp)

/-- THE LAW OF THE SMALL EVALUATOR. -/
theorem pcall_law {P : Program} {M : Mod} (hM : ModOK P M) (d : Nat) (g : FuncId) (args : List AV) (v : AV) (h : pcall M d g args = some v) : PureOK P g args v :=
  pcall_sound hM (draw_law P) d g args v h
end Go.Proofs.Ytbcbaidnamebkaa.AE
