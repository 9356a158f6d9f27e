/- Each operation that is read: the small evaluator's step is the model's. No conditions. -/
import Derived.Test.YtbcbaidnamebkaaAEsnd9
namespace Go.Proofs.Ytbcbaidnamebkaa.AE
set_option linter.unusedVariables false
set_option linter.unusedSimpArgs false
set_option linter.constructorNameAsVariable false
open Go Go.RowKit

section
variable {P : Program} {w w0 : World} {bad D0 : Nat → Prop} {ρ ρ0 : Rho} {a : Act} {o : Oper} {B : Nat} {s : St} {Q : Exit → Act → World → Prop} {K : Act → World → Prop}

theorem same_sh (H : Heap) : (∀ id b, hget H id = some b → ∃ b', hget H id = some b' ∧ b'.els.length = b.els.length) ∧ (∀ id b, hget H id = some b → ∃ b', hget H id = some b' ∧ b'.e = b.e) := ⟨fun _ b h => ⟨b, h, rfl⟩, fun _ b h => ⟨b, h, rfl⟩⟩

theorem map_some' {α β : Type} {x : Option α} {f : α → β} {y : β} (h : x.map f = some y) : ∃ z, x = some z ∧ f z = y := opt_some h

set_option maxHeartbeats 1000000 in
theorem op_step {io : IOp} {call : CallF} {v : AV} {H' : Heap} (hc : cOp P o.type o.op = some io) (hcall : CallOK P call) (hbad : ∀ b, bad b → b < B) (h : Sim w0 D0 ρ0 bad B ρ s a w) (hv : aop call (evO s.env) s.H io = some (v, H'))
    (hK : ∀ a' w' ρ', Sim w0 D0 ρ0 bad B ρ' ⟨AE.put s.env o.dst v, H'⟩ a' w' → K a' w') : o.wp P a w K Q := by
  have hO := evO_rep h o.op.operands.toList
  have hD : ∀ id, dead s.H id ↔ s.H[id]? = some none := fun _ => Iff.rfl
  obtain ⟨hsh, hse⟩ := same_sh s.H
  have hR := h.heap
  generalize hop : o.op = op at hc
  have hopO : OpsOk w bad (dead s.H) ρ a (evO s.env) o.op.operands.toList := hO
  cases op with
  | move x =>
    obtain ⟨y, hy, rfl⟩ := map_some' hc
    simp only [aop, Option.some.injEq, Prod.mk.injEq] at hv
    obtain ⟨rfl, rfl⟩ := hv
    exact fin_says h (says_mov (.inl hop) hy hO) hK
  | assign x =>
    obtain ⟨y, hy, rfl⟩ := map_some' hc
    simp only [aop, Option.some.injEq, Prod.mk.injEq] at hv
    obtain ⟨rfl, rfl⟩ := hv
    exact fin_says h (says_mov (.inr hop) hy hO) hK
  | pick c x y =>
    simp only [cOp] at hc
    split at hc <;> (try (cases hc; done))
    rename_i c' x' y' h1 h2 h3
    cases hc
    simp only [aop] at hv
    split at hv <;> (try (cases hv; done))
    rename_i t ht
    simp only [Option.some.injEq, Prod.mk.injEq] at hv
    obtain ⟨rfl, rfl⟩ := hv
    exact fin_says h (says_pick hop h1 h2 h3 ht hO) hK
  | alloc t =>
    obtain ⟨e, he, rfl⟩ := map_some' hc
    simp only [aop, Option.some.injEq, Prod.mk.injEq] at hv
    obtain ⟨rfl, rfl⟩ := hv
    exact fin_makes h (makes_alloc _ hop he) hK
  | box t x =>
    simp only [cOp] at hc
    split at hc <;> (try (cases hc; done))
    rename_i e x' he hx
    cases hc
    simp only [aop] at hv
    split at hv <;> (try (cases hv; done))
    rename_i hok
    simp only [Option.some.injEq, Prod.mk.injEq] at hv
    obtain ⟨rfl, rfl⟩ := hv
    exact fin_makes h (makes_box _ hop he hx hok hO) hK
  | build t ps =>
    simp only [cOp] at hc
    have hio : ∃ zs l, io = .build zs l := by
      have h2 := hc
      unfold cBuild at h2
      split at h2 <;> (try (cases h2; done))
      split at h2 <;> (try (cases h2; done))
      split at h2 <;> (try (cases h2; done))
      split at h2 <;> (try (cases h2; done))
      · split at h2 <;> (try (cases h2; done))
        split at h2 <;> (try (cases h2; done))
        cases h2; exact ⟨_, _, rfl⟩
      · split at h2 <;> (try (cases h2; done))
        split at h2 <;> (try (cases h2; done))
        cases h2; exact ⟨_, _, rfl⟩
    obtain ⟨zs, l, rfl⟩ := hio
    simp only [aop] at hv
    split at hv <;> (try (cases hv; done))
    rename_i cs hcs
    simp only [Option.some.injEq, Prod.mk.injEq] at hv
    obtain ⟨rfl, rfl⟩ := hv
    exact fin_says h (says_build hop hc hcs hO) hK
  | buildSlice t n ps =>
    simp only [cOp] at hc
    split at hc <;> (try (cases hc; done))
    rename_i e hs
    split at hc <;> (try (cases hc; done))
    rename_i e' l he hl
    split at hc <;> (try (cases hc; done))
    rename_i hn
    cases hc
    simp only [aop] at hv
    split at hv <;> (try (cases hv; done))
    rename_i els hels
    simp only [Option.some.injEq, Prod.mk.injEq] at hv
    obtain ⟨rfl, rfl⟩ := hv
    exact fin_makes h (makes_mkrow _ hop hs he hl hn hels hO) hK
  | load t x =>
    simp only [cOp] at hc
    split at hc <;> (try (cases hc; done))
    rename_i i ag x' hi ha hx
    cases hc
    simp only [aop] at hv
    split at hv <;> (try (cases hv; done))
    rename_i u hu
    simp only [Option.some.injEq, Prod.mk.injEq] at hv
    obtain ⟨rfl, rfl⟩ := hv
    exact fin_says h (says_load hop hi ha hx hu hR hD (fun _ _ _ _ _ hb _ => hb) (dead_get s.H) hO) hK
  | store t x y =>
    simp only [cOp] at hc
    split at hc <;> (try (cases hc; done))
    rename_i i x' y' hi hx hy
    split at hc <;> (try (cases hc; done))
    rename_i hz
    cases hc
    simp only [aop] at hv
    split at hv <;> (try (cases hv; done))
    rename_i Hn hst
    simp only [Option.some.injEq, Prod.mk.injEq] at hv
    obtain ⟨rfl, rfl⟩ := hv
    have r1 := hO x (by simp [hop, Op.operands]) x' hx
    have r2 := hO y (by simp [hop, Op.operands]) y' hy
    obtain ⟨id, k, w', hk, -, ⟨k', rfl, -, -, hst2⟩, -, hrun⟩ := store_run (P := P) hi hz hst hR (fun _ _ _ _ _ hb _ => hb) (dead_get s.H) r1 r2
    obtain ⟨st, hR'⟩ := hst2 _ rfl
    unfold Oper.wp
    have hr : (execOp a.eval o).run P w = .ok .skip w' := by simp [execOp, hop, hrun]
    rw [hr]
    exact hK _ _ ρ (put_sim o.dst h st hR' (.frz (.undef _)))
  | nilCheck x =>
    obtain ⟨y, hy, rfl⟩ := map_some' hc
    simp only [aop] at hv
    split at hv <;> (try (cases hv; done))
    all_goals
      rename_i he
      simp only [Option.some.injEq, Prod.mk.injEq] at hv
      obtain ⟨rfl, rfl⟩ := hv
      first
        | exact fin_says h (says_nilck hop hy (.inl ⟨_, _, _, he⟩) he.symm hO) hK
        | exact fin_says h (says_nilck hop hy (.inr (.inl ⟨_, _, he⟩)) he.symm hO) hK
        | exact fin_says h (says_nilck hop hy (.inr (.inr ⟨_, _, _, he⟩)) he.symm hO) hK
  | binOp op t x y u =>
    simp only [cOp] at hc
    split at hc <;> (try (cases hc; done))
    rename_i d x' y' hd hx hy
    have bin : ∀ op', io = .bin op' x' y' → op' = op → o.wp P a w K Q := by
      rintro op' rfl rfl
      simp only [aop] at hv
      split at hv <;> (try (cases hv; done))
      rename_i r hr
      simp only [Option.some.injEq, Prod.mk.injEq] at hv
      obtain ⟨rfl, rfl⟩ := hv
      exact fin_says h (says_bin hop hx hy hr hO) hK
    have eqv : ∀ neg k sh, io = .eqv neg k sh x' y' → eqKind P t = some (k, sh) → ((op = .eql ∧ neg = false) ∨ (op = .neq ∧ neg = true)) → o.wp P a w K Q := by
      rintro neg k sh rfl hk hopn
      simp only [aop] at hv
      split at hv <;> (try (cases hv; done))
      rename_i b hb
      simp only [Option.some.injEq, Prod.mk.injEq] at hv
      obtain ⟨rfl, rfl⟩ := hv
      exact fin_says h (says_eqv hopn hop hk hx hy hb hO) hK
    split at hc
    · split at hc
      · cases hc; exact bin _ rfl rfl
      · cases hc; exact bin _ rfl rfl
      · split at hc <;> (try (cases hc; done))
        rename_i k sh hk
        cases hc
        exact eqv _ _ _ rfl hk (.inl ⟨rfl, rfl⟩)
    · split at hc
      · cases hc; exact bin _ rfl rfl
      · cases hc; exact bin _ rfl rfl
      · split at hc <;> (try (cases hc; done))
        rename_i k sh hk
        cases hc
        exact eqv _ _ _ rfl hk (.inr ⟨rfl, rfl⟩)
    · cases hc; exact bin _ rfl rfl
  | unOp op t x =>
    obtain ⟨y, hy, rfl⟩ := map_some' hc
    simp only [aop] at hv
    split at hv <;> (try (cases hv; done))
    rename_i r hr
    simp only [Option.some.injEq, Prod.mk.injEq] at hv
    obtain ⟨rfl, rfl⟩ := hv
    exact fin_says h (says_un hop hy hr hO) hK
  | convert sT dT x =>
    simp only [cOp] at hc
    split at hc <;> (try (cases hc; done))
    · rename_i k k' x' h1 h2 hx
      cases hc
      simp only [aop] at hv
      split at hv <;> (try (cases hv; done))
      rename_i k0 n he
      simp only [Option.some.injEq, Prod.mk.injEq] at hv
      obtain ⟨rfl, rfl⟩ := hv
      exact fin_says h (says_conv hop h1 h2 hx he hO) hK
    · rename_i x' h1 h2 hx
      cases hc
      simp only [aop] at hv
      split at hv <;> (try (cases hv; done))
      rename_i l he
      simp only [Option.some.injEq, Prod.mk.injEq] at hv
      obtain ⟨rfl, rfl⟩ := hv
      exact fin_says h (says_cid hop h1 h2 hx he hO) hK
    · rename_i e x' h1 h2 hx
      split at hc <;> (try (cases hc; done))
      rename_i e' h3 he
      split at hc <;> (try (cases hc; done))
      rename_i he1
      cases hc
      simp only [aop] at hv
      split at hv <;> (try (cases hv; done))
      rename_i l hl
      simp only [Option.some.injEq, Prod.mk.injEq] at hv
      obtain ⟨rfl, rfl⟩ := hv
      exact fin_makes h (makes_s2b _ hop h1 h2 h3 he he1 hx hl hO) hK
    · rename_i e x' h1 h2 hx
      split at hc <;> (try (cases hc; done))
      rename_i h3
      cases hc
      simp only [aop] at hv
      split at hv <;> (try (cases hv; done))
      rename_i hns
      split at hv <;> (try (cases hv; done))
      rename_i l hl
      split at hv <;> (try (cases hv; done))
      rename_i z hz
      simp only [Option.some.injEq, Prod.mk.injEq] at hv
      obtain ⟨rfl, rfl⟩ := hv
      exact fin_says h (says_b2s hop h1 h3 h2 hx hl (fun s hs => hns s hs) hz hR hD (fun _ _ _ _ _ hb _ => hb) (dead_get s.H) hO) hK
  | makeFunc fn p q =>
    cases fn <;> simp only [cOp] at hc <;> (try (cases hc; done))
    rename_i g
    split at hc <;> (try (cases hc; done))
    rename_i p' q' hp hq
    cases hc
    simp only [aop, Option.some.injEq, Prod.mk.injEq] at hv
    obtain ⟨rfl, rfl⟩ := hv
    exact fin_says h (says_mkfn hop hp hq hO) hK
  | makeSlice t x y =>
    simp only [cOp] at hc
    split at hc <;> (try (cases hc; done))
    rename_i e hs
    split at hc <;> (try (cases hc; done))
    rename_i e' x' y' he hx hy
    cases hc
    simp only [aop] at hv
    split at hv <;> (try (cases hv; done))
    rename_i n c hn hm
    split at hv <;> (try (cases hv; done))
    rename_i hcnd
    obtain ⟨c1, c2, c3, c4⟩ := hcnd
    subst c2
    simp only [Option.some.injEq, Prod.mk.injEq] at hv
    obtain ⟨rfl, rfl⟩ := hv
    exact fin_makes h (makes_mkslice _ hop hs he hx hy hn hm c1 c3 c4 hO) hK
  | slice t x lo hi mx =>
    simp only [cOp] at hc
    split at hc <;> (try (cases hc; done))
    · rename_i x' lo' hi' hs hx h1 h2 h3
      cases hc
      have hmn : mx = none := by
        cases mx with
        | none => rfl
        | some z =>
          simp only [cOptOpd] at h3
          split at h3 <;> cases h3
      subst hmn
      simp only [aop] at hv
      split at hv <;> (try (cases hv; done))
      rename_i r hr
      simp only [Option.some.injEq, Prod.mk.injEq] at hv
      obtain ⟨rfl, rfl⟩ := hv
      exact fin_says h (says_subS hop hs hx h1 h2 hr hO) hK
    · rename_i e x' lo' hi' mx' hs hx h1 h2 h3
      split at hc <;> (try (cases hc; done))
      rename_i ie hie
      split at hc <;> (try (cases hc; done))
      rename_i hmh
      cases hc
      simp only [aop] at hv
      split at hv <;> (try (cases hv; done))
      rename_i r hr
      simp only [Option.some.injEq, Prod.mk.injEq] at hv
      obtain ⟨rfl, rfl⟩ := hv
      refine fin_says h (says_subV hop hs hie hx h1 h2 h3 ?_ hr hR hD hsh hse hO) hK
      cases mx <;> cases hi <;> simp [cOptOpd] at h2 h3 hmh ⊢
      · rename_i z
        cases hz : cOpd z <;> simp [hz] at h3
        subst h3; subst h2
        simp at hmh
  | fieldAddr sT x f =>
    simp only [cOp] at hc
    split at hc <;> (try (cases hc; done))
    rename_i off n t x' hf hx
    cases hc
    simp only [aop] at hv
    split at hv <;> (try (cases hv; done))
    rename_i r hr
    simp only [Option.some.injEq, Prod.mk.injEq] at hv
    obtain ⟨rfl, rfl⟩ := hv
    unfold cField at hf
    split at hf <;> (try (cases hf; done))
    rename_i fs hs
    split at hf <;> (try (cases hf; done))
    rename_i fd hfd
    split at hf <;> (try (cases hf; done))
    rename_i i hi
    split at hf <;> (try (cases hf; done))
    rename_i hz
    cases hf
    exact fin_says h (says_fldA hop hs hfd hi hz hx hr hO) hK
  | field sT x f =>
    simp only [cOp] at hc
    split at hc <;> (try (cases hc; done))
    rename_i off n t x' hf hx
    split at hc <;> (try (cases hc; done))
    rename_i ag hag
    cases hc
    simp only [aop] at hv
    split at hv <;> (try (cases hv; done))
    rename_i cs he
    split at hv <;> (try (cases hv; done))
    rename_i r hr
    simp only [Option.some.injEq, Prod.mk.injEq] at hv
    obtain ⟨rfl, rfl⟩ := hv
    unfold cField at hf
    split at hf <;> (try (cases hf; done))
    rename_i fs hs
    split at hf <;> (try (cases hf; done))
    rename_i fd hfd
    split at hf <;> (try (cases hf; done))
    rename_i i hi
    split at hf <;> (try (cases hf; done))
    rename_i hz
    cases hf
    exact fin_says h (says_fld hop hs hfd hi hag hx he hr hO) hK
  | indexAddr t x y =>
    simp only [cOp] at hc
    split at hc <;> (try (cases hc; done))
    · rename_i e x' y' hs hx hy
      split at hc <;> (try (cases hc; done))
      rename_i ie hie
      split at hc <;> (try (cases hc; done))
      cases hc
      simp only [aop] at hv
      split at hv <;> (try (cases hv; done))
      rename_i q hq
      split at hv <;> (try (cases hv; done))
      rename_i r hr
      simp only [Option.some.injEq, Prod.mk.injEq] at hv
      obtain ⟨rfl, rfl⟩ := hv
      obtain ⟨k, hk⟩ : ∃ k, evO s.env y' = .int k q := by
        generalize evO s.env y' = Y at hq
        cases Y <;> simp [aInt] at hq
        subst hq; exact ⟨_, rfl⟩
      exact fin_says h (says_ixAS hop hs hie hx hy hk hr hR hD hsh hse hO) hK
    · rename_i n e x' y' hs hx hy
      split at hc <;> (try (cases hc; done))
      rename_i ie hie
      cases hc
      simp only [aop] at hv
      split at hv <;> (try (cases hv; done))
      rename_i q hq
      split at hv <;> (try (cases hv; done))
      rename_i hb
      split at hv <;> (try (cases hv; done))
      rename_i r hr
      simp only [Option.some.injEq, Prod.mk.injEq] at hv
      obtain ⟨rfl, rfl⟩ := hv
      obtain ⟨k, hk⟩ : ∃ k, evO s.env y' = .int k q := by
        generalize evO s.env y' = Y at hq
        cases Y <;> simp [aInt] at hq
        subst hq; exact ⟨_, rfl⟩
      exact fin_says h (says_ixAA hop hs hie hx hy hk hb hr hO) hK
  | index t x y =>
    simp only [cOp] at hc
    split at hc <;> (try (cases hc; done))
    · rename_i x' y' hs hx hy
      cases hc
      simp only [aop] at hv
      split at hv <;> (try (cases hv; done))
      rename_i l q hl hq
      split at hv <;> (try (cases hv; done))
      rename_i h0
      split at hv <;> (try (cases hv; done))
      rename_i b hb
      simp only [Option.some.injEq, Prod.mk.injEq] at hv
      obtain ⟨rfl, rfl⟩ := hv
      obtain ⟨k, hk⟩ : ∃ k, evO s.env y' = .int k q := by
        generalize evO s.env y' = Y at hq
        cases Y <;> simp [aInt] at hq
        subst hq; exact ⟨_, rfl⟩
      exact fin_says h (says_ixS hop hs hx hy hk hl h0 hb hO) hK
    · rename_i n e x' y' hs hx hy
      split at hc <;> (try (cases hc; done))
      rename_i ie ag hie hag
      cases hc
      simp only [aop] at hv
      split at hv <;> (try (cases hv; done))
      rename_i cs q hcs hq
      split at hv <;> (try (cases hv; done))
      rename_i hb
      split at hv <;> (try (cases hv; done))
      rename_i r hr
      simp only [Option.some.injEq, Prod.mk.injEq] at hv
      obtain ⟨rfl, rfl⟩ := hv
      obtain ⟨k, hk⟩ : ∃ k, evO s.env y' = .int k q := by
        generalize evO s.env y' = Y at hq
        cases Y <;> simp [aInt] at hq
        subst hq; exact ⟨_, rfl⟩
      exact fin_says h (says_ixA hop hs hie hag hx hy hk hcs hb hr hO) hK
  | extract x i =>
    simp only [cOp] at hc
    split at hc <;> (try (cases hc; done))
    rename_i x' hx
    cases hc
    simp only [aop] at hv
    split at hv <;> (try (cases hv; done))
    rename_i vs he
    split at hv <;> (try (cases hv; done))
    rename_i r hr
    simp only [Option.some.injEq, Prod.mk.injEq] at hv
    obtain ⟨rfl, rfl⟩ := hv
    exact fin_says h (says_extr hop hx he hr hO) hK
  | call c =>
    simp only [cOp, cCall] at hc
    split at hc <;> (try (cases hc; done))
    · rename_i f hcc
      split at hc <;> (try (cases hc; done))
      rename_i f' ys hf hys
      cases hc
      simp only [aop] at hv
      split at hv <;> (try (cases hv; done))
      rename_i g p q he
      exact fin_call h hbad hcall hop hcc hf hys he hv hK
    · rename_i hcc
      split at hc <;> (try (cases hc; done))
      rename_i x t hca hct
      split at hc <;> (try (cases hc; done))
      · rename_i x' hs hx
        cases hc
        simp only [aop] at hv
        split at hv <;> (try (cases hv; done))
        rename_i l hl
        simp only [Option.some.injEq, Prod.mk.injEq] at hv
        obtain ⟨rfl, rfl⟩ := hv
        exact fin_says h (says_lenS hop hcc hca hct hs hx hl hO) hK
      · rename_i e x' hs hx
        cases hc
        simp only [aop] at hv
        split at hv <;> (try (cases hv; done))
        rename_i n hn
        simp only [Option.some.injEq, Prod.mk.injEq] at hv
        obtain ⟨rfl, rfl⟩ := hv
        exact fin_says h (says_lenV hop hcc hca hct hs hx hn hD hsh hO) hK
      · rename_i n e x' hs hx
        cases hc
        simp only [aop, evO, Option.some.injEq, Prod.mk.injEq] at hv
        obtain ⟨rfl, rfl⟩ := hv
        refine fin_says h ⟨.int .i64 n, ?_, .frz (.int _ _)⟩ hK
        obtain ⟨cal, args, tys⟩ := c
        obtain ⟨args⟩ := args
        obtain ⟨tys⟩ := tys
        simp only at hcc hca hct
        subst hcc; subst hca; subst hct
        simp [execOp, hop, resolve, invoke, builtin, Builtin.len_, run_underlying hs, goInt]
    · rename_i hcc
      split at hc <;> (try (cases hc; done))
      rename_i ys hys
      cases hc
      simp only [aop] at hv
      split at hv <;> (try (cases hv; done))
      rename_i r hr
      simp only [Option.some.injEq, Prod.mk.injEq] at hv
      obtain ⟨rfl, rfl⟩ := hv
      exact fin_says h (says_min hop hcc hys hr hO) hK
    · rename_i hcc
      split at hc <;> (try (cases hc; done))
      rename_i ys hys
      cases hc
      simp only [aop] at hv
      split at hv <;> (try (cases hv; done))
      rename_i r hr
      simp only [Option.some.injEq, Prod.mk.injEq] at hv
      obtain ⟨rfl, rfl⟩ := hv
      exact fin_says h (says_max hop hcc hys hr hO) hK
    · rename_i hcc
      split at hc <;> (try (cases hc; done))
      rename_i sA xA t u hca hct
      split at hc <;> (try (cases hc; done))
      rename_i e du s' x' ht hu hs hx
      have app : ∀ e', cETy P e = some e' → (du = .string ∨ ∃ e', du = .slice e') → io = .app e' s' x' → o.wp P a w K Q := by
        rintro e' he hdu rfl
        simp only [aop] at hv
        split at hv <;> (try (cases hv; done))
        rename_i xs hxs
        have r1 := hO sA (by simp [hop, Op.operands, Call.operands, hcc]; exact by have := hca; (have h9 : sA ∈ c.args.toList := by rw [this]; simp); simpa using h9) s' hs
        have r2 := hO xA (by simp [hop, Op.operands, Call.operands, hcc]; exact by have := hca; (have h9 : xA ∈ c.args.toList := by rw [this]; simp); simpa using h9) x' hx
        obtain ⟨cv, w', ρ', hrun, st, hR', hrep⟩ := app_run (P := P) (ty := o.type) ht hu hdu he hxs hR h.low r1 r2 hv
        unfold Oper.wp
        rw [app_args hop hcc hca hct, hrun]
        exact hK _ _ ρ' (put_sim o.dst h st hR' hrep)
      split at hc <;> (try (cases hc; done))
      · split at hc <;> (try (cases hc; done))
        rename_i e' he
        cases hc
        exact app e' he (.inr ⟨_, rfl⟩) rfl
      · split at hc <;> (try (cases hc; done))
        rename_i e' he
        cases hc
        exact app e' he (.inl rfl) rfl
  | _ => simp [cOp] at hc
end
end Go.Proofs.Ytbcbaidnamebkaa.AE
