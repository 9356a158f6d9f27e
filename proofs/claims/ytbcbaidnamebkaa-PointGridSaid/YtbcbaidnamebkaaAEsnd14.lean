/- Operations in whatever order their edges leave: one operation. No conditions. -/
import Derived.Test.YtbcbaidnamebkaaAEsnd13
namespace Go.Proofs.Ytbcbaidnamebkaa.AE
set_option linter.unusedVariables false
set_option linter.unusedSimpArgs false
set_option linter.constructorNameAsVariable false
open Go Go.RowKit

/-- What one operation of such a region comes to: it writes nothing, makes a block, stores into own memory, or calls. -/
def DrawnRes (P : Program) (w : World) (bad : Nat → Prop) (B : Nat) (ρ : Rho) (a : Act) (o : Oper) (ev : Opd → AV) (H G : Heap) (io : IOp) (v : AV) (H' : Heap) : Prop :=
  (Says P w bad (dead G) ρ a o v ∧ H' = H ∧ storeOp io = false) ∨ (∃ k, Makes P w bad (dead G) ρ a o v H.length k ∧ H' = H ++ [some k] ∧ storeOp io = false) ∨
  (∃ id k k' w', G[id]? = some (some k) ∧ hget H id = some k ∧ k'.e = k.e ∧ k'.els.length = k.els.length ∧ H' = H.set id (some k') ∧ touch ev H io = [id] ∧ storeOp io = true ∧ v = .undef ∧
    (∀ G' : Heap, G' = G.set id (some k') → Step w w' (dead G) (dead G') ρ ρ ∧ HRel w' bad ρ B G') ∧ (execOp a.eval o).run P w = .ok .skip w' ∧ ρ id ≠ .no) ∨
  (H' = H ∧ storeOp io = false ∧ ∃ vs g, (execOp a.eval o).run P w = (callFunc g vs).run P w ∧ CallRes P g vs w fun cv w' => Below w.heap.size w w' ∧ Rep w' bad (dead G) ρ v cv)

section
variable {P : Program} {w : World} {bad : Nat → Prop} {ρ : Rho} {a : Act} {o : Oper} {B : Nat}

set_option maxHeartbeats 1000000 in
theorem op_drawn {io : IOp} {call : CallF} {v : AV} {H H' G : Heap} {ev : Opd → AV} (hc : cOp P o.type o.op = some io) (hcall : PCallOK P call) (hnf : fullOp io = false) (hbad : ∀ b, bad b → b < B) (hR : HRel w bad ρ B G) (hB : B ≤ w.heap.size)
    (hO : OpsOk w bad (dead G) ρ a ev o.op.operands.toList) (hsh : ∀ id b, hget H id = some b → ∃ b', hget G id = some b' ∧ b'.els.length = b.els.length) (hse : ∀ id b, hget H id = some b → ∃ b', hget G id = some b' ∧ b'.e = b.e)
    (htc : ∀ id ∈ touch ev H io, ∀ b, hget H id = some b → ρ id ≠ .no → hget G id = some b) (hdd : ∀ id, dead G id → hget H id = none) (hev : ∀ x, ev (.v x) = x) (hv : aop call ev H io = some (v, H')) : DrawnRes P w bad B ρ a o ev H G io v H' := by
  have hD : ∀ id, dead G id ↔ G[id]? = some none := fun _ => Iff.rfl
  generalize hop : o.op = op at hc
  cases op with
  | move x =>
    obtain ⟨y, hy, rfl⟩ := map_some' hc
    simp only [aop, Option.some.injEq, Prod.mk.injEq] at hv
    obtain ⟨rfl, rfl⟩ := hv
    exact .inl ⟨says_mov (.inl hop) hy hO, rfl, rfl⟩
  | assign x =>
    obtain ⟨y, hy, rfl⟩ := map_some' hc
    simp only [aop, Option.some.injEq, Prod.mk.injEq] at hv
    obtain ⟨rfl, rfl⟩ := hv
    exact .inl ⟨says_mov (.inr hop) hy hO, rfl, rfl⟩
  | pick c x y =>
    simp only [cOp] at hc
    split at hc <;> (try (cases hc; done))
    rename_i c' x' y' h1 h2 h3
    cases hc
    simp only [aop] at hv
    split at hv <;> (try (cases hv; done))
    rename_i t ht
    simp only [Option.some.injEq, Prod.mk.injEq] at hv
    obtain ⟨rfl, rfl⟩ := hv
    exact .inl ⟨says_pick hop h1 h2 h3 ht hO, rfl, rfl⟩
  | alloc t =>
    obtain ⟨e, he, rfl⟩ := map_some' hc
    simp only [aop, Option.some.injEq, Prod.mk.injEq] at hv
    obtain ⟨rfl, rfl⟩ := hv
    exact .inr (.inl ⟨_, makes_alloc _ hop he, rfl, rfl⟩)
  | box t x =>
    simp only [cOp] at hc
    split at hc <;> (try (cases hc; done))
    rename_i e x' he hx
    cases hc
    simp only [aop] at hv
    split at hv <;> (try (cases hv; done))
    rename_i hok
    simp only [Option.some.injEq, Prod.mk.injEq] at hv
    obtain ⟨rfl, rfl⟩ := hv
    exact .inr (.inl ⟨_, makes_box _ hop he hx hok hO, rfl, rfl⟩)
  | build t ps =>
    simp only [cOp] at hc
    have hio : ∃ zs l, io = .build zs l := by
      have h2 := hc
      unfold cBuild at h2
      split at h2 <;> (try (cases h2; done))
      split at h2 <;> (try (cases h2; done))
      split at h2 <;> (try (cases h2; done))
      split at h2 <;> (try (cases h2; done))
      · split at h2 <;> (try (cases h2; done))
        split at h2 <;> (try (cases h2; done))
        cases h2; exact ⟨_, _, rfl⟩
      · split at h2 <;> (try (cases h2; done))
        split at h2 <;> (try (cases h2; done))
        cases h2; exact ⟨_, _, rfl⟩
    obtain ⟨zs, l, rfl⟩ := hio
    simp only [aop] at hv
    split at hv <;> (try (cases hv; done))
    rename_i cs hcs
    simp only [Option.some.injEq, Prod.mk.injEq] at hv
    obtain ⟨rfl, rfl⟩ := hv
    exact .inl ⟨says_build hop hc hcs hO, rfl, rfl⟩
  | buildSlice t n ps =>
    simp only [cOp] at hc
    split at hc <;> (try (cases hc; done))
    rename_i e hs
    split at hc <;> (try (cases hc; done))
    rename_i e' l he hl
    split at hc <;> (try (cases hc; done))
    rename_i hn
    cases hc
    simp only [aop] at hv
    split at hv <;> (try (cases hv; done))
    rename_i els hels
    simp only [Option.some.injEq, Prod.mk.injEq] at hv
    obtain ⟨rfl, rfl⟩ := hv
    exact .inr (.inl ⟨_, makes_mkrow _ hop hs he hl hn hels hO, rfl, rfl⟩)
  | load t x =>
    simp only [cOp] at hc
    split at hc <;> (try (cases hc; done))
    rename_i i ag x' hi ha hx
    cases hc
    simp only [aop] at hv
    split at hv <;> (try (cases hv; done))
    rename_i u hu
    simp only [Option.some.injEq, Prod.mk.injEq] at hv
    obtain ⟨rfl, rfl⟩ := hv
    exact .inl ⟨says_load hop hi ha hx hu hR hD (fun id u q he => htc id (by simp [touch, he])) hdd hO, rfl, rfl⟩
  | store t x y =>
    simp only [cOp] at hc
    split at hc <;> (try (cases hc; done))
    rename_i i x' y' hi hx hy
    split at hc <;> (try (cases hc; done))
    rename_i hz
    cases hc
    simp only [aop] at hv
    split at hv <;> (try (cases hv; done))
    rename_i Hn hst
    simp only [Option.some.injEq, Prod.mk.injEq] at hv
    obtain ⟨rfl, rfl⟩ := hv
    have r1 := hO x (by simp [hop, Op.operands]) x' hx
    have r2 := hO y (by simp [hop, Op.operands]) y' hy
    obtain ⟨id, k, w', hk, hg, ⟨k', rfl, e1, e2, hst2⟩, ⟨u, q, he⟩, hrun⟩ := store_run (P := P) hi hz hst hR (fun id u q he => htc id (by simp [touch, he])) hdd r1 r2
    have hr : (execOp a.eval o).run P w = .ok .skip w' := by simp [execOp, hop, hrun]
    rw [he] at r1
    have hrn : ρ id ≠ .no := by
      generalize a.eval x = V at r1
      cases r1 with
      | frz h => cases h
      | ptr h => simp [h]
      | ptrD b o' hd => rw [hdd _ hd] at hg; cases hg
    exact .inr (.inr (.inl ⟨id, k, k', w', hk, hg, e1, e2, rfl, by simp [touch, he], rfl, rfl, hst2, hr, hrn⟩))
  | nilCheck x =>
    obtain ⟨y, hy, rfl⟩ := map_some' hc
    simp only [aop] at hv
    split at hv <;> (try (cases hv; done))
    all_goals
      rename_i he
      simp only [Option.some.injEq, Prod.mk.injEq] at hv
      obtain ⟨rfl, rfl⟩ := hv
      first
        | exact .inl ⟨says_nilck hop hy (.inl ⟨_, _, _, he⟩) he.symm hO, rfl, rfl⟩
        | exact .inl ⟨says_nilck hop hy (.inr (.inl ⟨_, _, he⟩)) he.symm hO, rfl, rfl⟩
        | exact .inl ⟨says_nilck hop hy (.inr (.inr ⟨_, _, _, he⟩)) he.symm hO, rfl, rfl⟩
  | binOp op t x y u =>
    simp only [cOp] at hc
    split at hc <;> (try (cases hc; done))
    rename_i d x' y' hd hx hy
    have bin : ∀ op', io = .bin op' x' y' → op' = op → DrawnRes P w bad B ρ a o ev H G io v H' := by
      rintro op' rfl rfl
      simp only [aop] at hv
      split at hv <;> (try (cases hv; done))
      rename_i r hr
      simp only [Option.some.injEq, Prod.mk.injEq] at hv
      obtain ⟨rfl, rfl⟩ := hv
      exact .inl ⟨says_bin hop hx hy hr hO, rfl, rfl⟩
    have eqv : ∀ neg k sh, io = .eqv neg k sh x' y' → eqKind P t = some (k, sh) → ((op = .eql ∧ neg = false) ∨ (op = .neq ∧ neg = true)) → DrawnRes P w bad B ρ a o ev H G io v H' := by
      rintro neg k sh rfl hk hopn
      simp only [aop] at hv
      split at hv <;> (try (cases hv; done))
      rename_i b hb
      simp only [Option.some.injEq, Prod.mk.injEq] at hv
      obtain ⟨rfl, rfl⟩ := hv
      exact .inl ⟨says_eqv hopn hop hk hx hy hb hO, rfl, rfl⟩
    split at hc
    · split at hc
      · cases hc; exact bin _ rfl rfl
      · cases hc; exact bin _ rfl rfl
      · split at hc <;> (try (cases hc; done))
        rename_i k sh hk
        cases hc
        exact eqv _ _ _ rfl hk (.inl ⟨rfl, rfl⟩)
    · split at hc
      · cases hc; exact bin _ rfl rfl
      · cases hc; exact bin _ rfl rfl
      · split at hc <;> (try (cases hc; done))
        rename_i k sh hk
        cases hc
        exact eqv _ _ _ rfl hk (.inr ⟨rfl, rfl⟩)
    · cases hc; exact bin _ rfl rfl
  | unOp op t x =>
    obtain ⟨y, hy, rfl⟩ := map_some' hc
    simp only [aop] at hv
    split at hv <;> (try (cases hv; done))
    rename_i r hr
    simp only [Option.some.injEq, Prod.mk.injEq] at hv
    obtain ⟨rfl, rfl⟩ := hv
    exact .inl ⟨says_un hop hy hr hO, rfl, rfl⟩
  | convert sT dT x =>
    simp only [cOp] at hc
    split at hc <;> (try (cases hc; done))
    · rename_i k k' x' h1 h2 hx
      cases hc
      simp only [aop] at hv
      split at hv <;> (try (cases hv; done))
      rename_i k0 n he
      simp only [Option.some.injEq, Prod.mk.injEq] at hv
      obtain ⟨rfl, rfl⟩ := hv
      exact .inl ⟨says_conv hop h1 h2 hx he hO, rfl, rfl⟩
    · rename_i x' h1 h2 hx
      cases hc
      simp only [aop] at hv
      split at hv <;> (try (cases hv; done))
      rename_i l he
      simp only [Option.some.injEq, Prod.mk.injEq] at hv
      obtain ⟨rfl, rfl⟩ := hv
      exact .inl ⟨says_cid hop h1 h2 hx he hO, rfl, rfl⟩
    · rename_i e x' h1 h2 hx
      split at hc <;> (try (cases hc; done))
      rename_i e' h3 he
      split at hc <;> (try (cases hc; done))
      rename_i he1
      cases hc
      simp only [aop] at hv
      split at hv <;> (try (cases hv; done))
      rename_i l hl
      simp only [Option.some.injEq, Prod.mk.injEq] at hv
      obtain ⟨rfl, rfl⟩ := hv
      exact .inr (.inl ⟨_, makes_s2b _ hop h1 h2 h3 he he1 hx hl hO, rfl, rfl⟩)
    · rename_i e x' h1 h2 hx
      split at hc <;> (try (cases hc; done))
      rename_i h3
      cases hc
      simp only [aop] at hv
      split at hv <;> (try (cases hv; done))
      rename_i hns
      split at hv <;> (try (cases hv; done))
      rename_i l hl
      split at hv <;> (try (cases hv; done))
      rename_i z hz
      simp only [Option.some.injEq, Prod.mk.injEq] at hv
      obtain ⟨rfl, rfl⟩ := hv
      exact .inl ⟨says_b2s hop h1 h3 h2 hx hl (fun s hs => hns s hs) hz hR hD (fun id u q he => htc id (by simp [touch, he])) hdd hO, rfl, rfl⟩
  | makeFunc fn p q =>
    cases fn <;> simp only [cOp] at hc <;> (try (cases hc; done))
    rename_i g
    split at hc <;> (try (cases hc; done))
    rename_i p' q' hp hq
    cases hc
    simp only [aop, Option.some.injEq, Prod.mk.injEq] at hv
    obtain ⟨rfl, rfl⟩ := hv
    exact .inl ⟨says_mkfn hop hp hq hO, rfl, rfl⟩
  | makeSlice t x y =>
    simp only [cOp] at hc
    split at hc <;> (try (cases hc; done))
    rename_i e hs
    split at hc <;> (try (cases hc; done))
    rename_i e' x' y' he hx hy
    cases hc
    simp only [aop] at hv
    split at hv <;> (try (cases hv; done))
    rename_i n c hn hm
    split at hv <;> (try (cases hv; done))
    rename_i hcnd
    obtain ⟨c1, c2, c3, c4⟩ := hcnd
    subst c2
    simp only [Option.some.injEq, Prod.mk.injEq] at hv
    obtain ⟨rfl, rfl⟩ := hv
    exact .inr (.inl ⟨_, makes_mkslice _ hop hs he hx hy hn hm c1 c3 c4 hO, rfl, rfl⟩)
  | slice t x lo hi mx =>
    simp only [cOp] at hc
    split at hc <;> (try (cases hc; done))
    · rename_i x' lo' hi' hs hx h1 h2 h3
      cases hc
      have hmn : mx = none := by
        cases mx with
        | none => rfl
        | some z =>
          simp only [cOptOpd] at h3
          split at h3 <;> cases h3
      subst hmn
      simp only [aop] at hv
      split at hv <;> (try (cases hv; done))
      rename_i r hr
      simp only [Option.some.injEq, Prod.mk.injEq] at hv
      obtain ⟨rfl, rfl⟩ := hv
      exact .inl ⟨says_subS hop hs hx h1 h2 hr hO, rfl, rfl⟩
    · rename_i e x' lo' hi' mx' hs hx h1 h2 h3
      split at hc <;> (try (cases hc; done))
      rename_i ie hie
      split at hc <;> (try (cases hc; done))
      rename_i hmh
      cases hc
      simp only [aop] at hv
      split at hv <;> (try (cases hv; done))
      rename_i r hr
      simp only [Option.some.injEq, Prod.mk.injEq] at hv
      obtain ⟨rfl, rfl⟩ := hv
      refine .inl ⟨says_subV hop hs hie hx h1 h2 h3 ?_ hr hR hD hsh hse hO, rfl, rfl⟩
      cases mx <;> cases hi <;> simp [cOptOpd] at h2 h3 hmh ⊢
      · rename_i z
        cases hz : cOpd z <;> simp [hz] at h3
        subst h3; subst h2
        simp at hmh
  | fieldAddr sT x f =>
    simp only [cOp] at hc
    split at hc <;> (try (cases hc; done))
    rename_i off n t x' hf hx
    cases hc
    simp only [aop] at hv
    split at hv <;> (try (cases hv; done))
    rename_i r hr
    simp only [Option.some.injEq, Prod.mk.injEq] at hv
    obtain ⟨rfl, rfl⟩ := hv
    unfold cField at hf
    split at hf <;> (try (cases hf; done))
    rename_i fs hs
    split at hf <;> (try (cases hf; done))
    rename_i fd hfd
    split at hf <;> (try (cases hf; done))
    rename_i i hi
    split at hf <;> (try (cases hf; done))
    rename_i hz
    cases hf
    exact .inl ⟨says_fldA hop hs hfd hi hz hx hr hO, rfl, rfl⟩
  | field sT x f =>
    simp only [cOp] at hc
    split at hc <;> (try (cases hc; done))
    rename_i off n t x' hf hx
    split at hc <;> (try (cases hc; done))
    rename_i ag hag
    cases hc
    simp only [aop] at hv
    split at hv <;> (try (cases hv; done))
    rename_i cs he
    split at hv <;> (try (cases hv; done))
    rename_i r hr
    simp only [Option.some.injEq, Prod.mk.injEq] at hv
    obtain ⟨rfl, rfl⟩ := hv
    unfold cField at hf
    split at hf <;> (try (cases hf; done))
    rename_i fs hs
    split at hf <;> (try (cases hf; done))
    rename_i fd hfd
    split at hf <;> (try (cases hf; done))
    rename_i i hi
    split at hf <;> (try (cases hf; done))
    rename_i hz
    cases hf
    exact .inl ⟨says_fld hop hs hfd hi hag hx he hr hO, rfl, rfl⟩
  | indexAddr t x y =>
    simp only [cOp] at hc
    split at hc <;> (try (cases hc; done))
    · rename_i e x' y' hs hx hy
      split at hc <;> (try (cases hc; done))
      rename_i ie hie
      split at hc <;> (try (cases hc; done))
      cases hc
      simp only [aop] at hv
      split at hv <;> (try (cases hv; done))
      rename_i q hq
      split at hv <;> (try (cases hv; done))
      rename_i r hr
      simp only [Option.some.injEq, Prod.mk.injEq] at hv
      obtain ⟨rfl, rfl⟩ := hv
      obtain ⟨k, hk⟩ : ∃ k, ev y' = .int k q := by
        generalize ev y' = Y at hq
        cases Y <;> simp [aInt] at hq
        subst hq; exact ⟨_, rfl⟩
      exact .inl ⟨says_ixAS hop hs hie hx hy hk hr hR hD hsh hse hO, rfl, rfl⟩
    · rename_i n e x' y' hs hx hy
      split at hc <;> (try (cases hc; done))
      rename_i ie hie
      cases hc
      simp only [aop] at hv
      split at hv <;> (try (cases hv; done))
      rename_i q hq
      split at hv <;> (try (cases hv; done))
      rename_i hb
      split at hv <;> (try (cases hv; done))
      rename_i r hr
      simp only [Option.some.injEq, Prod.mk.injEq] at hv
      obtain ⟨rfl, rfl⟩ := hv
      obtain ⟨k, hk⟩ : ∃ k, ev y' = .int k q := by
        generalize ev y' = Y at hq
        cases Y <;> simp [aInt] at hq
        subst hq; exact ⟨_, rfl⟩
      exact .inl ⟨says_ixAA hop hs hie hx hy hk hb hr hO, rfl, rfl⟩
  | index t x y =>
    simp only [cOp] at hc
    split at hc <;> (try (cases hc; done))
    · rename_i x' y' hs hx hy
      cases hc
      simp only [aop] at hv
      split at hv <;> (try (cases hv; done))
      rename_i l q hl hq
      split at hv <;> (try (cases hv; done))
      rename_i h0
      split at hv <;> (try (cases hv; done))
      rename_i b hb
      simp only [Option.some.injEq, Prod.mk.injEq] at hv
      obtain ⟨rfl, rfl⟩ := hv
      obtain ⟨k, hk⟩ : ∃ k, ev y' = .int k q := by
        generalize ev y' = Y at hq
        cases Y <;> simp [aInt] at hq
        subst hq; exact ⟨_, rfl⟩
      exact .inl ⟨says_ixS hop hs hx hy hk hl h0 hb hO, rfl, rfl⟩
    · rename_i n e x' y' hs hx hy
      split at hc <;> (try (cases hc; done))
      rename_i ie ag hie hag
      cases hc
      simp only [aop] at hv
      split at hv <;> (try (cases hv; done))
      rename_i cs q hcs hq
      split at hv <;> (try (cases hv; done))
      rename_i hb
      split at hv <;> (try (cases hv; done))
      rename_i r hr
      simp only [Option.some.injEq, Prod.mk.injEq] at hv
      obtain ⟨rfl, rfl⟩ := hv
      obtain ⟨k, hk⟩ : ∃ k, ev y' = .int k q := by
        generalize ev y' = Y at hq
        cases Y <;> simp [aInt] at hq
        subst hq; exact ⟨_, rfl⟩
      exact .inl ⟨says_ixA hop hs hie hag hx hy hk hcs hb hr hO, rfl, rfl⟩
  | extract x i =>
    simp only [cOp] at hc
    split at hc <;> (try (cases hc; done))
    rename_i x' hx
    cases hc
    simp only [aop] at hv
    split at hv <;> (try (cases hv; done))
    rename_i vs he
    split at hv <;> (try (cases hv; done))
    rename_i r hr
    simp only [Option.some.injEq, Prod.mk.injEq] at hv
    obtain ⟨rfl, rfl⟩ := hv
    exact .inl ⟨says_extr hop hx he hr hO, rfl, rfl⟩
  | call c =>
    simp only [cOp, cCall] at hc
    split at hc <;> (try (cases hc; done))
    · rename_i f hcc
      split at hc <;> (try (cases hc; done))
      rename_i f' ys hf hys
      cases hc
      simp only [aop] at hv
      split at hv <;> (try (cases hv; done))
      rename_i g p q he
      obtain ⟨vs, hrun, hl, hp⟩ := call_run (P := P) hO hop hcc hf hys he
      obtain ⟨rfl, h2⟩ := hcall g _ _ _ _ hv
      refine .inr (.inr (.inr ⟨rfl, rfl, vs.toArray, g, hrun, h2 w bad ρ B vs G hR hB hbad ?_ hl hp⟩))
      by_cases hno : (p ++ ys.map ev ++ q).all (noId DEPTH) = true
      · exact .inl hno
      · refine .inr ⟨fun id b hb hn => htc id ?_ b hb hn, hdd⟩
        simp only [touch, he, if_neg hno]
        simpa using (List.getElem?_eq_some_iff.mp (agree_of hb)).1
    · rename_i hcc
      split at hc <;> (try (cases hc; done))
      rename_i x t hca hct
      split at hc <;> (try (cases hc; done))
      · rename_i x' hs hx
        cases hc
        simp only [aop] at hv
        split at hv <;> (try (cases hv; done))
        rename_i l hl
        simp only [Option.some.injEq, Prod.mk.injEq] at hv
        obtain ⟨rfl, rfl⟩ := hv
        exact .inl ⟨says_lenS hop hcc hca hct hs hx hl hO, rfl, rfl⟩
      · rename_i e x' hs hx
        cases hc
        simp only [aop] at hv
        split at hv <;> (try (cases hv; done))
        rename_i n hn
        simp only [Option.some.injEq, Prod.mk.injEq] at hv
        obtain ⟨rfl, rfl⟩ := hv
        exact .inl ⟨says_lenV hop hcc hca hct hs hx hn hD hsh hO, rfl, rfl⟩
      · rename_i n e x' hs hx
        cases hc
        simp only [aop, hev, Option.some.injEq, Prod.mk.injEq] at hv
        obtain ⟨rfl, rfl⟩ := hv
        refine .inl ⟨⟨.int .i64 n, ?_, .frz (.int _ _)⟩, rfl, rfl⟩
        obtain ⟨cal, args, tys⟩ := c
        obtain ⟨args⟩ := args
        obtain ⟨tys⟩ := tys
        simp only at hcc hca hct
        subst hcc; subst hca; subst hct
        simp [execOp, hop, resolve, invoke, builtin, Builtin.len_, run_underlying hs, goInt]
    · rename_i hcc
      split at hc <;> (try (cases hc; done))
      rename_i ys hys
      cases hc
      simp only [aop] at hv
      split at hv <;> (try (cases hv; done))
      rename_i r hr
      simp only [Option.some.injEq, Prod.mk.injEq] at hv
      obtain ⟨rfl, rfl⟩ := hv
      exact .inl ⟨says_min hop hcc hys hr hO, rfl, rfl⟩
    · rename_i hcc
      split at hc <;> (try (cases hc; done))
      rename_i ys hys
      cases hc
      simp only [aop] at hv
      split at hv <;> (try (cases hv; done))
      rename_i r hr
      simp only [Option.some.injEq, Prod.mk.injEq] at hv
      obtain ⟨rfl, rfl⟩ := hv
      exact .inl ⟨says_max hop hcc hys hr hO, rfl, rfl⟩
    · rename_i hcc
      split at hc <;> (try (cases hc; done))
      rename_i sA xA t u hca hct
      split at hc <;> (try (cases hc; done))
      rename_i e du s' x' ht hu hs hx
      split at hc <;> (try (cases hc; done))
      · split at hc <;> (try (cases hc; done))
        cases hc
        simp [fullOp] at hnf
      · split at hc <;> (try (cases hc; done))
        cases hc
        simp [fullOp] at hnf
  | _ => simp [cOp] at hc
end
end Go.Proofs.Ytbcbaidnamebkaa.AE
