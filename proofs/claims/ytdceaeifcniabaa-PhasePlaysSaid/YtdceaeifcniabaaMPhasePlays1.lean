/- The texts that the law PhasePlays needs, part 1. No conditions. -/
import Derived.Orders
import Derived.Laws.LoneSync
import Derived.Test.YtdceaeifcniabaaProg
import Derived.Test.YtdceaeifcniabaaMPhasePlays0
namespace Go.Proofs.Ytdceaeifcniabaa.AE
set_option linter.unusedVariables false
set_option linter.unusedSimpArgs false
set_option linter.constructorNameAsVariable false
open Go Go.RowKit

def ExtOK (P:Program) (g:FuncId) (e:List AV→Option AV):Prop :=
 ∀ args v,e args=some v→∃ (ks:List (IntKind × Int)),args=ks.map (fun p=>AV.int p.1 p.2)∧∃ cv:Value,(∀ w,(callFunc g (ks.map fun p=>Value.int p.1 p.2).toArray).run P w=.ok (.value cv) w)∧∀ w bad,FRep w bad v cv

def FnOK (P:Program) (g:FuncId) (n:Nat) (fn:AFn):Prop :=
 ∀ (call callP:CallF) (fu:Nat) (args:List AV) (H H':Heap) (v:AV),args.length=n→CallOK P call→DrawOK P call callP→runFn call callP fu fn args H=some (v,H') →
   ∀ (w:World) (bad:Nat→Prop) (ρ:Rho) (B:Nat) (vs:List Value),HRel w bad ρ B H→B≤w.heap.size→(∀ b,bad b→b < B)→args.length=vs.length →
     (∀ (i:Nat) (c:AV) (u:Value),args[i]?=some c→vs[i]?=some u→Rep w bad (dead H) ρ c u) →
     CallRes P g vs.toArray w fun cv w'=>∃ ρ',Step w w' (dead H) (dead H') ρ ρ'∧HRel w' bad ρ' B H'∧Rep w' bad (dead H') ρ' v cv

structure ModOK (P:Program) (M:Mod):Prop where
 code:∀ g n fn,M.code g n=some fn→FnOK P g n fn
 ext:∀ g e,M.ext g=some e→ExtOK P g e

theorem CallRes.mono {P:Program} {g:FuncId} {vs:Array Value} {w:World} {R R':Value→World→Prop} (h:CallRes P g vs w R) (hi:∀ cv w',R cv w'→R' cv w'):CallRes P g vs w R':=by
 rcases h with ⟨cv,w',h1,h2⟩ | ⟨h1,h2⟩
 ·exact .inl ⟨cv,w',h1,hi _ _ h2⟩
 ·refine .inr ⟨h1,h2.mono ?_⟩
  rintro e w' ⟨cv,rfl,h⟩
  exact ⟨cv,rfl,hi _ _ h⟩

def PureOK (P:Program) (g:FuncId) (args:List AV) (v:AV):Prop :=
 ∀ (w:World) (bad:Nat→Prop) (vs:List Value),(∀ b,bad b→b < w.heap.size)→args.length=vs.length→(∀ (i:Nat) (c:AV) (u:Value),args[i]?=some c→vs[i]?=some u→FRep w bad c u) →
   CallRes P g vs.toArray w fun cv w'=>FRep w' bad v cv∧Below w.heap.size w w'

section
variable {P:Program} {w w0:World} {bad D D0:Nat→Prop} {ρ ρ0:Rho} {a:Act} {B:Nat} {s:St} {M:Mod}

theorem noId_frz:∀ (k:Nat) {v:AV} {cv:Value},noId k v=true→Rep w bad D ρ v cv→FRep w (fun b=>bad b ∨ own ρ b) v cv
 | 0,v,cv,h,_=>by simp [noId] at h
 | k+1,v,cv,h,hv=>by
   cases hv with
   | frz h=>exact h
   | ptr _=>simp [noId] at h
   | ptrD _ _ _=>simp [noId] at h
   | slc _ _ _=>simp [noId] at h
   | slcV _ _=>simp [noId] at h
   | slk _ _=>simp [noId] at h
   | slkD _ _ _=>simp [noId] at h
   | slcD _ _ _ _ _=>simp [noId] at h
   | agg cs vs hl hp =>
     simp only [noId,List.all_eq_true] at h
     exact .agg cs vs hl fun i c u hc hu=>noId_frz k (h c (List.mem_of_getElem? hc)) (hp i c u hc hu)
   | tup cs vs hl hp =>
     simp only [noId,List.all_eq_true] at h
     exact .tup cs vs hl fun i c u hc hu=>noId_frz k (h c (List.mem_of_getElem? hc)) (hp i c u hc hu)
   | fn g p q va vb l1 l2 r1 r2 =>
     simp only [noId,Bool.and_eq_true,List.all_eq_true] at h
     exact .fn g p q va vb l1 l2 (fun i c u hc hu=>noId_frz k (h.1 c (List.mem_of_getElem? hc)) (r1 i c u hc hu)) (fun i c u hc hu=>noId_frz k (h.2 c (List.mem_of_getElem? hc)) (r2 i c u hc hu))

theorem noMem_any {w2:World} {bad2:Nat→Prop}:∀ (k:Nat) {v:AV} {cv:Value},noMem k v=true→FRep w bad v cv→FRep w2 bad2 v cv
 | 0,v,cv,h,_=>by simp [noMem] at h
 | k+1,v,cv,h,hv=>by
   cases hv with
   | int a b=>exact .int _ _
   | bool b=>exact .bool _
   | str s=>exact .str _
   | nilp=>exact .nilp
   | znil=>exact .znil
   | zsl a=>exact .zsl a
   | lst0 a c h0=>exact .lst0 a c h0
   | emp a c=>exact .emp a c
   | lst l b o es c vs hn he hb hl hs hc hr =>
     simp only [noMem,List.isEmpty_iff] at h
     subst h
     exact .lst0 _ _ (fun h=>by cases h)
   | fptr=>simp [noMem] at h
   | nilf=>exact .nilf
   | undef=>exact .undef _
   | agg cs vs hl hp =>
     simp only [noMem,List.all_eq_true] at h
     exact .agg cs vs hl fun i c u hc hu=>noMem_any k (h c (List.mem_of_getElem? hc)) (hp i c u hc hu)
   | tup cs vs hl hp =>
     simp only [noMem,List.all_eq_true] at h
     exact .tup cs vs hl fun i c u hc hu=>noMem_any k (h c (List.mem_of_getElem? hc)) (hp i c u hc hu)
   | fn g p q va vb l1 l2 r1 r2 =>
     simp only [noMem,Bool.and_eq_true,List.all_eq_true] at h
     exact .fn g p q va vb l1 l2 (fun i c u hc hu=>noMem_any k (h.1 c (List.mem_of_getElem? hc)) (r1 i c u hc hu)) (fun i c u hc hu=>noMem_any k (h.2 c (List.mem_of_getElem? hc)) (r2 i c u hc hu))

theorem enter_run {sq:Bool} {g:FuncId} {fn:AFn} (h:cFnQ P sq g=some fn) (vs:Array Value) (w:World):(callFunc g vs).run P w=.ok (.enter g vs) w:=by
 unfold cFnQ at h
 split at h <;> (try (cases h; done))
 rename_i f hf
 split at h <;> (try (cases h; done))
 rename_i c hb
 split at h <;> (try (cases h; done))
 rename_i hn
 have hn' : (f.name == "runtime.NumGoroutine") = false := by simpa using hn
 unfold callFunc
 simp only [Sem.run_bind,run_program,Result.andThen_ok,hf]
 simp [hn',hb]

theorem below_step {w':World} {H:Heap} (hR:HRel w bad ρ B H) (hB:Below w.heap.size w w'):Step w w' (dead H) (dead H) ρ ρ∧HRel w' bad ρ B H:=by
 have hst:Step w w' (dead H) (dead H) ρ ρ:=⟨⟨hB.os,hB.tape,hB.output,hB.size,fun b hb _=>hB.block b hb⟩,RLe.refl _ _,fun _ h=>h,fun _ _=>.inl rfl⟩
 refine ⟨hst,?_,hR.virt,hR.inj,hR.res⟩
 intro id b es cap h
 obtain ⟨k,hk,hbr⟩:=hR.real id b es cap h
 exact ⟨k,hk,hbr.step hst (hB.block b (own_lt hR ⟨id,es,cap,h⟩).1)⟩

theorem fnOK_of {sq:Bool} {g:FuncId} {n:Nat} {fn:AFn} (h:cFnQ P sq g=some fn):FnOK P g n fn:=by
 intro call callP fu args H H' v _ hcall hdraw hr w bad ρ B vs hR hB hbad hl hp
 exact .inr ⟨enter_run h _ _,runFn_sound hcall hdraw hbad h hr hR hB hl hp⟩

structure Fits (n:Nat) (Z:Heap) (ρ:Rho) (G G':Heap):Prop where
 none:∀ i:Nat,n≤i→i < n+Z.length→ρ i=.no
 new:∀ (i:Nat) (z:Option Blk),Z[i]?=some z→G'[n+i]?=some z
 old:∀ i:Nat,¬ (n≤i∧i < n+Z.length)→ρ i ≠ .no→G'[i]?=G[i]?
 dead:∀ i,dead G i→dead G' i

def PCallOK (P:Program) (call:CallF):Prop :=
 ∀ g args H v H',call g args H=some (v,H')→∃ Z:Heap,H'=H ++ Z∧∀ (w:World) (bad:Nat→Prop) (ρ:Rho) (B:Nat) (vs:List Value) (G G':Heap),HRel w bad ρ B G→B≤w.heap.size→(∀ b,bad b→b < B) →
   (args.all (noId DEPTH)=true ∨ ((∀ id b,hget H id=some b→ρ id ≠ .no→hget G id=some b)∧∀ id,dead G id→hget H id=none))→args.length=vs.length →
   (∀ (i:Nat) (c:AV) (u:Value),args[i]?=some c→vs[i]?=some u→Rep w bad (dead G) ρ c u)→Fits H.length Z ρ G G' →
   CallRes P g vs.toArray w fun cv w'=>∃ ρ':Rho,(∀ i,¬ (H.length≤i∧i < H.length+Z.length)→ρ' i=ρ i)∧Step w w' (dead G) (dead G') ρ ρ'∧HRel w' bad ρ' B G'∧Rep w' bad (dead G') ρ' v cv

theorem below_fits {w':World} {G G':Heap} {n:Nat} (hR:HRel w bad ρ B G) (hB:Below w.heap.size w w') (hf:Fits n [] ρ G G'):Step w w' (dead G) (dead G') ρ ρ∧HRel w' bad ρ B G':=by
 have hst:Step w w' (dead G) (dead G') ρ ρ:=⟨⟨hB.os,hB.tape,hB.output,hB.size,fun b hb _=>hB.block b hb⟩,RLe.refl _ _,hf.dead,fun _ _=>.inl rfl⟩
 have hold:∀ i:Nat,ρ i ≠ .no→G'[i]?=G[i]?:=fun i hi=>hf.old i (by simp) hi
 refine ⟨hst,?_,?_,hR.inj,fun id h=>let ⟨k,hk,he⟩:=hR.res id h; ⟨k,(hold id (by simp [h])).trans hk,he⟩⟩
 ·intro id b es cap h
  obtain ⟨k,hk,hbr⟩:=hR.real id b es cap h
  exact ⟨k,(hold id (by simp [h])).trans hk,hbr.step hst (hB.block b (own_lt hR ⟨id,es,cap,h⟩).1)⟩
 ·intro id h
  obtain ⟨k,hk,he⟩:=hR.virt id h
  exact ⟨k,(hold id (by simp [h])).trans hk,he⟩

theorem PCallOK.call {call:CallF} (h:PCallOK P call):CallOK P call:=by
 intro g args H v H' hc w bad ρ B vs hR hB hbad hl hp
 obtain ⟨Z,rfl,h2⟩:=h g args H v H' hc
 have hf:Fits H.length Z ρ H (H ++ Z):=by
  refine ⟨fun i h1 _=>?_,fun i z hz=>?_,fun i h1 h2=>?_,fun i hd=>?_⟩
  ·cases hx:ρ i with
   | no=>rfl
   | _=>exact absurd (lt_of_no hR (i:=i) (by simp [hx])) (by omega)
  ·rw [List.getElem?_append_right (by omega),show H.length+i - H.length=i by omega]; exact hz
  ·exact List.getElem?_append_left (lt_of_no hR h2)
  ·simp only [dead] at *
   rw [List.getElem?_append_left (List.getElem?_eq_some_iff.mp hd).1]; exact hd
 refine (h2 w bad ρ B vs H (H ++ Z) hR hB hbad (.inr ⟨fun id b hb _=>hb,fun id hd=>by simp only [dead] at hd; simp [hget,hd]⟩) hl hp hf).mono ?_
 rintro cv w' ⟨ρ',_,hst,hR',hrep⟩
 exact ⟨ρ',hst,hR',hrep⟩

theorem pureCall_ok {pc:FuncId→List AV→Option AV} (hpc:∀ g args v,pc g args=some v→PureOK P g args v):PCallOK P (pureCall pc):=by
 intro g args H v H' h
 unfold pureCall at h
 split at h
 ·rename_i hno
  split at h <;> (try (cases h; done))
  rename_i r hr
  cases h
  refine ⟨[],by simp,fun w bad ρ B vs G G' hR hB hbad _ hl hp hf=>?_⟩
  refine (hpc _ _ _ hr w (fun b=>bad b ∨ own ρ b) vs (fun b hb=>hb.elim (fun x=>Nat.lt_of_lt_of_le (hbad b x) hB) (fun x=>(own_lt hR x).1)) hl (fun i c u hc hu=>noId_frz DEPTH (List.all_eq_true.mp hno c (List.mem_of_getElem? hc)) (hp i c u hc hu))).mono ?_
  rintro cv w' ⟨hfr,hbw⟩
  obtain ⟨hst,hR'⟩:=below_fits hR hbw hf
  exact ⟨ρ,fun _ _=>rfl,hst,hR',.frz hfr⟩
 ·rename_i hno
  split at h <;> (try (cases h; done))
  rename_i r hr
  split at h <;> (try (cases h; done))
  rename_i hnm
  cases h
  refine ⟨[],by simp,fun w bad ρ B vs G G' hR hB hbad hag hl hp hf=>?_⟩
  obtain ⟨hag1,hag2⟩:=hag.resolve_left hno
  refine (hpc _ _ _ hr w bad vs (fun b hb=>Nat.lt_of_lt_of_le (hbad b hb) hB) (by simpa using hl) (fun i c u hc hu=>by
   rw [List.getElem?_map] at hc
   obtain ⟨c',hc',rfl⟩:=Option.map_eq_some_iff.mp hc
   exact snap_rep hbad hR hag1 hag2 DEPTH (hp i c' u hc' hu))).mono ?_
  rintro cv w' ⟨hfr,hbw⟩
  obtain ⟨hst,hR'⟩:=below_fits hR hbw hf
  exact ⟨ρ,fun _ _=>rfl,hst,hR',.frz (noMem_any DEPTH hnm hfr)⟩

theorem extCall_ok {g:FuncId} {e:List AV→Option AV} (he:ExtOK P g e) {args:List AV} {H H':Heap} {v:AV} (h:extCall e g args H=some (v,H')):H'=H∧∀ (w:World) (bad:Nat→Prop) (ρ:Rho) (vs:List Value) (G:Heap),args.length=vs.length →
 (∀ (i:Nat) (c:AV) (u:Value),args[i]?=some c→vs[i]?=some u→Rep w bad (dead G) ρ c u)→CallRes P g vs.toArray w fun cv w'=>w'=w∧Rep w' bad (dead G) ρ v cv:=by
 unfold extCall at h
 split at h <;> (try (cases h; done))
 rename_i r hr
 cases h
 refine ⟨rfl,fun w bad ρ vs G hl hp=>?_⟩
 obtain ⟨ks,rfl,cv,h1,h2⟩:=he _ _ hr
 have:vs=ks.map fun p=>Value.int p.1 p.2:=by
  apply List.ext_getElem?
  intro i
  rcases Nat.lt_or_ge i ks.length with hlt | hge
  ·have hvl:i < vs.length:=by simp at hl; omega
   have:=hp i (.int ks[i].1 ks[i].2) vs[i] (by simp [hlt]) (List.getElem?_eq_getElem hvl)
   rw [List.getElem?_eq_getElem hvl,rep_int this]
   simp [hlt]
  ·rw [List.getElem?_eq_none (by simp at hl; omega),List.getElem?_eq_none (by simp; omega)]
 subst this
 exact .inl ⟨cv,w,h1 w,rfl,.frz (h2 _ _)⟩

theorem emptyCall_ok {pc:FuncId→List AV→Option AV} (hpc:∀ g args v,pc g args=some v→PureOK P g args v):PCallOK P (emptyCall M pc):=by
 intro g args H v H' h
 unfold emptyCall at h
 split at h <;> (try (cases h; done))
 rename_i r hr
 cases h
 unfold emptyR at hr
 split at hr <;> (try (cases hr; done))
 split at hr <;> (try (cases hr; done))
 rename_i x
 split at hr <;> (try (cases hr; done))
 rename_i hx
 unfold emptyQ at hr
 split at hr <;> (try (cases hr; done))
 rename_i h1 h2
 cases hr
 refine ⟨[],by simp,fun w bad ρ B vs G G' hR hB hbad _ hl hp hf=>?_⟩
 obtain ⟨u,rfl⟩:∃ u,vs=[u]:=by
  match vs,hl with
  | [u],_=>exact ⟨u,rfl⟩
 have hu:=hp 0 x u rfl rfl
 have he:∃ a c,u=.slice a 0 c∧(a=none→c=0):=by
  cases x <;> simp only [clr] at hx <;> (try (cases hx; done))
  ·cases hu with
   | frz hu=>cases hu with
     | znil=>exact ⟨_,_,rfl,fun _=>rfl⟩
     | zsl a=>exact ⟨_,_,rfl,fun _=>rfl⟩
  ·rename_i l _
   have hl0:l=[]:=by simpa using hx
   subst hl0
   cases hu with
   | frz hu=>cases hu with
     | lst0 a c h=>exact ⟨_,_,rfl,h⟩
     | lst _ b o es c vs hn he hb hl hs hc hr=>exact ⟨_,_,rfl,fun h=>by cases h⟩
 obtain ⟨a,c,rfl,hac⟩:=he
 have hbad':∀ b,(bad b ∨ own ρ b)→b < w.heap.size:=fun b hb=>hb.elim (fun x=>Nat.lt_of_lt_of_le (hbad b x) hB) (fun x=>(own_lt hR x).1)
 cases a with
 | none =>
   obtain rfl:=hac rfl
   refine (hpc _ _ _ h1 w (fun b=>bad b ∨ own ρ b) [.slice none 0 0] hbad' rfl (fun i c u hc hu=>by
    match i,hc,hu with
    | 0,hc,hu=>cases hc; cases hu; exact .znil)).mono ?_
   rintro cv w' ⟨hfr,hbw⟩
   obtain ⟨hst,hR'⟩:=below_fits hR hbw hf
   exact ⟨ρ,fun _ _=>rfl,hst,hR',.frz (noMem_any 1 rfl hfr)⟩
 | some a =>
   refine (hpc _ _ _ h2 w (fun b=>bad b ∨ own ρ b) [.slice (some a) 0 c] hbad' rfl (fun i c u hc hu=>by
    match i,hc,hu with
    | 0,hc,hu=>cases hc; cases hu; exact .emp _ _)).mono ?_
   rintro cv w' ⟨hfr,hbw⟩
   obtain ⟨hst,hR'⟩:=below_fits hR hbw hf
   exact ⟨ρ,fun _ _=>rfl,hst,hR',.frz (noMem_any 1 rfl hfr)⟩

theorem callZ_ok (hM:ModOK P M) {pc:FuncId→List AV→Option AV} (hpc:∀ g args v,pc g args=some v→PureOK P g args v):PCallOK P (callZ M pc):=by
 intro g args H v H' h
 unfold callZ at h
 split at h
 ·rename_i e he
  obtain ⟨q1,q2⟩:=extCall_ok (hM.ext g e he) h
  refine ⟨[],by simp [q1],fun w bad ρ B vs G G' hR hB hbad hag hl hp hf=>?_⟩
  refine (q2 w bad ρ vs G hl hp).mono ?_
  rintro cv w' ⟨rfl,hrep⟩
  obtain ⟨hst,hR'⟩:=below_fits hR (Below.refl _ _) hf
  exact ⟨ρ,fun _ _=>rfl,hst,hR',hrep.step hst⟩
 ·split at h
  ·split at h
   ·rename_i u hu
    exact emptyCall_ok (M:=M) hpc g args H v H' (by unfold emptyCall; rw [hu]; exact h)
   ·exact pureCall_ok hpc g args H v H' h
  ·exact pureCall_ok hpc g args H v H' h

def DrawLaw (P:Program):Prop:=∀ call callP:CallF,CallOK P call→PCallOK P callP→DrawOK P call callP

theorem padH_len:∀ n,(padH n).length=n
 | 0=>rfl
 | n+1=>by simp [padH,padH_len n]
theorem padOk_spec:∀ {n:Nat} {H:Heap},padOk n H=true→n≤H.length∧∀ i,i < n→∃ b,H[i]?=some (some b)∧b.e.es=0∧b.els ≠ []
 | 0,H,_=>⟨Nat.zero_le _,fun i hi=>absurd hi (by omega)⟩
 | n+1,[],h=>by simp [padOk] at h
 | n+1,none::l,h=>by simp [padOk] at h
 | n+1,some b::l,h=>by
   simp only [padOk,Bool.and_eq_true] at h
   obtain ⟨⟨h1,h2⟩,h3⟩:=h
   obtain ⟨q1,q2⟩:=padOk_spec h3
   refine ⟨by simp; omega,fun i hi=>?_⟩
   cases i with
   | zero=>exact ⟨b,rfl,Nat.eq_of_beq_eq_true h1,by intro hx; simp [hx] at h2⟩
   | succ i=>exact q2 i (by omega)

theorem Rep.move {w:World} {bad bad' D D':Nat→Prop} {ρ ρ':Rho} (hf:∀ b,(bad' b ∨ own ρ' b)→(bad b ∨ own ρ b)) (hρ:∀ i,ρ i ≠ .no→ρ' i=ρ i) (hD:∀ i,D i→D' i) {v:AV} {c:Value} (h:Rep w bad D ρ v c):Rep w bad' D' ρ' v c:=by
 induction h with
 | frz h=>exact .frz (h.mono (Nat.le_refl _) (fun _ _ _=>rfl) (fun b _ hb=>hf b hb))
 | ptr h=>exact .ptr ((hρ _ (by simp [h])).trans h)
 | ptrD b o h=>exact .ptrD b o (hD _ h)
 | slc h hc hn=>exact .slc ((hρ _ (by simp [h])).trans h) hc hn
 | slcV a h=>exact .slcV a ((hρ _ (by simp [h])).trans h)
 | slk h hc=>exact .slk ((hρ _ (by simp [h])).trans h) hc
 | slkD a h ha=>exact .slkD a (hD _ h) ha
 | slcD a c h hn ha=>exact .slcD a c (hD _ h) hn ha
 | agg cs vs hl h ih=>exact .agg cs vs hl fun i c v hc hv=>ih i c v hc hv
 | tup cs vs hl h ih=>exact .tup cs vs hl fun i c v hc hv=>ih i c v hc hv
 | fn g a b va vb hla hlb ha hb iha ihb=>exact .fn g a b va vb hla hlb (fun i c v hc hv=>iha i c v hc hv) (fun i c v hc hv=>ihb i c v hc hv)

theorem fresh_ok {call callP:CallF} {fu:Nat} {g:FuncId} {n0:Nat} {fn:AFn} (hfn:FnOK P g n0 fn) (hcall:CallOK P call) (hdraw:DrawOK P call callP) {args:List AV} {H H':Heap} {v:AV} (hlen:args.length=n0) (hno:args.all (noId DEPTH)=true) (h:freshRun (runFn call callP fu fn) args H=some (v,H')) :
 ∃ Z:Heap,H'=H ++ Z∧∀ (w:World) (bad:Nat→Prop) (ρ:Rho) (B:Nat) (vs:List Value) (G G':Heap),HRel w bad ρ B G→B≤w.heap.size→(∀ b,bad b→b < B)→args.length=vs.length →
   (∀ (i:Nat) (c:AV) (u:Value),args[i]?=some c→vs[i]?=some u→Rep w bad (dead G) ρ c u)→Fits H.length Z ρ G G' →
   CallRes P g vs.toArray w fun cv w'=>∃ ρ':Rho,(∀ i,¬ (H.length≤i∧i < H.length+Z.length)→ρ' i=ρ i)∧Step w w' (dead G) (dead G') ρ ρ'∧HRel w' bad ρ' B G'∧Rep w' bad (dead G') ρ' v cv:=by
 unfold freshRun at h
 split at h <;> (try (cases h; done))
 rename_i r H1 hr
 split at h <;> (try (cases h; done))
 rename_i hpad
 cases h
 obtain ⟨p1,p2⟩:=padOk_spec hpad
 generalize hn:H.length=n at *
 have hZl:(H1.drop n).length=H1.length - n:=by simp
 have hZ:∀ i,n≤i→(H1.drop n)[i - n]?=H1[i]?:=fun i hi=>by rw [List.getElem?_drop,show n+(i - n)=i by omega]
 refine ⟨H1.drop n,rfl,fun w bad ρ B vs G G' hR hB hbad hl hp hf=>?_⟩
 have hR1:HRel w (fun b=>bad b ∨ own ρ b) (fun _=>.no) w.heap.size (padH n):=⟨(fun _ _ _ _ h=>by cases h),(fun _ h=>by cases h),(fun _ _ _ _ _ _ _ h=>by cases h),(fun _ h=>by cases h)⟩
 have hb1:∀ b,(bad b ∨ own ρ b)→b < w.heap.size:=fun b hb=>hb.elim (fun x=>Nat.lt_of_lt_of_le (hbad b x) hB) (fun x=>(own_lt hR x).1)
 refine (hfn call callP fu args (padH n) H1 _ hlen hcall hdraw hr w (fun b=>bad b ∨ own ρ b) (fun _=>.no) w.heap.size vs hR1 (Nat.le_refl _) hb1 hl (fun i c u hc hu =>
  .frz ((noId_frz DEPTH (List.all_eq_true.mp hno c (List.mem_of_getElem? hc)) (hp i c u hc hu)).mono (Nat.le_refl _) (fun _ _ _=>rfl) (fun b _ hb=>hb.elim (fun x=>x) (fun ⟨_,_,_,x⟩=>by cases x))))).mono ?_
 rintro cv w' ⟨ρ1,st,hR2,hrep⟩
 have hlow:∀ i,i < n→ρ1 i=.no:=by
  intro i hi
  obtain ⟨b,h1,h2,h3⟩:=p2 i hi
  cases hx:ρ1 i with
  | no=>rfl
  | virt =>
    obtain ⟨k,hk,he⟩:=hR2.virt i hx
    rw [h1] at hk; cases hk
    exact absurd he h3
  | res =>
    obtain ⟨k,hk,he⟩:=hR2.res i hx
    rw [h1] at hk; cases hk
    exact absurd h2 he
  | real b' es cap =>
    obtain ⟨k,hk,he⟩:=hR2.real i b' es cap hx
    rw [h1] at hk; cases hk
    have e1:=he.hes
    have e2:=he.pos
    omega
 have hin:∀ i,ρ1 i ≠ .no→n≤i∧i < n+(H1.drop n).length:=by
  intro i hi
  have h1:=lt_of_no hR2 hi
  rcases Nat.lt_or_ge i n with h2 | h2
  ·exact absurd (hlow i h2) hi
  ·omega
 have hdl:∀ i,dead H1 i→n≤i:=by
  intro i hd
  rcases Nat.lt_or_ge i n with h2 | h2
  ·obtain ⟨b,h1,_⟩:=p2 i h2
   simp only [dead] at hd
   rw [h1] at hd; cases hd
  ·exact h2
 have hD:∀ i,dead H1 i→dead G' i:=by
  intro i hd
  have h1:=hdl i hd
  simp only [dead] at *
  have:=hf.new (i - n) none (by rw [hZ i h1]; exact hd)
  rwa [show n+(i - n)=i by omega] at this
 have hnew:∀ i k,ρ1 i ≠ .no→H1[i]?=some k→G'[i]?=some k:=by
  intro i k hi hk
  obtain ⟨h1,h2⟩:=hin i hi
  have:=hf.new (i - n) k (by rw [hZ i h1]; exact hk)
  rwa [show n+(i - n)=i by omega] at this
 let ρ':Rho:=fun i=>if n≤i∧i < n+(H1.drop n).length then ρ1 i else ρ i
 have e1:∀ i,n≤i∧i < n+(H1.drop n).length→ρ' i=ρ1 i:=fun i hi=>if_pos hi
 have e2:∀ i,¬ (n≤i∧i < n+(H1.drop n).length)→ρ' i=ρ i:=fun i hi=>if_neg hi
 have e3:∀ i,ρ1 i ≠ .no→ρ' i=ρ1 i:=fun i hi=>e1 i (hin i hi)
 have e4:∀ i,ρ i ≠ .no→ρ' i=ρ i:=fun i hi=>e2 i (fun h=>hi (hf.none i h.1 h.2))
 have hown:∀ b,own ρ' b→own ρ b ∨ own ρ1 b:=by
  rintro b ⟨i,es,cap,h⟩
  by_cases hi:n≤i∧i < n+(H1.drop n).length
  ·rw [e1 i hi] at h; exact .inr ⟨i,es,cap,h⟩
  ·rw [e2 i hi] at h; exact .inl ⟨i,es,cap,h⟩
 have hkeep:∀ b,b < w.heap.size→w'.heap[b]?=w.heap[b]?:=fun b hb=>st.grow.block b hb (fun ⟨_,_,_,x⟩=>by cases x)
 have hst:Step w w' (dead G) (dead G') ρ ρ':=by
  refine ⟨⟨st.grow.os,st.grow.tape,st.grow.output,st.grow.size,fun b hb _=>hkeep b hb⟩,⟨fun b hb=>?_⟩,hf.dead,fun i hi=>.inl (e4 i hi)⟩
  rcases hown b hb with h | h
  ·exact .inl h
  ·exact (st.rle.keep b h).elim (fun ⟨_,_,_,x⟩=>by cases x) .inr
 have hmv:∀ {c:AV} {u:Value},Rep w' (fun b=>bad b ∨ own ρ b) (dead H1) ρ1 c u→Rep w' bad (dead G') ρ' c u:=fun h=>h.move (fun b hb=>by
  rcases hb with hb | hb
  ·exact .inl (.inl hb)
  ·exact (hown b hb).elim (fun x=>.inl (.inr x)) .inr) e3 hD
 refine ⟨ρ',e2,hst,⟨?_,?_,?_,fun id h=>?_⟩,hmv hrep⟩
 rotate_right
 ·by_cases hi:n≤id∧id < n+(H1.drop n).length
  ·rw [e1 id hi] at h
   obtain ⟨k,hk,hb⟩:=hR2.res id h
   exact ⟨k,hnew id _ (by simp [h]) hk,hb⟩
  ·rw [e2 id hi] at h
   obtain ⟨k,hk,hb⟩:=hR.res id h
   exact ⟨k,(hf.old id hi (by simp [h])).trans hk,hb⟩
 ·intro id b es cap h
  by_cases hi:n≤id∧id < n+(H1.drop n).length
  ·rw [e1 id hi] at h
   obtain ⟨k,hk,hb⟩:=hR2.real id b es cap h
   obtain ⟨cur,fz,q1,q2,q3,q4⟩:=hb.mem
   exact ⟨k,hnew id _ (by simp [h]) hk,hb.hes,hb.pos,Nat.le_trans hB hb.low,hb.len,hb.ok,cur,fz,q1,q2,q3,fun i el j c hel hj=>let ⟨u,hu,hr⟩:=q4 i el j c hel hj; ⟨u,hu,hmv hr⟩⟩
  ·rw [e2 id hi] at h
   obtain ⟨k,hk,hb⟩:=hR.real id b es cap h
   exact ⟨k,(hf.old id hi (by simp [h])).trans hk,hb.step hst (hkeep b (own_lt hR ⟨id,es,cap,h⟩).1)⟩
 ·intro id h
  by_cases hi:n≤id∧id < n+(H1.drop n).length
  ·rw [e1 id hi] at h
   obtain ⟨k,hk,hb⟩:=hR2.virt id h
   exact ⟨k,hnew id _ (by simp [h]) hk,hb⟩
  ·rw [e2 id hi] at h
   obtain ⟨k,hk,hb⟩:=hR.virt id h
   exact ⟨k,(hf.old id hi (by simp [h])).trans hk,hb⟩
 ·intro id id' b es cap es' cap' h h'
  by_cases hi:n≤id∧id < n+(H1.drop n).length <;> by_cases hi':n≤id'∧id' < n+(H1.drop n).length
  ·rw [e1 id hi] at h; rw [e1 id' hi'] at h'
   exact hR2.inj _ _ _ _ _ _ _ h h'
  ·rw [e1 id hi] at h; rw [e2 id' hi'] at h'
   have q1:=(own_lt hR2 ⟨id,es,cap,h⟩).2
   have q2:=(own_lt hR ⟨id',es',cap',h'⟩).1
   omega
  ·rw [e2 id hi] at h; rw [e1 id' hi'] at h'
   have q1:=(own_lt hR2 ⟨id',es',cap',h'⟩).2
   have q2:=(own_lt hR ⟨id,es,cap,h⟩).1
   omega
  ·rw [e2 id hi] at h; rw [e2 id' hi'] at h'
   exact hR.inj _ _ _ _ _ _ _ h h'

theorem callB_ok (hM:ModOK P M) (hD:DrawLaw P) {pc:FuncId→List AV→Option AV} (hpc:∀ g args v,pc g args=some v→PureOK P g args v) :
 ∀ n,CallOK P (callB M pc n true)∧PCallOK P (callB M pc n false)
 | 0=>⟨(callZ_ok hM hpc).call,callZ_ok hM hpc⟩
 | n+1=>by
   obtain ⟨ih1,ih2⟩:=callB_ok hM hD hpc n
   constructor
   ·intro g args H v H' h w bad ρ B vs hR hB hbad hl hp
    simp only [callB] at h
    split at h
    ·rename_i e he
     obtain ⟨r1,r2⟩:=extCall_ok (hM.ext g e he) h
     subst r1
     refine (r2 w bad ρ vs H' hl hp).mono ?_
     rintro cv w' ⟨rfl,hrep⟩
     exact ⟨ρ,Step.refl _ _ _,hR,hrep⟩
    ·split at h
     ·split at h
      ·rename_i r hr
       exact (emptyCall_ok (M:=M) hpc).call g args H v H' (by unfold emptyCall; rw [hr]; exact h) w bad ρ B vs hR hB hbad hl hp
      split at h <;> (try (cases h; done))
      rename_i fn hfn
      exact hM.code g _ fn hfn _ _ _ _ _ _ _ rfl ih1 (hD _ _ ih1 ih2) h w bad ρ B vs hR hB hbad hl hp
     ·exact (pureCall_ok hpc).call g args H v H' h w bad ρ B vs hR hB hbad hl hp
   ·intro g args H v H' h
    simp only [callB] at h
    split at h
    ·rename_i e he
     exact callZ_ok hM hpc g args H v H' (by simp only [callZ,he]; exact h)
    ·split at h
     ·split at h
      ·rename_i r hr
       exact emptyCall_ok (M:=M) hpc g args H v H' (by unfold emptyCall; rw [hr]; exact h)
      ·split at h
       ·rename_i hfr
        simp only [Bool.and_eq_true] at hfr
        split at h <;> (try (cases h; done))
        rename_i fn hfn
        obtain ⟨Z,q1,q2⟩:=fresh_ok (hM.code g _ fn hfn) ih1 (hD _ _ ih1 ih2) rfl hfr.2 h
        exact ⟨Z,q1,fun w bad ρ B vs G G' hR hB hbad _ hl hp hf=>q2 w bad ρ B vs G G' hR hB hbad hl hp hf⟩
       ·exact pureCall_ok hpc g args H v H' h
     ·exact pureCall_ok hpc g args H v H' h

theorem pcall_sound (hM:ModOK P M) (hD:DrawLaw P):∀ (d:Nat) g args v,pcall M d g args=some v→PureOK P g args v
 | 0,g,args,v,h=>by simp [pcall] at h
 | d+1,g,args,v,h=>by
   have ih:=pcall_sound hM hD d
   obtain ⟨q1,q2⟩:=callB_ok hM hD ih IDEPTH
   simp only [pcall] at h
   split at h <;> (try (cases h; done))
   rename_i fn hfn
   split at h <;> (try (cases h; done))
   rename_i r H' hr
   cases h
   intro w bad vs hbad hl hp
   have hR:HRel w bad (fun _=>.no) w.heap.size ([]:Heap):=⟨(fun _ _ _ _ h=>by cases h),(fun _ h=>by cases h),(fun _ _ _ _ _ _ _ h=>by cases h),(fun _ h=>by cases h)⟩
   refine (hM.code g _ fn hfn _ _ _ _ _ _ _ rfl q1 (hD _ _ q1 q2) hr w bad (fun _=>.no) w.heap.size vs hR (Nat.le_refl _) hbad hl (fun i c u hc hu=>.frz ((hp i c u hc hu).mono (Nat.le_refl _) (fun _ _ _=>rfl) (fun b _ hb=>hb.elim (fun x=>x) (fun ⟨_,_,_,x⟩=>by cases x))))).mono ?_
   rintro cv w' ⟨ρ',st,hR',hrep⟩
   refine ⟨snap_rep hbad hR' (fun id b hb _=>hb) (fun id hd=>by simp only [dead] at hd; simp [hget,hd]) DEPTH hrep,st.grow.os,st.grow.tape,st.grow.output,st.grow.size,fun b hb=>st.grow.block b hb (fun ⟨_,_,_,x⟩=>by cases x)⟩
end
end Go.Proofs.Ytdceaeifcniabaa.AE

namespace Go.Proofs.Ytdceaeifcniabaa.AE
set_option linter.unusedVariables false
set_option linter.unusedSimpArgs false
set_option linter.constructorNameAsVariable false
open Go Go.RowKit

def DrawnRes (P:Program) (w:World) (bad:Nat→Prop) (B:Nat) (ρ:Rho) (a:Act) (o:Oper) (ev:Opd→AV) (H G:Heap) (io:IOp) (v:AV) (H':Heap):Prop :=
 (Says P w bad (dead G) ρ a o v∧H'=H∧storeOp io=false) ∨ (∃ k,Makes P w bad (dead G) ρ a o v H.length k∧H'=H ++ [some k]∧storeOp io=false) ∨
 (∃ id k k' w',G[id]?=some (some k)∧hget H id=some k∧k'.e=k.e∧k'.els.length=k.els.length∧H'=H.set id (some k')∧touch ev H io=[id]∧storeOp io=true∧v=.undef ∧
   (∀ G':Heap,G'=G.set id (some k')→Step w w' (dead G) (dead G') ρ ρ∧HRel w' bad ρ B G')∧(execOp a.eval o).run P w=.ok .skip w'∧ρ id ≠ .no) ∨
 (storeOp io=false∧isCall io=true∧∃ Z:Heap,H'=H ++ Z∧∃ vs g,(execOp a.eval o).run P w=(callFunc g vs).run P w∧∀ G':Heap,Fits H.length Z ρ G G'→CallRes P g vs w fun cv w'=>∃ ρ':Rho,(∀ i,¬ (H.length≤i∧i < H.length+Z.length)→ρ' i=ρ i)∧Step w w' (dead G) (dead G') ρ ρ'∧HRel w' bad ρ' B G'∧Rep w' bad (dead G') ρ' v cv)

section
variable {P:Program} {w:World} {bad:Nat→Prop} {ρ:Rho} {a:Act} {o:Oper} {B:Nat}

set_option maxHeartbeats 1000000 in
theorem op_drawn {io:IOp} {call:CallF} {v:AV} {H H' G:Heap} {ev:Opd→AV} (hc:cOp P o.type o.op=some io) (hcall:PCallOK P call) (hnf:fullOp io=false) (hbad:∀ b,bad b→b < B) (hR:HRel w bad ρ B G) (hB:B≤w.heap.size)
 (hO:OpsOk w bad (dead G) ρ a ev o.op.operands.toList) (hsh:∀ id b,hget H id=some b→∃ b',hget G id=some b'∧b'.els.length=b.els.length) (hse:∀ id b,hget H id=some b→∃ b',hget G id=some b'∧b'.e=b.e)
 (htc:∀ id ∈ touch ev H io,∀ b,hget H id=some b→ρ id ≠ .no→hget G id=some b) (hdd:∀ id,dead G id→hget H id=none) (hev:∀ x,ev (.v x)=x) (hv:aop call ev H io=some (v,H')):DrawnRes P w bad B ρ a o ev H G io v H':=by
 have hD:∀ id,dead G id ↔ G[id]?=some none:=fun _=>Iff.rfl
 generalize hop:o.op=op at hc
 cases op with
 | move x =>
   obtain ⟨y,hy,rfl⟩:=map_some' hc
   simp only [aop,Option.some.injEq,Prod.mk.injEq] at hv
   obtain ⟨rfl,rfl⟩:=hv
   exact .inl ⟨says_mov (.inl hop) hy hO,rfl,rfl⟩
 | assign x =>
   obtain ⟨y,hy,rfl⟩:=map_some' hc
   simp only [aop,Option.some.injEq,Prod.mk.injEq] at hv
   obtain ⟨rfl,rfl⟩:=hv
   exact .inl ⟨says_mov (.inr hop) hy hO,rfl,rfl⟩
 | pick c x y =>
   simp only [cOp] at hc
   split at hc <;> (try (cases hc; done))
   rename_i c' x' y' h1 h2 h3
   cases hc
   simp only [aop] at hv
   split at hv <;> (try (cases hv; done))
   rename_i t ht
   simp only [Option.some.injEq,Prod.mk.injEq] at hv
   obtain ⟨rfl,rfl⟩:=hv
   exact .inl ⟨says_pick hop h1 h2 h3 ht hO,rfl,rfl⟩
 | alloc t =>
   obtain ⟨e,he,rfl⟩:=map_some' hc
   simp only [aop,Option.some.injEq,Prod.mk.injEq] at hv
   obtain ⟨rfl,rfl⟩:=hv
   exact .inr (.inl ⟨_,makes_alloc _ hop he,rfl,rfl⟩)
 | box t x =>
   simp only [cOp] at hc
   split at hc <;> (try (cases hc; done))
   rename_i e x' he hx
   cases hc
   simp only [aop] at hv
   split at hv <;> (try (cases hv; done))
   rename_i hok
   simp only [Option.some.injEq,Prod.mk.injEq] at hv
   obtain ⟨rfl,rfl⟩:=hv
   exact .inr (.inl ⟨_,makes_box _ hop he hx hok hO,rfl,rfl⟩)
 | build t ps =>
   simp only [cOp] at hc
   have hio:∃ zs l,io=.build zs l:=by
    have h2:=hc
    unfold cBuild at h2
    split at h2 <;> (try (cases h2; done))
    split at h2 <;> (try (cases h2; done))
    split at h2 <;> (try (cases h2; done))
    split at h2 <;> (try (cases h2; done))
    ·split at h2 <;> (try (cases h2; done))
     split at h2 <;> (try (cases h2; done))
     cases h2; exact ⟨_,_,rfl⟩
    ·split at h2 <;> (try (cases h2; done))
     split at h2 <;> (try (cases h2; done))
     cases h2; exact ⟨_,_,rfl⟩
   obtain ⟨zs,l,rfl⟩:=hio
   simp only [aop] at hv
   split at hv <;> (try (cases hv; done))
   rename_i cs hcs
   simp only [Option.some.injEq,Prod.mk.injEq] at hv
   obtain ⟨rfl,rfl⟩:=hv
   exact .inl ⟨says_build hop hc hcs hO,rfl,rfl⟩
 | buildSlice t n ps =>
   simp only [cOp] at hc
   split at hc <;> (try (cases hc; done))
   rename_i e hs
   split at hc <;> (try (cases hc; done))
   rename_i e' l he hl
   split at hc <;> (try (cases hc; done))
   rename_i hn
   cases hc
   simp only [aop] at hv
   split at hv <;> (try (cases hv; done))
   rename_i els hels
   simp only [Option.some.injEq,Prod.mk.injEq] at hv
   obtain ⟨rfl,rfl⟩:=hv
   exact .inr (.inl ⟨_,makes_mkrow _ hop hs he hl hn hels hO,rfl,rfl⟩)
 | load t x =>
   simp only [cOp] at hc
   split at hc <;> (try (cases hc; done))
   rename_i i ag x' hi ha hx
   cases hc
   simp only [aop] at hv
   split at hv <;> (try (cases hv; done))
   rename_i u hu
   simp only [Option.some.injEq,Prod.mk.injEq] at hv
   obtain ⟨rfl,rfl⟩:=hv
   exact .inl ⟨says_load hop hi ha hx hu hR hD (fun id u q he=>htc id (by simp [touch,he])) hdd hO,rfl,rfl⟩
 | store t x y =>
   simp only [cOp] at hc
   split at hc <;> (try (cases hc; done))
   rename_i i x' y' hi hx hy
   split at hc <;> (try (cases hc; done))
   rename_i hz
   cases hc
   simp only [aop] at hv
   split at hv <;> (try (cases hv; done))
   rename_i Hn hst
   simp only [Option.some.injEq,Prod.mk.injEq] at hv
   obtain ⟨rfl,rfl⟩:=hv
   have r1:=hO x (by simp [hop,Op.operands]) x' hx
   have r2:=hO y (by simp [hop,Op.operands]) y' hy
   obtain ⟨id,k,w',hk,hg,⟨k',rfl,e1,e2,hst2⟩,⟨u,q,he⟩,hrun⟩:=store_run (P:=P) hi hz hst hR (fun id u q he=>htc id (by simp [touch,he])) hdd r1 r2
   have hr:(execOp a.eval o).run P w=.ok .skip w':=by simp [execOp,hop,hrun]
   rw [he] at r1
   have hrn:ρ id ≠ .no:=by
    generalize a.eval x=V at r1
    cases r1 with
    | frz h=>cases h
    | ptr h=>simp [h]
    | ptrD b o' hd=>rw [hdd _ hd] at hg; cases hg
   exact .inr (.inr (.inl ⟨id,k,k',w',hk,hg,e1,e2,rfl,by simp [touch,he],rfl,rfl,hst2,hr,hrn⟩))
 | nilCheck x =>
   obtain ⟨y,hy,rfl⟩:=map_some' hc
   simp only [aop] at hv
   split at hv <;> (try (cases hv; done))
   all_goals
    rename_i he
    simp only [Option.some.injEq,Prod.mk.injEq] at hv
    obtain ⟨rfl,rfl⟩:=hv
    first
     | exact .inl ⟨says_nilck hop hy (.inl ⟨_,_,_,he⟩) he.symm hO,rfl,rfl⟩
     | exact .inl ⟨says_nilck hop hy (.inr (.inl ⟨_,_,he⟩)) he.symm hO,rfl,rfl⟩
     | exact .inl ⟨says_nilck hop hy (.inr (.inr ⟨_,_,_,he⟩)) he.symm hO,rfl,rfl⟩
 | binOp op t x y u =>
   simp only [cOp] at hc
   split at hc <;> (try (cases hc; done))
   rename_i d x' y' hd hx hy
   have bin:∀ op',io=.bin op' x' y'→op'=op→DrawnRes P w bad B ρ a o ev H G io v H':=by
    rintro op' rfl rfl
    simp only [aop] at hv
    split at hv <;> (try (cases hv; done))
    rename_i r hr
    simp only [Option.some.injEq,Prod.mk.injEq] at hv
    obtain ⟨rfl,rfl⟩:=hv
    exact .inl ⟨says_bin hop hx hy hr hO,rfl,rfl⟩
   have eqv:∀ neg k sh,io=.eqv neg k sh x' y'→eqKind P t=some (k,sh)→((op=.eql∧neg=false) ∨ (op=.neq∧neg=true))→DrawnRes P w bad B ρ a o ev H G io v H':=by
    rintro neg k sh rfl hk hopn
    simp only [aop] at hv
    split at hv <;> (try (cases hv; done))
    rename_i b hb
    simp only [Option.some.injEq,Prod.mk.injEq] at hv
    obtain ⟨rfl,rfl⟩:=hv
    exact .inl ⟨says_eqv hopn hop hk hx hy hb hO,rfl,rfl⟩
   split at hc
   ·split at hc
    ·cases hc; exact bin _ rfl rfl
    ·cases hc; exact bin _ rfl rfl
    ·split at hc <;> (try (cases hc; done))
     rename_i k sh hk
     cases hc
     exact eqv _ _ _ rfl hk (.inl ⟨rfl,rfl⟩)
   ·split at hc
    ·cases hc; exact bin _ rfl rfl
    ·cases hc; exact bin _ rfl rfl
    ·split at hc <;> (try (cases hc; done))
     rename_i k sh hk
     cases hc
     exact eqv _ _ _ rfl hk (.inr ⟨rfl,rfl⟩)
   ·cases hc; exact bin _ rfl rfl
 | unOp op t x =>
   obtain ⟨y,hy,rfl⟩:=map_some' hc
   simp only [aop] at hv
   split at hv <;> (try (cases hv; done))
   rename_i r hr
   simp only [Option.some.injEq,Prod.mk.injEq] at hv
   obtain ⟨rfl,rfl⟩:=hv
   exact .inl ⟨says_un hop hy hr hO,rfl,rfl⟩
 | convert sT dT x =>
   simp only [cOp] at hc
   by_cases hm:sT=dT∧bytesT P sT=true
   ·rw [if_pos hm] at hc
    obtain ⟨x',hx,rfl⟩:=map_some' hc
    simp [fullOp] at hnf
   rw [if_neg hm] at hc
   split at hc <;> (try (cases hc; done))
   ·rename_i k k' x' h1 h2 hx
    cases hc
    simp only [aop] at hv
    split at hv <;> (try (cases hv; done))
    rename_i k0 n he
    simp only [Option.some.injEq,Prod.mk.injEq] at hv
    obtain ⟨rfl,rfl⟩:=hv
    exact .inl ⟨says_conv hop h1 h2 hx he hO,rfl,rfl⟩
   ·rename_i x' h1 h2 hx
    cases hc
    simp only [aop] at hv
    split at hv <;> (try (cases hv; done))
    rename_i l he
    simp only [Option.some.injEq,Prod.mk.injEq] at hv
    obtain ⟨rfl,rfl⟩:=hv
    exact .inl ⟨says_cid hop h1 h2 hx he hO,rfl,rfl⟩
   ·rename_i e x' h1 h2 hx
    split at hc <;> (try (cases hc; done))
    rename_i e' h3 he
    split at hc <;> (try (cases hc; done))
    rename_i he1
    cases hc
    simp only [aop] at hv
    split at hv <;> (try (cases hv; done))
    rename_i l hl
    simp only [Option.some.injEq,Prod.mk.injEq] at hv
    obtain ⟨rfl,rfl⟩:=hv
    exact .inr (.inl ⟨_,makes_s2b _ hop h1 h2 h3 he he1 hx hl hO,rfl,rfl⟩)
   ·rename_i e x' h1 h2 hx
    split at hc <;> (try (cases hc; done))
    rename_i h3
    cases hc
    simp only [aop] at hv
    split at hv <;> (try (cases hv; done))
    rename_i hns
    split at hv <;> (try (cases hv; done))
    rename_i l hl
    split at hv <;> (try (cases hv; done))
    rename_i z hz
    simp only [Option.some.injEq,Prod.mk.injEq] at hv
    obtain ⟨rfl,rfl⟩:=hv
    exact .inl ⟨says_b2s hop h1 h3 h2 hx hl (fun s hs=>hns s hs) hz hR hD (fun id u q he=>htc id (by simp [touch,he])) hdd hO,rfl,rfl⟩
 | makeFunc fn p q =>
   cases fn <;> simp only [cOp] at hc <;> (try (cases hc; done))
   rename_i g
   split at hc <;> (try (cases hc; done))
   rename_i p' q' hp hq
   cases hc
   simp only [aop,Option.some.injEq,Prod.mk.injEq] at hv
   obtain ⟨rfl,rfl⟩:=hv
   exact .inl ⟨says_mkfn hop hp hq hO,rfl,rfl⟩
 | makeSlice t x y =>
   simp only [cOp] at hc
   split at hc <;> (try (cases hc; done))
   rename_i e hs
   split at hc <;> (try (cases hc; done))
   rename_i e' x' y' he hx hy
   cases hc
   simp only [aop] at hv
   split at hv <;> (try (cases hv; done))
   rename_i n c hn hm
   split at hv <;> (try (cases hv; done))
   rename_i hcnd
   obtain ⟨c1,c2,c3,c4⟩:=hcnd
   subst c2
   simp only [Option.some.injEq,Prod.mk.injEq] at hv
   obtain ⟨rfl,rfl⟩:=hv
   exact .inr (.inl ⟨_,makes_mkslice _ hop hs he hx hy hn hm c1 c3 c4 hO,rfl,rfl⟩)
 | slice t x lo hi mx =>
   simp only [cOp] at hc
   split at hc <;> (try (cases hc; done))
   ·rename_i x' lo' hi' hs hx h1 h2 h3
    cases hc
    have hmn:mx=none:=by
     cases mx with
     | none=>rfl
     | some z =>
       simp only [cOptOpd] at h3
       split at h3 <;> cases h3
    subst hmn
    simp only [aop] at hv
    split at hv <;> (try (cases hv; done))
    rename_i r hr
    simp only [Option.some.injEq,Prod.mk.injEq] at hv
    obtain ⟨rfl,rfl⟩:=hv
    exact .inl ⟨says_subS hop hs hx h1 h2 hr hO,rfl,rfl⟩
   ·rename_i e x' lo' hi' mx' hs hx h1 h2 h3
    split at hc <;> (try (cases hc; done))
    rename_i ie hie
    split at hc <;> (try (cases hc; done))
    rename_i hmh
    cases hc
    simp only [aop] at hv
    split at hv <;> (try (cases hv; done))
    rename_i r hr
    simp only [Option.some.injEq,Prod.mk.injEq] at hv
    obtain ⟨rfl,rfl⟩:=hv
    refine .inl ⟨says_subV hop hs hie hx h1 h2 h3 ?_ hr hR hD hsh hse hO,rfl,rfl⟩
    cases mx <;> cases hi <;> simp [cOptOpd] at h2 h3 hmh ⊢
    ·rename_i z
     cases hz:cOpd z <;> simp [hz] at h3
     subst h3; subst h2
     simp at hmh
 | fieldAddr sT x f =>
   simp only [cOp] at hc
   split at hc <;> (try (cases hc; done))
   rename_i off n t x' hf hx
   cases hc
   simp only [aop] at hv
   split at hv <;> (try (cases hv; done))
   rename_i r hr
   simp only [Option.some.injEq,Prod.mk.injEq] at hv
   obtain ⟨rfl,rfl⟩:=hv
   unfold cField at hf
   split at hf <;> (try (cases hf; done))
   rename_i fs hs
   split at hf <;> (try (cases hf; done))
   rename_i fd hfd
   split at hf <;> (try (cases hf; done))
   rename_i i hi
   split at hf <;> (try (cases hf; done))
   rename_i hz
   cases hf
   exact .inl ⟨says_fldA hop hs hfd hi hz hx hr hO,rfl,rfl⟩
 | field sT x f =>
   simp only [cOp] at hc
   split at hc <;> (try (cases hc; done))
   rename_i off n t x' hf hx
   split at hc <;> (try (cases hc; done))
   rename_i ag hag
   cases hc
   simp only [aop] at hv
   split at hv <;> (try (cases hv; done))
   rename_i cs he
   split at hv <;> (try (cases hv; done))
   rename_i r hr
   simp only [Option.some.injEq,Prod.mk.injEq] at hv
   obtain ⟨rfl,rfl⟩:=hv
   unfold cField at hf
   split at hf <;> (try (cases hf; done))
   rename_i fs hs
   split at hf <;> (try (cases hf; done))
   rename_i fd hfd
   split at hf <;> (try (cases hf; done))
   rename_i i hi
   split at hf <;> (try (cases hf; done))
   rename_i hz
   cases hf
   exact .inl ⟨says_fld hop hs hfd hi hag hx he hr hO,rfl,rfl⟩
 | indexAddr t x y =>
   simp only [cOp] at hc
   split at hc <;> (try (cases hc; done))
   ·rename_i e x' y' hs hx hy
    split at hc <;> (try (cases hc; done))
    rename_i ie hie
    split at hc <;> (try (cases hc; done))
    cases hc
    simp only [aop] at hv
    split at hv <;> (try (cases hv; done))
    rename_i q hq
    split at hv <;> (try (cases hv; done))
    rename_i r hr
    simp only [Option.some.injEq,Prod.mk.injEq] at hv
    obtain ⟨rfl,rfl⟩:=hv
    obtain ⟨k,hk⟩:∃ k,ev y'=.int k q:=by
     generalize ev y'=Y at hq
     cases Y <;> simp [aInt] at hq
     subst hq; exact ⟨_,rfl⟩
    exact .inl ⟨says_ixAS hop hs hie hx hy hk hr hR hD hsh hse hO,rfl,rfl⟩
   ·rename_i n e x' y' hs hx hy
    split at hc <;> (try (cases hc; done))
    rename_i ie hie
    cases hc
    simp only [aop] at hv
    split at hv <;> (try (cases hv; done))
    rename_i q hq
    split at hv <;> (try (cases hv; done))
    rename_i hb
    split at hv <;> (try (cases hv; done))
    rename_i r hr
    simp only [Option.some.injEq,Prod.mk.injEq] at hv
    obtain ⟨rfl,rfl⟩:=hv
    obtain ⟨k,hk⟩:∃ k,ev y'=.int k q:=by
     generalize ev y'=Y at hq
     cases Y <;> simp [aInt] at hq
     subst hq; exact ⟨_,rfl⟩
    exact .inl ⟨says_ixAA hop hs hie hx hy hk hb hr hO,rfl,rfl⟩
 | index t x y =>
   simp only [cOp] at hc
   split at hc <;> (try (cases hc; done))
   ·rename_i x' y' hs hx hy
    cases hc
    simp only [aop] at hv
    split at hv <;> (try (cases hv; done))
    rename_i l q hl hq
    split at hv <;> (try (cases hv; done))
    rename_i h0
    split at hv <;> (try (cases hv; done))
    rename_i b hb
    simp only [Option.some.injEq,Prod.mk.injEq] at hv
    obtain ⟨rfl,rfl⟩:=hv
    obtain ⟨k,hk⟩:∃ k,ev y'=.int k q:=by
     generalize ev y'=Y at hq
     cases Y <;> simp [aInt] at hq
     subst hq; exact ⟨_,rfl⟩
    exact .inl ⟨says_ixS hop hs hx hy hk hl h0 hb hO,rfl,rfl⟩
   ·rename_i n e x' y' hs hx hy
    split at hc <;> (try (cases hc; done))
    rename_i ie ag hie hag
    cases hc
    simp only [aop] at hv
    split at hv <;> (try (cases hv; done))
    rename_i cs q hcs hq
    split at hv <;> (try (cases hv; done))
    rename_i hb
    split at hv <;> (try (cases hv; done))
    rename_i r hr
    simp only [Option.some.injEq,Prod.mk.injEq] at hv
    obtain ⟨rfl,rfl⟩:=hv
    obtain ⟨k,hk⟩:∃ k,ev y'=.int k q:=by
     generalize ev y'=Y at hq
     cases Y <;> simp [aInt] at hq
     subst hq; exact ⟨_,rfl⟩
    exact .inl ⟨says_ixA hop hs hie hag hx hy hk hcs hb hr hO,rfl,rfl⟩
 | extract x i =>
   simp only [cOp] at hc
   split at hc <;> (try (cases hc; done))
   rename_i x' hx
   cases hc
   simp only [aop] at hv
   split at hv <;> (try (cases hv; done))
   rename_i vs he
   split at hv <;> (try (cases hv; done))
   rename_i r hr
   simp only [Option.some.injEq,Prod.mk.injEq] at hv
   obtain ⟨rfl,rfl⟩:=hv
   exact .inl ⟨says_extr hop hx he hr hO,rfl,rfl⟩
 | call c =>
   simp only [cOp,cCall] at hc
   split at hc <;> (try (cases hc; done))
   ·rename_i f hcc
    split at hc <;> (try (cases hc; done))
    rename_i f' ys hf hys
    cases hc
    simp only [aop] at hv
    split at hv <;> (try (cases hv; done))
    rename_i g p q he
    obtain ⟨vs,hrun,hl,hp⟩:=call_run (P:=P) hO hop hcc hf hys he
    obtain ⟨Z,rfl,h2⟩:=hcall g _ _ _ _ hv
    refine .inr (.inr (.inr ⟨rfl,rfl,Z,rfl,vs.toArray,g,hrun,fun G' hf=>h2 w bad ρ B vs G G' hR hB hbad ?_ hl hp hf⟩))
    by_cases hno:(p ++ ys.map ev ++ q).all (noId DEPTH)=true
    ·exact .inl hno
    ·refine .inr ⟨fun id b hb hn=>htc id ?_ b hb hn,hdd⟩
     simp only [touch,he,if_neg hno]
     simpa using (List.getElem?_eq_some_iff.mp (agree_of hb)).1
   ·rename_i hcc
    split at hc <;> (try (cases hc; done))
    rename_i x t hca hct
    split at hc <;> (try (cases hc; done))
    ·rename_i x' hs hx
     cases hc
     simp only [aop] at hv
     split at hv <;> (try (cases hv; done))
     rename_i l hl
     simp only [Option.some.injEq,Prod.mk.injEq] at hv
     obtain ⟨rfl,rfl⟩:=hv
     exact .inl ⟨says_lenS hop hcc hca hct hs hx hl hO,rfl,rfl⟩
    ·rename_i e x' hs hx
     cases hc
     simp only [aop] at hv
     split at hv <;> (try (cases hv; done))
     rename_i n hn
     simp only [Option.some.injEq,Prod.mk.injEq] at hv
     obtain ⟨rfl,rfl⟩:=hv
     exact .inl ⟨says_lenV hop hcc hca hct hs hx hn hD hsh hO,rfl,rfl⟩
    ·rename_i n e x' hs hx
     cases hc
     simp only [aop,hev,Option.some.injEq,Prod.mk.injEq] at hv
     obtain ⟨rfl,rfl⟩:=hv
     refine .inl ⟨⟨.int .i64 n,?_,.frz (.int _ _)⟩,rfl,rfl⟩
     obtain ⟨cal,args,tys⟩:=c
     obtain ⟨args⟩:=args
     obtain ⟨tys⟩:=tys
     simp only at hcc hca hct
     subst hcc; subst hca; subst hct
     simp [execOp,hop,resolve,invoke,builtin,Builtin.len_,run_underlying hs,goInt]
   ·rename_i hcc
    split at hc <;> (try (cases hc; done))
    rename_i ys hys
    cases hc
    simp only [aop] at hv
    split at hv <;> (try (cases hv; done))
    rename_i r hr
    simp only [Option.some.injEq,Prod.mk.injEq] at hv
    obtain ⟨rfl,rfl⟩:=hv
    exact .inl ⟨says_min hop hcc hys hr hO,rfl,rfl⟩
   ·rename_i hcc
    split at hc <;> (try (cases hc; done))
    rename_i ys hys
    cases hc
    simp only [aop] at hv
    split at hv <;> (try (cases hv; done))
    rename_i r hr
    simp only [Option.some.injEq,Prod.mk.injEq] at hv
    obtain ⟨rfl,rfl⟩:=hv
    exact .inl ⟨says_max hop hcc hys hr hO,rfl,rfl⟩
   ·rename_i hcc
    split at hc <;> (try (cases hc; done))
    rename_i sA xA t u hca hct
    split at hc <;> (try (cases hc; done))
    rename_i e du s' x' ht hu hs hx
    split at hc <;> (try (cases hc; done))
    ·split at hc <;> (try (cases hc; done))
     cases hc
     simp [fullOp] at hnf
    ·split at hc <;> (try (cases hc; done))
     cases hc
     simp [fullOp] at hnf
 | _=>simp [cOp] at hc
end
end Go.Proofs.Ytdceaeifcniabaa.AE

namespace Go.Proofs.Ytdceaeifcniabaa.AE
set_option linter.unusedVariables false
set_option linter.unusedSimpArgs false
set_option linter.constructorNameAsVariable false
open Go Go.RowKit

def TStep (call:CallF) (io:IOper) (s s':St):Prop :=
 (want s.env io.guard=some true∧∃ v H',aop call (evO s.env) s.H io.op=some (v,H')∧s'=⟨put s.env io.dst v,H'⟩) ∨
 (want s.env io.guard=some false∧s'=⟨put s.env io.dst (.tup []),s.H⟩)

def tchAt (s:St) (io:IOper):List Nat:=touch (evO s.env) s.H io.op

theorem trace {call callP:CallF}:∀ (l:List (IOper × List Nat)) (i:Nat) (log:List (Nat × Nat)) (s s':St),runOpsD call callP l i log s=some s' →
 ∃ f:Nat→St,f 0=s∧f l.length=s'∧∀ (k:Nat) (io:IOper) (chk:List Nat),l[k]?=some (io,chk)→TStep (bif isFull chk then call else callP) io (f k) (f (k+1)) ∧
   (want (f k).env io.guard=some true→(∀ p ∈ log,p.1 ∈ chk→p.2 ∉ tchAt (f k) io) ∧
     ∀ (m:Nat) (jo:IOper) (c2:List Nat),m < k→l[m]?=some (jo,c2)→want (f m).env jo.guard=some true→(i+m) ∈ chk→∀ id ∈ tchAt (f m) jo,id ∉ tchAt (f k) io)
 | [],i,log,s,s',h=>by
   simp only [runOpsD,Option.some.injEq] at h
   exact ⟨fun _=>s,rfl,h,by simp⟩
 | (o,chk0)::l,i,log,s,s',h=>by
   simp only [runOpsD] at h
   split at h
   ·rename_i hw
    split at h <;> (try (cases h; done))
    rename_i hlog
    split at h <;> (try (cases h; done))
    rename_i v H' hv
    obtain ⟨f,h0,h1,h2⟩:=trace l (i+1) _ _ s' h
    have hlog':∀ p ∈ log,p.1 ∈ chk0→p.2 ∉ tchAt s o:=by
     intro p hp hc hm
     have:=List.all_eq_true.mp hlog p hp
     simp [hc] at this
     exact this hm
    refine ⟨fun k=>match k with | 0=>s | k+1=>f k,rfl,h1,?_⟩
    intro k io chk hk
    cases k with
    | zero =>
      simp only [List.getElem?_cons_zero,Option.some.injEq,Prod.mk.injEq] at hk
      obtain ⟨rfl,rfl⟩:=hk
      exact ⟨.inl ⟨hw,v,H',hv,h0⟩,fun _=>⟨hlog',fun m _ _ hm=>absurd hm (by omega)⟩⟩
    | succ k =>
      simp only [List.getElem?_cons_succ] at hk
      obtain ⟨q1,q2⟩:=h2 k io chk hk
      refine ⟨q1,fun hwk=>?_⟩
      obtain ⟨q3,q4⟩:=q2 hwk
      refine ⟨fun p hp=>q3 p (by simp [hp]),fun m jo c2 hm hj hwm hc=>?_⟩
      cases m with
      | zero =>
        simp only [List.getElem?_cons_zero,Option.some.injEq,Prod.mk.injEq] at hj
        obtain ⟨rfl,rfl⟩:=hj
        intro id hid
        exact q3 (i,id) (by simp only [List.mem_append,List.mem_map]; exact .inr ⟨id,hid,rfl⟩) (by simpa using hc)
      | succ m =>
        simp only [List.getElem?_cons_succ] at hj
        exact q4 m jo c2 (by omega) hj hwm (by rwa [show i+1+m=i+(m+1) by omega])
   ·rename_i hw
    obtain ⟨f,h0,h1,h2⟩:=trace l (i+1) _ _ s' h
    refine ⟨fun k=>match k with | 0=>s | k+1=>f k,rfl,h1,?_⟩
    intro k io chk hk
    cases k with
    | zero =>
      simp only [List.getElem?_cons_zero,Option.some.injEq,Prod.mk.injEq] at hk
      obtain ⟨rfl,rfl⟩:=hk
      exact ⟨.inr ⟨hw,h0⟩,fun hw2=>by simp only [hw] at hw2; cases hw2⟩
    | succ k =>
      simp only [List.getElem?_cons_succ] at hk
      obtain ⟨q1,q2⟩:=h2 k io chk hk
      refine ⟨q1,fun hwk=>?_⟩
      obtain ⟨q3,q4⟩:=q2 hwk
      refine ⟨q3,fun m jo c2 hm hj hwm hc=>?_⟩
      cases m with
      | zero =>
        simp only [List.getElem?_cons_zero,Option.some.injEq,Prod.mk.injEq] at hj
        obtain ⟨rfl,rfl⟩:=hj
        simp only [hw] at hwm; cases hwm
      | succ m =>
        simp only [List.getElem?_cons_succ] at hj
        exact q4 m jo c2 (by omega) hj hwm (by rwa [show i+1+m=i+(m+1) by omega])
   ·cases h

theorem aop_shape {P:Program} {call:CallF} (hcall:PCallOK P call) {ev:Opd→AV} {H H':Heap} {io:IOp} {v:AV} (hnf:fullOp io=false) (h:aop call ev H io=some (v,H')) :
 (∃ Z,H'=H ++ Z) ∨ (∃ id k k',hget H id=some k∧k'.e=k.e∧k'.els.length=k.els.length∧H'=H.set id (some k')∧touch ev H io=[id]∧storeOp io=true):=by
 cases io with
 | app=>simp [fullOp] at hnf
 | call sh g args =>
   simp only [aop] at h
   split at h <;> (try (cases h; done))
   obtain ⟨Z,hz,_⟩:=hcall _ _ _ _ _ h
   exact .inl ⟨Z,hz⟩
 | bk b args =>
   cases b <;> simp only [aop] at h <;> (repeat' split at h) <;> cases h <;> exact .inl ⟨[],(List.append_nil _).symm⟩
 | store n a x =>
   simp only [aop] at h
   split at h <;> (try (cases h; done))
   rename_i Hn hst
   cases h
   generalize hA:ev a=A at hst
   cases A <;> simp only [aStore] at hst <;> (try (cases hst; done))
   rename_i id i j
   split at hst <;> (try (cases hst; done))
   rename_i k hk
   split at hst <;> (try (cases hst; done))
   split at hst <;> (try (cases hst; done))
   rename_i el'' _
   cases hst
   exact .inr ⟨id,k,{ k with els:=k.els.set i el'' },hk,rfl,by simp,rfl,by simp [touch,hA],rfl⟩
 | _ =>
   simp only [aop] at h
   repeat' split at h
   all_goals first
    | (cases h; done)
    | (cases h; exact .inl ⟨[],(List.append_nil _).symm⟩)
    | (cases h; exact .inl ⟨_,rfl⟩)

theorem touch_some {ev:Opd→AV} {H:Heap} {io:IOp} {id:Nat} (h:id ∈ touch ev H io):storeOp io=true ∨ readOp io=true:=by
 cases io <;> simp [touch,storeOp,readOp] at h ⊢

def Ord (ps:List Nat) (m k:Nat):Prop:=(m < k→(ps.getD k 0).testBit m=true)∧(k < m→(ps.getD m 0).testBit k=true)

def fullK (ios:List IOper) (ps:List Nat) (k:Nat) (io:IOper):Bool:=fullOp io.op || isFull (chkOf ios ps k io)

structure Glob (P:Program) (call callP:CallF) (ops:Array Oper) (ios:List IOper) (ps:List Nat) (f:Nat→St):Prop where
 at_:∀ k,k < ops.size→∃ o io,ops[k]?=some o∧ios[k]?=some io∧cOper P ops.toList o=some io∧TStep (bif isFull (chkOf ios ps k io) then call else callP) io (f k) (f (k+1))
 slots:∀ m k om ok t,m ≠ k→ops[m]?=some om→ops[k]?=some ok→om.dst=some t→(t ∈ ok.looksAt ops ∨ ok.dst=some t)→Ord ps m k
 mem:∀ m k im ik id,m ≠ k→ios[m]?=some im→ios[k]?=some ik→want (f m).env im.guard=some true→want (f k).env ik.guard=some true→storeOp im.op=true→id ∈ tchAt (f m) im→id ∈ tchAt (f k) ik→Ord ps m k
 full:∀ m k ik,m ≠ k→m < ops.size→ios[k]?=some ik→fullK ios ps k ik=true→Ord ps m k

theorem glob_of {P:Program} {call callP:CallF} {ops:Array Oper} {ios:List IOper} {ps:List Nat} {s s':St} (hc:optAll (cOper P ops.toList) ops.toList=some ios) (hd:drawOk ops ios ps=true)
 (hr:runOpsD call callP (ios.zipIdx.map fun p=>(p.1,chkOf ios ps p.2 p.1)) 0 [] s=some s'):∃ f:Nat→St,f 0=s∧f ops.size=s'∧Glob P call callP ops ios ps f:=by
 obtain ⟨f,h0,h1,h2⟩:=trace _ _ _ _ _ hr
 obtain ⟨hl,hat⟩:=optAll_spec hc
 have hlen:ios.length=ops.size:=by simpa using hl
 have hget:∀ k io,ios[k]?=some io→(ios.zipIdx.map fun p=>(p.1,chkOf ios ps p.2 p.1))[k]?=some (io,chkOf ios ps k io):=by
  intro k io h
  simp [List.getElem?_zipIdx,h]
 simp only [drawOk,Bool.and_eq_true,decide_eq_true_eq] at hd
 obtain ⟨hcap,hd⟩:=hd
 have hpair:∀ i j,i < j→j < ops.size→(ps.getD j 0).testBit i=true ∨ ∃ o p a b,ops[i]?=some o∧ops[j]?=some p∧ios[i]?=some a∧ios[j]?=some b∧pairOk ops o p a.op b.op=true:=by
  intro i j hij hj
  have:=List.all_eq_true.mp (List.all_eq_true.mp hd j (List.mem_range.mpr hj)) i (List.mem_range.mpr hij)
  simp only [Bool.or_eq_true] at this
  rcases this with h | h
  ·exact .inl h
  ·right
   split at h
   ·rename_i o p a b e1 e2 e3 e4
    exact ⟨o,p,a,b,e1,e2,e3,e4,h⟩
   ·cases h
 have lt_of:∀ k io,ios[k]?=some io→k < ops.size:=fun k io h=>by rw [← hlen]; exact (List.getElem?_eq_some_iff.mp h).1
 have lt_of2:∀ (k:Nat) (o:Oper),ops[k]?=some o→k < ops.size:=fun k o h=>(Array.getElem?_eq_some_iff.mp h).1
 refine ⟨f,h0,by rw [← h1]; simp [hlen],?_,?_,?_,?_⟩
 ·intro k hk
  obtain ⟨io,e1,e2⟩:=hat k ops[k] (by simp [hk])
  exact ⟨ops[k],io,by simp [hk],e1,e2,(h2 k io _ (hget k io e1)).1⟩
 ·intro m k om ok t hmk hm hk hdst hlook
  constructor
  ·intro hlt
   refine (hpair m k hlt (lt_of2 k ok hk)).resolve_right ?_
   rintro ⟨o,p,a,b,e1,e2,e3,e4,h⟩
   rw [hm] at e1; rw [hk] at e2; cases e1; cases e2
   simp only [pairOk,Bool.and_eq_true] at h
   obtain ⟨a1,a2,a3⟩:=Oper.apart_spec h.1.1.1
   rcases hlook with hl | hl
   ·exact a1 t hdst hl
   ·exact a2 t hdst hl
  ·intro hlt
   refine (hpair k m hlt (lt_of2 m om hm)).resolve_right ?_
   rintro ⟨o,p,a,b,e1,e2,e3,e4,h⟩
   rw [hk] at e1; rw [hm] at e2; cases e1; cases e2
   simp only [pairOk,Bool.and_eq_true] at h
   obtain ⟨a1,a2,a3⟩:=Oper.apart_spec h.1.1.1
   rcases hlook with hl | hl
   ·exact a3 t hdst hl
   ·exact a2 t hl hdst
 ·intro m k im ik id hmk hm hk hwm hwk hst htm htk
  constructor
  ·intro hlt
   rcases hpair m k hlt (lt_of k ik hk) with h | ⟨o,p,a,b,e1,e2,e3,e4,h⟩
   ·exact h
   ·cases hb:(ps.getD k 0).testBit m
    ·exfalso
     rw [hm] at e3; rw [hk] at e4; cases e3; cases e4
     simp only [pairOk,Bool.and_eq_true,Bool.not_eq_true',hst,Bool.true_and] at h
     have hrd:readOp ik.op=true:=(touch_some htk).resolve_left (by rw [h.1.1.2]; simp)
     refine ((h2 k ik _ (hget k ik hk)).2 hwk).2 m im _ hlt (hget m im hm) hwm ?_ id htm htk
     simp only [chkOf,List.mem_append,List.mem_filter,List.mem_range,Nat.zero_add,hlt,true_and,hm,hb,meets,hst,hrd]
     simp
    ·rfl
  ·intro hlt
   rcases hpair k m hlt (lt_of m im hm) with h | ⟨o,p,a,b,e1,e2,e3,e4,h⟩
   ·exact h
   ·cases hb:(ps.getD m 0).testBit k
    ·exfalso
     rw [hk] at e3; rw [hm] at e4; cases e3; cases e4
     simp only [pairOk,Bool.and_eq_true,Bool.not_eq_true',hst,Bool.and_true] at h
     have hrd:readOp ik.op=true:=(touch_some htk).resolve_left (by rw [h.1.1.2]; simp)
     refine ((h2 m im _ (hget m im hm)).2 hwm).2 k ik _ hlt (hget k ik hk) hwk ?_ id htk htm
     simp only [chkOf,List.mem_append,List.mem_filter,List.mem_range,Nat.zero_add,hlt,true_and,hk,hb,meets,hst,hrd]
     simp
    ·rfl
 ·intro m k ik hmk hm hk hfu
  simp only [fullK,Bool.or_eq_true] at hfu
  rcases hfu with hfu | hfu
  ·constructor
   ·intro hlt
    refine (hpair m k hlt (lt_of k ik hk)).resolve_right ?_
    rintro ⟨o,p,a,b,e1,e2,e3,e4,h⟩
    rw [hk] at e4; cases e4
    simp [pairOk,hfu] at h
   ·intro hlt
    refine (hpair k m hlt hm).resolve_right ?_
    rintro ⟨o,p,a,b,e1,e2,e3,e4,h⟩
    rw [hk] at e3; cases e3
    simp [pairOk,hfu] at h
  ·have hkl:=lt_of k ik hk
   have hfa:fullAt ios.length ps k ik.op=true:=by
    simp only [isFull,chkOf,List.contains_iff_mem,List.mem_append,List.mem_filter,List.mem_range] at hfu
    rcases hfu with ⟨h,_⟩ | h
    ·omega
    ·split at h
     ·assumption
     ·simp at h
   simp only [fullAt,Bool.and_eq_true,List.all_eq_true,List.mem_range] at hfa
   have:=hfa.2 m (by rw [hlen]; exact hm)
   simp only [Bool.or_eq_true,beq_iff_eq,hmk,false_or] at this
   constructor
   ·intro hlt; rw [if_pos hlt] at this; exact this
   ·intro hlt; rw [if_neg (by omega)] at this; exact this
end Go.Proofs.Ytdceaeifcniabaa.AE

namespace Go.Proofs.Ytdceaeifcniabaa.AE
set_option linter.unusedVariables false
set_option linter.unusedSimpArgs false
set_option linter.constructorNameAsVariable false
open Go Go.RowKit

theorem le_ind {m:Nat} {p:(n:Nat)→m≤n→Prop} (base:p m (Nat.le_refl m)) (succ:∀ n (h:m≤n),p n h→p (n+1) (Nat.le_succ_of_le h)):∀ n h,p n h:=by
 intro n h
 induction h with
 | refl=>exact base
 | step h ih=>exact succ _ h ih

def ShEq:Option (Option Blk)→Option (Option Blk)→Prop
 | none,none=>True
 | some none,some none=>True
 | some (some a),some (some b)=>a.e=b.e∧a.els.length=b.els.length
 | _,_=>False

theorem ShEq.refl:∀ x,ShEq x x
 | none=>trivial
 | some none=>trivial
 | some (some _)=>⟨rfl,rfl⟩
theorem ShEq.trans:∀ {x y z},ShEq x y→ShEq y z→ShEq x z
 | none,none,none,_,_=>trivial
 | some none,some none,some none,_,_=>trivial
 | some (some _),some (some _),some (some _),h,k=>⟨h.1.trans k.1,h.2.trans k.2⟩
 | none,none,some none,_,k=>k.elim
 | none,none,some (some _),_,k=>k.elim
 | some none,some none,none,_,k=>k.elim
 | some none,some none,some (some _),_,k=>k.elim
 | some (some _),some (some _),none,_,k=>k.elim
 | some (some _),some (some _),some none,_,k=>k.elim
 | none,some none,_,h,_=>h.elim
 | none,some (some _),_,h,_=>h.elim
 | some none,none,_,h,_=>h.elim
 | some none,some (some _),_,h,_=>h.elim
 | some (some _),none,_,h,_=>h.elim
 | some (some _),some none,_,h,_=>h.elim
theorem ShEq.symm {x y} (h:ShEq x y):ShEq y x:=by
 cases x with
 | none=>cases y with
   | none=>trivial
   | some y=>exact h.elim
 | some x=>cases y with
   | none=>cases x <;> exact h.elim
   | some y=>cases x with
     | none=>cases y with
       | none=>trivial
       | some y=>exact h.elim
     | some x=>cases y with
       | none=>exact h.elim
       | some y=>exact ⟨h.1.symm,h.2.symm⟩
theorem ShEq.dead {x y} (h:ShEq x y):x=some none ↔ y=some none:=by
 cases x with
 | none=>cases y with
   | none=>simp
   | some y=>exact h.elim
 | some x=>cases x with
   | none=>cases y with
     | none=>exact h.elim
     | some y=>cases y with
       | none=>simp
       | some y=>exact h.elim
   | some x=>cases y with
     | none=>exact h.elim
     | some y=>cases y with
       | none=>exact h.elim
       | some y=>simp
theorem ShEq.some_l {x:Option (Option Blk)} {b:Blk} (h:ShEq x (some (some b))):∃ a,x=some (some a)∧a.e=b.e∧a.els.length=b.els.length:=by
 cases x with
 | none=>exact h.elim
 | some x=>cases x with
   | none=>exact h.elim
   | some a=>exact ⟨a,rfl,h.1,h.2⟩
theorem ShEq.some_r {y:Option (Option Blk)} {a:Blk} (h:ShEq (some (some a)) y):∃ b,y=some (some b)∧a.e=b.e∧a.els.length=b.els.length:=by
 cases y with
 | none=>exact h.elim
 | some x=>cases x with
   | none=>exact h.elim
   | some b=>exact ⟨b,rfl,h.1,h.2⟩
theorem ShEq.none_iff {x y} (h:ShEq x y):x=none ↔ y=none:=by
 cases x with
 | none=>cases y with
   | none=>simp
   | some y=>exact h.elim
 | some x=>cases y with
   | none=>cases x <;> exact h.elim
   | some y=>simp

def Upd (ios:List IOper) (f:Nat→St) (m id:Nat):Prop:=∃ im,ios[m]?=some im∧want (f m).env im.guard=some true∧storeOp im.op=true∧id ∈ tchAt (f m) im

structure Stretch (ops:Array Oper) (ios:List IOper) (f:Nat→St) (b e:Nat):Prop where
 le:b≤e
 top:e≤ops.size
 env:∀ k,b≤k→k < e→∃ o v,ops[k]?=some o∧(f (k+1)).env=put (f k).env o.dst v
 heap:∀ k,b≤k→k < e→(∃ Z,(f (k+1)).H=(f k).H ++ Z) ∨ ∃ id z z',hget (f k).H id=some z∧z'.e=z.e∧z'.els.length=z.els.length∧(f (k+1)).H=(f k).H.set id (some z')∧Upd ios f k id
 upd:∀ m id,b≤m→m < e→Upd ios f m id→id < (f m).H.length

theorem hget_lt {H:Heap} {id:Nat} {z:Blk} (h:hget H id=some z):H[id]?=some (some z)∧id < H.length:=by
 have:H[id]?=some (some z):=by
  unfold hget at h
  split at h
  ·rename_i b hb; cases h; exact hb
  ·cases h
 exact ⟨this,(List.getElem?_eq_some_iff.mp this).1⟩

theorem put_getD_ne {env:List AV} {d:Option Nat} {v:AV} {t:Nat} (h:d ≠ some t):(put env d v).getD t .undef=env.getD t .undef:=by
 cases d with
 | none=>rfl
 | some d =>
   have:d ≠ t:=fun e=>h (e ▸ rfl)
   simp [put,List.getD_eq_getElem?_getD,List.getElem?_set_ne this]
theorem put_length {env:List AV} {d:Option Nat} {v:AV}:(put env d v).length=env.length:=by cases d <;> simp [put]

section
variable {P:Program} {call callP:CallF} {ops:Array Oper} {ios:List IOper} {ps:List Nat} {f:Nat→St} {b e:Nat}

theorem fullK_not {k:Nat} {io:IOper} (h:fullK ios ps k io=false):fullOp io.op=false∧isFull (chkOf ios ps k io)=false:=by
 unfold fullK at h
 cases h1:fullOp io.op <;> cases h2:isFull (chkOf ios ps k io) <;> simp [h1,h2] at h ⊢
theorem Glob.stretch (G:Glob P call callP ops ios ps f) (hcall:PCallOK P callP) (h1:b≤e) (h2:e≤ops.size) (hf:∀ k io,b≤k→k < e→ios[k]?=some io→fullK ios ps k io=false):Stretch ops ios f b e:=by
 refine ⟨h1,h2,?_,?_,?_⟩
 ·intro k hb he
  obtain ⟨o,io,e1,e2,e3,e4⟩:=G.at_ k (by omega)
  have hd:=(cOper_op e3).2
  rcases e4 with ⟨_,v,H',_,e5⟩ | ⟨_,e5⟩
  ·exact ⟨o,v,e1,by rw [e5,← hd]⟩
  ·exact ⟨o,_,e1,by rw [e5,← hd]⟩
 ·intro k hb he
  obtain ⟨o,io,e1,e2,e3,e4⟩:=G.at_ k (by omega)
  rcases e4 with ⟨hw,v,H',hv,e5⟩ | ⟨_,e5⟩
  ·obtain ⟨g1,g2⟩:=fullK_not (hf k io hb he e2)
   rw [g2,cond_false] at hv
   rcases aop_shape hcall g1 hv with ⟨Z,rfl⟩ | ⟨id,z,z',q1,q2,q3,rfl,q5,q6⟩
   ·exact .inl ⟨Z,by rw [e5]⟩
   ·exact .inr ⟨id,z,z',q1,q2,q3,by rw [e5],io,e2,hw,q6,by unfold tchAt; rw [q5]; simp⟩
  ·exact .inl ⟨[],by rw [e5]; simp⟩
 ·rintro m id hb he ⟨im,e2',hw',hst,hid⟩
  obtain ⟨o,io,e1,e2,e3,e4⟩:=G.at_ m (by omega)
  rw [e2] at e2'; cases e2'
  rcases e4 with ⟨hw,v,H',hv,e5⟩ | ⟨hw,e5⟩
  ·unfold tchAt at hid
   cases hop:im.op <;> rw [hop] at hst <;> simp [storeOp] at hst
   rw [hop] at hv hid
   rename_i n a x
   simp only [touch] at hid
   split at hid
   ·rename_i id' i j ha
    simp only [List.mem_singleton] at hid
    subst hid
    simp only [aop,ha,aStore] at hv
    cases hg:hget (f m).H id with
    | none=>simp [hg] at hv
    | some z=>exact (hget_lt hg).2
   ·simp at hid
  ·rw [hw] at hw'; cases hw'

theorem Stretch.keepE (S:Stretch ops ios f b e) {c k t:Nat} (hb:b≤c) (hck:c≤k) (hk:k≤e) (hn:∀ m o,c≤m→m < k→ops[m]?=some o→o.dst ≠ some t):(f k).env.getD t .undef=(f c).env.getD t .undef:=by
 induction k,hck using le_ind with
 | base=>rfl
 | succ k hck ih =>
   obtain ⟨o,v,h1,h2⟩:=S.env k (by omega) (by omega)
   rw [h2,put_getD_ne (hn k o hck (by omega) h1)]
   exact ih (by omega) (fun m o h3 h4=>hn m o h3 (by omega))

theorem Stretch.lenE (S:Stretch ops ios f b e) {k:Nat} (hb:b≤k) (hk:k≤e):(f k).env.length=(f b).env.length:=by
 induction k,hb using le_ind with
 | base=>rfl
 | succ k hck ih =>
   obtain ⟨o,v,h1,h2⟩:=S.env k (by omega) (by omega)
   rw [h2,put_length]
   exact ih (by omega)

theorem Stretch.mono (S:Stretch ops ios f b e) {c k:Nat} (hb:b≤c) (hck:c≤k) (hk:k≤e):(f c).H.length≤(f k).H.length:=by
 induction k,hck using le_ind with
 | base=>exact Nat.le_refl _
 | succ k hck ih =>
   have:=ih (by omega)
   rcases S.heap k (by omega) (by omega) with ⟨Z,h⟩ | ⟨id,z,z',_,_,_,h,_⟩ <;> rw [h] <;> simp <;> omega

theorem Stretch.shape (S:Stretch ops ios f b e) {c k id:Nat} (hb:b≤c) (hck:c≤k) (hk:k≤e) (hid:id < (f c).H.length):ShEq ((f c).H[id]?) ((f k).H[id]?):=by
 induction k,hck using le_ind with
 | base=>exact .refl _
 | succ k hck ih =>
   refine (ih (by omega)).trans ?_
   have hlt:=Nat.lt_of_lt_of_le hid (S.mono hb hck (by omega))
   rcases S.heap k (by omega) (by omega) with ⟨Z,h⟩ | ⟨id',z,z',h1,h2,h3,h,_⟩
   ·rw [h,List.getElem?_append_left hlt]; exact .refl _
   ·rw [h]
    by_cases hi:id'=id
    ·subst hi
     rw [List.getElem?_set_self hlt,(hget_lt h1).1]
     exact ⟨h2.symm,h3.symm⟩
    ·rw [List.getElem?_set_ne hi]; exact .refl _

theorem Stretch.keepH (S:Stretch ops ios f b e) {c k id:Nat} (hb:b≤c) (hck:c≤k) (hk:k≤e) (hid:id < (f c).H.length) (hn:∀ m,c≤m→m < k→¬ Upd ios f m id):(f k).H[id]?=(f c).H[id]?:=by
 induction k,hck using le_ind with
 | base=>rfl
 | succ k hck ih =>
   rw [← ih (by omega) (fun m h3 h4=>hn m h3 (by omega))]
   have hlt:=Nat.lt_of_lt_of_le hid (S.mono hb hck (by omega))
   rcases S.heap k (by omega) (by omega) with ⟨Z,h⟩ | ⟨id',z,z',h1,h2,h3,h,h4⟩
   ·rw [h,List.getElem?_append_left hlt]
   ·rw [h,List.getElem?_set_ne (fun hi:id'=id=>hn k hck (by omega) (hi ▸ h4))]

theorem Stretch.sameE (S:Stretch ops ios f b e) {c k t:Nat} (hc:b≤c) (hce:c≤e) (hk:b≤k) (hke:k≤e) (h:∀ m o,b≤m→m < e→ops[m]?=some o→o.dst=some t→(m < c ↔ m < k)):(f c).env.getD t .undef=(f k).env.getD t .undef:=by
 rcases Nat.le_total c k with hl | hl
 ·exact (S.keepE hc hl hke fun m o h1 h2 h3 h4=>absurd ((h m o (by omega) (by omega) h3 h4).mpr h2) (by omega)).symm
 ·exact S.keepE hk hl hce fun m o h1 h2 h3 h4=>absurd ((h m o (by omega) (by omega) h3 h4).mp h2) (by omega)

theorem Stretch.sameH (S:Stretch ops ios f b e) {c k id:Nat} (hc:b≤c) (hce:c≤e) (hk:b≤k) (hke:k≤e) (h1:id < (f c).H.length) (h2:id < (f k).H.length) (h:∀ m,b≤m→m < e→Upd ios f m id→(m < c ↔ m < k)):(f c).H[id]?=(f k).H[id]?:=by
 rcases Nat.le_total c k with hl | hl
 ·exact (S.keepH hc hl hke h1 fun m q1 q2 q3=>absurd ((h m (by omega) (by omega) q3).mpr q2) (by omega)).symm
 ·exact S.keepH hk hl hce h2 fun m q1 q2 q3=>absurd ((h m (by omega) (by omega) q3).mp q2) (by omega)

structure Mix (ops:Array Oper) (ios:List IOper) (f:Nat→St) (b e:Nat) (L:Nat→Prop) (ρ:Rho) (s:St):Prop where
 len:s.env.length=(f b).env.length
 shape:∀ id:Nat,ShEq s.H[id]? (f e).H[id]?
 made:∀ id,ρ id ≠ .no→id < (f b).H.length ∨ ∃ m,b≤m∧m < e∧L m∧(f m).H.length≤id∧id < (f (m+1)).H.length
 cutH:∀ id,ρ id ≠ .no→∃ c,b≤c∧c≤e∧id < (f c).H.length∧s.H[id]?=(f c).H[id]?∧∀ m,b≤m→m < e→Upd ios f m id→(m < c ↔ L m)
 cutE:∀ t,∃ c,b≤c∧c≤e∧s.env.getD t .undef=(f c).env.getD t .undef∧∀ m o,b≤m→m < e→ops[m]?=some o→o.dst=some t→(m < c ↔ L m)
 upds:∀ m id,b≤m→m < e→L m→Upd ios f m id→ρ id ≠ .no

theorem cutE_put {L:Nat→Prop} {ρ:Rho} {s:St} {k:Nat} {o:Oper} {v:AV} (S:Stretch ops ios f b e) (M:Mix ops ios f b e L ρ s) (hb:b≤k) (he:k < e) (ho:ops[k]?=some o) (hput:(f (k+1)).env=put (f k).env o.dst v)
 (hord:∀ m om t,m ≠ k→ops[m]?=some om→om.dst=some t→o.dst=some t→(m < k ↔ L m)) :
 ∀ t,∃ c,b≤c∧c≤e∧(put s.env o.dst v).getD t .undef=(f c).env.getD t .undef∧∀ m om,b≤m→m < e→ops[m]?=some om→om.dst=some t→(m < c ↔ (L m ∨ m=k)):=by
 intro t
 by_cases hd:o.dst=some t
 ·refine ⟨k+1,by omega,by omega,?_,fun m om h1 h2 h3 h4=>?_⟩
  ·rw [hput,hd]
   simp only [put,List.getD_eq_getElem?_getD]
   rcases Nat.lt_or_ge t s.env.length with hlt | hge
   ·rw [List.getElem?_set_self hlt,List.getElem?_set_self (by rw [S.lenE hb (by omega),← M.len]; exact hlt)]
   ·rw [List.getElem?_eq_none (by simpa using hge),List.getElem?_eq_none (by simp; rw [S.lenE hb (by omega),← M.len]; exact hge)]
  ·by_cases hmk:m=k
   ·subst hmk; simp
   ·have:=hord m om t hmk h3 h4 hd
    rw [← this]
    omega
 ·obtain ⟨c,h1,h2,h3,h4⟩:=M.cutE t
  refine ⟨c,h1,h2,by rw [put_getD_ne hd,h3],fun m om q1 q2 q3 q4=>?_⟩
  have hmk:m ≠ k:=by
   rintro rfl
   rw [ho] at q3; cases q3
   exact hd q4
  rw [h4 m om q1 q2 q3 q4]
  simp [hmk]

theorem Mix.same {L:Nat→Prop} {ρ:Rho} {s:St} {k:Nat} {o:Oper} {v:AV} (S:Stretch ops ios f b e) (M:Mix ops ios f b e L ρ s) (hb:b≤k) (he:k < e) (ho:ops[k]?=some o) (hput:(f (k+1)).env=put (f k).env o.dst v)
 (hord:∀ m om t,m ≠ k→ops[m]?=some om→om.dst=some t→o.dst=some t→(m < k ↔ L m)) (hno:∀ id,¬ Upd ios f k id):Mix ops ios f b e (fun m=>L m ∨ m=k) ρ ⟨put s.env o.dst v,s.H⟩:=by
 refine ⟨by simpa [put_length] using M.len,M.shape,fun id h=>(M.made id h).imp (fun x=>x) (fun ⟨m,h1,h2,h3,h4⟩=>⟨m,h1,h2,.inl h3,h4⟩),fun id h=>?_,cutE_put S M hb he ho hput hord,fun m id h1 h2 h3 h4=>?_⟩
 ·obtain ⟨c,h1,h2,h3,h4,h5⟩:=M.cutH id h
  refine ⟨c,h1,h2,h3,h4,fun m q1 q2 q3=>?_⟩
  have hmk:m ≠ k:=fun hh=>hno id (hh ▸ q3)
  rw [h5 m q1 q2 q3]; simp [hmk]
 ·rcases h3 with h3 | rfl
  ·exact M.upds m id h1 h2 h3 h4
  ·exact absurd h4 (hno id)

theorem Mix.makes {L:Nat→Prop} {ρ ρ':Rho} {s:St} {k:Nat} {o:Oper} {v:AV} {Z G':Heap} (S:Stretch ops ios f b e) (M:Mix ops ios f b e L ρ s) (hb:b≤k) (he:k < e) (ho:ops[k]?=some o) (hput:(f (k+1)).env=put (f k).env o.dst v) (hH:(f (k+1)).H=(f k).H ++ Z)
 (hord:∀ m om t,m ≠ k→ops[m]?=some om→om.dst=some t→o.dst=some t→(m < k ↔ L m)) (hno:∀ id,¬ Upd ios f k id) (hρ0:∀ i,(f k).H.length≤i→i < (f k).H.length+Z.length→ρ i=.no)
 (hG1:∀ (i:Nat) (z:Option Blk),Z[i]?=some z→G'[(f k).H.length+i]?=some z) (hG2:∀ i:Nat,¬ ((f k).H.length≤i∧i < (f k).H.length+Z.length)→G'[i]?=s.H[i]?) (hρ:∀ i,¬ ((f k).H.length≤i∧i < (f k).H.length+Z.length)→ρ' i=ρ i) :
 Mix ops ios f b e (fun m=>L m ∨ m=k) ρ' ⟨put s.env o.dst v,G'⟩:=by
 have hlen:(f (k+1)).H.length=(f k).H.length+Z.length:=by rw [hH]; simp
 have hnew:∀ i,(f k).H.length≤i→i < (f k).H.length+Z.length→G'[i]?=(f (k+1)).H[i]?:=by
  intro i h1 h2
  obtain ⟨z,hz⟩:∃ z,Z[i - (f k).H.length]?=some z:=⟨_,List.getElem?_eq_getElem (by omega)⟩
  have:=hG1 _ z hz
  rw [show (f k).H.length+(i - (f k).H.length)=i by omega] at this
  rw [this,hH,List.getElem?_append_right h1,hz]
 have keep:∀ i,ρ i ≠ .no→ρ' i=ρ i:=fun i hi=>hρ i fun h=>hi (hρ0 i h.1 h.2)
 refine ⟨by simpa [put_length] using M.len,fun id=>?_,fun id h=>?_,fun id h=>?_,cutE_put S M hb he ho hput hord,fun m id h1 h2 h3 h4=>?_⟩
 ·by_cases hi:(f k).H.length≤id∧id < (f k).H.length+Z.length
  ·simp only [hnew id hi.1 hi.2]
   exact S.shape (c:=k+1) (k:=e) (by omega) (by omega) (Nat.le_refl _) (by omega)
  ·simp only [hG2 id hi]
   exact M.shape id
 ·by_cases hi:(f k).H.length≤id∧id < (f k).H.length+Z.length
  ·exact .inr ⟨k,hb,he,.inr rfl,hi.1,by omega⟩
  ·rw [hρ id hi] at h
   exact (M.made id h).imp (fun x=>x) (fun ⟨m,h1,h2,h3,h4⟩=>⟨m,h1,h2,.inl h3,h4⟩)
 ·by_cases hi:(f k).H.length≤id∧id < (f k).H.length+Z.length
  ·refine ⟨k+1,by omega,by omega,by omega,hnew id hi.1 hi.2,fun m q1 q2 q3=>?_⟩
   have hmk:m ≠ k:=fun hh=>hno _ (hh ▸ q3)
   have hge:¬ m < k:=fun hm=>by
    have r1:=S.upd m _ q1 q2 q3
    have r2:=S.mono (c:=m) (k:=k) q1 (by omega) (by omega)
    omega
   have hnl:¬ L m:=fun hl=>M.upds m _ q1 q2 hl q3 (hρ0 id hi.1 hi.2)
   constructor
   ·intro h; omega
   ·rintro (h | h)
    ·exact absurd h hnl
    ·exact absurd h hmk
  ·rw [hρ id hi] at h
   obtain ⟨c,h1,h2,h3,h4,h5⟩:=M.cutH id h
   refine ⟨c,h1,h2,h3,by simp only [hG2 id hi]; exact h4,fun m q1 q2 q3=>?_⟩
   have hmk:m ≠ k:=fun hh=>hno id (hh ▸ q3)
   rw [h5 m q1 q2 q3]; simp [hmk]
 ·rcases h3 with h3 | rfl
  ·have:=M.upds m id h1 h2 h3 h4
   rw [keep id this]; exact this
  ·exact absurd h4 (hno id)

theorem Mix.stores {L:Nat→Prop} {ρ:Rho} {s:St} {k id:Nat} {o:Oper} {v:AV} {z z0:Blk} (S:Stretch ops ios f b e) (M:Mix ops ios f b e L ρ s) (hb:b≤k) (he:k < e) (ho:ops[k]?=some o) (hput:(f (k+1)).env=put (f k).env o.dst v) (hH:(f (k+1)).H=(f k).H.set id (some z)) (hlt:id < (f k).H.length)
 (hord:∀ m om t,m ≠ k→ops[m]?=some om→om.dst=some t→o.dst=some t→(m < k ↔ L m)) (hup:∀ id',Upd ios f k id'→id'=id) (hord2:∀ m,m ≠ k→Upd ios f m id→(m < k ↔ L m)) (hs:s.H[id]?=some (some z0)) (he0:z.e=z0.e) (hl0:z.els.length=z0.els.length) (hρ:ρ id ≠ .no) :
 Mix ops ios f b e (fun m=>L m ∨ m=k) ρ ⟨put s.env o.dst v,s.H.set id (some z)⟩:=by
 have hlts:id < s.H.length:=(List.getElem?_eq_some_iff.mp hs).1
 refine ⟨by simpa [put_length] using M.len,fun id'=>?_,fun id' h=>(M.made id' h).imp (fun x=>x) (fun ⟨m,h1,h2,h3,h4⟩=>⟨m,h1,h2,.inl h3,h4⟩),fun id' h=>?_,cutE_put S M hb he ho hput hord,fun m id' h1 h2 h3 h4=>?_⟩
 ·by_cases hi:id=id'
  ·subst hi
   simp only [List.getElem?_set_self hlts]
   have:=M.shape id
   rw [hs] at this
   obtain ⟨y,q1,q2,q3⟩:=this.some_r
   rw [q1]
   exact ⟨he0.trans q2,hl0.trans q3⟩
  ·simp only [List.getElem?_set_ne hi]
   exact M.shape id'
 ·by_cases hi:id=id'
  ·subst hi
   refine ⟨k+1,by omega,by omega,by rw [hH]; simpa using hlt,by rw [hH]; simp only [List.getElem?_set_self hlts,List.getElem?_set_self hlt],fun m q1 q2 q3=>?_⟩
   by_cases hmk:m=k
   ·subst hmk; simp
   ·have:=hord2 m hmk q3
    rw [← this]; omega
  ·obtain ⟨c,h1,h2,h3,h4,h5⟩:=M.cutH id' h
   refine ⟨c,h1,h2,h3,by simp only [List.getElem?_set_ne hi]; exact h4,fun m q1 q2 q3=>?_⟩
   have hmk:m ≠ k:=fun hh=>hi (hup id' (hh ▸ q3)).symm
   rw [h5 m q1 q2 q3]; simp [hmk]
 ·rcases h3 with h3 | rfl
  ·exact M.upds m id' h1 h2 h3 h4
  ·rw [hup id' h4]; exact hρ
end
end Go.Proofs.Ytdceaeifcniabaa.AE

namespace Go.Proofs.Ytdceaeifcniabaa.AE
set_option linter.unusedVariables false
set_option linter.unusedSimpArgs false
set_option linter.constructorNameAsVariable false
open Go Go.RowKit

section
variable {P:Program} {call callP:CallF} {ops:Array Oper} {ios:List IOper} {ps:List Nat} {f:Nat→St} {b e:Nat}
variable {w w0:World} {bad D0:Nat→Prop} {ρ ρ0:Rho} {a:Act} {B:Nat} {s:St} {Q:Exit→Act→World→Prop}

theorem dead_congr {H G:Heap} (h:∀ id:Nat,ShEq H[id]? G[id]?):dead H=dead G:=by
 funext id
 exact propext (h id).dead

theorem start_mix (S:Stretch ops ios f b e) (h:Sim w0 D0 ρ0 bad B ρ (f b) a w) {L:Nat→Prop} (hL:∀ m,b≤m→m < e→¬ L m) :
 ∃ s,Sim w0 D0 ρ0 bad B ρ s a w∧Mix ops ios f b e L ρ s:=by
 have hsh:∀ id:Nat,ShEq ((f b).H ++ (f e).H.drop (f b).H.length)[id]? (f e).H[id]?:=by
  intro id
  rw [List.getElem?_append]
  split
  ·rename_i hlt
   exact S.shape (Nat.le_refl _) S.le (Nat.le_refl _) hlt
  ·rename_i hge
   rw [List.getElem?_drop,show (f b).H.length+(id - (f b).H.length)=id by omega]
   exact .refl _
 have hmono:∀ i,dead (f b).H i→dead ((f b).H ++ (f e).H.drop (f b).H.length) i:=by
  intro i hd
  simp only [dead] at *
  rw [List.getElem?_append_left (List.getElem?_eq_some_iff.mp hd).1]; exact hd
 have st:Step w w (dead (f b).H) (dead ((f b).H ++ (f e).H.drop (f b).H.length)) ρ ρ:=⟨Grow.refl _ _,RLe.refl _ _,hmono,fun _ _=>.inl rfl⟩
 have hR:=h.heap
 refine ⟨⟨(f b).env,(f b).H ++ (f e).H.drop (f b).H.length⟩,⟨h.defers,h.size,fun t ht=>(h.env t ht).step st,⟨fun id bb es cap hid=>?_,fun id hid=>?_,hR.inj,fun id hid=>let ⟨k,hk,hb⟩:=hR.res id hid; ⟨k,by rw [List.getElem?_append_left (lt_of_no hR (by simp [hid]))]; exact hk,hb⟩⟩,h.low,h.st.trans st⟩,rfl,hsh,fun id hid=>.inl (lt_of_no hR hid),fun id hid=>?_,fun t=>?_,fun m id h1 h2 h3=>absurd h3 (hL m h1 h2)⟩
 ·obtain ⟨k,hk,hb⟩:=hR.real id bb es cap hid
  exact ⟨k,by rw [List.getElem?_append_left (lt_of_no hR (by simp [hid]))]; exact hk,hb.step st rfl⟩
 ·obtain ⟨k,hk,hb⟩:=hR.virt id hid
  exact ⟨k,by rw [List.getElem?_append_left (lt_of_no hR (by simp [hid]))]; exact hk,hb⟩
 ·have hlt:=lt_of_no hR hid
  refine ⟨b,Nat.le_refl _,S.le,hlt,List.getElem?_append_left hlt,fun m h1 h2 _=>?_⟩
  have:=hL m h1 h2
  constructor
  ·intro h; omega
  ·intro h; exact absurd h this
 ·refine ⟨b,Nat.le_refl _,S.le,rfl,fun m o h1 h2 _ _=>?_⟩
  have:=hL m h1 h2
  constructor
  ·intro h; omega
  ·intro h; exact absurd h this

theorem end_mix (S:Stretch ops ios f b e) {L:Nat→Prop} (M:Mix ops ios f b e L ρ s) (h:Sim w0 D0 ρ0 bad B ρ s a w) (hL:∀ m,b≤m→m < e→L m):Sim w0 D0 ρ0 bad B ρ (f e) a w:=by
 have hdead:dead s.H=dead (f e).H:=dead_congr M.shape
 have henv:∀ t,s.env.getD t .undef=(f e).env.getD t .undef:=by
  intro t
  obtain ⟨c,h1,h2,h3,h4⟩:=M.cutE t
  rw [h3]
  refine S.sameE h1 h2 S.le (Nat.le_refl _) fun m o q1 q2 q3 q4=>?_
  rw [h4 m o q1 q2 q3 q4]
  exact ⟨fun _=>q2,fun _=>hL m q1 q2⟩
 have hheap:∀ id,ρ id ≠ .no→s.H[id]?=(f e).H[id]?:=by
  intro id hid
  obtain ⟨c,h1,h2,h3,h4,h5⟩:=M.cutH id hid
  rw [h4]
  refine S.sameH h1 h2 S.le (Nat.le_refl _) h3 (Nat.lt_of_lt_of_le h3 (S.mono h1 h2 (Nat.le_refl _))) fun m q1 q2 q3=>?_
  rw [h5 m q1 q2 q3]
  exact ⟨fun _=>q2,fun _=>hL m q1 q2⟩
 have hlen:s.env.length=(f e).env.length:=by rw [M.len,S.lenE S.le (Nat.le_refl _)]
 refine ⟨h.defers,h.size.trans hlen,fun t ht=>?_,⟨fun id bb es cap hid=>?_,fun id hid=>?_,h.heap.inj,fun id hid=>let ⟨k,hk,hb⟩:=h.heap.res id hid; ⟨k,(hheap id (by simp [hid])) ▸ hk,hb⟩⟩,h.low,by rw [← hdead]; exact h.st⟩
 ·rw [← hdead,← henv t]; exact h.env t (hlen ▸ ht)
 ·obtain ⟨k,hk,hb⟩:=h.heap.real id bb es cap hid
  refine ⟨k,(hheap id (by simp [hid])) ▸ hk,?_⟩
  have h2:BlkRel w bad (dead (f e).H) ρ B k bb es cap:=by rw [← hdead]; exact hb
  exact h2
 ·obtain ⟨k,hk,hb⟩:=h.heap.virt id hid
  exact ⟨k,(hheap id (by simp [hid])) ▸ hk,hb⟩

theorem want_congr {env env':List AV} {ops:Array Oper} {o:Oper} {io:IOper} (hc:cOper P ops.toList o=some io) (h:∀ t,t ∈ o.looksAt ops→env.getD t .undef=env'.getD t .undef):want env io.guard=want env' io.guard:=by
 unfold cOper at hc
 split at hc <;> (try (cases hc; done))
 cases hc
 cases hg:o.guard with
 | none=>rfl
 | some p =>
   obtain ⟨g,q⟩:=p
   simp only
   cases hd:(ops.toList[g]?).bind (·.dst) with
   | none=>rfl
   | some t =>
     have ht:t ∈ o.looksAt ops:=by
      simp only [Oper.looksAt,hg,List.mem_append]
      right
      have:ops.toList[g]?=ops[g]?:=by simp
      rw [this] at hd
      simp [hd]
     simp only [want,h t ht]

theorem seg_step (G:Glob P call callP ops ios ps f) (S:Stretch ops ios f b e) (hcall:PCallOK P callP) (hbad:∀ b,bad b→b < B) {L:Nat→Prop} {k:Nat} (hb:b≤k) (he:k < e) (hnf:∀ io,ios[k]?=some io→fullK ios ps k io=false) (hk:¬ L k) (hready:∀ m,(ps.getD k 0).testBit m=true→L m)
 (hclosed:∀ m,L m→∀ i,(ps.getD m 0).testBit i=true→L i) (h:Sim w0 D0 ρ0 bad B ρ s a w) (M:Mix ops ios f b e L ρ s) {K:Act→World→Prop}
 (hK:∀ a' w' ρ' s',Sim w0 D0 ρ0 bad B ρ' s' a' w'→Mix ops ios f b e (fun m=>L m ∨ m=k) ρ' s'→K a' w'):wpOp P ops Q k K a w:=by
 obtain ⟨o,io,e1,e2,e3,e4⟩:=G.at_ k (Nat.lt_of_lt_of_le he S.top)
 obtain ⟨hop,hdst⟩:=cOper_op e3
 have ordL:∀ m,m ≠ k→Ord ps m k→(m < k ↔ L m):=by
  intro m hmk ho
  constructor
  ·intro hlt; exact hready m (ho.1 hlt)
  ·intro hl
   rcases Nat.lt_or_ge m k with hlt | hge
   ·exact hlt
   ·exact absurd (hclosed m hl k (ho.2 (by omega))) hk
 have hord:∀ m om t,m ≠ k→ops[m]?=some om→om.dst=some t→o.dst=some t→(m < k ↔ L m):=fun m om t h1 h2 h3 h4=>ordL m h1 (G.slots m k om o t h1 h2 e1 h3 (.inr h4))
 have hslot:∀ t,t ∈ o.looksAt ops→s.env.getD t .undef=(f k).env.getD t .undef:=by
  intro t ht
  obtain ⟨c,h1,h2,h3,h4⟩:=M.cutE t
  rw [h3]
  refine S.sameE h1 h2 hb (by omega) fun m om q1 q2 q3 q4=>?_
  rw [h4 m om q1 q2 q3 q4]
  by_cases hmk:m=k
  ·subst hmk; simp [hk]
  ·exact (ordL m hmk (G.slots m k om o t hmk q3 e1 q4 (.inl ht))).symm
 have hwant:want s.env io.guard=want (f k).env io.guard:=want_congr e3 hslot
 unfold wpOp
 rw [e1]
 simp only
 rcases e4 with ⟨hw,v,H',hv,e5⟩ | ⟨hw,e5⟩
 ·rw [want_spec e3 h (hwant.trans hw),if_pos rfl]
  refine .inl ?_
  have hput:(f (k+1)).env=put (f k).env o.dst v:=by rw [e5,← hdst]
  have hHk:(f (k+1)).H=H':=by rw [e5]
  have hshk:∀ id z,hget (f k).H id=some z→∃ z',s.H[id]?=some (some z')∧z'.e=z.e∧z'.els.length=z.els.length:=by
   intro id z hz
   obtain ⟨q1,q2⟩:=hget_lt hz
   have r1:=S.shape hb (Nat.le_of_lt he) (Nat.le_refl _) q2
   rw [q1] at r1
   obtain ⟨y,r2,r3,r4⟩:=r1.some_r
   have r5:=M.shape id
   rw [r2] at r5
   obtain ⟨x,r6,r7,r8⟩:=r5.some_l
   exact ⟨x,r6,r7.trans r3.symm,r8.trans r4.symm⟩
  have hgets:∀ {H:Heap} {id:Nat} {z:Blk},H[id]?=some (some z)→hget H id=some z:=by
   intro H id z hz; simp [hget,hz]
  have hO:OpsOk w bad (dead s.H) ρ a (evO (f k).env) o.op.operands.toList:=by
   intro x hx y hy
   have h1:=evO_rep h o.op.operands.toList x hx y hy
   have:evO (f k).env y=evO s.env y:=by
    cases y with
    | v _=>rfl
    | t t =>
      have hxt:x=.tmp t:=by
       cases x with
       | tmp t'=>simp [cOpd] at hy; rw [hy]
       | const u=>cases hu:cv u <;> simp [cOpd,hu] at hy
       | global g=>simp [cOpd] at hy
       | func g=>simp [cOpd] at hy
      subst hxt
      exact (hslot t (by simp only [Oper.looksAt,List.mem_append,List.mem_filterMap]; exact .inl ⟨.tmp t,hx,rfl⟩)).symm
   rw [this]; exact h1
  have htc:∀ id ∈ touch (evO (f k).env) (f k).H io.op,∀ z,hget (f k).H id=some z→ρ id ≠ .no→hget s.H id=some z:=by
   intro id hid z hz hn
   obtain ⟨q1,q2⟩:=hget_lt hz
   obtain ⟨c,h1,h2,h3,h4,h5⟩:=M.cutH id hn
   have:(f c).H[id]?=(f k).H[id]?:=by
    refine S.sameH h1 h2 hb (by omega) h3 q2 fun m r1 r2 r3=>?_
    rw [h5 m r1 r2 r3]
    by_cases hmk:m=k
    ·subst hmk; simp [hk]
    ·obtain ⟨im,t1,t2,t3,t4⟩:=r3
     exact (ordL m hmk (G.mem m k im io id hmk t1 e2 t2 hw t3 t4 hid)).symm
   exact hgets (h4.trans (this.trans q1))
  have hdd:∀ id,dead s.H id→hget (f k).H id=none:=by
   intro id hd
   cases hz:hget (f k).H id with
   | none=>rfl
   | some z =>
     obtain ⟨z',q,_⟩:=hshk id z hz
     simp only [dead] at hd
     rw [hd] at q; cases q
  have hupd:storeOp io.op=false→∀ id,¬ Upd ios f k id:=by
   rintro hs id ⟨im,t1,t2,t3,t4⟩
   rw [e2] at t1; cases t1
   rw [hs] at t3; cases t3
  obtain ⟨g1,g2⟩:=fullK_not (hnf io e2)
  rw [g2,cond_false] at hv
  have hfin:=op_drawn (ev:=evO (f k).env) hop hcall g1 hbad h.heap h.low hO (fun id z hz=>let ⟨z',q1,q2,q3⟩:=hshk id z hz; ⟨z',hgets q1,q3⟩) (fun id z hz=>let ⟨z',q1,q2,q3⟩:=hshk id z hz; ⟨z',hgets q1,q2⟩) htc hdd (fun _=>rfl) hv
  have hnoR:∀ Z:Heap,(f (k+1)).H=(f k).H ++ Z→∀ i,(f k).H.length≤i→i < (f k).H.length+Z.length→ρ i=.no:=by
   intro Z hZ i i1 i2
   have hlz:(f (k+1)).H.length=(f k).H.length+Z.length:=by rw [hZ]; simp
   cases hx:ρ i with
   | no=>rfl
   | _ =>
     exfalso
     rcases M.made i (by simp [hx]) with h' | ⟨m,r1,r2,r3,r4,r5⟩
     ·have:=S.mono (Nat.le_refl b) hb (by omega); omega
     ·have hmk:m ≠ k:=fun hh=>hk (hh ▸ r3)
      rcases Nat.lt_or_ge m k with hlt | hge
      ·have:=S.mono (c:=m+1) (k:=k) (by omega) (by omega) (by omega); omega
      ·have:=S.mono (c:=k+1) (k:=m) (by omega) (by omega) (by omega); omega
  have hshZ:∀ Z:Heap,(f (k+1)).H=(f k).H ++ Z→∀ i,(f k).H.length≤i→i < (f k).H.length+Z.length→ShEq s.H[i]? (Z[i - (f k).H.length]?):=by
   intro Z hZ i i1 i2
   have hlz:(f (k+1)).H.length=(f k).H.length+Z.length:=by rw [hZ]; simp
   have hsx:=S.shape (c:=k+1) (k:=e) (id:=i) (by omega) (by omega) (Nat.le_refl _) (by omega)
   rw [hZ,List.getElem?_append_right i1] at hsx
   exact (M.shape i).trans hsx.symm
  rcases hfin with ⟨⟨cv,hr,hrep⟩,hH,hst⟩ | ⟨z,hm,hH,hst⟩ | ⟨id,z,z',w',q1,q2,q3,q4,hH,q5,q6,q7,q8,q9,q10⟩ | ⟨hst,_,Z,hH,vs,g,hr,hres⟩
  ·unfold Oper.wp
   rw [hr]
   exact hK _ _ ρ _ (put_sim o.dst h (Step.refl _ _ _) h.heap hrep) (M.same S hb he e1 hput hord (hupd hst))
  ·obtain ⟨cv,w',cur,fz,cap,hr,h1,h2,h3,⟨h4,h5,h6⟩,h7,h8,h9,h10,h11,h12,h13⟩:=hm
   have hHH:(f (k+1)).H=(f k).H ++ [some z]:=hHk.trans hH
   have hno:ρ (f k).H.length=.no:=hnoR _ hHH _ (Nat.le_refl _) (by simp)
   have hsn:=hshZ _ hHH _ (Nat.le_refl _) (by simp)
   simp only [Nat.sub_self,List.getElem?_cons_zero] at hsn
   obtain ⟨y2,hy2,_,_⟩:=hsn.some_l
   have hlts:(f k).H.length < s.H.length:=(List.getElem?_eq_some_iff.mp hy2).1
   obtain ⟨ρ',hρ',st,hR⟩:=alloc_upd (H':=s.H.set (f k).H.length (some z)) h.heap h.low hno (List.getElem?_set_self hlts) (fun i hi _=>List.getElem?_set_ne (Ne.symm hi)) (fun i hi=>by
    have:i ≠ (f k).H.length:=by rintro rfl; rw [hy2] at hi; cases hi
    rw [List.getElem?_set_ne (Ne.symm this)]; exact hi) h1 h2 h3 h4 h5 h6 h7 h8 h9 h10 h11 h12
   have hM':Mix ops ios f b e (fun m=>L m ∨ m=k) ρ' ⟨put s.env o.dst v,s.H.set (f k).H.length (some z)⟩:=by
    refine M.makes S hb he e1 hput hHH hord (hupd hst) (hnoR _ hHH) (fun i z' hz=>?_) (fun i hi=>?_) (fun i hi=>?_)
    ·cases i with
     | zero=>simp only [List.getElem?_cons_zero,Option.some.injEq] at hz; subst hz; exact List.getElem?_set_self hlts
     | succ i=>simp at hz
    ·exact List.getElem?_set_ne (by simp at hi; omega)
    ·subst hρ'
     have:i ≠ (f k).H.length:=by simp at hi; omega
     simp [this]
   unfold Oper.wp
   rw [hr]
   refine hK _ _ ρ' _ (put_sim (v:=v) o.dst h st hR ?_) hM'
   rcases h13 with ⟨rfl,rfl⟩ | ⟨n,c,rfl,q1,q2,rfl⟩
   ·have:=Rep.ptr (w:=w') (bad:=bad) (D:=dead (s.H.set (f k).H.length (some z))) (ρ:=ρ') (id:=(f k).H.length) (i:=0) (j:=0) (b:=w.heap.size) (es:=z.e.es) (cap:=cap) (by subst hρ'; simp)
    simpa using this
   ·have:=Rep.slc (w:=w') (bad:=bad) (D:=dead (s.H.set (f k).H.length (some z))) (ρ:=ρ') (id:=(f k).H.length) (o:=0) (n:=n) (c:=c) (b:=w.heap.size) (es:=z.e.es) (cap:=cap) (by subst hρ'; simp) (by omega) q1
    simpa using this
  ·obtain ⟨st,hR⟩:=q8 _ rfl
   unfold Oper.wp
   rw [q9]
   subst q7
   refine hK _ _ ρ _ (put_sim (v:=.undef) o.dst h st hR (.frz (.undef _))) (M.stores S hb he e1 hput (hHk.trans hH) (hget_lt q2).2 hord ?_ ?_ q1 q3 q4 q10)
   ·rintro id' ⟨im,t1,t2,t3,t4⟩
    rw [e2] at t1; cases t1
    unfold tchAt at t4
    rw [q5] at t4
    simpa using t4
   ·rintro m hmk ⟨im,t1,t2,t3,t4⟩
    exact ordL m hmk (G.mem m k im io id hmk t1 e2 t2 hw t3 t4 (by unfold tchAt; rw [q5]; simp))
  ·have hHH:(f (k+1)).H=(f k).H ++ Z:=hHk.trans hH
   have hno:=hnoR _ hHH
   have hsh:=hshZ _ hHH
   generalize hn:(f k).H.length=n at *
   have hlen:0 < Z.length→n+Z.length≤s.H.length:=by
    intro h0
    have:=hsh (n+Z.length - 1) (by omega) (by omega)
    rcases Nat.lt_or_ge (n+Z.length - 1) s.H.length with h' | h'
    ·omega
    ·have h2:=this.none_iff.mp (List.getElem?_eq_none h')
     rw [List.getElem?_eq_none_iff] at h2
     omega
   obtain ⟨G',hG1,hG2⟩:∃ G':Heap,(∀ (i:Nat) (z:Option Blk),Z[i]?=some z→G'[n+i]?=some z)∧(∀ i:Nat,¬ (n≤i∧i < n+Z.length)→G'[i]?=s.H[i]?):=by
    rcases Nat.eq_zero_or_pos Z.length with h0 | h0
    ·have:Z=[]:=List.eq_nil_of_length_eq_zero h0
     subst this
     exact ⟨s.H,fun i z hz=>by simp at hz,fun i _=>rfl⟩
    ·have hl:=hlen h0
     refine ⟨s.H.take n ++ (Z ++ s.H.drop (n+Z.length)),fun i z hz=>?_,fun i hi=>?_⟩
     ·have hi:=(List.getElem?_eq_some_iff.mp hz).1
      rw [List.getElem?_append_right (by simp; omega),List.length_take,show n+i - min n s.H.length=i by omega,List.getElem?_append_left hi]; exact hz
     ·rcases Nat.lt_or_ge i n with h' | h'
      ·rw [List.getElem?_append_left (by simp; omega),List.getElem?_take,if_pos h']
      ·rw [List.getElem?_append_right (by simp; omega),List.length_take,List.getElem?_append_right (by omega),List.getElem?_drop]
       congr 1; omega
   have hfit:Fits n Z ρ s.H G':=by
    refine ⟨hno,hG1,fun i hi _=>hG2 i hi,fun i hd=>?_⟩
    by_cases hi:n≤i∧i < n+Z.length
    ·have:=hsh i hi.1 hi.2
     simp only [dead] at *
     rw [hd] at this
     have hz:=this.dead.mp rfl
     have:=hG1 _ _ hz
     rwa [show n+(i - n)=i by omega] at this
    ·simp only [dead] at *
     rw [hG2 i hi]; exact hd
   unfold Oper.wp
   rw [hr]
   have fin:∀ cv w' (ρ':Rho),(∀ i,¬ (n≤i∧i < n+Z.length)→ρ' i=ρ i)→Step w w' (dead s.H) (dead G') ρ ρ'→HRel w' bad ρ' B G'→Rep w' bad (dead G') ρ' v cv→K (a.put o.dst cv) w':=by
    intro cv w' ρ' h1 st hR hrep
    refine hK _ _ ρ' ⟨put s.env o.dst v,G'⟩ (put_sim o.dst h st hR hrep) ?_
    subst hn
    exact M.makes S hb he e1 hput hHH hord (hupd hst) hno hG1 hG2 h1
   rcases hres G' hfit with ⟨cv,w',h1,ρ',h2,st,hR,hrep⟩ | ⟨h1,h2⟩
   ·rw [h1]
    exact fin cv w' ρ' h2 st hR hrep
   ·rw [h1]
    refine h2.mono ?_
    rintro ex w' ⟨cv,rfl,ρ',h2,st,hR,hrep⟩
    exact fin cv w' ρ' h2 st hR hrep
 ·rw [want_spec e3 h (hwant.trans hw),if_neg (by simp)]
  have hput:(f (k+1)).env=put (f k).env o.dst (.tup []):=by rw [e5,← hdst]
  refine hK _ _ ρ _ (skip_sim o.dst h) (M.same S hb he e1 hput hord ?_)
  rintro id ⟨im,t1,t2,t3,t4⟩
  rw [e2] at t1; cases t1
  rw [hw] at t2; cases t2
end
end Go.Proofs.Ytdceaeifcniabaa.AE

namespace Go.Proofs.Ytdceaeifcniabaa.AE
set_option linter.unusedVariables false
set_option linter.unusedSimpArgs false
set_option linter.constructorNameAsVariable false
open Go Go.RowKit

theorem predsOf_len:∀ (l:List Oper) (acc:List Nat),(predsOf l acc).length=acc.length+l.length
 | [],acc=>by simp [predsOf]
 | o::l,acc=>by
   rw [predsOf,predsOf_len l]
   simp; omega
theorem predsOf_old:∀ (l:List Oper) (acc:List Nat) (k:Nat),k < acc.length→(predsOf l acc).getD k 0=acc.getD k 0
 | [],acc,k,_=>by simp [predsOf]
 | o::l,acc,k,h=>by
   rw [predsOf,predsOf_old l _ k (by simp; omega)]
   simp only [List.getD_eq_getElem?_getD,List.getElem?_append_left h]

theorem fold_bits (g:Nat→Nat):∀ (l:List _) (m i:Nat),(l.foldl (fun m (e:Edge)=>if Region.binds .any e then m ||| 2 ^ e.on ||| g e.on else m) m).testBit i=true →
 m.testBit i=true ∨ ∃ e ∈ l,Region.binds .any e=true∧(i=e.on ∨ (g e.on).testBit i=true)
 | [],m,i,h=>.inl h
 | e::l,m,i,h=>by
   simp only [List.foldl_cons] at h
   rcases fold_bits g l _ i h with h | ⟨e',h1,h2⟩
   ·split at h
    ·rename_i hb
     simp only [Nat.testBit_or,Bool.or_eq_true,Nat.testBit_two_pow,decide_eq_true_eq] at h
     rcases h with (h | h) | h
     ·exact .inl h
     ·exact .inr ⟨e,by simp,hb,.inl h.symm⟩
     ·exact .inr ⟨e,by simp,hb,.inr h⟩
    ·exact .inl h
   ·exact .inr ⟨e',by simp [h1],h2⟩

theorem predsOf_bits:∀ (l:List Oper) (acc:List Nat) (k i:Nat) (o:Oper),l[k]?=some o→((predsOf l acc).getD (acc.length+k) 0).testBit i=true→∃ e ∈ o.after.toList,Region.binds .any e=true∧(i=e.on ∨ (((predsOf l acc).getD e.on 0).testBit i=true))
 | [],acc,k,i,o,h,_=>by simp at h
 | p::l,acc,k,i,o,h,hb=>by
   rw [predsOf] at hb ⊢
   generalize hx:p.after.toList.foldl (fun m e=>if Region.binds .any e then m ||| 2 ^ e.on ||| acc.getD e.on 0 else m) 0=x at hb
   cases k with
   | zero =>
     simp only [List.getElem?_cons_zero,Option.some.injEq] at h
     subst h
     rw [predsOf_old l _ _ (by simp)] at hb
     have:(acc ++ [x]).getD (acc.length+0) 0=x:=by simp [List.getD_eq_getElem?_getD]
     rw [this,← hx] at hb
     rcases fold_bits (fun n=>acc.getD n 0) _ _ _ hb with h | ⟨e,h1,h2,h3⟩
     ·simp at h
     ·refine ⟨e,h1,h2,h3.imp (fun x=>x) fun h3=>?_⟩
      have hlt:e.on < acc.length:=by
       rcases Nat.lt_or_ge e.on acc.length with h' | h'
       ·exact h'
       ·simp [List.getD_eq_getElem?_getD,List.getElem?_eq_none h'] at h3
      rw [predsOf_old l _ _ (by simp; omega)]
      simp only [List.getD_eq_getElem?_getD,List.getElem?_append_left hlt] at h3 ⊢
      exact h3
   | succ k =>
     simp only [List.getElem?_cons_succ] at h
     have:=predsOf_bits l (acc ++ [x]) k i o h (by rw [show (acc ++ [x]).length+k=acc.length+(k+1) by simp; omega]; exact hb)
     exact this

theorem next_full (ios:List IOper) (ps:List Nat) (n:Nat):∀ d b:Nat,n - b=d→b≤n→∃ e,b≤e∧e≤n∧(∀ k io,b≤k→k < e→ios[k]?=some io→fullK ios ps k io=false)∧(e=n ∨ ∃ io,ios[e]?=some io∧fullK ios ps e io=true)
 | 0,b,h,hb=>⟨b,Nat.le_refl _,hb,fun k io h1 h2=>by omega,.inl (by omega)⟩
 | d+1,b,h,hb=>by
   by_cases hf:∃ io,ios[b]?=some io∧fullK ios ps b io=true
   ·exact ⟨b,Nat.le_refl _,hb,fun k io h1 h2=>by omega,.inr hf⟩
   ·obtain ⟨e,h1,h2,h3,h4⟩:=next_full ios ps n d (b+1) (by omega) (by omega)
    refine ⟨e,by omega,h2,fun k io q1 q2 q3=>?_,h4⟩
    by_cases hk:k=b
    ·subst hk
     cases hx:fullK ios ps k io
     ·rfl
     ·exact absurd ⟨io,q3,hx⟩ hf
    ·exact h3 k io (by omega) q2 q3

def open_ (listed:Array Bool):Nat:=listed.toList.countP (·=false)

theorem open_set {listed:Array Bool} {i:Nat} (h:listed.getD i true=false):open_ (listed.setIfInBounds i true)+1=open_ listed:=by
 have hlt:i < listed.size:=by
  rcases Nat.lt_or_ge i listed.size with h' | h'
  ·exact h'
  ·simp [Array.getElem?_eq_none h'] at h
 have hv:listed.toList[i]=false:=by
  have:listed[i]=false:=by simpa [hlt] using h
  simpa using this
 unfold open_
 rw [Array.toList_setIfInBounds,List.countP_set (h:=by simpa using hlt)]
 have hpos:0 < listed.toList.countP (fun x=>decide (x=false)):=List.countP_pos_iff.mpr ⟨false,by rw [← hv]; exact List.getElem_mem _,by simp⟩
 have h1:(if (decide (listed.toList[i]=false))=true then 1 else 0)=1:=by rw [hv]; rfl
 have h2:(if (decide (true=false))=true then 1 else 0)=0:=rfl
 simp only [h1,h2]
 omega

theorem open_zero {listed:Array Bool} (h:open_ listed=0) (i:Nat):listed.getD i true=true:=by
 unfold open_ at h
 rw [List.countP_eq_zero] at h
 rcases Nat.lt_or_ge i listed.size with hlt | hge
 ·have:=h listed[i] (by simp)
  simp [hlt]
  simpa using this
 ·simp [Array.getElem?_eq_none hge]

section
variable {P:Program} {call callP:CallF} {ops:Array Oper} {ios:List IOper} {ps:List Nat} {f:Nat→St} {b e:Nat}
variable {w w0:World} {bad D0:Nat→Prop} {ρ ρ0:Rho} {a:Act} {B:Nat} {s:St} {Q:Exit→Act→World→Prop}

theorem getD_set {listed:Array Bool} {i m:Nat} (hi:i < listed.size):(listed.setIfInBounds i true).getD m false=true ↔ (listed.getD m false=true ∨ m=i):=by
 by_cases h:m=i
 ·subst h; simp [hi]
 ·simp [Array.getElem?_setIfInBounds_ne (Ne.symm h),h]

theorem drawn_main (G:Glob P call callP ops ios (predsOf ops.toList []) f) (hcall1:CallOK P call) (hcall:PCallOK P callP) (hbad:∀ b,bad b→b < B) (hed:edgesOk ops=true) (hsz:ios.length=ops.size) (hQ:∀ a w ρ,Sim w0 D0 ρ0 bad B ρ (f ops.size) a w→Q .normal a w) :
 ∀ (fuel:Nat) (b e:Nat) (listed:Array Bool) (ρ:Rho) (s:St) (a:Act) (w:World),listed.size=ops.size→open_ listed≤fuel→b≤e→e≤ops.size→(∀ k io,b≤k→k < e→ios[k]?=some io→fullK ios (predsOf ops.toList []) k io=false)→(e=ops.size ∨ ∃ io,ios[e]?=some io∧fullK ios (predsOf ops.toList []) e io=true) →
   (∀ k,k < b→listed.getD k false=true)→(∀ k,e≤k→listed.getD k false=false)→(∀ m,listed.getD m false=true→∀ i,((predsOf ops.toList []).getD m 0).testBit i=true→listed.getD i false=true) →
   Sim w0 D0 ρ0 bad B ρ s a w→Mix ops ios f b e (fun m=>listed.getD m false=true) ρ s→wpAny P .any ops Q fuel listed a w:=by
 intro fuel
 induction fuel with
 | zero =>
   intro b e listed ρ s a w hls hop hbe hen hnf hfe hlo hhi hcl h M
   have hall:=open_zero (Nat.le_zero.mp hop)
   have hall2:∀ k,k < ops.size→listed.getD k false=true:=by
    intro k hk
    have:=hall k
    simpa [hls ▸ hk] using this
   have heq:e=ops.size:=by
    rcases hfe with h' | ⟨io,h1,_⟩
    ·exact h'
    ·have hlt:e < ops.size:=by rw [← hsz]; exact (List.getElem?_eq_some_iff.mp h1).1
     have:=hall2 e hlt
     rw [hhi e (Nat.le_refl _)] at this; cases this
   refine ⟨?_,?_⟩
   ·cases hr:Region.ready .any ops listed with
    | nil=>rfl
    | cons j l =>
      have hj:j ∈ Region.ready .any ops listed:=by rw [hr]; simp
      have:=(mem_ready.1 hj).1
      rw [hall j] at this; cases this
   ·have S:=G.stretch hcall hbe hen hnf
    have:=end_mix S M h (fun m _ h2=>hall2 m (by omega))
    rw [heq] at this
    exact hQ _ _ _ this
 | succ fuel ih =>
   intro b e listed ρ s a w hls hop hbe hen hnf hfe hlo hhi hcl h M
   have S:=G.stretch hcall hbe hen hnf
   have hedge:∀ (k:Nat) (o:Oper),ops[k]?=some o→∀ x ∈ o.after,Region.binds .any x=true→x.on < k:=by
    intro k o ho x hx hb
    have:=List.all_eq_true.mp hed (o,k) (by rw [List.mem_zipIdx_iff_getElem?]; simpa using ho)
    have:=List.all_eq_true.mp this x (by simpa using hx)
    simpa [hb] using this
   refine ⟨fun hnil=>?_,fun i hi=>?_⟩
   ·have hall2:∀ k,k < ops.size→listed.getD k false=true:=by
     intro k
     induction k using Nat.strongRecOn with
     | _ k ihk =>
       intro hk
       cases hx:listed.getD k false with
       | true=>rfl
       | false =>
         exfalso
         have:k ∈ Region.ready .any ops listed:=mem_ready.2 ⟨by simpa [hls ▸ hk] using hx,ops[k],by simp [hk],fun x hx hb=>by
          have hlt:=hedge k ops[k] (by simp [hk]) x hx hb
          exact ihk x.on hlt (by omega)⟩
         rw [hnil] at this
         simp at this
    have heq:e=ops.size:=by
     rcases hfe with h' | ⟨io,h1,_⟩
     ·exact h'
     ·have hlt:e < ops.size:=by rw [← hsz]; exact (List.getElem?_eq_some_iff.mp h1).1
      have:=hall2 e hlt
      rw [hhi e (Nat.le_refl _)] at this; cases this
    have:=end_mix S M h (fun m _ h2=>hall2 m (by omega))
    rw [heq] at this
    exact hQ _ _ _ this
   ·obtain ⟨hi0,o,ho,haft⟩:=mem_ready.1 hi
    have hlt:i < ops.size:=(Array.getElem?_eq_some_iff.1 ho).1
    have hlt':i < listed.size:=hls ▸ hlt
    have hi1:listed.getD i false=false:=by simpa [hlt'] using hi0
    have hb:b≤i:=by
     rcases Nat.lt_or_ge i b with h' | h'
     ·rw [hlo i h'] at hi1; cases hi1
     ·exact h'
    have hready:∀ m,((predsOf ops.toList []).getD i 0).testBit m=true→listed.getD m false=true:=by
     intro m hm
     obtain ⟨x,h1,h2,h3⟩:=predsOf_bits ops.toList [] i m o (by simpa using ho) (by simpa using hm)
     have hl:=haft x (by simpa using h1) h2
     rcases h3 with rfl | h3
     ·exact hl
     ·exact hcl x.on hl m h3
    have hop':open_ (listed.setIfInBounds i true)≤fuel:=by have:=open_set hi0; omega
    have hcl':∀ m,(listed.setIfInBounds i true).getD m false=true→∀ j,((predsOf ops.toList []).getD m 0).testBit j=true→(listed.setIfInBounds i true).getD j false=true:=by
     intro m hm j hj
     rw [getD_set hlt'] at hm ⊢
     rcases hm with hm | rfl
     ·exact .inl (hcl m hm j hj)
     ·exact .inl (hready j hj)
    have hfun:(fun m=>listed.getD m false=true ∨ m=i)=fun m=>(listed.setIfInBounds i true).getD m false=true:=by
     funext m
     exact propext (getD_set hlt').symm
    rcases Nat.lt_or_ge i e with hie | hie
    ·refine seg_step G S hcall hbad hb hie (fun io hio=>hnf i io hb hie hio) (by simp [hi1]) hready hcl h M fun a' w' ρ' s' h' M'=>?_
     rw [hfun] at M'
     refine ih b e _ ρ' s' a' w' (by simpa using hls) hop' hbe hen hnf hfe (fun k hk=>(getD_set hlt').mpr (.inl (hlo k hk))) (fun k hk=>?_) hcl' h' M'
     cases hx:(listed.setIfInBounds i true).getD k false with
     | false=>rfl
     | true =>
       rcases (getD_set hlt').mp hx with h1 | h1
       ·rw [hhi k hk] at h1; cases h1
       ·omega
    ·obtain ⟨fio,hf1,hf2⟩:=hfe.resolve_left (by omega)
     have hei:e=i:=by
      rcases Nat.lt_or_ge e i with h' | h'
      ·have hor:=G.full i e fio (by omega) hlt hf1 hf2
       have:=hready e (hor.2 h')
       rw [hhi e (Nat.le_refl _)] at this; cases this
      ·omega
     subst hei
     have hsim:=end_mix S M h fun m h1 h2=>hready m ((G.full m e fio (by omega) (by omega) hf1 hf2).1 h2)
     obtain ⟨o',io,e1,e2,e3,e4⟩:=G.at_ e hlt
     rw [ho] at e1; cases e1
     obtain ⟨hopp,hdst⟩:=cOper_op e3
     have next:∀ a' w' ρ',Sim w0 D0 ρ0 bad B ρ' (f (e+1)) a' w'→wpAny P .any ops Q fuel (listed.setIfInBounds e true) a' w':=by
      intro a' w' ρ' h'
      obtain ⟨e',q1,q2,q3,q4⟩:=next_full ios (predsOf ops.toList []) ops.size _ (e+1) rfl hlt
      have S':=G.stretch hcall q1 q2 q3
      have hoff:∀ k,e+1≤k→(listed.setIfInBounds e true).getD k false=false:=by
       intro k hk
       cases hx:(listed.setIfInBounds e true).getD k false with
       | false=>rfl
       | true =>
         rcases (getD_set hlt').mp hx with h1 | h1
         ·rw [hhi k (by omega)] at h1; cases h1
         ·omega
      obtain ⟨s',h2,M'⟩:=start_mix S' h' (L:=fun m=>(listed.setIfInBounds e true).getD m false=true) (fun m h1 _ h3=>by rw [hoff m h1] at h3; cases h3)
      refine ih (e+1) e' _ ρ' s' a' w' (by simpa using hls) hop' q1 q2 q3 q4 (fun k hk=>(getD_set hlt').mpr ?_) (fun k hk=>hoff k (by omega)) hcl' h2 M'
      by_cases hke:k=e
      ·exact .inr hke
      ·exact .inl (hready k ((G.full k e fio hke (by omega) hf1 hf2).1 (by omega)))
     unfold wpOp
     rw [ho]
     simp only
     rcases e4 with ⟨hw,v,H',hv,e5⟩ | ⟨hw,e5⟩
     ·rw [want_spec e3 hsim hw,if_pos rfl]
      have hc2:CallOK P (bif isFull (chkOf ios (predsOf ops.toList []) e io) then call else callP):=by
       cases isFull (chkOf ios (predsOf ops.toList []) e io)
       ·exact hcall.call
       ·exact hcall1
      refine .inl (op_step hopp hc2 hbad hsim hv fun a' w' ρ' h'=>next _ _ ρ' ?_)
      rw [e5,hdst]; exact h'
     ·rw [want_spec e3 hsim hw,if_neg (by simp)]
      refine next _ _ ρ ?_
      rw [e5,hdst]
      exact skip_sim o.dst hsim

theorem Sim.draw (h:Sim w0 D0 ρ0 bad B ρ s a w):Sim w0 D0 ρ0 bad B ρ s a { w with drawn:=w.drawn+1 }:=by
 have st:Step w { w with drawn:=w.drawn+1 } (dead s.H) (dead s.H) ρ ρ:=⟨⟨rfl,rfl,rfl,Nat.le_refl _,fun _ _ _=>rfl⟩,RLe.refl _ _,fun _ h=>h,fun _ _=>.inl rfl⟩
 refine ⟨h.defers,h.size,fun t ht=>(h.env t ht).step st,⟨fun id b es cap hid=>?_,h.heap.virt,h.heap.inj,h.heap.res⟩,h.low,h.st.trans st⟩
 obtain ⟨k,hk,hb⟩:=h.heap.real id b es cap hid
 exact ⟨k,hk,hb.step st rfl⟩
end

theorem draw_lawD {P:Program} {call callP:CallF} (hcall1:CallOK P call) (hcall:PCallOK P callP):DrawD P call callP:=by
 intro ops ios id hc hd he hns hmo w w0 bad D0 ρ ρ0 a B s s' Q hbad h hr hq
 obtain ⟨f,h0,h1,G⟩:=glob_of hc hd hr
 have hsz:ios.length=ops.size:=by simpa using (optAll_spec hc).1
 refine wp_region_any hmo ?_
 obtain ⟨e,q1,q2,q3,q4⟩:=next_full ios (predsOf ops.toList []) ops.size _ 0 rfl (Nat.zero_le _)
 have hoff:∀ k,(Array.replicate ops.size false).getD k false=false:=by
  intro k
  rcases Nat.lt_or_ge k ops.size with h | h
  ·simp [h]
  ·simp [Array.getElem?_eq_none (xs:=Array.replicate ops.size false) (by simpa using h)]
 have S:=G.stretch hcall q1 q2 q3
 obtain ⟨s1,h2,M⟩:=start_mix S (h0 ▸ h.draw) (L:=fun m=>(Array.replicate ops.size false).getD m false=true) (fun m _ _ h3=>by rw [hoff m] at h3; cases h3)
 refine drawn_main G hcall1 hcall hbad he hsz (fun a w ρ hs=>hq _ _ ρ (h1 ▸ hs)) ops.size 0 e _ ρ s1 a _ (by simp) ?_ q1 q2 q3 q4 (fun k hk=>by omega) (fun k _=>hoff k) (fun m hm=>by rw [hoff m] at hm; cases hm) h2 M
 unfold open_
 exact Nat.le_trans List.countP_le_length (by simp)

end Go.Proofs.Ytdceaeifcniabaa.AE

namespace Go.Proofs.Ytdceaeifcniabaa.AE
set_option linter.unusedVariables false
set_option linter.unusedSimpArgs false
set_option linter.constructorNameAsVariable false
open Go Go.RowKit

def loadC (k:IntKind):AFn:=⟨3,[.tmp 1],.reg [⟨some 1,.load false 1 (.t 0),none⟩,⟨some 2,.bin .eql (.t 1) (.v (.int k 0)),none⟩]⟩
def storeC (k:IntKind):AFn:=⟨3,[],.reg [⟨some 2,.bin .eql (.t 1) (.v (.int k 0)),none⟩,⟨none,.store 1 (.t 0) (.t 1),none⟩]⟩
def addC (k:IntKind):AFn:=⟨5,[.tmp 3],.reg [⟨some 4,.bin .eql (.t 1) (.v (.int k 0)),none⟩,⟨some 2,.load false 1 (.t 0),none⟩,⟨some 3,.bin .add (.t 2) (.t 1),none⟩,⟨none,.store 1 (.t 0) (.t 3),none⟩]⟩
def casC (k:IntKind):AFn:=⟨6,[.tmp 4],.seq (.reg [⟨some 5,.bin .eql (.t 2) (.v (.int k 0)),none⟩,⟨some 5,.bin .eql (.t 1) (.v (.int k 0)),none⟩,⟨some 3,.load false 1 (.t 0),none⟩,⟨some 4,.bin .eql (.t 3) (.t 1),none⟩]) (.cond (.t 4) (.reg [⟨none,.store 1 (.t 0) (.t 2),none⟩]) (.reg [⟨none,.nilck (.v .nilp),none⟩]))⟩

section
variable {P:Program} {w:World} {bad:Nat→Prop} {ρ:Rho} {B:Nat}

theorem sub1 {j:Nat} {el x:AV} (h:sub false 1 j el=some x):el.cells[j]?=some x:=by
 unfold sub at h
 split at h
 ·simpa [AV.cells] using h
 ·rename_i hn
  simp only [Bool.false_eq_true,if_false] at h
  split at h
  ·cases h
   cases el <;> first | rfl | exact absurd rfl (hn _)
  ·cases h
theorem cell_get {H:Heap} {p:AV} {k:IntKind} {n:Int} {vp:Value} (h:aLoad H false 1 p=some (.int k n)) (hR:HRel w bad ρ B H) (hp:Rep w bad (dead H) ρ p vp):∃ a,vp=.pointer (some a)∧w.cell? a=some (.int k n):=by
 unfold aLoad at h
 split at h <;> (try (cases h; done))
 ·rename_i id u q
  split at h <;> (try (cases h; done))
  rename_i b hb
  split at h <;> (try (cases h; done))
  rename_i el he
  have hs:=sub1 h
  have hk:=agree_of hb
  cases hp with
  | frz h=>cases h
  | ptrD b o hd=>simp only [dead] at hd; rw [hk] at hd; cases hd
  | ptr hρ =>
    rename_i bb es cap
    obtain ⟨k2,hk2,hbr⟩:=hR.real _ _ _ _ hρ
    rw [hk] at hk2; cases hk2
    obtain ⟨cur,fz,m1,m2,m3,m4⟩:=hbr.mem
    obtain ⟨v,hv,hr⟩:=m4 u el q _ he hs
    refine ⟨_,rfl,?_⟩
    rw [rep_int hr] at hv
    simp only [World.cell?,m1]
    simpa using hv
 ·rename_i v j
  have hs:=sub1 h
  cases hp with
  | frz h =>
    cases h with
    | fptr _ b o _ vs hb hl hc hr =>
      have h1:=hc j _ hs
      have h2:=hr j _ hs
      refine ⟨_,rfl,?_⟩
      rw [h1]
      exact congrArg some (rep_int (ρ:=ρ) (D:=dead H) (.frz h2))
theorem cell_put {t:TypeId} {i:TypeInfo} (hi:P.info? t=some i) (h1:i.size=1) {H Hn:Heap} {p:AV} {k:IntKind} {n:Int} {vp:Value} (h:aStore H 1 (.int k n) p=some Hn) (hR:HRel w bad ρ B H) (hp:Rep w bad (dead H) ρ p vp) :
 ∃ a,vp=.pointer (some a)∧(∃ u,w.cell? a=some u)∧w.frozen? a=false∧Step w (w.setCell a (.int k n)) (dead H) (dead Hn) ρ ρ∧HRel (w.setCell a (.int k n)) bad ρ B Hn:=by
 unfold aStore at h
 split at h <;> (try (cases h; done))
 rename_i id u q
 split at h <;> (try (cases h; done))
 rename_i b hb
 split at h <;> (try (cases h; done))
 rename_i el he
 split at h <;> (try (cases h; done))
 rename_i el' hps
 cases h
 have hk:=agree_of hb
 cases hp with
 | frz h=>cases h
 | ptrD b o hd=>simp only [dead] at hd; rw [hk] at hd; cases hd
 | ptr hρ =>
   rename_i bb es cap
   obtain ⟨k2,hk2,hbr⟩:=hR.real _ _ _ _ hρ
   rw [hk] at hk2; cases hk2
   obtain ⟨cur,fz,m1,m2,m3,m4⟩:=hbr.mem
   have hok:=elOk_sc (hbr.ok u el he)
   have hult:u < b.els.length:=(List.getElem?_eq_some_iff.mp he).1
   have hq:q < el.cells.length:=by
    unfold putSub at hps
    split at hps
    ·rename_i cs
     split at hps <;> (try (cases hps; done))
     rename_i hcnd
     show q < cs.length
     omega
    ·rename_i hna
     split at hps <;> (try (cases hps; done))
     rename_i hcnd
     obtain ⟨rfl,_,_⟩:=hcnd
     have ee:el.cells=[el]:=by cases el <;> first | rfl | exact absurd rfl (hna _)
     rw [ee]; simp
   have hes:el.cells.length=es:=by rw [hok.2.1,hbr.hes]
   have hbound:u * es+es≤cap * es:=by
    have:=Nat.mul_le_mul_right es (Nat.lt_of_lt_of_le hult hbr.len)
    rwa [Nat.succ_mul] at this
   have hlt:u * es+q < cur.size:=by omega
   have hc:w.cell? ⟨bb,u * es+q,none⟩=some cur[u * es+q]:=by simp [World.cell?,m1,hlt]
   have hz:w.frozen? ⟨bb,u * es+q,none⟩=false:=by
    have:=m3.1 (u * es+q) hlt
    obtain ⟨f1,f2⟩:=fz
    simp only [World.frozen?,m1]
    simp only [Bool.and_eq_false_iff,decide_eq_false_iff_not]
    simp only at this
    omega
   refine ⟨_,rfl,⟨_,hc⟩,hz,?_⟩
   have hst0:aStore H i.size (.int k n) (.ptr id u q)=some (H.set id (some { b with els:=b.els.set u el' })):=by
    rw [h1]; simp [aStore,hb,he,hps]
   obtain ⟨id',k',w',g1,g2,⟨k2,g3,g4,g5,g6⟩,_,g7⟩:=store_run (P:=P) hi (by omega) hst0 hR (fun _ _ _ _ _ hb _=>hb) (dead_get H) (.ptr hρ) (.frz (.int k n))
   have hw:w'=w.setCell ⟨bb,u * es+q,none⟩ (.int k n):=by
    have e:(Instr.storeAt t (.pointer (some ⟨bb,u * es+q,none⟩)) (.int k n)).run P w=.ok () (w.setCell ⟨bb,u * es+q,none⟩ (.int k n)):=by
     simp [Instr.storeAt,Instr.sureAddr,storeVar,sizeOf,typeInfo,hi,h1,Value.cells,storeCells,Result.andThen]
     rw [Addr.add_lit,Nat.add_zero,run_store _ _ _ _ _ rfl,hc]
     simp [hz]
    rw [e] at g7
    cases g7; rfl
   rw [← hw,g3]
   exact g6 _ rfl
theorem eql_int {k:IntKind} {x r:AV} (h:aBin .eql x (.int k 0)=some r):∃ n,x=.int k n:=by
 cases x <;> simp [aBin] at h
 rename_i k' n
 obtain ⟨rfl,_⟩:=h
 exact ⟨n,rfl⟩
theorem eql_two {k:IntKind} {m n:Int} {r:AV} (h:aBin .eql (.int k m) (.int k n)=some r):r=.bool (m == n):=by
 simp [aBin] at h; exact h.symm
theorem one_of {α:Type} {l:List α} (h:l.length=1):∃ a,l=[a]:=List.length_eq_one_iff.mp h
theorem two_of {α:Type} {l:List α} (h:l.length=2):∃ a b,l=[a,b]:=by
 match l,h with
 | [a,b],_=>exact ⟨a,b,rfl⟩
theorem three_of {α:Type} {l:List α} (h:l.length=3):∃ a b c,l=[a,b,c]:=by
 match l,h with
 | [a,b,c],_=>exact ⟨a,b,c,rfl⟩

section
variable {g : FuncId} {fn : Func} {k : IntKind} (hf : P.funcs[g]? = some fn) (hname : (fn.name == "runtime.NumGoroutine") = false) (hb : fn.body.isNone = true) (hn : Extern.findNext fn = none)
include hf hname hb hn
theorem load_fnOK (he:Extern.find fn=some (Extern.Atomic.loadT (.int k))):FnOK P g 1 (loadC k):=by
 intro call callP fu args H H' v hlen _ _ hr w bad ρ B vs hR hB hbad hl hp
 obtain ⟨p,rfl⟩:=one_of hlen
 obtain ⟨vp,rfl⟩:=one_of (hl.symm.trans hlen)
 have hpp:=hp 0 p vp rfl rfl
 simp only [runFn,loadC,exec,runOps,want,aop] at hr
 simp only [evO,List.getD_cons_zero,List.singleton_append,List.cons_append,List.nil_append] at hr
 cases h1:aLoad H false 1 p with
 | none=>simp [h1] at hr
 | some x =>
   simp [h1,AE.put,List.replicate] at hr
   cases h2:aBin .eql x (.int k 0) with
   | none=>simp [h2] at hr
   | some r =>
     simp [h2,resAll,resOf,packRes] at hr
     obtain ⟨rfl,rfl⟩:=hr
     obtain ⟨n,rfl⟩:=eql_int h2
     obtain ⟨a,rfl,hc⟩:=cell_get h1 hR hpp
     exact .inl ⟨_,w,run_call_load hf hname hb hn k he hc,ρ,Step.refl _ _ _,hR,.frz (.int k n)⟩
theorem store_fnOK {t:TypeId} (hi0:∃ i,P.info? t=some i∧i.size=1) (he:Extern.find fn=some Extern.Atomic.storeT):FnOK P g 2 (storeC k):=by
 intro call callP fu args H H' v hlen _ _ hr w bad ρ B vs hR hB hbad hl hp
 obtain ⟨ti,hi,hi1⟩:=hi0
 obtain ⟨p,x,rfl⟩:=two_of hlen
 obtain ⟨vp,vx,rfl⟩:=two_of (hl.symm.trans hlen)
 have hpp:=hp 0 p vp rfl rfl
 have hpx:=hp 1 x vx rfl rfl
 simp only [runFn,storeC,exec,runOps,want,aop] at hr
 simp only [evO,List.getD_cons_zero,List.getD_cons_succ,List.cons_append,List.nil_append] at hr
 cases h2:aBin .eql x (.int k 0) with
 | none=>simp [h2] at hr
 | some r =>
   obtain ⟨n,rfl⟩:=eql_int h2
   simp [h2,AE.put,List.replicate] at hr
   cases h1:aStore H 1 (.int k n) p with
   | none=>simp [h1] at hr
   | some Hn =>
     simp [h1,resAll,packRes] at hr
     obtain ⟨rfl,rfl⟩:=hr
     obtain rfl:=rep_int hpx
     obtain ⟨a,rfl,⟨u,hc⟩,hz,hst,hR'⟩:=cell_put hi hi1 h1 hR hpp
     exact .inl ⟨_,_,run_call_store hf hname hb hn he hc hz,ρ,hst,hR',.frz (.tup [] [] rfl (by simp))⟩
theorem add_fnOK {t:TypeId} (hi0:∃ i,P.info? t=some i∧i.size=1) (he:Extern.find fn=some (Extern.Atomic.update (Op.intArith .add) k true)):FnOK P g 2 (addC k):=by
 intro call callP fu args H H' v hlen _ _ hr w bad ρ B vs hR hB hbad hl hp
 obtain ⟨ti,hi,hi1⟩:=hi0
 obtain ⟨p,x,rfl⟩:=two_of hlen
 obtain ⟨vp,vx,rfl⟩:=two_of (hl.symm.trans hlen)
 have hpp:=hp 0 p vp rfl rfl
 have hpx:=hp 1 x vx rfl rfl
 simp only [runFn,addC,exec,runOps,want,aop] at hr
 simp only [evO,List.getD_cons_zero,List.getD_cons_succ,List.cons_append,List.nil_append] at hr
 cases h2:aBin .eql x (.int k 0) with
 | none=>simp [h2] at hr
 | some r =>
   obtain ⟨n,rfl⟩:=eql_int h2
   simp [h2,AE.put,List.replicate] at hr
   cases h1:aLoad H false 1 p with
   | none=>simp [h1] at hr
   | some y =>
     simp [h1] at hr
     cases h3:aBin .add y (.int k n) with
     | none=>simp [h3] at hr
     | some z =>
       have:∃ m,y=.int k m∧z=.int k (k.wrap (m+n)):=by
        cases y <;> simp [aBin] at h3
        rename_i k' m
        obtain ⟨rfl,rfl⟩:=h3
        exact ⟨m,rfl,rfl⟩
       obtain ⟨m,rfl,rfl⟩:=this
       simp [h3] at hr
       cases h4:aStore H 1 (.int k (k.wrap (m+n))) p with
       | none=>simp [h4] at hr
       | some Hn =>
         simp [h4,resAll,resOf,packRes] at hr
         obtain ⟨rfl,rfl⟩:=hr
         obtain rfl:=rep_int hpx
         obtain ⟨a,rfl,hc⟩:=cell_get h1 hR hpp
         obtain ⟨a',ha,_,hz,hst,hR'⟩:=cell_put hi hi1 h4 hR hpp
         cases ha
         exact .inl ⟨_,_,run_call_add hf hname hb hn k he hc hz (by simp [Op.intArith]),ρ,hst,hR',.frz (.int k _)⟩
theorem cas_fnOK {t:TypeId} (hi0:∃ i,P.info? t=some i∧i.size=1) (he:Extern.find fn=some (Extern.Atomic.casT (.int k))):FnOK P g 3 (casC k):=by
 intro call callP fu args H H' v hlen _ _ hr w bad ρ B vs hR hB hbad hl hp
 obtain ⟨ti,hi,hi1⟩:=hi0
 obtain ⟨p,x,y,rfl⟩:=three_of hlen
 obtain ⟨vp,vx,vy,rfl⟩:=three_of (hl.symm.trans hlen)
 have hpp:=hp 0 p vp rfl rfl
 have hpx:=hp 1 x vx rfl rfl
 have hpy:=hp 2 y vy rfl rfl
 simp only [runFn,casC,exec,runOps,want,aop] at hr
 simp only [evO,List.getD_cons_zero,List.getD_cons_succ,List.cons_append,List.nil_append] at hr
 cases h2:aBin .eql y (.int k 0) with
 | none=>simp [h2] at hr
 | some r =>
   obtain ⟨n,rfl⟩:=eql_int h2
   simp [h2,AE.put,List.replicate] at hr
   cases h3:aBin .eql x (.int k 0) with
   | none=>simp [h3] at hr
   | some r2 =>
     obtain ⟨o,rfl⟩:=eql_int h3
     simp [h3] at hr
     cases h1:aLoad H false 1 p with
     | none=>simp [h1] at hr
     | some z =>
       simp [h1] at hr
       cases h4:aBin .eql z (.int k o) with
       | none=>simp [h4] at hr
       | some r3 =>
         have:∃ m,z=.int k m∧r3=.bool (m == o):=by
          cases z <;> simp [aBin] at h4
          rename_i k' m
          obtain ⟨rfl,rfl⟩:=h4
          exact ⟨m,rfl,rfl⟩
         obtain ⟨m,rfl,rfl⟩:=this
         obtain rfl:=rep_int hpx
         obtain rfl:=rep_int hpy
         obtain ⟨a,rfl,hc⟩:=cell_get h1 hR hpp
         simp [h4] at hr
         by_cases hmo:m=o
         ·subst hmo
          simp [exec,runOps,want,aop,evO] at hr
          cases h5:aStore H 1 (.int k n) p with
          | none=>simp [h5] at hr
          | some Hn =>
            simp [h5,resAll,resOf,packRes,AE.put] at hr
            obtain ⟨rfl,rfl⟩:=hr
            obtain ⟨a',ha,_,hz,hst,hR'⟩:=cell_put hi hi1 h5 hR hpp
            cases ha
            exact .inl ⟨_,_,run_call_cas_hit hf hname hb hn k he hc hz,ρ,hst,hR',.frz (.bool _)⟩
         ·have hm:(m == o)=false:=beq_eq_false_iff_ne.mpr hmo
          simp [hm,exec,runOps,want,aop,evO] at hr
end
end
end Go.Proofs.Ytdceaeifcniabaa.AE

namespace Go.Proofs.Ytdceaeifcniabaa.AE
set_option linter.unusedVariables false
set_option linter.unusedSimpArgs false
set_option linter.constructorNameAsVariable false
open Go
def E3:ETy:=⟨3,1,false,8,(iz 0)⟩
def E24:ETy:=⟨24,9,true,88,(.agg [(.zsl true),(iz 0),(iz 0),(iz 0),(iz 0),(iz 0),(iz 0),(iz 0),(iz 0)])⟩
def E33:ETy:=⟨33,11,true,104,(.agg [(.zsl true),(iz 0),(iz 0),(iz 0),(iz 0),(iz 0),(iz 0),(iz 0),(iz 0),(iz 0),(iz 0)])⟩
def E35:ETy:=⟨35,7,true,40,(.agg [(iz 0),(iz 0),(iz 0),bf,bf,bf,(iz 0)])⟩
def E43:ETy:=⟨43,5,true,56,(.agg [(.zsl true),(iz 0),(iz 0),(iz 0),(iz 0)])⟩
def E54:ETy:=⟨54,11,true,104,(.agg [(.zsl true),(iz 0),(iz 0),(iz 0),(iz 0),(iz 0),(iz 0),(iz 0),(iz 0),(iz 0),.nilp])⟩
def E62:ETy:=⟨62,2,true,16,(.agg [(iz 0),(iz 0)])⟩
def E71:ETy:=⟨71,2,true,16,(.agg [(iz 0),(iz 0)])⟩
def E98:ETy:=⟨98,2,true,16,(.agg [(iz 0),(.int .u64 0)])⟩
def E110:ETy:=⟨110,2,true,16,(.agg [(iz 0),(.int .u64 0)])⟩
def c3:AFn:=⟨179,[(.tmp 4)],(.seq (.reg [O 2 (.box E24 (.t 0)),O 4 (.mov (.v bf))]) (.seq (.seq (.reg [O 10 (.call .b (.v (.fn 7 [] [])) []),O 11 (.un .not (.t 10)),O 12 (.mov (.t 11)),⟨(some 13),(.load true 9 (.t 2)),(some ((some 12),false))⟩,⟨(some 14),(.call .b (.v (.fn 8 [] [])) [(.t 13)]),(some ((some 12),false))⟩,⟨(some 15),(.un .not (.t 14)),(some ((some 12),false))⟩,O 16 (.pick (.t 12) (.v bt) (.t 15)),O 17 (.mov (.t 16)),⟨(some 18),(.mov (.t 1)),(some ((some 17),false))⟩,⟨(some 19),(.bk .lenV [(.t 18)]),(some ((some 17),false))⟩,⟨(some 20),(.bin .gtr (.t 19) (vz 200)),(some ((some 17),false))⟩,O 21 (.pick (.t 17) (.v bt) (.t 20))]) (.cond (.t 21) (.seq (.reg [O 22 (.call .b (.v (.fn 7 [] [])) []),O 4 (.mov (.t 22))]) .ret) .skip)) (.seq (.reg [O 23 (.load true 9 (.t 2)),O 24 (.call .any (.v (.fn 9 [] [])) [(.t 23)]),O 5 (.mov (.t 24))]) (.seq (.seq (.reg [O 25 (.load true 9 (.t 2)),O 26 (.call i6 (.v (.fn 10 [] [])) [(.t 25)]),O 27 (.bin .neq (.t 26) (vz 0))]) (.cond (.t 27) (.seq (.reg [O 28 (.mov (.t 5)),O 29 (.eqv false 1 [] (.t 28) (.v .nilp)),O 4 (.mov (.t 29))]) .ret) .skip)) (.seq (.seq (.reg [O 30 (.mov (.t 5)),O 31 (.eqv false 1 [] (.t 30) (.v .nilp))]) (.cond (.t 31) (.seq (.reg [O 4 (.mov (.v bf))]) .ret) .skip)) (.seq (.reg [O 32 (.load true 9 (.t 2)),O 33 (.build [(.zsl true),(iz 0),(iz 0),(iz 0),(iz 0),(iz 0),(iz 0),(iz 0),(iz 0),(iz 0),(iz 0)] [(0,(9,(.t 32)))]),O 34 (.box E33 (.t 33)),O 6 (.mov (.t 34))]) (.seq (.seq (.reg [O 35 (.mov (.t 1)),O 36 (.bk .lenV [(.t 35)]),O 37 (.mov (vz 0))]) (.block 0 (.loop (.seq (.reg [O 38 (.bin .lss (.t 37) (.t 36))]) (.seq (.cond (.t 38) .skip (.exit 0)) (.seq (.block 1 (.seq (.reg [O 39 (.ixAS (.agg [i6,i6,i6,.b,.b,.b,i6]) 7 (.t 35) (.t 37)),O 40 (.load true 7 (.t 39)),O 8 (.alloc E35),⟨none,(.store 7 (.t 8) (.t 40)),none⟩]) (.seq (.seq (.regS [⟨(O 41 (.mov (.t 5))),none,[],[]⟩,⟨(O 42 (.fldA 6 (.t 8))),none,[],[]⟩,⟨(O 43 (.load false 1 (.t 42))),none,[],[]⟩,⟨(O 44 (.fldA 5 (.t 8))),none,[],[]⟩,⟨(O 45 (.load false 1 (.t 44))),none,[],[]⟩,⟨(O 46 (.call .b (.v (.fn 11 [] [])) [(.t 41),(.t 43),(.t 45)])),none,[],[]⟩,⟨(O 47 (.mov (.t 6))),none,[],[]⟩,⟨(O 48 (.fldA 6 (.t 8))),none,[],[]⟩,⟨(O 49 (.load false 1 (.t 48))),none,[5],[]⟩,⟨(O 50 (.fldA 5 (.t 8))),none,[],[]⟩,⟨(O 51 (.load false 1 (.t 50))),none,[5],[]⟩,⟨(O 52 (.call .b (.v (.fn 12 [] [])) [(.t 47),(.t 49),(.t 51)])),none,[],[]⟩,⟨(O 53 (.eqv true 0 [] (.t 46) (.t 52))),none,[],[]⟩]) (.cond (.t 53) (.seq (.reg [O 4 (.mov (.v bf))]) .ret) .skip)) (.seq (.seq (.reg [O 54 (.fldA 0 (.t 8)),O 55 (.load false 1 (.t 54))]) (.block 2 (.seq (.reg [O 97 (.bin .eql (.t 55) (vz 1)),O 96 (.mov (.t 97))]) (.cond (.t 96) (.seq (.regS [⟨(O 98 (.mov (.t 5))),none,[],[]⟩,⟨(O 99 (.fldA 3 (.t 8))),none,[],[]⟩,⟨(O 100 (.load false 1 (.t 99))),none,[],[]⟩,⟨(O 101 (.fldA 4 (.t 8))),none,[],[]⟩,⟨(O 102 (.load false 1 (.t 101))),none,[],[]⟩,⟨(O 103 (.call .b (.v (.fn 13 [] [])) [(.t 98),(.t 100),(.t 102)])),none,[],[]⟩,⟨(O 104 (.mov (.t 6))),none,[],[]⟩,⟨(O 105 (.fldA 3 (.t 8))),none,[],[]⟩,⟨(O 106 (.load false 1 (.t 105))),none,[5],[]⟩,⟨(O 107 (.fldA 4 (.t 8))),none,[],[]⟩,⟨(O 108 (.load false 1 (.t 107))),none,[5],[]⟩,⟨(O 109 (.call .b (.v (.fn 14 [] [])) [(.t 104),(.t 106),(.t 108)])),none,[],[]⟩,⟨(O 110 (.eqv true 0 [] (.t 103) (.t 109))),none,[],[]⟩]) (.cond (.t 110) (.seq (.reg [O 4 (.mov (.v bf))]) .ret) .skip)) (.seq (.reg [O 112 (.bin .eql (.t 55) (vz 2)),O 111 (.mov (.t 112))]) (.cond (.t 111) (.seq (.regS [⟨(O 113 (.mov (.t 5))),none,[],[]⟩,⟨(O 114 (.mov (.t 5))),none,[],[]⟩,⟨(O 115 (.fldA 6 (.t 8))),none,[],[]⟩,⟨(O 116 (.load false 1 (.t 115))),none,[],[]⟩,⟨(O 117 (.fldA 5 (.t 8))),none,[],[]⟩,⟨(O 118 (.load false 1 (.t 117))),none,[],[]⟩,⟨(O 119 (.call .b (.v (.fn 11 [] [])) [(.t 114),(.t 116),(.t 118)])),none,[],[]⟩,⟨(O 120 (.fldA 4 (.t 8))),none,[],[]⟩,⟨(O 121 (.load false 1 (.t 120))),none,[6],[]⟩,⟨(O 122 (.call .b (.v (.fn 13 [] [])) [(.t 113),(.t 119),(.t 121)])),none,[],[]⟩,⟨(O 123 (.mov (.t 6))),none,[],[]⟩,⟨(O 124 (.mov (.t 6))),none,[],[]⟩,⟨(O 125 (.fldA 6 (.t 8))),none,[],[]⟩,⟨(O 126 (.load false 1 (.t 125))),none,[6,9],[]⟩,⟨(O 127 (.fldA 5 (.t 8))),none,[],[]⟩,⟨(O 128 (.load false 1 (.t 127))),none,[6,9],[]⟩,⟨(O 129 (.call .b (.v (.fn 12 [] [])) [(.t 124),(.t 126),(.t 128)])),none,[],[]⟩,⟨(O 130 (.fldA 4 (.t 8))),none,[],[]⟩,⟨(O 131 (.load false 1 (.t 130))),none,[6,9,16],[]⟩,⟨(O 132 (.call .b (.v (.fn 14 [] [])) [(.t 123),(.t 129),(.t 131)])),none,[],[]⟩,⟨(O 133 (.eqv true 0 [] (.t 122) (.t 132))),none,[],[]⟩]) (.cond (.t 133) (.seq (.reg [O 4 (.mov (.v bf))]) .ret) .skip)) (.seq (.reg [O 56 (.fldA 1 (.t 8)),O 57 (.load false 1 (.t 56)),O 58 (.bin .geq (.t 57) (vz 0)),O 59 (.mov (.t 58)),⟨(some 60),(.fldA 1 (.t 8)),(some ((some 59),true))⟩,⟨(some 61),(.load false 1 (.t 60)),(some ((some 59),true))⟩,⟨(some 62),(.fldA 0 (.t 2)),(some ((some 59),true))⟩,⟨(some 63),(.load false 1 (.t 62)),(some ((some 59),true))⟩,⟨(some 64),(.bk .lenV [(.t 63)]),(some ((some 59),true))⟩,⟨(some 65),(.bin .lss (.t 61) (.t 64)),(some ((some 59),true))⟩,O 66 (.pick (.t 59) (.t 65) (.v bf)),O 67 (.mov (.t 66)),⟨(some 68),(.fldA 2 (.t 8)),(some ((some 67),true))⟩,⟨(some 69),(.load false 1 (.t 68)),(some ((some 67),true))⟩,⟨(some 70),(.bin .geq (.t 69) (vz 0)),(some ((some 67),true))⟩,O 71 (.pick (.t 67) (.t 70) (.v bf)),O 72 (.mov (.t 71)),⟨(some 73),(.fldA 2 (.t 8)),(some ((some 72),true))⟩,⟨(some 74),(.load false 1 (.t 73)),(some ((some 72),true))⟩,⟨(some 75),(.bin .leq (.t 74) (vz 1000000)),(some ((some 72),true))⟩,O 76 (.pick (.t 72) (.t 75) (.v bf)),O 9 (.mov (.t 76))]) (.seq (.seq (.reg [O 77 (.mov (.t 5)),O 78 (.fldA 1 (.t 8)),O 79 (.load false 1 (.t 78)),O 80 (.fldA 2 (.t 8)),O 81 (.load false 1 (.t 80)),O 82 (.call .b (.v (.fn 15 [] [])) [(.t 77),(.t 79),(.t 81)]),O 83 (.mov (.t 9)),O 84 (.eqv true 0 [] (.t 82) (.t 83))]) (.cond (.t 84) (.seq (.reg [O 4 (.mov (.v bf))]) .ret) .skip)) (.seq (.reg [O 85 (.mov (.t 9))]) (.cond (.t 85) (.regS [⟨(O 86 (.mov (.t 6))),none,[],[]⟩,⟨(O 87 (.mov (.t 6))),none,[],[]⟩,⟨(O 88 (.fldA 1 (.t 8))),none,[],[]⟩,⟨(O 89 (.load false 1 (.t 88))),none,[],[]⟩,⟨(O 90 (.fldA 2 (.t 8))),none,[],[]⟩,⟨(O 91 (.load false 1 (.t 90))),none,[],[]⟩,⟨(O 92 (.nilck (.t 86))),none,[],[]⟩,⟨(O 93 (.fldA 9 (.t 92))),none,[],[]⟩,⟨⟨none,(.store 1 (.t 93) (.t 89)),none⟩,none,[5],[]⟩,⟨(O 94 (.nilck (.t 87))),none,[],[]⟩,⟨(O 95 (.fldA 10 (.t 94))),none,[],[]⟩,⟨⟨none,(.store 1 (.t 95) (.t 91)),none⟩,none,[],[]⟩]) .skip)))))))))) (.seq (.regS [⟨(O 134 (.mov (.t 5))),none,[],[]⟩,⟨(O 135 (.call i6 (.v (.fn 16 [] [])) [(.t 134)])),none,[],[]⟩,⟨(O 136 (.mov (.t 6))),none,[],[]⟩,⟨(O 137 (.nilck (.t 136))),none,[],[]⟩,⟨(O 138 (.fldA 9 (.t 137))),none,[],[]⟩,⟨(O 139 (.load false 1 (.t 138))),none,[1],[]⟩,⟨(O 140 (.bin .neq (.t 135) (.t 139))),none,[],[]⟩,⟨(O 141 (.mov (.t 140))),none,[],[]⟩,⟨⟨(some 142),(.mov (.t 5)),(some ((some 141),false))⟩,none,[],[]⟩,⟨⟨(some 143),(.call i6 (.v (.fn 17 [] [])) [(.t 142)]),(some ((some 141),false))⟩,none,[],[]⟩,⟨⟨(some 144),(.mov (.t 6)),(some ((some 141),false))⟩,none,[],[]⟩,⟨⟨(some 145),(.nilck (.t 144)),(some ((some 141),false))⟩,none,[],[]⟩,⟨⟨(some 146),(.fldA 10 (.t 145)),(some ((some 141),false))⟩,none,[],[]⟩,⟨⟨(some 147),(.load false 1 (.t 146)),(some ((some 141),false))⟩,none,[9],[]⟩,⟨⟨(some 148),(.bin .neq (.t 143) (.t 147)),(some ((some 141),false))⟩,none,[],[]⟩,⟨(O 149 (.pick (.t 141) (.v bt) (.t 148))),none,[],[]⟩,⟨(O 150 (.mov (.t 149))),none,[],[]⟩,⟨⟨(some 151),(.mov (.t 5)),(some ((some 150),false))⟩,none,[],[]⟩,⟨⟨(some 152),(.call .b (.v (.fn 18 [] [])) [(.t 151)]),(some ((some 150),false))⟩,none,[],[]⟩,⟨⟨(some 153),(.mov (.t 6)),(some ((some 150),false))⟩,none,[],[]⟩,⟨⟨(some 154),(.nilck (.t 153)),(some ((some 150),false))⟩,none,[],[]⟩,⟨⟨(some 155),(.fldA 9 (.t 154)),(some ((some 150),false))⟩,none,[],[]⟩,⟨⟨(some 156),(.load false 1 (.t 155)),(some ((some 150),false))⟩,none,[18],[]⟩,⟨⟨(some 157),(.bin .add (.t 156) (vz 1)),(some ((some 150),false))⟩,none,[],[]⟩,⟨⟨(some 158),(.fldA 0 (.t 2)),(some ((some 150),false))⟩,none,[],[]⟩,⟨⟨(some 159),(.load false 1 (.t 158)),(some ((some 150),false))⟩,none,[18],[]⟩,⟨⟨(some 160),(.bk .lenV [(.t 159)]),(some ((some 150),false))⟩,none,[18],[]⟩,⟨⟨(some 161),(.bin .eql (.t 157) (.t 160)),(some ((some 150),false))⟩,none,[],[]⟩,⟨⟨(some 162),(.eqv true 0 [] (.t 152) (.t 161)),(some ((some 150),false))⟩,none,[],[]⟩,⟨(O 163 (.pick (.t 150) (.v bt) (.t 162))),none,[],[]⟩,⟨(O 164 (.mov (.t 163))),none,[],[]⟩,⟨⟨(some 165),(.mov (.t 5)),(some ((some 164),false))⟩,none,[],[]⟩,⟨⟨(some 166),(.call (.agg [.l,i6,i6,i6,i6]) (.v (.fn 20 [] [])) [(.t 165)]),(some ((some 164),false))⟩,none,[],[]⟩,⟨⟨(some 167),(.fldA 0 (.t 2)),(some ((some 164),false))⟩,none,[],[]⟩,⟨⟨(some 168),(.load false 1 (.t 167)),(some ((some 164),false))⟩,none,[32],[]⟩,⟨⟨(some 169),(.mov (.t 6)),(some ((some 164),false))⟩,none,[],[]⟩,⟨⟨(some 170),(.nilck (.t 169)),(some ((some 164),false))⟩,none,[],[]⟩,⟨⟨(some 171),(.fldA 9 (.t 170)),(some ((some 164),false))⟩,none,[],[]⟩,⟨⟨(some 172),(.load false 1 (.t 171)),(some ((some 164),false))⟩,none,[32],[]⟩,⟨⟨(some 173),(.ixAS (.agg [.l,i6,i6,i6,i6]) 5 (.t 168) (.t 172)),(some ((some 164),false))⟩,none,[32],[]⟩,⟨⟨(some 174),(.load true 5 (.t 173)),(some ((some 164),false))⟩,none,[32],[]⟩,⟨⟨(some 175),(.call .b (.v (.fn 19 [] [])) [(.t 166),(.t 174)]),(some ((some 164),false))⟩,none,[],[]⟩,⟨⟨(some 176),(.un .not (.t 175)),(some ((some 164),false))⟩,none,[],[]⟩,⟨(O 177 (.pick (.t 164) (.v bt) (.t 176))),none,[],[]⟩]) (.cond (.t 177) (.seq (.reg [O 4 (.mov (.v bf))]) .ret) .skip)))))) (.reg [O 178 (.bin .add (.t 37) (vz 1)),O 37 (.mov (.t 178))]))))))) (.seq (.reg [O 4 (.mov (.v bt))]) .ret))))))))⟩
def c7:AFn:=⟨89,[(.tmp 0)],(.seq (.reg [O 0 (.mov (.v bf))]) (.seq (.reg [O 8 (.call (.agg [.l,i6,i6,i6,i6,i6,i6,i6,i6]) (.v (.fn 21 [] [])) [(vz 2)]),O 9 (.call .any (.v (.fn 9 [] [])) [(.t 8)]),O 1 (.mov (.t 9))]) (.seq (.seq (.reg [O 10 (.mov (.t 1)),O 11 (.eqv false 1 [] (.t 10) (.v .nilp)),O 12 (.mov (.t 11)),⟨(some 13),(.build [(.zsl true),(iz 0),(iz 0),(iz 0),(iz 0),(iz 0),(iz 0),(iz 0),(iz 0)] []),(some ((some 12),false))⟩,⟨(some 14),(.call .any (.v (.fn 9 [] [])) [(.t 13)]),(some ((some 12),false))⟩,⟨(some 15),(.eqv true 1 [] (.t 14) (.v .nilp)),(some ((some 12),false))⟩,O 16 (.pick (.t 12) (.v bt) (.t 15))]) (.cond (.t 16) (.seq (.reg [O 0 (.mov (.v bf))]) .ret) .skip)) (.seq (.seq (.reg [O 17 (.mov (vz 0))]) (.block 0 (.loop (.seq (.reg [O 18 (.bin .lss (.t 17) (vz 5))]) (.seq (.cond (.t 18) .skip (.exit 0)) (.seq (.block 1 (.seq (.reg [O 19 (.mov (.t 1)),O 20 (.call .b (.v (.fn 11 [] [])) [(.t 19),(vz 500),(.v bt)]),O 21 (.mov (.t 20)),⟨(some 22),(.mov (.t 1)),(some ((some 21),false))⟩,⟨(some 23),(.mov (.t 1)),(some ((some 21),false))⟩,⟨(some 24),(.call .b (.v (.fn 11 [] [])) [(.t 23),(vz 500),(.v bt)]),(some ((some 21),false))⟩,⟨(some 25),(.call .b (.v (.fn 13 [] [])) [(.t 22),(.t 24),(.v bt)]),(some ((some 21),false))⟩,O 26 (.pick (.t 21) (.v bt) (.t 25))]) (.cond (.t 26) (.seq (.reg [O 0 (.mov (.v bf))]) .ret) .skip))) (.reg [O 27 (.bin .add (.t 17) (vz 1)),O 17 (.mov (.t 27))]))))))) (.seq (.reg [O 28 (.mov (.t 1)),O 29 (.call .b (.v (.fn 11 [] [])) [(.t 28),(vz 99),(.v bt)]),O 30 (.mov (.t 1)),O 31 (.call .b (.v (.fn 11 [] [])) [(.t 30),(vz 500),(.v bf)]),O 32 (.mov (.t 1)),O 33 (.call .b (.v (.fn 11 [] [])) [(.t 32),(vz 100),(.v bt)]),O 2 (.mov (.t 29)),O 3 (.mov (.t 31)),O 4 (.mov (.t 33))]) (.seq (.reg [O 34 (.mov (.t 1)),O 35 (.call .b (.v (.fn 13 [] [])) [(.t 34),(.v bt),(.v bf)]),O 5 (.mov (.t 35))]) (.seq (.reg [O 36 (.mov (.t 1)),O 37 (.call .b (.v (.fn 13 [] [])) [(.t 36),(.v bt),(.v bt)]),O 6 (.mov (.t 37))]) (.seq (.reg [O 38 (.mov (.t 1)),O 39 (.call .b (.v (.fn 15 [] [])) [(.t 38),(vz 2),(vz 0)]),O 7 (.mov (.t 39))]) (.seq (.reg [O 40 (.mov (.t 2)),O 41 (.un .not (.t 40)),O 42 (.mov (.t 41)),⟨(some 43),(.mov (.t 3)),(some ((some 42),true))⟩,⟨(some 44),(.un .not (.t 43)),(some ((some 42),true))⟩,O 45 (.pick (.t 42) (.t 44) (.v bf)),O 46 (.mov (.t 45)),⟨(some 47),(.mov (.t 4)),(some ((some 46),true))⟩,O 48 (.pick (.t 46) (.t 47) (.v bf)),O 49 (.mov (.t 48)),⟨(some 50),(.mov (.t 5)),(some ((some 49),true))⟩,⟨(some 51),(.un .not (.t 50)),(some ((some 49),true))⟩,O 52 (.pick (.t 49) (.t 51) (.v bf)),O 53 (.mov (.t 52)),⟨(some 54),(.mov (.t 6)),(some ((some 53),true))⟩,O 55 (.pick (.t 53) (.t 54) (.v bf)),O 56 (.mov (.t 55)),⟨(some 57),(.mov (.t 1)),(some ((some 56),true))⟩,⟨(some 58),(.call i6 (.v (.fn 16 [] [])) [(.t 57)]),(some ((some 56),true))⟩,⟨(some 59),(.bin .eql (.t 58) (vz 1)),(some ((some 56),true))⟩,O 60 (.pick (.t 56) (.t 59) (.v bf)),O 61 (.mov (.t 60)),⟨(some 62),(.mov (.t 1)),(some ((some 61),true))⟩,⟨(some 63),(.call i6 (.v (.fn 17 [] [])) [(.t 62)]),(some ((some 61),true))⟩,⟨(some 64),(.bin .eql (.t 63) (vz 0)),(some ((some 61),true))⟩,O 65 (.pick (.t 61) (.t 64) (.v bf)),O 66 (.mov (.t 65)),⟨(some 67),(.mov (.t 1)),(some ((some 66),true))⟩,⟨(some 68),(.call .b (.v (.fn 18 [] [])) [(.t 67)]),(some ((some 66),true))⟩,O 69 (.pick (.t 66) (.t 68) (.v bf)),O 70 (.mov (.t 69)),⟨(some 71),(.mov (.t 7)),(some ((some 70),true))⟩,⟨(some 72),(.un .not (.t 71)),(some ((some 70),true))⟩,O 73 (.pick (.t 70) (.t 72) (.v bf)),O 74 (.mov (.t 73)),⟨(some 75),(.mov (.t 1)),(some ((some 74),true))⟩,⟨(some 76),(.call .b (.v (.fn 15 [] [])) [(.t 75),(vz 0),(vz 7)]),(some ((some 74),true))⟩,O 77 (.pick (.t 74) (.t 76) (.v bf)),O 78 (.mov (.t 77)),⟨(some 79),(.mov (.t 1)),(some ((some 78),true))⟩,⟨(some 80),(.call i6 (.v (.fn 17 [] [])) [(.t 79)]),(some ((some 78),true))⟩,⟨(some 81),(.bin .eql (.t 80) (vz 7)),(some ((some 78),true))⟩,O 82 (.pick (.t 78) (.t 81) (.v bf)),O 83 (.mov (.t 82)),⟨(some 84),(.mov (.t 1)),(some ((some 83),true))⟩,⟨(some 85),(.call (.agg [.l,i6,i6,i6,i6]) (.v (.fn 20 [] [])) [(.t 84)]),(some ((some 83),true))⟩,⟨(some 86),(.fld false 1 3 (.t 85)),(some ((some 83),true))⟩,⟨(some 87),(.bin .eql (.t 86) (vz 5)),(some ((some 83),true))⟩,O 88 (.pick (.t 83) (.t 87) (.v bf)),O 0 (.mov (.t 88))]) .ret)))))))))⟩
def c8:AFn:=⟨23,[(.tmp 2)],(.seq (.reg [O 1 (.box E24 (.t 0)),O 2 (.mov (.v bf))]) (.seq (.seq (.reg [O 3 (.mov (vz 0))]) (.block 0 (.loop (.seq (.seq (.reg [O 4 (.mov (.t 3)),O 5 (.fldA 0 (.t 1)),O 6 (.load false 1 (.t 5)),O 7 (.bk .lenV [(.t 6)]),O 8 (.bin .lss (.t 4) (.t 7))]) (.cond (.t 8) .skip (.exit 0))) (.seq (.block 1 (.seq (.reg [O 11 (.fldA 0 (.t 1)),O 12 (.load false 1 (.t 11)),O 13 (.mov (.t 3)),O 14 (.ixAS (.agg [.l,i6,i6,i6,i6]) 5 (.t 12) (.t 13)),O 15 (.fldA 0 (.t 14)),O 16 (.load false 1 (.t 15)),O 17 (.bk .lenV [(.t 16)]),O 18 (.bin .gtr (.t 17) (vz 12))]) (.cond (.t 18) (.seq (.reg [O 2 (.mov (.v bf))]) .ret) .skip))) (.reg [O 9 (.mov (.t 3)),O 10 (.bin .add (.t 9) (vz 1)),O 3 (.mov (.t 10))])))))) (.seq (.reg [O 19 (.fldA 0 (.t 1)),O 20 (.load false 1 (.t 19)),O 21 (.bk .lenV [(.t 20)]),O 22 (.bin .leq (.t 21) (vz 8)),O 2 (.mov (.t 22))]) .ret)))⟩
def c9:AFn:=⟨11,[(.tmp 2)],(.seq (.reg [O 1 (.box E24 (.t 0)),O 2 (.mov (.v .nilp))]) (.seq (.seq (.reg [O 3 (.load true 9 (.t 1)),O 4 (.call .b (.v (.fn 22 [] [])) [(.t 3)]),O 5 (.un .not (.t 4))]) (.cond (.t 5) (.seq (.reg [O 2 (.mov (.v .nilp))]) .ret) .skip)) (.seq (.reg [O 6 (.load true 9 (.t 1)),O 7 (.call (.agg [.l,i6,i6,i6,i6,i6,i6,i6,i6]) (.v (.fn 23 [] [])) [(.t 6)]),O 8 (.call .any (.v (.fn 24 [] [])) [(vz 1000000)]),O 9 (.build [(.zsl true),(iz 0),(iz 0),(iz 0),(iz 0),(iz 0),(iz 0),(iz 0),(iz 0),(iz 0),.nilp] [(0,(9,(.t 7))),(10,(1,(.t 8)))]),O 10 (.box E54 (.t 9)),O 2 (.mov (.t 10))]) .ret)))⟩
def c10:AFn:=⟨73,[(.tmp 2)],(.seq (.reg [O 1 (.box E24 (.t 0)),O 2 (.mov (vz 0))]) (.seq (.seq (.reg [O 4 (.fldA 0 (.t 1)),O 5 (.load false 1 (.t 4)),O 6 (.bk .lenV [(.t 5)]),O 7 (.bin .lss (.t 6) (vz 1)),O 8 (.mov (.t 7)),⟨(some 9),(.fldA 0 (.t 1)),(some ((some 8),false))⟩,⟨(some 10),(.load false 1 (.t 9)),(some ((some 8),false))⟩,⟨(some 11),(.bk .lenV [(.t 10)]),(some ((some 8),false))⟩,⟨(some 12),(.bin .gtr (.t 11) (vz 4)),(some ((some 8),false))⟩,O 13 (.pick (.t 8) (.v bt) (.t 12))]) (.cond (.t 13) (.seq (.reg [O 2 (.mov (vz 1))]) .ret) .skip)) (.seq (.seq (.reg [O 3 (.mov (vz 0))]) (.block 0 (.loop (.seq (.seq (.reg [O 14 (.mov (.t 3)),O 15 (.fldA 0 (.t 1)),O 16 (.load false 1 (.t 15)),O 17 (.bk .lenV [(.t 16)]),O 18 (.bin .lss (.t 14) (.t 17))]) (.cond (.t 18) .skip (.exit 0))) (.seq (.block 1 (.seq (.reg [O 21 (.fldA 0 (.t 1)),O 22 (.load false 1 (.t 21)),O 23 (.mov (.t 3)),O 24 (.ixAS (.agg [.l,i6,i6,i6,i6]) 5 (.t 22) (.t 23)),O 25 (.load true 5 (.t 24)),O 26 (.call .b (.v (.fn 25 [] [])) [(.t 25)]),O 27 (.un .not (.t 26))]) (.cond (.t 27) (.seq (.reg [O 2 (.mov (vz 2))]) .ret) .skip))) (.reg [O 19 (.mov (.t 3)),O 20 (.bin .add (.t 19) (vz 1)),O 3 (.mov (.t 20))])))))) (.seq (.block 2 (.seq (.reg [O 29 (.fldA 1 (.t 1)),O 30 (.load false 1 (.t 29)),O 31 (.call .b (.v (.fn 26 [] [])) [(.t 30),(vz 1),(vz 50)]),O 32 (.un .not (.t 31)),O 33 (.mov (.t 32)),⟨(some 34),(.fldA 2 (.t 1)),(some ((some 33),false))⟩,⟨(some 35),(.load false 1 (.t 34)),(some ((some 33),false))⟩,⟨(some 36),(.call .b (.v (.fn 26 [] [])) [(.t 35),(vz 1),(vz 50)]),(some ((some 33),false))⟩,⟨(some 37),(.un .not (.t 36)),(some ((some 33),false))⟩,O 38 (.pick (.t 33) (.v bt) (.t 37)),O 39 (.mov (.t 38)),⟨(some 40),(.fldA 3 (.t 1)),(some ((some 39),false))⟩,⟨(some 41),(.load false 1 (.t 40)),(some ((some 39),false))⟩,⟨(some 42),(.call .b (.v (.fn 26 [] [])) [(.t 41),(vz 1),(vz 50)]),(some ((some 39),false))⟩,⟨(some 43),(.un .not (.t 42)),(some ((some 39),false))⟩,O 44 (.pick (.t 39) (.v bt) (.t 43)),O 28 (.mov (.t 44))]) (.cond (.t 28) (.seq (.reg [O 2 (.mov (vz 3))]) .ret) (.seq (.reg [O 46 (.fldA 4 (.t 1)),O 47 (.load false 1 (.t 46)),O 48 (.call .b (.v (.fn 26 [] [])) [(.t 47),(vz 0),(vz 1024)]),O 49 (.un .not (.t 48)),O 45 (.mov (.t 49))]) (.cond (.t 45) (.seq (.reg [O 2 (.mov (vz 4))]) .ret) (.seq (.reg [O 51 (.fldA 5 (.t 1)),O 52 (.load false 1 (.t 51)),O 53 (.call .b (.v (.fn 26 [] [])) [(.t 52),(vz 1),(vz 65536)]),O 54 (.un .not (.t 53)),O 50 (.mov (.t 54))]) (.cond (.t 50) (.seq (.reg [O 2 (.mov (vz 5))]) .ret) (.seq (.reg [O 56 (.fldA 6 (.t 1)),O 57 (.load false 1 (.t 56)),O 58 (.call .b (.v (.fn 26 [] [])) [(.t 57),(vz 1),(vz 50)]),O 59 (.un .not (.t 58)),O 55 (.mov (.t 59))]) (.cond (.t 55) (.seq (.reg [O 2 (.mov (vz 6))]) .ret) (.seq (.reg [O 61 (.fldA 7 (.t 1)),O 62 (.load false 1 (.t 61)),O 63 (.call .b (.v (.fn 26 [] [])) [(.t 62),(vz 1),(vz 1073741824)]),O 64 (.un .not (.t 63)),O 60 (.mov (.t 64))]) (.cond (.t 60) (.seq (.reg [O 2 (.mov (vz 7))]) .ret) (.seq (.reg [O 66 (.fldA 8 (.t 1)),O 67 (.load false 1 (.t 66)),O 68 (.fldA 0 (.t 1)),O 69 (.load false 1 (.t 68)),O 70 (.bk .lenV [(.t 69)]),O 71 (.call .b (.v (.fn 26 [] [])) [(.t 67),(vz 0),(.t 70)]),O 72 (.un .not (.t 71)),O 65 (.mov (.t 72))]) (.cond (.t 65) (.seq (.reg [O 2 (.mov (vz 8))]) .ret) .skip))))))))))))) (.seq (.reg [O 2 (.mov (vz 0))]) .ret)))))⟩
def c11:AFn:=⟨29,[(.tmp 6)],(.seq (.reg [O 6 (.mov (.v bf))]) (.seq (.reg [O 8 (.mov (.t 0)),O 9 (.call (.agg [.l,i6,i6,i6,i6]) (.v (.fn 20 [] [])) [(.t 8)]),O 7 (.alloc E43),⟨none,(.store 5 (.t 7) (.t 9)),none⟩]) (.seq (.regS [⟨(O 10 (.mov (.t 2))),none,[],[]⟩,⟨(O 11 (.mov (.t 10))),none,[],[]⟩,⟨⟨(some 12),(.mov (.t 0)),(some ((some 11),true))⟩,none,[],[]⟩,⟨⟨(some 13),(.call .b (.v (.fn 18 [] [])) [(.t 12)]),(some ((some 11),true))⟩,none,[],[]⟩,⟨⟨(some 14),(.un .not (.t 13)),(some ((some 11),true))⟩,none,[],[]⟩,⟨(O 15 (.pick (.t 11) (.t 14) (.v bf))),none,[],[]⟩,⟨(O 16 (.mov (.t 15))),none,[],[]⟩,⟨⟨(some 17),(.mov (.t 0)),(some ((some 16),true))⟩,none,[],[]⟩,⟨⟨(some 18),(.call i6 (.v (.fn 17 [] [])) [(.t 17)]),(some ((some 16),true))⟩,none,[],[]⟩,⟨⟨(some 19),(.fldA 3 (.t 7)),(some ((some 16),true))⟩,none,[],[]⟩,⟨⟨(some 20),(.load false 1 (.t 19)),(some ((some 16),true))⟩,none,[8],[]⟩,⟨⟨(some 21),(.bin .geq (.t 18) (.t 20)),(some ((some 16),true))⟩,none,[],[]⟩,⟨(O 22 (.pick (.t 16) (.t 21) (.v bf))),none,[],[]⟩,⟨(O 23 (.mov (.t 22))),none,[],[]⟩,⟨⟨(some 24),(.mov (.t 1)),(some ((some 23),true))⟩,none,[],[]⟩,⟨⟨(some 25),(.fldA 4 (.t 7)),(some ((some 23),true))⟩,none,[],[]⟩,⟨⟨(some 26),(.load false 1 (.t 25)),(some ((some 23),true))⟩,none,[],[]⟩,⟨⟨(some 27),(.bin .geq (.t 24) (.t 26)),(some ((some 23),true))⟩,none,[],[]⟩,⟨(O 28 (.pick (.t 23) (.t 27) (.v bf))),none,[],[]⟩,⟨(O 6 (.mov (.t 28))),none,[],[]⟩]) .ret)))⟩
def c12:AFn:=⟨49,[(.tmp 6)],(.seq (.reg [O 6 (.mov (.v bf))]) (.seq (.regD [((O 8 (.mov (.t 0))),[]),((O 9 (.nilck (.t 8))),[]),((O 10 (.fldA 0 (.t 9))),[]),((O 11 (.fldA 0 (.t 10))),[]),((O 12 (.load false 1 (.t 11))),[]),((O 13 (.mov (.t 0))),[]),((O 14 (.nilck (.t 13))),[]),((O 15 (.fldA 9 (.t 14))),[]),((O 16 (.load false 1 (.t 15))),[]),((O 17 (.ixAS (.agg [.l,i6,i6,i6,i6]) 5 (.t 12) (.t 16))),[]),((O 18 (.load true 5 (.t 17))),[]),((O 7 (.alloc E43)),[]),(⟨none,(.store 5 (.t 7) (.t 18)),none⟩,[])]) (.seq (.regD [((O 19 (.mov (.t 2))),[]),((O 20 (.mov (.t 19))),[]),(⟨(some 21),(.mov (.t 0)),(some ((some 20),true))⟩,[]),(⟨(some 22),(.nilck (.t 21)),(some ((some 20),true))⟩,[]),(⟨(some 23),(.fldA 9 (.t 22)),(some ((some 20),true))⟩,[]),(⟨(some 24),(.load false 1 (.t 23)),(some ((some 20),true))⟩,[]),(⟨(some 25),(.bin .add (.t 24) (vz 1)),(some ((some 20),true))⟩,[]),(⟨(some 26),(.mov (.t 0)),(some ((some 20),true))⟩,[]),(⟨(some 27),(.nilck (.t 26)),(some ((some 20),true))⟩,[]),(⟨(some 28),(.fldA 0 (.t 27)),(some ((some 20),true))⟩,[]),(⟨(some 29),(.fldA 0 (.t 28)),(some ((some 20),true))⟩,[]),(⟨(some 30),(.load false 1 (.t 29)),(some ((some 20),true))⟩,[]),(⟨(some 31),(.bk .lenV [(.t 30)]),(some ((some 20),true))⟩,[]),(⟨(some 32),(.bin .lss (.t 25) (.t 31)),(some ((some 20),true))⟩,[]),((O 33 (.pick (.t 20) (.t 32) (.v bf))),[]),((O 34 (.mov (.t 33))),[]),(⟨(some 35),(.mov (.t 0)),(some ((some 34),true))⟩,[]),(⟨(some 36),(.nilck (.t 35)),(some ((some 34),true))⟩,[]),(⟨(some 37),(.fldA 10 (.t 36)),(some ((some 34),true))⟩,[]),(⟨(some 38),(.load false 1 (.t 37)),(some ((some 34),true))⟩,[]),(⟨(some 39),(.fldA 3 (.t 7)),(some ((some 34),true))⟩,[]),(⟨(some 40),(.load false 1 (.t 39)),(some ((some 34),true))⟩,[]),(⟨(some 41),(.bin .geq (.t 38) (.t 40)),(some ((some 34),true))⟩,[]),((O 42 (.pick (.t 34) (.t 41) (.v bf))),[]),((O 43 (.mov (.t 42))),[]),(⟨(some 44),(.mov (.t 1)),(some ((some 43),true))⟩,[]),(⟨(some 45),(.fldA 4 (.t 7)),(some ((some 43),true))⟩,[]),(⟨(some 46),(.load false 1 (.t 45)),(some ((some 43),true))⟩,[]),(⟨(some 47),(.bin .geq (.t 44) (.t 46)),(some ((some 43),true))⟩,[]),((O 48 (.pick (.t 43) (.t 47) (.v bf))),[]),((O 6 (.mov (.t 48))),[])]) .ret)))⟩
def c13:AFn:=⟨36,[(.tmp 6)],(.seq (.reg [O 6 (.mov (.v bf))]) (.seq (.seq (.reg [O 7 (.mov (.t 0)),O 8 (.eqv false 1 [] (.t 7) (.v .nilp))]) (.cond (.t 8) (.seq (.reg [O 6 (.mov (.v bf))]) .ret) .skip)) (.seq (.seq (.reg [O 9 (.mov (.t 1)),O 10 (.un .not (.t 9)),O 11 (.mov (.t 10)),⟨(some 12),(.mov (.t 2)),(some ((some 11),false))⟩,⟨(some 13),(.un .not (.t 12)),(some ((some 11),false))⟩,O 14 (.pick (.t 11) (.v bt) (.t 13)),O 15 (.mov (.t 14)),⟨(some 16),(.mov (.t 0)),(some ((some 15),false))⟩,⟨(some 17),(.call .b (.v (.fn 18 [] [])) [(.t 16)]),(some ((some 15),false))⟩,O 18 (.pick (.t 15) (.v bt) (.t 17))]) (.cond (.t 18) (.seq (.reg [O 19 (.mov (.t 0)),O 20 (.nilck (.t 19)),O 21 (.fldA 10 (.t 20)),O 22 (.load false 1 (.t 21)),O 23 (.call i6 (.v (.fn 27 [] [])) [(.t 22)])]) (.seq (.reg [O 6 (.mov (.v bf))]) .ret)) .skip)) (.seq (.reg [O 24 (.mov (.t 0)),O 25 (.nilck (.t 24)),O 26 (.fldA 9 (.t 25)),O 27 (.load false 1 (.t 26)),O 28 (.bin .add (.t 27) (vz 1)),O 29 (.nilck (.t 24)),O 30 (.fldA 9 (.t 29)),⟨none,(.store 1 (.t 30) (.t 28)),none⟩]) (.seq (.reg [O 31 (.mov (.t 0)),O 32 (.nilck (.t 31)),O 33 (.fldA 10 (.t 32)),O 34 (.load false 1 (.t 33)),O 35 (.call (.tup []) (.v (.fn 28 [] [])) [(.t 34)])]) (.seq (.reg [O 6 (.mov (.v bt))]) .ret))))))⟩
def c14:AFn:=⟨44,[(.tmp 6)],(.seq (.reg [O 6 (.mov (.v bf))]) (.seq (.seq (.regD [((O 7 (.mov (.t 1))),[]),((O 8 (.mov (.t 7))),[]),(⟨(some 9),(.mov (.t 2)),(some ((some 8),true))⟩,[]),((O 10 (.pick (.t 8) (.t 9) (.v bf))),[]),((O 11 (.mov (.t 10))),[]),(⟨(some 12),(.mov (.t 0)),(some ((some 11),true))⟩,[]),(⟨(some 13),(.nilck (.t 12)),(some ((some 11),true))⟩,[]),(⟨(some 14),(.fldA 9 (.t 13)),(some ((some 11),true))⟩,[]),(⟨(some 15),(.load false 1 (.t 14)),(some ((some 11),true))⟩,[]),(⟨(some 16),(.bin .add (.t 15) (vz 1)),(some ((some 11),true))⟩,[]),(⟨(some 17),(.mov (.t 0)),(some ((some 11),true))⟩,[]),(⟨(some 18),(.nilck (.t 17)),(some ((some 11),true))⟩,[]),(⟨(some 19),(.fldA 0 (.t 18)),(some ((some 11),true))⟩,[]),(⟨(some 20),(.fldA 0 (.t 19)),(some ((some 11),true))⟩,[]),(⟨(some 21),(.load false 1 (.t 20)),(some ((some 11),true))⟩,[]),(⟨(some 22),(.bk .lenV [(.t 21)]),(some ((some 11),true))⟩,[]),(⟨(some 23),(.bin .lss (.t 16) (.t 22)),(some ((some 11),true))⟩,[]),((O 24 (.pick (.t 11) (.t 23) (.v bf))),[])]) (.cond (.t 24) (.seq (.reg [O 25 (.mov (.t 0)),O 26 (.nilck (.t 25)),O 27 (.fldA 9 (.t 26)),O 28 (.load false 1 (.t 27)),O 29 (.bin .add (.t 28) (vz 1)),O 30 (.nilck (.t 25)),O 31 (.fldA 9 (.t 30)),⟨none,(.store 1 (.t 31) (.t 29)),none⟩]) (.seq (.reg [O 32 (.mov (.t 0)),O 33 (.nilck (.t 32)),O 34 (.fldA 10 (.t 33)),⟨none,(.store 1 (.t 34) (vz 0)),none⟩]) (.seq (.reg [O 6 (.mov (.v bt))]) .ret))) .skip)) (.seq (.reg [O 35 (.mov (.t 0)),O 36 (.mov (.t 0)),O 37 (.nilck (.t 36)),O 38 (.fldA 10 (.t 37)),O 39 (.load false 1 (.t 38)),O 40 (.bin .add (.t 39) (vz 1)),O 41 (.bk .min [(.t 40),(vz 1000000)]),O 42 (.nilck (.t 35)),O 43 (.fldA 10 (.t 42)),⟨none,(.store 1 (.t 43) (.t 41)),none⟩]) (.seq (.reg [O 6 (.mov (.v bf))]) .ret))))⟩
def c15:AFn:=⟨41,[(.tmp 6)],(.seq (.reg [O 6 (.mov (.v bf))]) (.seq (.seq (.reg [O 7 (.mov (.t 0)),O 8 (.eqv false 1 [] (.t 7) (.v .nilp)),O 9 (.mov (.t 8)),⟨(some 10),(.mov (.t 1)),(some ((some 9),false))⟩,⟨(some 11),(.bin .lss (.t 10) (vz 0)),(some ((some 9),false))⟩,O 12 (.pick (.t 9) (.v bt) (.t 11)),O 13 (.mov (.t 12)),⟨(some 14),(.mov (.t 1)),(some ((some 13),false))⟩,⟨(some 15),(.mov (.t 0)),(some ((some 13),false))⟩,⟨(some 16),(.nilck (.t 15)),(some ((some 13),false))⟩,⟨(some 17),(.fldA 0 (.t 16)),(some ((some 13),false))⟩,⟨(some 18),(.fldA 0 (.t 17)),(some ((some 13),false))⟩,⟨(some 19),(.load false 1 (.t 18)),(some ((some 13),false))⟩,⟨(some 20),(.bk .lenV [(.t 19)]),(some ((some 13),false))⟩,⟨(some 21),(.bin .geq (.t 14) (.t 20)),(some ((some 13),false))⟩,O 22 (.pick (.t 13) (.v bt) (.t 21)),O 23 (.mov (.t 22)),⟨(some 24),(.mov (.t 2)),(some ((some 23),false))⟩,⟨(some 25),(.bin .lss (.t 24) (vz 0)),(some ((some 23),false))⟩,O 26 (.pick (.t 23) (.v bt) (.t 25)),O 27 (.mov (.t 26)),⟨(some 28),(.mov (.t 2)),(some ((some 27),false))⟩,⟨(some 29),(.bin .gtr (.t 28) (vz 1000000)),(some ((some 27),false))⟩,O 30 (.pick (.t 27) (.v bt) (.t 29))]) (.cond (.t 30) (.seq (.reg [O 6 (.mov (.v bf))]) .ret) .skip)) (.seq (.reg [O 31 (.mov (.t 0)),O 32 (.mov (.t 1)),O 33 (.nilck (.t 31)),O 34 (.fldA 9 (.t 33)),⟨none,(.store 1 (.t 34) (.t 32)),none⟩]) (.seq (.reg [O 35 (.mov (.t 0)),O 36 (.nilck (.t 35)),O 37 (.fldA 10 (.t 36)),O 38 (.load false 1 (.t 37)),O 39 (.mov (.t 2)),O 40 (.call (.tup []) (.v (.fn 29 [] [])) [(.t 38),(.t 39)])]) (.seq (.reg [O 6 (.mov (.v bt))]) .ret)))))⟩
def c16:AFn:=⟨9,[(.tmp 2)],(.seq (.reg [O 2 (.mov (vz 0))]) (.seq (.seq (.reg [O 3 (.mov (.t 0)),O 4 (.eqv false 1 [] (.t 3) (.v .nilp))]) (.cond (.t 4) (.seq (.reg [O 2 (.mov (vz 0))]) .ret) .skip)) (.seq (.reg [O 5 (.mov (.t 0)),O 6 (.nilck (.t 5)),O 7 (.fldA 9 (.t 6)),O 8 (.load false 1 (.t 7)),O 2 (.mov (.t 8))]) .ret)))⟩
def c17:AFn:=⟨10,[(.tmp 2)],(.seq (.reg [O 2 (.mov (vz 0))]) (.seq (.seq (.reg [O 3 (.mov (.t 0)),O 4 (.eqv false 1 [] (.t 3) (.v .nilp))]) (.cond (.t 4) (.seq (.reg [O 2 (.mov (vz 0))]) .ret) .skip)) (.seq (.reg [O 5 (.mov (.t 0)),O 6 (.nilck (.t 5)),O 7 (.fldA 10 (.t 6)),O 8 (.load false 1 (.t 7)),O 9 (.call i6 (.v (.fn 30 [] [])) [(.t 8)]),O 2 (.mov (.t 9))]) .ret)))⟩
def c18:AFn:=⟨19,[(.tmp 2)],(.seq (.reg [O 2 (.mov (.v bf))]) (.seq (.regD [((O 3 (.mov (.t 0))),[]),((O 4 (.eqv false 1 [] (.t 3) (.v .nilp))),[]),((O 5 (.mov (.t 4))),[]),(⟨(some 6),(.mov (.t 0)),(some ((some 5),false))⟩,[]),(⟨(some 7),(.nilck (.t 6)),(some ((some 5),false))⟩,[]),(⟨(some 8),(.fldA 9 (.t 7)),(some ((some 5),false))⟩,[]),(⟨(some 9),(.load false 1 (.t 8)),(some ((some 5),false))⟩,[]),(⟨(some 10),(.bin .add (.t 9) (vz 1)),(some ((some 5),false))⟩,[]),(⟨(some 11),(.mov (.t 0)),(some ((some 5),false))⟩,[]),(⟨(some 12),(.nilck (.t 11)),(some ((some 5),false))⟩,[]),(⟨(some 13),(.fldA 0 (.t 12)),(some ((some 5),false))⟩,[]),(⟨(some 14),(.fldA 0 (.t 13)),(some ((some 5),false))⟩,[]),(⟨(some 15),(.load false 1 (.t 14)),(some ((some 5),false))⟩,[]),(⟨(some 16),(.bk .lenV [(.t 15)]),(some ((some 5),false))⟩,[]),(⟨(some 17),(.bin .eql (.t 10) (.t 16)),(some ((some 5),false))⟩,[]),((O 18 (.pick (.t 5) (.v bt) (.t 17))),[]),((O 2 (.mov (.t 18))),[])]) .ret))⟩
def c19:AFn:=⟨38,[(.tmp 4)],(.seq (.reg [O 2 (.box E43 (.t 0)),O 3 (.box E43 (.t 1)),O 4 (.mov (.v bf))]) (.seq (.reg [O 5 (.fldA 0 (.t 2)),O 6 (.load false 1 (.t 5)),O 7 (.fldA 0 (.t 3)),O 8 (.load false 1 (.t 7)),O 9 (.call .b (.v (.fn 31 [] [])) [(.t 6),(.t 8)]),O 10 (.mov (.t 9)),⟨(some 11),(.fldA 1 (.t 2)),(some ((some 10),true))⟩,⟨(some 12),(.load false 1 (.t 11)),(some ((some 10),true))⟩,⟨(some 13),(.fldA 1 (.t 3)),(some ((some 10),true))⟩,⟨(some 14),(.load false 1 (.t 13)),(some ((some 10),true))⟩,⟨(some 15),(.bin .eql (.t 12) (.t 14)),(some ((some 10),true))⟩,O 16 (.pick (.t 10) (.t 15) (.v bf)),O 17 (.mov (.t 16)),⟨(some 18),(.fldA 2 (.t 2)),(some ((some 17),true))⟩,⟨(some 19),(.load false 1 (.t 18)),(some ((some 17),true))⟩,⟨(some 20),(.fldA 2 (.t 3)),(some ((some 17),true))⟩,⟨(some 21),(.load false 1 (.t 20)),(some ((some 17),true))⟩,⟨(some 22),(.bin .eql (.t 19) (.t 21)),(some ((some 17),true))⟩,O 23 (.pick (.t 17) (.t 22) (.v bf)),O 24 (.mov (.t 23)),⟨(some 25),(.fldA 3 (.t 2)),(some ((some 24),true))⟩,⟨(some 26),(.load false 1 (.t 25)),(some ((some 24),true))⟩,⟨(some 27),(.fldA 3 (.t 3)),(some ((some 24),true))⟩,⟨(some 28),(.load false 1 (.t 27)),(some ((some 24),true))⟩,⟨(some 29),(.bin .eql (.t 26) (.t 28)),(some ((some 24),true))⟩,O 30 (.pick (.t 24) (.t 29) (.v bf)),O 31 (.mov (.t 30)),⟨(some 32),(.fldA 4 (.t 2)),(some ((some 31),true))⟩,⟨(some 33),(.load false 1 (.t 32)),(some ((some 31),true))⟩,⟨(some 34),(.fldA 4 (.t 3)),(some ((some 31),true))⟩,⟨(some 35),(.load false 1 (.t 34)),(some ((some 31),true))⟩,⟨(some 36),(.bin .eql (.t 33) (.t 35)),(some ((some 31),true))⟩,O 37 (.pick (.t 31) (.t 36) (.v bf)),O 4 (.mov (.t 37))]) .ret))⟩
def c20:AFn:=⟨21,[(.cell true 5 2)],(.seq (.reg [O 2 (.alloc E43)]) (.seq (.seq (.reg [O 5 (.mov (.t 0)),O 6 (.eqv false 1 [] (.t 5) (.v .nilp))]) (.cond (.t 6) (.seq (.reg [O 7 (.build [(.zsl true),(iz 0),(iz 0),(iz 0),(iz 0)] []),⟨none,(.store 5 (.t 2) (.t 7)),none⟩]) .ret) .skip)) (.seq (.regS [⟨(O 9 (.mov (.t 0))),none,[],[]⟩,⟨(O 10 (.nilck (.t 9))),none,[],[]⟩,⟨(O 11 (.fldA 0 (.t 10))),none,[],[]⟩,⟨(O 12 (.load true 9 (.t 11))),none,[],[]⟩,⟨(O 13 (.mov (.t 0))),none,[],[]⟩,⟨(O 14 (.nilck (.t 13))),none,[],[]⟩,⟨(O 15 (.fldA 9 (.t 14))),none,[],[]⟩,⟨(O 16 (.load false 1 (.t 15))),none,[],[]⟩,⟨(O 17 (.call (.tup [(.agg [.l,i6,i6,i6,i6]),.b]) (.v (.fn 32 [] [])) [(.t 12),(.t 16)])),none,[],[0]⟩,⟨(O 8 (.mov (.t 17))),none,[],[]⟩,⟨(O 18 (.extr (.t 8) 0)),none,[],[]⟩,⟨(O 19 (.extr (.t 8) 1)),none,[],[]⟩,⟨(O 3 (.alloc E43)),(some 0),[],[]⟩,⟨⟨none,(.store 5 (.t 3) (.t 18)),none⟩,none,[],[]⟩,⟨(O 4 (.mov (.t 19))),none,[],[]⟩]) (.seq (.reg [O 20 (.load true 5 (.t 3)),⟨none,(.store 5 (.t 2) (.t 20)),none⟩]) .ret))))⟩
def c21:AFn:=⟨22,[(.cell true 9 2)],(.seq (.reg [O 2 (.alloc E24)]) (.seq (.reg [O 4 (.mov (.t 0)),O 5 (.build [(.zsl true),(iz 0),(iz 0),(iz 0),(iz 0),(iz 0),(iz 0),(iz 0),(iz 0)] [(1,(1,(vz 2))),(2,(1,(vz 3))),(3,(1,(vz 4))),(4,(1,(vz 2))),(5,(1,(vz 50))),(6,(1,(vz 2))),(7,(1,(vz 10))),(8,(1,(.t 4)))]),O 3 (.alloc E24),⟨none,(.store 9 (.t 3) (.t 5)),none⟩]) (.seq (.seq (.reg [O 6 (.mov (.t 0)),O 7 (.mov (vz 0))]) (.block 0 (.loop (.seq (.reg [O 8 (.bin .lss (.t 7) (.t 6))]) (.seq (.cond (.t 8) .skip (.exit 0)) (.seq (.block 1 (.reg [O 9 (.fldA 0 (.t 3)),O 10 (.load false 1 (.t 9)),O 11 (.build [(iz 0),(iz 0)] [(0,(1,(vz (-1000)))),(1,(1,(vz (-1000))))]),O 12 (.build [(iz 0),(iz 0)] [(0,(1,(vz 1000))),(1,(1,(vz (-1000))))]),O 13 (.build [(iz 0),(iz 0)] [(0,(1,(vz 1000))),(1,(1,(vz 1000)))]),O 14 (.build [(iz 0),(iz 0)] [(0,(1,(vz (-1000)))),(1,(1,(vz 1000)))]),O 15 (.mkrow E62 4 [(0,(.t 11)),(1,(.t 12)),(2,(.t 13)),(3,(.t 14))]),O 16 (.build [(.zsl true),(iz 0),(iz 0),(iz 0),(iz 0)] [(0,(1,(.t 15))),(1,(1,(vz 1))),(2,(1,(vz 200))),(3,(1,(vz 5))),(4,(1,(vz 100)))]),O 17 (.mkrow E43 1 [(0,(.t 16))]),O 18 (.app E43 (.t 10) (.t 17)),O 19 (.fldA 0 (.t 3)),⟨none,(.store 1 (.t 19) (.t 18)),none⟩])) (.reg [O 20 (.bin .add (.t 7) (vz 1)),O 7 (.mov (.t 20))]))))))) (.seq (.reg [O 21 (.load true 9 (.t 3)),⟨none,(.store 9 (.t 2) (.t 21)),none⟩]) .ret))))⟩
def c22:AFn:=⟨6,[(.tmp 2)],(.seq (.reg [O 1 (.box E24 (.t 0)),O 2 (.mov (.v bf))]) (.seq (.reg [O 3 (.load true 9 (.t 1)),O 4 (.call i6 (.v (.fn 33 [] [])) [(.t 3)]),O 5 (.bin .eql (.t 4) (vz 0)),O 2 (.mov (.t 5))]) .ret))⟩
def c23:AFn:=⟨28,[(.cell true 9 2)],(.seq (.reg [O 1 (.box E24 (.t 0)),O 2 (.alloc E24)]) (.seq (.reg [O 4 (.fldA 0 (.t 1)),O 5 (.load false 1 (.t 4)),O 6 (.call .l (.v (.fn 34 [] [])) [(.t 5)]),O 7 (.fldA 0 (.t 1)),⟨none,(.store 1 (.t 7) (.t 6)),none⟩]) (.seq (.seq (.reg [O 8 (.fldA 0 (.t 1)),O 9 (.load false 1 (.t 8)),O 10 (.bk .lenV [(.t 9)]),O 11 (.mov (vz 0))]) (.block 0 (.loop (.seq (.reg [O 12 (.bin .lss (.t 11) (.t 10))]) (.seq (.cond (.t 12) .skip (.exit 0)) (.seq (.block 1 (.seq (.reg [O 13 (.mov (.t 11)),O 3 (.mov (.t 13))]) (.regD [((O 14 (.fldA 0 (.t 1))),[]),((O 15 (.load false 1 (.t 14))),[]),((O 16 (.mov (.t 3))),[]),((O 17 (.fldA 0 (.t 1))),[]),((O 18 (.load false 1 (.t 17))),[]),((O 19 (.mov (.t 3))),[]),((O 20 (.ixAS (.agg [.l,i6,i6,i6,i6]) 5 (.t 18) (.t 19))),[]),((O 21 (.fldA 0 (.t 20))),[]),((O 22 (.load false 1 (.t 21))),[]),((O 23 (.call .l (.v (.fn 35 [] [])) [(.t 22)])),[]),((O 24 (.ixAS (.agg [.l,i6,i6,i6,i6]) 5 (.t 15) (.t 16))),[]),((O 25 (.fldA 0 (.t 24))),[]),(⟨none,(.store 1 (.t 25) (.t 23)),none⟩,[])]))) (.reg [O 26 (.bin .add (.t 11) (vz 1)),O 11 (.mov (.t 26))]))))))) (.seq (.reg [O 27 (.load true 9 (.t 1)),⟨none,(.store 9 (.t 2) (.t 27)),none⟩]) .ret))))⟩
def c24:AFn:=⟨8,[(.tmp 2)],(.seq (.reg [O 2 (.mov (.v .nilp))]) (.seq (.reg [O 3 (.mov (.t 0)),O 4 (.bk .max [(.t 3),(vz 0)]),O 5 (.bk .min [(.t 4),(vz 1000000)]),O 6 (.build [(iz 0),(iz 0)] [(1,(1,(.t 5)))]),O 7 (.box E71 (.t 6)),O 2 (.mov (.t 7))]) .ret))⟩
def c25:AFn:=⟨26,[(.tmp 2)],(.seq (.reg [O 1 (.box E43 (.t 0)),O 2 (.mov (.v bf))]) (.seq (.reg [O 3 (.fldA 0 (.t 1)),O 4 (.load false 1 (.t 3)),O 5 (.call .b (.v (.fn 36 [] [])) [(.t 4)]),O 6 (.mov (.t 5)),⟨(some 7),(.fldA 1 (.t 1)),(some ((some 6),true))⟩,⟨(some 8),(.load false 1 (.t 7)),(some ((some 6),true))⟩,⟨(some 9),(.call .b (.v (.fn 26 [] [])) [(.t 8),(vz 1),(vz 100)]),(some ((some 6),true))⟩,O 10 (.pick (.t 6) (.t 9) (.v bf)),O 11 (.mov (.t 10)),⟨(some 12),(.fldA 2 (.t 1)),(some ((some 11),true))⟩,⟨(some 13),(.load false 1 (.t 12)),(some ((some 11),true))⟩,⟨(some 14),(.call .b (.v (.fn 26 [] [])) [(.t 13),(vz 1),(vz 65536)]),(some ((some 11),true))⟩,O 15 (.pick (.t 11) (.t 14) (.v bf)),O 16 (.mov (.t 15)),⟨(some 17),(.fldA 3 (.t 1)),(some ((some 16),true))⟩,⟨(some 18),(.load false 1 (.t 17)),(some ((some 16),true))⟩,⟨(some 19),(.call .b (.v (.fn 26 [] [])) [(.t 18),(vz 1),(vz 1000000)]),(some ((some 16),true))⟩,O 20 (.pick (.t 16) (.t 19) (.v bf)),O 21 (.mov (.t 20)),⟨(some 22),(.fldA 4 (.t 1)),(some ((some 21),true))⟩,⟨(some 23),(.load false 1 (.t 22)),(some ((some 21),true))⟩,⟨(some 24),(.call .b (.v (.fn 26 [] [])) [(.t 23),(vz 0),(vz 1073741824)]),(some ((some 21),true))⟩,O 25 (.pick (.t 21) (.t 24) (.v bf)),O 2 (.mov (.t 25))]) .ret))⟩
def c26:AFn:=⟨15,[(.tmp 6)],(.seq (.reg [O 6 (.mov (.v bf))]) (.seq (.reg [O 7 (.mov (.t 0)),O 8 (.mov (.t 1)),O 9 (.bin .geq (.t 7) (.t 8)),O 10 (.mov (.t 9)),⟨(some 11),(.mov (.t 0)),(some ((some 10),true))⟩,⟨(some 12),(.mov (.t 2)),(some ((some 10),true))⟩,⟨(some 13),(.bin .leq (.t 11) (.t 12)),(some ((some 10),true))⟩,O 14 (.pick (.t 10) (.t 13) (.v bf)),O 6 (.mov (.t 14))]) .ret))⟩
def c27:AFn:=⟨5,[(.tmp 2)],(.seq (.reg [O 2 (.mov (vz 0))]) (.seq (.reg [O 3 (.mov (.t 0)),O 4 (.call i6 (.v (.fn 37 [] [])) [(.t 3),(vz 1)]),O 2 (.mov (.t 4))]) .ret))⟩
def c28:AFn:=⟨4,[],(.reg [O 2 (.mov (.t 0)),O 3 (.call (.tup []) (.v (.fn 29 [] [])) [(.t 2),(vz 0)])])⟩
def c29:AFn:=⟨17,[],(.seq (.reg [O 4 (.mov (.t 0)),O 5 (.eqv true 1 [] (.t 4) (.v .nilp))]) (.cond (.t 5) (.regD [((O 6 (.mov (.t 0))),[]),((O 7 (.nilck (.t 6))),[]),((O 8 (.fldA 0 (.t 7))),[]),((O 9 (.mov (.t 1))),[]),((O 10 (.bk .max [(.t 9),(vz 0)])),[]),((O 11 (.mov (.t 0))),[]),((O 12 (.nilck (.t 11))),[]),((O 13 (.fldA 1 (.t 12))),[]),((O 14 (.load false 1 (.t 13))),[]),((O 15 (.bk .min [(.t 10),(.t 14)])),[]),((O 16 (.call (.tup []) (.v (.fn 38 [] [])) [(.t 8),(.t 15)])),[1000000])]) .skip))⟩
def c30:AFn:=⟨9,[(.tmp 2)],(.seq (.reg [O 2 (.mov (vz 0))]) (.seq (.seq (.reg [O 3 (.mov (.t 0)),O 4 (.eqv false 1 [] (.t 3) (.v .nilp))]) (.cond (.t 4) (.seq (.reg [O 2 (.mov (vz 0))]) .ret) .skip)) (.seq (.reg [O 5 (.mov (.t 0)),O 6 (.nilck (.t 5)),O 7 (.fldA 0 (.t 6)),O 8 (.call i6 (.v (.fn 39 [] [])) [(.t 7)]),O 2 (.mov (.t 8))]) .ret)))⟩
def c31:AFn:=⟨26,[(.tmp 4)],(.seq (.reg [O 4 (.mov (.v bf))]) (.seq (.seq (.reg [O 6 (.mov (.t 0)),O 7 (.bk .lenV [(.t 6)]),O 8 (.mov (.t 1)),O 9 (.bk .lenV [(.t 8)]),O 10 (.bin .neq (.t 7) (.t 9))]) (.cond (.t 10) (.seq (.reg [O 4 (.mov (.v bf))]) .ret) .skip)) (.seq (.seq (.reg [O 5 (.mov (vz 0))]) (.block 0 (.loop (.seq (.seq (.reg [O 11 (.mov (.t 5)),O 12 (.mov (.t 0)),O 13 (.bk .lenV [(.t 12)]),O 14 (.bin .lss (.t 11) (.t 13))]) (.cond (.t 14) .skip (.exit 0))) (.seq (.block 1 (.seq (.regD [((O 17 (.mov (.t 0))),[]),((O 18 (.mov (.t 5))),[]),((O 19 (.ixAS ag2 2 (.t 17) (.t 18))),[]),((O 20 (.load true 2 (.t 19))),[]),((O 21 (.mov (.t 1))),[]),((O 22 (.mov (.t 5))),[]),((O 23 (.ixAS ag2 2 (.t 21) (.t 22))),[]),((O 24 (.load true 2 (.t 23))),[]),((O 25 (.eqv true 4 i62 (.t 20) (.t 24))),[])]) (.cond (.t 25) (.seq (.reg [O 4 (.mov (.v bf))]) .ret) .skip))) (.reg [O 15 (.mov (.t 5)),O 16 (.bin .add (.t 15) (vz 1)),O 5 (.mov (.t 16))])))))) (.seq (.reg [O 4 (.mov (.v bt))]) .ret))))⟩
def c32:AFn:=⟨26,[(.cell true 5 4),(.tmp 5)],(.seq (.reg [O 2 (.box E24 (.t 0)),O 4 (.alloc E43),O 5 (.mov (.v bf))]) (.seq (.seq (.reg [O 6 (.mov (.t 1)),O 7 (.bin .lss (.t 6) (vz 0)),O 8 (.mov (.t 7)),⟨(some 9),(.mov (.t 1)),(some ((some 8),false))⟩,⟨(some 10),(.fldA 0 (.t 2)),(some ((some 8),false))⟩,⟨(some 11),(.load false 1 (.t 10)),(some ((some 8),false))⟩,⟨(some 12),(.bk .lenV [(.t 11)]),(some ((some 8),false))⟩,⟨(some 13),(.bin .geq (.t 9) (.t 12)),(some ((some 8),false))⟩,O 14 (.pick (.t 8) (.v bt) (.t 13))]) (.cond (.t 14) (.seq (.reg [O 15 (.load true 5 (.t 4)),⟨none,(.store 5 (.t 4) (.t 15)),none⟩,O 5 (.mov (.v bf))]) .ret) .skip)) (.seq (.reg [O 16 (.fldA 0 (.t 2)),O 17 (.load false 1 (.t 16)),O 18 (.mov (.t 1)),O 19 (.ixAS (.agg [.l,i6,i6,i6,i6]) 5 (.t 17) (.t 18)),O 20 (.load true 5 (.t 19)),⟨none,(.store 5 (.t 4) (.t 20)),none⟩]) (.seq (.reg [O 21 (.fldA 0 (.t 4)),O 22 (.load false 1 (.t 21)),O 23 (.call .l (.v (.fn 35 [] [])) [(.t 22)]),O 24 (.fldA 0 (.t 4)),⟨none,(.store 1 (.t 24) (.t 23)),none⟩]) (.seq (.reg [O 25 (.load true 5 (.t 4)),⟨none,(.store 5 (.t 4) (.t 25)),none⟩,O 5 (.mov (.v bt))]) .ret)))))⟩
def c33:AFn:=⟨44,[(.tmp 2)],(.seq (.reg [O 1 (.box E24 (.t 0)),O 2 (.mov (vz 0))]) (.seq (.block 0 (.seq (.reg [O 4 (.fldA 0 (.t 1)),O 5 (.load false 1 (.t 4)),O 6 (.bk .lenV [(.t 5)]),O 7 (.call .b (.v (.fn 40 [] [])) [(.t 6),(vz 1),(vz 4)]),O 8 (.un .not (.t 7)),O 3 (.mov (.t 8))]) (.cond (.t 3) (.seq (.reg [O 2 (.mov (vz 1))]) .ret) (.seq (.reg [O 10 (.fldA 0 (.t 1)),O 11 (.load false 1 (.t 10)),O 12 (.call .b (.v (.fn 41 [] [])) [(.t 11),(.v (.fn 42 [] []))]),O 9 (.mov (.t 12))]) (.cond (.t 9) (.seq (.reg [O 2 (.mov (vz 2))]) .ret) (.seq (.reg [O 14 (.call .b (.v (.fn 44 [] [])) [(.t 1)]),O 15 (.un .not (.t 14)),O 13 (.mov (.t 15))]) (.cond (.t 13) (.seq (.reg [O 2 (.mov (vz 3))]) .ret) (.seq (.reg [O 17 (.fldA 4 (.t 1)),O 18 (.load false 1 (.t 17)),O 19 (.call .b (.v (.fn 45 [] [])) [(.t 18),(vz 0),(vz 1024)]),O 20 (.un .not (.t 19)),O 16 (.mov (.t 20))]) (.cond (.t 16) (.seq (.reg [O 2 (.mov (vz 4))]) .ret) (.seq (.reg [O 22 (.fldA 5 (.t 1)),O 23 (.load false 1 (.t 22)),O 24 (.call .b (.v (.fn 45 [] [])) [(.t 23),(vz 1),(vz 65536)]),O 25 (.un .not (.t 24)),O 21 (.mov (.t 25))]) (.cond (.t 21) (.seq (.reg [O 2 (.mov (vz 5))]) .ret) (.seq (.reg [O 27 (.fldA 6 (.t 1)),O 28 (.load false 1 (.t 27)),O 29 (.call .b (.v (.fn 40 [] [])) [(.t 28),(vz 1),(vz 50)]),O 30 (.un .not (.t 29)),O 26 (.mov (.t 30))]) (.cond (.t 26) (.seq (.reg [O 2 (.mov (vz 6))]) .ret) (.seq (.reg [O 32 (.fldA 7 (.t 1)),O 33 (.load false 1 (.t 32)),O 34 (.call .b (.v (.fn 45 [] [])) [(.t 33),(vz 1),(vz 1073741824)]),O 35 (.un .not (.t 34)),O 31 (.mov (.t 35))]) (.cond (.t 31) (.seq (.reg [O 2 (.mov (vz 7))]) .ret) (.seq (.reg [O 37 (.fldA 8 (.t 1)),O 38 (.load false 1 (.t 37)),O 39 (.fldA 0 (.t 1)),O 40 (.load false 1 (.t 39)),O 41 (.bk .lenV [(.t 40)]),O 42 (.call .b (.v (.fn 40 [] [])) [(.t 38),(vz 0),(.t 41)]),O 43 (.un .not (.t 42)),O 36 (.mov (.t 43))]) (.cond (.t 36) (.seq (.reg [O 2 (.mov (vz 8))]) .ret) .skip))))))))))))))))) (.seq (.reg [O 2 (.mov (vz 0))]) .ret)))⟩
def c34:AFn:=⟨8,[(.tmp 2)],(.seq (.reg [O 2 (.mov (.v (.zsl true)))]) (.seq (.seq (.reg [O 3 (.mov (.t 0)),O 4 (.eqv false 2 [] (.t 3) (.v (.zsl true)))]) (.cond (.t 4) (.seq (.reg [O 2 (.mov (.v (.zsl true)))]) .ret) .skip)) (.seq (.reg [O 5 (.mkrow E43 0 []),O 6 (.mov (.t 0)),O 7 (.app E43 (.t 5) (.t 6)),O 2 (.mov (.t 7))]) .ret)))⟩
def c35:AFn:=⟨8,[(.tmp 2)],(.seq (.reg [O 2 (.mov (.v (.zsl true)))]) (.seq (.seq (.reg [O 3 (.mov (.t 0)),O 4 (.eqv false 2 [] (.t 3) (.v (.zsl true)))]) (.cond (.t 4) (.seq (.reg [O 2 (.mov (.v (.zsl true)))]) .ret) .skip)) (.seq (.reg [O 5 (.mkrow E62 0 []),O 6 (.mov (.t 0)),O 7 (.app E62 (.t 5) (.t 6)),O 2 (.mov (.t 7))]) .ret)))⟩
def c36:AFn:=⟨47,[(.tmp 2)],(.seq (.reg [O 2 (.mov (.v bf))]) (.seq (.seq (.reg [O 3 (.mov (vz 0))]) (.block 0 (.loop (.seq (.seq (.reg [O 4 (.mov (.t 3)),O 5 (.mov (.t 0)),O 6 (.bk .lenV [(.t 5)]),O 7 (.bin .lss (.t 4) (.t 6)),O 8 (.mov (.t 7)),⟨(some 9),(.mov (.t 0)),(some ((some 8),true))⟩,⟨(some 10),(.bk .lenV [(.t 9)]),(some ((some 8),true))⟩,⟨(some 11),(.bin .leq (.t 10) (vz 8)),(some ((some 8),true))⟩,O 12 (.pick (.t 8) (.t 11) (.v bf))]) (.cond (.t 12) .skip (.exit 0))) (.seq (.block 1 (.seq (.reg [O 15 (.mov (.t 0)),O 16 (.mov (.t 3)),O 17 (.ixAS ag2 2 (.t 15) (.t 16)),O 18 (.fldA 0 (.t 17)),O 19 (.load false 1 (.t 18)),O 20 (.bin .lss (.t 19) (vz (-1073741824))),O 21 (.mov (.t 20)),⟨(some 22),(.mov (.t 0)),(some ((some 21),false))⟩,⟨(some 23),(.mov (.t 3)),(some ((some 21),false))⟩,⟨(some 24),(.ixAS ag2 2 (.t 22) (.t 23)),(some ((some 21),false))⟩,⟨(some 25),(.fldA 0 (.t 24)),(some ((some 21),false))⟩,⟨(some 26),(.load false 1 (.t 25)),(some ((some 21),false))⟩,⟨(some 27),(.bin .gtr (.t 26) (vz 1073741824)),(some ((some 21),false))⟩,O 28 (.pick (.t 21) (.v bt) (.t 27)),O 29 (.mov (.t 28)),⟨(some 30),(.mov (.t 0)),(some ((some 29),false))⟩,⟨(some 31),(.mov (.t 3)),(some ((some 29),false))⟩,⟨(some 32),(.ixAS ag2 2 (.t 30) (.t 31)),(some ((some 29),false))⟩,⟨(some 33),(.fldA 1 (.t 32)),(some ((some 29),false))⟩,⟨(some 34),(.load false 1 (.t 33)),(some ((some 29),false))⟩,⟨(some 35),(.bin .lss (.t 34) (vz (-1073741824))),(some ((some 29),false))⟩,O 36 (.pick (.t 29) (.v bt) (.t 35)),O 37 (.mov (.t 36)),⟨(some 38),(.mov (.t 0)),(some ((some 37),false))⟩,⟨(some 39),(.mov (.t 3)),(some ((some 37),false))⟩,⟨(some 40),(.ixAS ag2 2 (.t 38) (.t 39)),(some ((some 37),false))⟩,⟨(some 41),(.fldA 1 (.t 40)),(some ((some 37),false))⟩,⟨(some 42),(.load false 1 (.t 41)),(some ((some 37),false))⟩,⟨(some 43),(.bin .gtr (.t 42) (vz 1073741824)),(some ((some 37),false))⟩,O 44 (.pick (.t 37) (.v bt) (.t 43))]) (.cond (.t 44) (.seq (.reg [O 2 (.mov (.v bf))]) .ret) .skip))) (.reg [O 13 (.mov (.t 3)),O 14 (.bin .add (.t 13) (vz 1)),O 3 (.mov (.t 14))])))))) (.seq (.reg [O 45 (.mov (.t 0)),O 46 (.call .b (.v (.fn 46 [] [])) [(.t 45)]),O 2 (.mov (.t 46))]) .ret)))⟩
def c37:AFn:=⟨31,[(.tmp 4)],(.seq (.reg [O 4 (.mov (vz 0))]) (.seq (.seq (.reg [O 7 (.mov (.t 0)),O 8 (.eqv false 1 [] (.t 7) (.v .nilp))]) (.cond (.t 8) (.seq (.reg [O 4 (.mov (vz 0))]) .ret) .skip)) (.block 0 (.loop (.block 1 (.seq (.reg [O 9 (.mov (.t 0)),O 10 (.nilck (.t 9)),O 11 (.fldA 0 (.t 10)),O 12 (.call i6 (.v (.fn 39 [] [])) [(.t 11)]),O 5 (.mov (.t 12))]) (.seq (.reg [O 13 (.mov (.t 5)),O 14 (.mov (.t 1)),O 15 (.bk .max [(.t 14),(vz 0)]),O 16 (.mov (.t 0)),O 17 (.nilck (.t 16)),O 18 (.fldA 1 (.t 17)),O 19 (.load false 1 (.t 18)),O 20 (.mov (.t 5)),O 21 (.bin .sub (.t 19) (.t 20)),O 22 (.bk .min [(.t 15),(.t 21)]),O 23 (.bin .add (.t 13) (.t 22)),O 6 (.mov (.t 23))]) (.seq (.reg [O 24 (.mov (.t 0)),O 25 (.nilck (.t 24)),O 26 (.fldA 0 (.t 25)),O 27 (.mov (.t 5)),O 28 (.mov (.t 6)),O 29 (.call .b (.v (.fn 47 [] [])) [(.t 26),(.t 27),(.t 28)])]) (.cond (.t 29) (.seq (.reg [O 30 (.mov (.t 6)),O 4 (.mov (.t 30))]) .ret) .skip)))))))))⟩
def c38:AFn:=⟨9,[],(.reg [O 4 (.mov (.t 0)),O 5 (.nilck (.t 4)),O 6 (.fldA 0 (.t 5)),O 7 (.mov (.t 1)),O 8 (.call (.tup []) (.v (.fn 48 [] [])) [(.t 6),(.t 7)])])⟩
def c39:AFn:=⟨7,[(.tmp 2)],(.seq (.reg [O 2 (.mov (vz 0))]) (.seq (.reg [O 3 (.mov (.t 0)),O 4 (.nilck (.t 3)),O 5 (.fldA 0 (.t 4)),O 6 (.call i6 (.v (.fn 49 [] [])) [(.t 5)]),O 2 (.mov (.t 6))]) .ret))⟩
def c40:AFn:=⟨15,[(.tmp 6)],(.seq (.reg [O 6 (.mov (.v bf))]) (.seq (.reg [O 7 (.mov (.t 0)),O 8 (.mov (.t 1)),O 9 (.bin .geq (.t 7) (.t 8)),O 10 (.mov (.t 9)),⟨(some 11),(.mov (.t 0)),(some ((some 10),true))⟩,⟨(some 12),(.mov (.t 2)),(some ((some 10),true))⟩,⟨(some 13),(.bin .leq (.t 11) (.t 12)),(some ((some 10),true))⟩,O 14 (.pick (.t 10) (.t 13) (.v bf)),O 6 (.mov (.t 14))]) .ret))⟩
def c41:AFn:=⟨9,[(.tmp 4)],(.seq (.reg [O 4 (.mov (.v bf))]) (.seq (.reg [O 5 (.mov (.t 0)),O 6 (.mov (.t 1)),O 7 (.call i6 (.v (.fn 50 [] [])) [(.t 5),(.t 6)]),O 8 (.bin .geq (.t 7) (vz 0)),O 4 (.mov (.t 8))]) .ret))⟩
def c42:AFn:=⟨6,[(.tmp 2)],(.seq (.reg [O 1 (.box E43 (.t 0)),O 2 (.mov (.v bf))]) (.seq (.reg [O 3 (.load true 5 (.t 1)),O 4 (.call .b (.v (.fn 43 [] [])) [(.t 3)]),O 5 (.un .not (.t 4)),O 2 (.mov (.t 5))]) .ret))⟩
def c43:AFn:=⟨26,[(.tmp 2)],(.seq (.reg [O 1 (.box E43 (.t 0)),O 2 (.mov (.v bf))]) (.seq (.reg [O 3 (.fldA 0 (.t 1)),O 4 (.load false 1 (.t 3)),O 5 (.call .b (.v (.fn 51 [] [])) [(.t 4)]),O 6 (.mov (.t 5)),⟨(some 7),(.fldA 1 (.t 1)),(some ((some 6),true))⟩,⟨(some 8),(.load false 1 (.t 7)),(some ((some 6),true))⟩,⟨(some 9),(.call .b (.v (.fn 45 [] [])) [(.t 8),(vz 1),(vz 100)]),(some ((some 6),true))⟩,O 10 (.pick (.t 6) (.t 9) (.v bf)),O 11 (.mov (.t 10)),⟨(some 12),(.fldA 2 (.t 1)),(some ((some 11),true))⟩,⟨(some 13),(.load false 1 (.t 12)),(some ((some 11),true))⟩,⟨(some 14),(.call .b (.v (.fn 45 [] [])) [(.t 13),(vz 1),(vz 65536)]),(some ((some 11),true))⟩,O 15 (.pick (.t 11) (.t 14) (.v bf)),O 16 (.mov (.t 15)),⟨(some 17),(.fldA 3 (.t 1)),(some ((some 16),true))⟩,⟨(some 18),(.load false 1 (.t 17)),(some ((some 16),true))⟩,⟨(some 19),(.call .b (.v (.fn 40 [] [])) [(.t 18),(vz 1),(vz 1000000)]),(some ((some 16),true))⟩,O 20 (.pick (.t 16) (.t 19) (.v bf)),O 21 (.mov (.t 20)),⟨(some 22),(.fldA 4 (.t 1)),(some ((some 21),true))⟩,⟨(some 23),(.load false 1 (.t 22)),(some ((some 21),true))⟩,⟨(some 24),(.call .b (.v (.fn 45 [] [])) [(.t 23),(vz 0),(vz 1073741824)]),(some ((some 21),true))⟩,O 25 (.pick (.t 21) (.t 24) (.v bf)),O 2 (.mov (.t 25))]) .ret))⟩
def c44:AFn:=⟨33,[(.tmp 2)],(.seq (.reg [O 2 (.mov (.v bf))]) (.seq (.regD [((O 3 (.mov (.t 0))),[]),((O 4 (.nilck (.t 3))),[]),((O 5 (.fldA 1 (.t 4))),[]),((O 6 (.load false 1 (.t 5))),[]),((O 7 (.mov (.t 0))),[]),((O 8 (.nilck (.t 7))),[]),((O 9 (.fldA 2 (.t 8))),[]),((O 10 (.load false 1 (.t 9))),[]),((O 11 (.mov (.t 0))),[]),((O 12 (.nilck (.t 11))),[]),((O 13 (.fldA 3 (.t 12))),[]),((O 14 (.load false 1 (.t 13))),[]),((O 15 (.bk .min [(.t 6),(.t 10),(.t 14)])),[]),((O 16 (.call .b (.v (.fn 40 [] [])) [(.t 15),(vz 1),(vz 50)])),[1000000]),((O 17 (.mov (.t 16))),[]),(⟨(some 18),(.mov (.t 0)),(some ((some 17),true))⟩,[]),(⟨(some 19),(.nilck (.t 18)),(some ((some 17),true))⟩,[]),(⟨(some 20),(.fldA 1 (.t 19)),(some ((some 17),true))⟩,[]),(⟨(some 21),(.load false 1 (.t 20)),(some ((some 17),true))⟩,[]),(⟨(some 22),(.mov (.t 0)),(some ((some 17),true))⟩,[]),(⟨(some 23),(.nilck (.t 22)),(some ((some 17),true))⟩,[]),(⟨(some 24),(.fldA 2 (.t 23)),(some ((some 17),true))⟩,[]),(⟨(some 25),(.load false 1 (.t 24)),(some ((some 17),true))⟩,[]),(⟨(some 26),(.mov (.t 0)),(some ((some 17),true))⟩,[]),(⟨(some 27),(.nilck (.t 26)),(some ((some 17),true))⟩,[]),(⟨(some 28),(.fldA 3 (.t 27)),(some ((some 17),true))⟩,[]),(⟨(some 29),(.load false 1 (.t 28)),(some ((some 17),true))⟩,[]),(⟨(some 30),(.bk .max [(.t 21),(.t 25),(.t 29)]),(some ((some 17),true))⟩,[]),(⟨(some 31),(.call .b (.v (.fn 40 [] [])) [(.t 30),(vz 1),(vz 50)]),(some ((some 17),true))⟩,[1000000]),((O 32 (.pick (.t 17) (.t 31) (.v bf))),[]),((O 2 (.mov (.t 32))),[])]) .ret))⟩
def c45:AFn:=⟨15,[(.tmp 6)],(.seq (.reg [O 6 (.mov (.v bf))]) (.seq (.reg [O 7 (.mov (.t 0)),O 8 (.mov (.t 1)),O 9 (.bin .geq (.t 7) (.t 8)),O 10 (.mov (.t 9)),⟨(some 11),(.mov (.t 0)),(some ((some 10),true))⟩,⟨(some 12),(.mov (.t 2)),(some ((some 10),true))⟩,⟨(some 13),(.bin .leq (.t 11) (.t 12)),(some ((some 10),true))⟩,O 14 (.pick (.t 10) (.t 13) (.v bf)),O 6 (.mov (.t 14))]) .ret))⟩
def c46:AFn:=⟨100,[(.tmp 2)],(.seq (.reg [O 2 (.mov (.v bf))]) (.seq (.reg [O 11 (.mov (.t 0)),O 12 (.bk .lenV [(.t 11)]),O 3 (.mov (.t 12))]) (.seq (.seq (.reg [O 13 (.mov (.t 3)),O 14 (.bin .lss (.t 13) (vz 3)),O 15 (.mov (.t 14)),⟨(some 16),(.mov (.t 3)),(some ((some 15),false))⟩,⟨(some 17),(.bin .gtr (.t 16) (vz 8)),(some ((some 15),false))⟩,O 18 (.pick (.t 15) (.v bt) (.t 17))]) (.cond (.t 18) (.seq (.reg [O 2 (.mov (.v bf))]) .ret) .skip)) (.seq (.seq (.reg [O 4 (.mov (vz 0))]) (.block 0 (.loop (.seq (.seq (.reg [O 19 (.mov (.t 4)),O 20 (.mov (.t 3)),O 21 (.bin .lss (.t 19) (.t 20))]) (.cond (.t 21) .skip (.exit 0))) (.seq (.block 1 (.seq (.reg [O 24 (.mov (.t 0)),O 25 (.mov (.t 4)),O 26 (.ixAS ag2 2 (.t 24) (.t 25)),O 27 (.load true 2 (.t 26)),O 28 (.call .b (.v (.fn 52 [] [])) [(.t 27)]),O 29 (.un .not (.t 28))]) (.cond (.t 29) (.seq (.reg [O 2 (.mov (.v bf))]) .ret) .skip))) (.reg [O 22 (.mov (.t 4)),O 23 (.bin .add (.t 22) (vz 1)),O 4 (.mov (.t 23))])))))) (.seq (.seq (.reg [O 5 (.mov (vz 0))]) (.block 2 (.loop (.seq (.seq (.reg [O 30 (.mov (.t 5)),O 31 (.mov (.t 3)),O 32 (.bin .lss (.t 30) (.t 31))]) (.cond (.t 32) .skip (.exit 2))) (.seq (.block 3 (.seq (.reg [O 35 (.mov (.t 5)),O 36 (.bin .add (.t 35) (vz 1)),O 6 (.mov (.t 36))]) (.block 4 (.loop (.seq (.seq (.reg [O 37 (.mov (.t 6)),O 38 (.mov (.t 3)),O 39 (.bin .lss (.t 37) (.t 38))]) (.cond (.t 39) .skip (.exit 4))) (.seq (.block 5 (.seq (.regD [((O 42 (.mov (.t 0))),[]),((O 43 (.mov (.t 5))),[]),((O 44 (.ixAS ag2 2 (.t 42) (.t 43))),[]),((O 45 (.load true 2 (.t 44))),[]),((O 46 (.mov (.t 0))),[]),((O 47 (.mov (.t 5))),[]),((O 48 (.call ag2 (.v (.fn 53 [] [])) [(.t 46),(.t 47)])),[]),((O 49 (.mov (.t 0))),[]),((O 50 (.mov (.t 6))),[]),((O 51 (.ixAS ag2 2 (.t 49) (.t 50))),[]),((O 52 (.load true 2 (.t 51))),[]),((O 53 (.mov (.t 0))),[]),((O 54 (.mov (.t 6))),[]),((O 55 (.call ag2 (.v (.fn 53 [] [])) [(.t 53),(.t 54)])),[]),((O 7 (.alloc E62)),[]),((O 8 (.alloc E62)),[]),((O 9 (.alloc E62)),[]),((O 10 (.alloc E62)),[]),(⟨none,(.store 2 (.t 7) (.t 45)),none⟩,[10]),(⟨none,(.store 2 (.t 8) (.t 48)),none⟩,[10]),(⟨none,(.store 2 (.t 9) (.t 52)),none⟩,[]),(⟨none,(.store 2 (.t 10) (.t 55)),none⟩,[])]) (.block 6 (.seq (.reg [O 57 (.load true 2 (.t 7)),O 58 (.load true 2 (.t 9)),O 59 (.eqv false 4 i62 (.t 57) (.t 58)),O 56 (.mov (.t 59))]) (.cond (.t 56) (.seq (.reg [O 2 (.mov (.v bf))]) .ret) (.seq (.reg [O 61 (.mov (.t 6)),O 62 (.mov (.t 5)),O 63 (.bin .add (.t 62) (vz 1)),O 64 (.bin .eql (.t 61) (.t 63)),O 60 (.mov (.t 64))]) (.cond (.t 60) (.seq (.reg [O 65 (.load true 2 (.t 10)),O 66 (.load true 2 (.t 7)),O 67 (.load true 2 (.t 8)),O 68 (.call .b (.v (.fn 54 [] [])) [(.t 65),(.t 66),(.t 67)]),O 69 (.mov (.t 68)),⟨(some 70),(.load true 2 (.t 7)),(some ((some 69),false))⟩,⟨(some 71),(.load true 2 (.t 9)),(some ((some 69),false))⟩,⟨(some 72),(.load true 2 (.t 10)),(some ((some 69),false))⟩,⟨(some 73),(.call .b (.v (.fn 54 [] [])) [(.t 70),(.t 71),(.t 72)]),(some ((some 69),false))⟩,O 74 (.pick (.t 69) (.v bt) (.t 73))]) (.cond (.t 74) (.seq (.reg [O 2 (.mov (.v bf))]) .ret) .skip)) (.seq (.reg [O 76 (.mov (.t 5)),O 77 (.bin .eql (.t 76) (vz 0)),O 78 (.mov (.t 77)),⟨(some 79),(.mov (.t 6)),(some ((some 78),true))⟩,⟨(some 80),(.mov (.t 3)),(some ((some 78),true))⟩,⟨(some 81),(.bin .sub (.t 80) (vz 1)),(some ((some 78),true))⟩,⟨(some 82),(.bin .eql (.t 79) (.t 81)),(some ((some 78),true))⟩,O 83 (.pick (.t 78) (.t 82) (.v bf)),O 75 (.mov (.t 83))]) (.cond (.t 75) (.seq (.reg [O 84 (.load true 2 (.t 9)),O 85 (.load true 2 (.t 7)),O 86 (.load true 2 (.t 8)),O 87 (.call .b (.v (.fn 54 [] [])) [(.t 84),(.t 85),(.t 86)]),O 88 (.mov (.t 87)),⟨(some 89),(.load true 2 (.t 8)),(some ((some 88),false))⟩,⟨(some 90),(.load true 2 (.t 9)),(some ((some 88),false))⟩,⟨(some 91),(.load true 2 (.t 10)),(some ((some 88),false))⟩,⟨(some 92),(.call .b (.v (.fn 54 [] [])) [(.t 89),(.t 90),(.t 91)]),(some ((some 88),false))⟩,O 93 (.pick (.t 88) (.v bt) (.t 92))]) (.cond (.t 93) (.seq (.reg [O 2 (.mov (.v bf))]) .ret) .skip)) (.seq (.reg [O 95 (.load true 2 (.t 7)),O 96 (.load true 2 (.t 8)),O 97 (.load true 2 (.t 9)),O 98 (.load true 2 (.t 10)),O 99 (.call .b (.v (.fn 55 [] [])) [(.t 95),(.t 96),(.t 97),(.t 98)]),O 94 (.mov (.t 99))]) (.cond (.t 94) (.seq (.reg [O 2 (.mov (.v bf))]) .ret) .skip))))))))))) (.reg [O 40 (.mov (.t 6)),O 41 (.bin .add (.t 40) (vz 1)),O 6 (.mov (.t 41))]))))))) (.reg [O 33 (.mov (.t 5)),O 34 (.bin .add (.t 33) (vz 1)),O 5 (.mov (.t 34))])))))) (.seq (.reg [O 2 (.mov (.v bt))]) .ret))))))⟩
def c47:AFn:=⟨13,[(.tmp 6)],(.seq (.reg [O 6 (.mov (.v bf))]) (.seq (.reg [O 7 (.mov (.t 0)),O 8 (.nilck (.t 7)),O 9 (.fldA 0 (.t 8)),O 10 (.mov (.t 1)),O 11 (.mov (.t 2)),O 12 (.call .b (.v (.fn 56 [] [])) [(.t 9),(.t 10),(.t 11)]),O 6 (.mov (.t 12))]) .ret))⟩
def c50:AFn:=⟨19,[(.tmp 4)],(.seq (.reg [O 4 (.mov (vz 0))]) (.seq (.seq (.reg [O 6 (.mov (.t 0)),O 7 (.bk .lenV [(.t 6)]),O 8 (.mov (vz 0))]) (.block 0 (.loop (.seq (.reg [O 9 (.bin .lss (.t 8) (.t 7))]) (.seq (.cond (.t 9) .skip (.exit 0)) (.seq (.block 1 (.seq (.reg [O 10 (.mov (.t 8)),O 5 (.mov (.t 10))]) (.seq (.reg [O 11 (.mov (.t 1)),O 12 (.mov (.t 0)),O 13 (.mov (.t 5)),O 14 (.ixAS (.agg [.l,i6,i6,i6,i6]) 5 (.t 12) (.t 13)),O 15 (.load true 5 (.t 14)),O 16 (.call .b (.t 11) [(.t 15)])]) (.cond (.t 16) (.seq (.reg [O 17 (.mov (.t 5)),O 4 (.mov (.t 17))]) .ret) .skip)))) (.reg [O 18 (.bin .add (.t 8) (vz 1)),O 8 (.mov (.t 18))]))))))) (.seq (.reg [O 4 (.mov (vz (-1)))]) .ret)))⟩
def c51:AFn:=⟨10,[(.tmp 2)],(.seq (.reg [O 2 (.mov (.v bf))]) (.seq (.reg [O 3 (.mov (.t 0)),O 4 (.call .b (.v (.fn 57 [] [])) [(.t 3)]),O 5 (.mov (.t 4)),⟨(some 6),(.mov (.t 0)),(some ((some 5),true))⟩,⟨(some 7),(.call .b (.v (.fn 58 [] [])) [(.t 6),(.v (.fn 59 [] []))]),(some ((some 5),true))⟩,⟨(some 8),(.un .not (.t 7)),(some ((some 5),true))⟩,O 9 (.pick (.t 5) (.t 8) (.v bf)),O 2 (.mov (.t 9))]) .ret))⟩
def c52:AFn:=⟨21,[(.tmp 2)],(.seq (.reg [O 1 (.box E62 (.t 0)),O 2 (.mov (.v bf))]) (.seq (.reg [O 3 (.fldA 0 (.t 1)),O 4 (.load false 1 (.t 3)),O 5 (.bin .geq (.t 4) (vz (-1099511627776))),O 6 (.mov (.t 5)),⟨(some 7),(.fldA 0 (.t 1)),(some ((some 6),true))⟩,⟨(some 8),(.load false 1 (.t 7)),(some ((some 6),true))⟩,⟨(some 9),(.bin .leq (.t 8) (vz 1099511627776)),(some ((some 6),true))⟩,O 10 (.pick (.t 6) (.t 9) (.v bf)),O 11 (.mov (.t 10)),⟨(some 12),(.fldA 1 (.t 1)),(some ((some 11),true))⟩,⟨(some 13),(.load false 1 (.t 12)),(some ((some 11),true))⟩,⟨(some 14),(.bin .geq (.t 13) (vz (-1099511627776))),(some ((some 11),true))⟩,O 15 (.pick (.t 11) (.t 14) (.v bf)),O 16 (.mov (.t 15)),⟨(some 17),(.fldA 1 (.t 1)),(some ((some 16),true))⟩,⟨(some 18),(.load false 1 (.t 17)),(some ((some 16),true))⟩,⟨(some 19),(.bin .leq (.t 18) (vz 1099511627776)),(some ((some 16),true))⟩,O 20 (.pick (.t 16) (.t 19) (.v bf)),O 2 (.mov (.t 20))]) .ret))⟩
def c53:AFn:=⟨13,[(.cell true 2 4)],(.seq (.reg [O 4 (.alloc E62)]) (.seq (.reg [O 5 (.mov (.t 0)),O 6 (.mov (.t 1)),O 7 (.bin .add (.t 6) (vz 1)),O 8 (.mov (.t 0)),O 9 (.bk .lenV [(.t 8)]),O 10 (.bin .rem (.t 7) (.t 9)),O 11 (.ixAS ag2 2 (.t 5) (.t 10)),O 12 (.load true 2 (.t 11)),⟨none,(.store 2 (.t 4) (.t 12)),none⟩]) .ret))⟩
def c54:AFn:=⟨65,[(.tmp 6)],(.seq (.reg [O 3 (.box E62 (.t 0)),O 4 (.box E62 (.t 1)),O 5 (.box E62 (.t 2)),O 6 (.mov (.v bf))]) (.seq (.seq (.reg [O 7 (.load true 2 (.t 4)),O 8 (.call .b (.v (.fn 52 [] [])) [(.t 7)]),O 9 (.un .not (.t 8)),O 10 (.mov (.t 9)),⟨(some 11),(.load true 2 (.t 5)),(some ((some 10),false))⟩,⟨(some 12),(.call .b (.v (.fn 52 [] [])) [(.t 11)]),(some ((some 10),false))⟩,⟨(some 13),(.un .not (.t 12)),(some ((some 10),false))⟩,O 14 (.pick (.t 10) (.v bt) (.t 13)),O 15 (.mov (.t 14)),⟨(some 16),(.load true 2 (.t 3)),(some ((some 15),false))⟩,⟨(some 17),(.call .b (.v (.fn 52 [] [])) [(.t 16)]),(some ((some 15),false))⟩,⟨(some 18),(.un .not (.t 17)),(some ((some 15),false))⟩,O 19 (.pick (.t 15) (.v bt) (.t 18)),O 20 (.mov (.t 19)),⟨(some 21),(.load true 2 (.t 4)),(some ((some 20),false))⟩,⟨(some 22),(.load true 2 (.t 5)),(some ((some 20),false))⟩,⟨(some 23),(.load true 2 (.t 3)),(some ((some 20),false))⟩,⟨(some 24),(.call i6 (.v (.fn 60 [] [])) [(.t 21),(.t 22),(.t 23)]),(some ((some 20),false))⟩,⟨(some 25),(.bin .neq (.t 24) (vz 0)),(some ((some 20),false))⟩,O 26 (.pick (.t 20) (.v bt) (.t 25))]) (.cond (.t 26) (.seq (.reg [O 6 (.mov (.v bf))]) .ret) .skip)) (.seq (.reg [O 27 (.fldA 0 (.t 3)),O 28 (.load false 1 (.t 27)),O 29 (.fldA 0 (.t 4)),O 30 (.load false 1 (.t 29)),O 31 (.fldA 0 (.t 5)),O 32 (.load false 1 (.t 31)),O 33 (.bk .min [(.t 30),(.t 32)]),O 34 (.bin .geq (.t 28) (.t 33)),O 35 (.mov (.t 34)),⟨(some 36),(.fldA 0 (.t 3)),(some ((some 35),true))⟩,⟨(some 37),(.load false 1 (.t 36)),(some ((some 35),true))⟩,⟨(some 38),(.fldA 0 (.t 4)),(some ((some 35),true))⟩,⟨(some 39),(.load false 1 (.t 38)),(some ((some 35),true))⟩,⟨(some 40),(.fldA 0 (.t 5)),(some ((some 35),true))⟩,⟨(some 41),(.load false 1 (.t 40)),(some ((some 35),true))⟩,⟨(some 42),(.bk .max [(.t 39),(.t 41)]),(some ((some 35),true))⟩,⟨(some 43),(.bin .leq (.t 37) (.t 42)),(some ((some 35),true))⟩,O 44 (.pick (.t 35) (.t 43) (.v bf)),O 45 (.mov (.t 44)),⟨(some 46),(.fldA 1 (.t 3)),(some ((some 45),true))⟩,⟨(some 47),(.load false 1 (.t 46)),(some ((some 45),true))⟩,⟨(some 48),(.fldA 1 (.t 4)),(some ((some 45),true))⟩,⟨(some 49),(.load false 1 (.t 48)),(some ((some 45),true))⟩,⟨(some 50),(.fldA 1 (.t 5)),(some ((some 45),true))⟩,⟨(some 51),(.load false 1 (.t 50)),(some ((some 45),true))⟩,⟨(some 52),(.bk .min [(.t 49),(.t 51)]),(some ((some 45),true))⟩,⟨(some 53),(.bin .geq (.t 47) (.t 52)),(some ((some 45),true))⟩,O 54 (.pick (.t 45) (.t 53) (.v bf)),O 55 (.mov (.t 54)),⟨(some 56),(.fldA 1 (.t 3)),(some ((some 55),true))⟩,⟨(some 57),(.load false 1 (.t 56)),(some ((some 55),true))⟩,⟨(some 58),(.fldA 1 (.t 4)),(some ((some 55),true))⟩,⟨(some 59),(.load false 1 (.t 58)),(some ((some 55),true))⟩,⟨(some 60),(.fldA 1 (.t 5)),(some ((some 55),true))⟩,⟨(some 61),(.load false 1 (.t 60)),(some ((some 55),true))⟩,⟨(some 62),(.bk .max [(.t 59),(.t 61)]),(some ((some 55),true))⟩,⟨(some 63),(.bin .leq (.t 57) (.t 62)),(some ((some 55),true))⟩,O 64 (.pick (.t 55) (.t 63) (.v bf)),O 6 (.mov (.t 64))]) .ret)))⟩
def c55:AFn:=⟨71,[(.tmp 8)],(.seq (.reg [O 4 (.box E62 (.t 0)),O 5 (.box E62 (.t 1)),O 6 (.box E62 (.t 2)),O 7 (.box E62 (.t 3)),O 8 (.mov (.v bf))]) (.seq (.seq (.reg [O 9 (.load true 2 (.t 4)),O 10 (.call .b (.v (.fn 52 [] [])) [(.t 9)]),O 11 (.un .not (.t 10)),O 12 (.mov (.t 11)),⟨(some 13),(.load true 2 (.t 5)),(some ((some 12),false))⟩,⟨(some 14),(.call .b (.v (.fn 52 [] [])) [(.t 13)]),(some ((some 12),false))⟩,⟨(some 15),(.un .not (.t 14)),(some ((some 12),false))⟩,O 16 (.pick (.t 12) (.v bt) (.t 15)),O 17 (.mov (.t 16)),⟨(some 18),(.load true 2 (.t 6)),(some ((some 17),false))⟩,⟨(some 19),(.call .b (.v (.fn 52 [] [])) [(.t 18)]),(some ((some 17),false))⟩,⟨(some 20),(.un .not (.t 19)),(some ((some 17),false))⟩,O 21 (.pick (.t 17) (.v bt) (.t 20)),O 22 (.mov (.t 21)),⟨(some 23),(.load true 2 (.t 7)),(some ((some 22),false))⟩,⟨(some 24),(.call .b (.v (.fn 52 [] [])) [(.t 23)]),(some ((some 22),false))⟩,⟨(some 25),(.un .not (.t 24)),(some ((some 22),false))⟩,O 26 (.pick (.t 22) (.v bt) (.t 25))]) (.cond (.t 26) (.seq (.reg [O 8 (.mov (.v bf))]) .ret) .skip)) (.seq (.seq (.reg [O 27 (.load true 2 (.t 4)),O 28 (.load true 2 (.t 6)),O 29 (.load true 2 (.t 7)),O 30 (.call .b (.v (.fn 54 [] [])) [(.t 27),(.t 28),(.t 29)]),O 31 (.mov (.t 30)),⟨(some 32),(.load true 2 (.t 5)),(some ((some 31),false))⟩,⟨(some 33),(.load true 2 (.t 6)),(some ((some 31),false))⟩,⟨(some 34),(.load true 2 (.t 7)),(some ((some 31),false))⟩,⟨(some 35),(.call .b (.v (.fn 54 [] [])) [(.t 32),(.t 33),(.t 34)]),(some ((some 31),false))⟩,O 36 (.pick (.t 31) (.v bt) (.t 35)),O 37 (.mov (.t 36)),⟨(some 38),(.load true 2 (.t 6)),(some ((some 37),false))⟩,⟨(some 39),(.load true 2 (.t 4)),(some ((some 37),false))⟩,⟨(some 40),(.load true 2 (.t 5)),(some ((some 37),false))⟩,⟨(some 41),(.call .b (.v (.fn 54 [] [])) [(.t 38),(.t 39),(.t 40)]),(some ((some 37),false))⟩,O 42 (.pick (.t 37) (.v bt) (.t 41)),O 43 (.mov (.t 42)),⟨(some 44),(.load true 2 (.t 7)),(some ((some 43),false))⟩,⟨(some 45),(.load true 2 (.t 4)),(some ((some 43),false))⟩,⟨(some 46),(.load true 2 (.t 5)),(some ((some 43),false))⟩,⟨(some 47),(.call .b (.v (.fn 54 [] [])) [(.t 44),(.t 45),(.t 46)]),(some ((some 43),false))⟩,O 48 (.pick (.t 43) (.v bt) (.t 47))]) (.cond (.t 48) (.seq (.reg [O 8 (.mov (.v bt))]) .ret) .skip)) (.seq (.regD [((O 49 (.load true 2 (.t 4))),[]),((O 50 (.load true 2 (.t 5))),[]),((O 51 (.load true 2 (.t 6))),[]),((O 52 (.call i6 (.v (.fn 60 [] [])) [(.t 49),(.t 50),(.t 51)])),[]),((O 53 (.load true 2 (.t 4))),[]),((O 54 (.load true 2 (.t 5))),[]),((O 55 (.load true 2 (.t 7))),[]),((O 56 (.call i6 (.v (.fn 60 [] [])) [(.t 53),(.t 54),(.t 55)])),[1000000]),((O 57 (.bin .mul (.t 52) (.t 56))),[]),((O 58 (.bin .lss (.t 57) (vz 0))),[]),((O 59 (.mov (.t 58))),[]),(⟨(some 60),(.load true 2 (.t 6)),(some ((some 59),true))⟩,[]),(⟨(some 61),(.load true 2 (.t 7)),(some ((some 59),true))⟩,[]),(⟨(some 62),(.load true 2 (.t 4)),(some ((some 59),true))⟩,[]),(⟨(some 63),(.call i6 (.v (.fn 60 [] [])) [(.t 60),(.t 61),(.t 62)]),(some ((some 59),true))⟩,[]),(⟨(some 64),(.load true 2 (.t 6)),(some ((some 59),true))⟩,[]),(⟨(some 65),(.load true 2 (.t 7)),(some ((some 59),true))⟩,[]),(⟨(some 66),(.load true 2 (.t 5)),(some ((some 59),true))⟩,[]),(⟨(some 67),(.call i6 (.v (.fn 60 [] [])) [(.t 64),(.t 65),(.t 66)]),(some ((some 59),true))⟩,[1000000]),(⟨(some 68),(.bin .mul (.t 63) (.t 67)),(some ((some 59),true))⟩,[]),(⟨(some 69),(.bin .lss (.t 68) (vz 0)),(some ((some 59),true))⟩,[]),((O 70 (.pick (.t 59) (.t 69) (.v bf))),[]),((O 8 (.mov (.t 70))),[])]) .ret))))⟩
def c57:AFn:=⟨44,[(.tmp 2)],(.seq (.reg [O 2 (.mov (.v bf))]) (.seq (.reg [O 6 (.mov (.t 0)),O 7 (.bk .lenV [(.t 6)]),O 3 (.mov (.t 7))]) (.seq (.seq (.reg [O 8 (.mov (.t 3)),O 9 (.bin .lss (.t 8) (vz 3)),O 10 (.mov (.t 9)),⟨(some 11),(.mov (.t 3)),(some ((some 10),false))⟩,⟨(some 12),(.bin .gtr (.t 11) (vz 8)),(some ((some 10),false))⟩,O 13 (.pick (.t 10) (.v bt) (.t 12)),O 14 (.mov (.t 13)),⟨(some 15),(.mov (.t 0)),(some ((some 14),false))⟩,⟨(some 16),(.call .b (.v (.fn 58 [] [])) [(.t 15),(.v (.fn 61 [] []))]),(some ((some 14),false))⟩,O 17 (.pick (.t 14) (.v bt) (.t 16))]) (.cond (.t 17) (.seq (.reg [O 2 (.mov (.v bf))]) .ret) .skip)) (.seq (.seq (.reg [O 18 (.mov (.t 3)),O 19 (.mov (vz 0))]) (.block 0 (.loop (.seq (.reg [O 20 (.bin .lss (.t 19) (.t 18))]) (.seq (.cond (.t 20) .skip (.exit 0)) (.seq (.block 1 (.seq (.reg [O 21 (.mov (.t 19)),O 4 (.mov (.t 21))]) (.seq (.reg [O 22 (.mov (.t 4)),O 23 (.mov (vz 0))]) (.block 2 (.loop (.seq (.reg [O 24 (.bin .lss (.t 23) (.t 22))]) (.seq (.cond (.t 24) .skip (.exit 2)) (.seq (.block 3 (.seq (.reg [O 25 (.mov (.t 23)),O 5 (.mov (.t 25))]) (.seq (.regD [((O 26 (.mov (.t 0))),[]),((O 27 (.mov (.t 4))),[]),((O 28 (.ixAS ag2 2 (.t 26) (.t 27))),[]),((O 29 (.load true 2 (.t 28))),[]),((O 30 (.mov (.t 0))),[]),((O 31 (.mov (.t 5))),[]),((O 32 (.ixAS ag2 2 (.t 30) (.t 31))),[]),((O 33 (.load true 2 (.t 32))),[]),((O 34 (.eqv false 4 i62 (.t 29) (.t 33))),[]),((O 35 (.mov (.t 34))),[]),(⟨(some 36),(.mov (.t 0)),(some ((some 35),false))⟩,[]),(⟨(some 37),(.mov (.t 5)),(some ((some 35),false))⟩,[]),(⟨(some 38),(.mov (.t 4)),(some ((some 35),false))⟩,[]),(⟨(some 39),(.call .b (.v (.fn 63 [] [])) [(.t 36),(.t 37),(.t 38)]),(some ((some 35),false))⟩,[1000000]),(⟨(some 40),(.un .not (.t 39)),(some ((some 35),false))⟩,[]),((O 41 (.pick (.t 35) (.v bt) (.t 40))),[])]) (.cond (.t 41) (.seq (.reg [O 2 (.mov (.v bf))]) .ret) .skip)))) (.reg [O 42 (.bin .add (.t 23) (vz 1)),O 23 (.mov (.t 42))]))))))))) (.reg [O 43 (.bin .add (.t 19) (vz 1)),O 19 (.mov (.t 43))]))))))) (.seq (.reg [O 2 (.mov (.v bt))]) .ret)))))⟩
def c58:AFn:=⟨9,[(.tmp 4)],(.seq (.reg [O 4 (.mov (.v bf))]) (.seq (.reg [O 5 (.mov (.t 0)),O 6 (.mov (.t 1)),O 7 (.call i6 (.v (.fn 64 [] [])) [(.t 5),(.t 6)]),O 8 (.bin .geq (.t 7) (vz 0)),O 4 (.mov (.t 8))]) .ret))⟩
def c59:AFn:=⟨15,[(.tmp 2)],(.seq (.reg [O 1 (.box E62 (.t 0)),O 2 (.mov (.v bf))]) (.seq (.reg [O 3 (.fldA 0 (.t 1)),O 4 (.load false 1 (.t 3)),O 5 (.fldA 0 (.t 1)),O 6 (.load false 1 (.t 5)),O 7 (.un .neg (.t 6)),O 8 (.fldA 1 (.t 1)),O 9 (.load false 1 (.t 8)),O 10 (.fldA 1 (.t 1)),O 11 (.load false 1 (.t 10)),O 12 (.un .neg (.t 11)),O 13 (.bk .max [(.t 4),(.t 7),(.t 9),(.t 12)]),O 14 (.bin .gtr (.t 13) (vz 1073741824)),O 2 (.mov (.t 14))]) .ret))⟩
def c60:AFn:=⟨43,[(.tmp 6)],(.seq (.reg [O 3 (.box E62 (.t 0)),O 4 (.box E62 (.t 1)),O 5 (.box E62 (.t 2)),O 6 (.mov (vz 0))]) (.seq (.seq (.reg [O 7 (.load true 2 (.t 3)),O 8 (.call .b (.v (.fn 52 [] [])) [(.t 7)]),O 9 (.un .not (.t 8)),O 10 (.mov (.t 9)),⟨(some 11),(.load true 2 (.t 4)),(some ((some 10),false))⟩,⟨(some 12),(.call .b (.v (.fn 52 [] [])) [(.t 11)]),(some ((some 10),false))⟩,⟨(some 13),(.un .not (.t 12)),(some ((some 10),false))⟩,O 14 (.pick (.t 10) (.v bt) (.t 13)),O 15 (.mov (.t 14)),⟨(some 16),(.load true 2 (.t 5)),(some ((some 15),false))⟩,⟨(some 17),(.call .b (.v (.fn 52 [] [])) [(.t 16)]),(some ((some 15),false))⟩,⟨(some 18),(.un .not (.t 17)),(some ((some 15),false))⟩,O 19 (.pick (.t 15) (.v bt) (.t 18))]) (.cond (.t 19) (.seq (.reg [O 6 (.mov (vz 0))]) .ret) .skip)) (.seq (.regD [((O 20 (.fldA 0 (.t 4))),[]),((O 21 (.load false 1 (.t 20))),[]),((O 22 (.fldA 0 (.t 3))),[]),((O 23 (.load false 1 (.t 22))),[]),((O 24 (.bin .sub (.t 21) (.t 23))),[]),((O 25 (.fldA 1 (.t 5))),[]),((O 26 (.load false 1 (.t 25))),[]),((O 27 (.fldA 1 (.t 3))),[]),((O 28 (.load false 1 (.t 27))),[]),((O 29 (.bin .sub (.t 26) (.t 28))),[]),((O 30 (.call (.agg [i6,(.i .u64)]) (.v (.fn 66 [] [])) [(.t 24),(.t 29)])),[]),((O 31 (.fldA 1 (.t 4))),[]),((O 32 (.load false 1 (.t 31))),[]),((O 33 (.fldA 1 (.t 3))),[]),((O 34 (.load false 1 (.t 33))),[]),((O 35 (.bin .sub (.t 32) (.t 34))),[]),((O 36 (.fldA 0 (.t 5))),[]),((O 37 (.load false 1 (.t 36))),[]),((O 38 (.fldA 0 (.t 3))),[]),((O 39 (.load false 1 (.t 38))),[]),((O 40 (.bin .sub (.t 37) (.t 39))),[]),((O 41 (.call (.agg [i6,(.i .u64)]) (.v (.fn 66 [] [])) [(.t 35),(.t 40)])),[1000000]),((O 42 (.call i6 (.v (.fn 65 [] [])) [(.t 30),(.t 41)])),[1000000]),((O 6 (.mov (.t 42))),[])]) .ret)))⟩
def c61:AFn:=⟨6,[(.tmp 2)],(.seq (.reg [O 1 (.box E62 (.t 0)),O 2 (.mov (.v bf))]) (.seq (.reg [O 3 (.load true 2 (.t 1)),O 4 (.call .b (.v (.fn 62 [] [])) [(.t 3)]),O 5 (.un .not (.t 4)),O 2 (.mov (.t 5))]) .ret))⟩
def c62:AFn:=⟨11,[(.tmp 2)],(.seq (.reg [O 1 (.box E62 (.t 0)),O 2 (.mov (.v bf))]) (.seq (.reg [O 3 (.fldA 0 (.t 1)),O 4 (.load false 1 (.t 3)),O 5 (.call .b (.v (.fn 67 [] [])) [(.t 4)]),O 6 (.mov (.t 5)),⟨(some 7),(.fldA 1 (.t 1)),(some ((some 6),true))⟩,⟨(some 8),(.load false 1 (.t 7)),(some ((some 6),true))⟩,⟨(some 9),(.call .b (.v (.fn 67 [] [])) [(.t 8)]),(some ((some 6),true))⟩,O 10 (.pick (.t 6) (.t 9) (.v bf)),O 2 (.mov (.t 10))]) .ret))⟩
def c63:AFn:=⟨70,[(.tmp 6)],(.seq (.reg [O 6 (.mov (.v bf))]) (.seq (.reg [O 12 (.mov (.t 0)),O 13 (.bk .lenV [(.t 12)]),O 7 (.mov (.t 13))]) (.seq (.reg [O 15 (.mov (.t 0)),O 16 (.mov (.t 1)),O 17 (.call (.tup [ag2,ag2]) (.v (.fn 68 [] [])) [(.t 15),(.t 16)]),O 14 (.mov (.t 17)),O 18 (.extr (.t 14) 0),O 19 (.extr (.t 14) 1),O 8 (.alloc E62),O 9 (.alloc E62),⟨none,(.store 2 (.t 8) (.t 18)),none⟩,⟨none,(.store 2 (.t 9) (.t 19)),none⟩]) (.seq (.reg [O 21 (.mov (.t 0)),O 22 (.mov (.t 2)),O 23 (.call (.tup [ag2,ag2]) (.v (.fn 68 [] [])) [(.t 21),(.t 22)]),O 20 (.mov (.t 23)),O 24 (.extr (.t 20) 0),O 25 (.extr (.t 20) 1),O 10 (.alloc E62),O 11 (.alloc E62),⟨none,(.store 2 (.t 10) (.t 24)),none⟩,⟨none,(.store 2 (.t 11) (.t 25)),none⟩]) (.seq (.block 0 (.seq (.reg [O 27 (.mov (.t 1)),O 28 (.bin .add (.t 27) (vz 1)),O 29 (.mov (.t 7)),O 30 (.bin .rem (.t 28) (.t 29)),O 31 (.mov (.t 2)),O 32 (.bin .eql (.t 30) (.t 31)),O 26 (.mov (.t 32))]) (.cond (.t 26) (.seq (.reg [O 33 (.load true 2 (.t 11)),O 34 (.load true 2 (.t 8)),O 35 (.load true 2 (.t 9)),O 36 (.call .b (.v (.fn 69 [] [])) [(.t 33),(.t 34),(.t 35)]),O 37 (.un .not (.t 36)),O 38 (.mov (.t 37)),⟨(some 39),(.load true 2 (.t 8)),(some ((some 38),true))⟩,⟨(some 40),(.load true 2 (.t 10)),(some ((some 38),true))⟩,⟨(some 41),(.load true 2 (.t 11)),(some ((some 38),true))⟩,⟨(some 42),(.call .b (.v (.fn 69 [] [])) [(.t 39),(.t 40),(.t 41)]),(some ((some 38),true))⟩,⟨(some 43),(.un .not (.t 42)),(some ((some 38),true))⟩,O 44 (.pick (.t 38) (.t 43) (.v bf)),O 6 (.mov (.t 44))]) .ret) (.seq (.reg [O 46 (.mov (.t 2)),O 47 (.bin .add (.t 46) (vz 1)),O 48 (.mov (.t 7)),O 49 (.bin .rem (.t 47) (.t 48)),O 50 (.mov (.t 1)),O 51 (.bin .eql (.t 49) (.t 50)),O 45 (.mov (.t 51))]) (.cond (.t 45) (.seq (.reg [O 52 (.load true 2 (.t 10)),O 53 (.load true 2 (.t 8)),O 54 (.load true 2 (.t 9)),O 55 (.call .b (.v (.fn 69 [] [])) [(.t 52),(.t 53),(.t 54)]),O 56 (.un .not (.t 55)),O 57 (.mov (.t 56)),⟨(some 58),(.load true 2 (.t 9)),(some ((some 57),true))⟩,⟨(some 59),(.load true 2 (.t 10)),(some ((some 57),true))⟩,⟨(some 60),(.load true 2 (.t 11)),(some ((some 57),true))⟩,⟨(some 61),(.call .b (.v (.fn 69 [] [])) [(.t 58),(.t 59),(.t 60)]),(some ((some 57),true))⟩,⟨(some 62),(.un .not (.t 61)),(some ((some 57),true))⟩,O 63 (.pick (.t 57) (.t 62) (.v bf)),O 6 (.mov (.t 63))]) .ret) .skip))))) (.seq (.reg [O 64 (.load true 2 (.t 8)),O 65 (.load true 2 (.t 9)),O 66 (.load true 2 (.t 10)),O 67 (.load true 2 (.t 11)),O 68 (.call .b (.v (.fn 70 [] [])) [(.t 64),(.t 65),(.t 66),(.t 67)]),O 69 (.un .not (.t 68)),O 6 (.mov (.t 69))]) .ret))))))⟩
def c64:AFn:=⟨19,[(.tmp 4)],(.seq (.reg [O 4 (.mov (vz 0))]) (.seq (.seq (.reg [O 6 (.mov (.t 0)),O 7 (.bk .lenV [(.t 6)]),O 8 (.mov (vz 0))]) (.block 0 (.loop (.seq (.reg [O 9 (.bin .lss (.t 8) (.t 7))]) (.seq (.cond (.t 9) .skip (.exit 0)) (.seq (.block 1 (.seq (.reg [O 10 (.mov (.t 8)),O 5 (.mov (.t 10))]) (.seq (.reg [O 11 (.mov (.t 1)),O 12 (.mov (.t 0)),O 13 (.mov (.t 5)),O 14 (.ixAS ag2 2 (.t 12) (.t 13)),O 15 (.load true 2 (.t 14)),O 16 (.call .b (.t 11) [(.t 15)])]) (.cond (.t 16) (.seq (.reg [O 17 (.mov (.t 5)),O 4 (.mov (.t 17))]) .ret) .skip)))) (.reg [O 18 (.bin .add (.t 8) (vz 1)),O 8 (.mov (.t 18))]))))))) (.seq (.reg [O 4 (.mov (vz (-1)))]) .ret)))⟩
def c65:AFn:=⟨29,[(.tmp 4)],(.seq (.reg [O 2 (.box E98 (.t 0)),O 3 (.box E98 (.t 1)),O 4 (.mov (vz 0))]) (.seq (.block 0 (.seq (.reg [O 6 (.fldA 0 (.t 2)),O 7 (.load false 1 (.t 6)),O 8 (.fldA 0 (.t 3)),O 9 (.load false 1 (.t 8)),O 10 (.bin .lss (.t 7) (.t 9)),O 11 (.mov (.t 10)),⟨(some 12),(.fldA 0 (.t 2)),(some ((some 11),false))⟩,⟨(some 13),(.load false 1 (.t 12)),(some ((some 11),false))⟩,⟨(some 14),(.fldA 0 (.t 3)),(some ((some 11),false))⟩,⟨(some 15),(.load false 1 (.t 14)),(some ((some 11),false))⟩,⟨(some 16),(.bin .eql (.t 13) (.t 15)),(some ((some 11),false))⟩,⟨(some 17),(.mov (.t 16)),(some ((some 11),false))⟩,⟨(some 18),(.fldA 1 (.t 2)),(some ((some 17),true))⟩,⟨(some 19),(.load false 1 (.t 18)),(some ((some 17),true))⟩,⟨(some 20),(.fldA 1 (.t 3)),(some ((some 17),true))⟩,⟨(some 21),(.load false 1 (.t 20)),(some ((some 17),true))⟩,⟨(some 22),(.bin .lss (.t 19) (.t 21)),(some ((some 17),true))⟩,⟨(some 23),(.pick (.t 17) (.t 22) (.v bf)),(some ((some 11),false))⟩,O 24 (.pick (.t 11) (.v bt) (.t 23)),O 5 (.mov (.t 24))]) (.cond (.t 5) (.seq (.reg [O 4 (.mov (vz (-1)))]) .ret) (.seq (.reg [O 26 (.load true 2 (.t 2)),O 27 (.load true 2 (.t 3)),O 28 (.eqv false 4 [i6,(.i .u64)] (.t 26) (.t 27)),O 25 (.mov (.t 28))]) (.cond (.t 25) (.seq (.reg [O 4 (.mov (vz 0))]) .ret) .skip))))) (.seq (.reg [O 4 (.mov (vz 1))]) .ret)))⟩
def c66:AFn:=⟨36,[(.cell true 2 4)],(.seq (.reg [O 4 (.alloc E98)]) (.seq (.reg [O 9 (.mov (.t 0)),O 10 (.call (.agg [i6,(.i .u64)]) (.v (.fn 71 [] [])) [(.t 9)]),O 5 (.alloc E98),⟨none,(.store 2 (.t 5) (.t 10)),none⟩]) (.seq (.reg [O 11 (.build [(iz 0),(.int .u64 0)] []),O 6 (.alloc E98),⟨none,(.store 2 (.t 6) (.t 11)),none⟩]) (.seq (.reg [O 12 (.mov (.t 1)),O 13 (.conv .u64 (.t 12)),O 7 (.mov (.t 13))]) (.seq (.seq (.reg [O 8 (.mov (vz 0))]) (.block 0 (.loop (.seq (.seq (.reg [O 14 (.mov (.t 8)),O 15 (.bin .lss (.t 14) (vz 64))]) (.cond (.t 15) .skip (.exit 0))) (.seq (.block 1 (.seq (.seq (.reg [O 18 (.mov (.t 7)),O 19 (.mov (.t 8)),O 20 (.bin .shr (.t 18) (.t 19)),O 21 (.bin .and (.t 20) (.v (.int .u64 1))),O 22 (.bin .eql (.t 21) (.v (.int .u64 1)))]) (.cond (.t 22) (.reg [O 23 (.load true 2 (.t 6)),O 24 (.load true 2 (.t 5)),O 25 (.call (.agg [i6,(.i .u64)]) (.v (.fn 72 [] [])) [(.t 23),(.t 24)]),⟨none,(.store 2 (.t 6) (.t 25)),none⟩]) .skip)) (.reg [O 26 (.load true 2 (.t 5)),O 27 (.load true 2 (.t 5)),O 28 (.call (.agg [i6,(.i .u64)]) (.v (.fn 72 [] [])) [(.t 26),(.t 27)]),⟨none,(.store 2 (.t 5) (.t 28)),none⟩]))) (.reg [O 16 (.mov (.t 8)),O 17 (.bin .add (.t 16) (vz 1)),O 8 (.mov (.t 17))])))))) (.seq (.seq (.reg [O 29 (.mov (.t 1)),O 30 (.bin .lss (.t 29) (vz 0))]) (.cond (.t 30) (.regD [((O 31 (.load true 2 (.t 6))),[]),((O 32 (.load true 2 (.t 5))),[]),((O 33 (.call (.agg [i6,(.i .u64)]) (.v (.fn 73 [] [])) [(.t 32)])),[]),((O 34 (.call (.agg [i6,(.i .u64)]) (.v (.fn 72 [] [])) [(.t 31),(.t 33)])),[1000000]),(⟨none,(.store 2 (.t 6) (.t 34)),none⟩,[])]) .skip)) (.seq (.reg [O 35 (.load true 2 (.t 6)),⟨none,(.store 2 (.t 4) (.t 35)),none⟩]) .ret)))))))⟩
def c67:AFn:=⟨9,[(.tmp 2)],(.seq (.reg [O 2 (.mov (.v bf))]) (.seq (.reg [O 3 (.mov (.t 0)),O 4 (.bin .geq (.t 3) (vz (-1099511627776))),O 5 (.mov (.t 4)),⟨(some 6),(.mov (.t 0)),(some ((some 5),true))⟩,⟨(some 7),(.bin .leq (.t 6) (vz 1099511627776)),(some ((some 5),true))⟩,O 8 (.pick (.t 5) (.t 7) (.v bf)),O 2 (.mov (.t 8))]) .ret))⟩
def c68:AFn:=⟨18,[(.cell true 2 4),(.cell true 2 5)],(.seq (.reg [O 4 (.alloc E62),O 5 (.alloc E62)]) (.seq (.regD [((O 6 (.mov (.t 0))),[]),((O 7 (.mov (.t 1))),[]),((O 8 (.ixAS ag2 2 (.t 6) (.t 7))),[]),((O 9 (.load true 2 (.t 8))),[]),((O 10 (.mov (.t 0))),[]),((O 11 (.mov (.t 1))),[]),((O 12 (.bin .add (.t 11) (vz 1))),[]),((O 13 (.mov (.t 0))),[]),((O 14 (.bk .lenV [(.t 13)])),[]),((O 15 (.bin .rem (.t 12) (.t 14))),[]),((O 16 (.ixAS ag2 2 (.t 10) (.t 15))),[]),((O 17 (.load true 2 (.t 16))),[]),(⟨none,(.store 2 (.t 4) (.t 9)),none⟩,[11]),(⟨none,(.store 2 (.t 5) (.t 17)),none⟩,[])]) .ret))⟩
def c69:AFn:=⟨37,[(.tmp 6)],(.seq (.reg [O 3 (.box E62 (.t 0)),O 4 (.box E62 (.t 1)),O 5 (.box E62 (.t 2)),O 6 (.mov (.v bf))]) (.seq (.reg [O 7 (.load true 2 (.t 3)),O 8 (.load true 2 (.t 4)),O 9 (.load true 2 (.t 5)),O 10 (.mkrow E62 3 [(0,(.t 7)),(1,(.t 8)),(2,(.t 9))]),O 11 (.call .b (.v (.fn 74 [] [])) [(.t 10)]),O 12 (.mov (.t 11)),⟨(some 13),(.load true 2 (.t 4)),(some ((some 12),true))⟩,⟨(some 14),(.load true 2 (.t 5)),(some ((some 12),true))⟩,⟨(some 15),(.load true 2 (.t 3)),(some ((some 12),true))⟩,⟨(some 16),(.call i6 (.v (.fn 75 [] [])) [(.t 13),(.t 14),(.t 15)]),(some ((some 12),true))⟩,⟨(some 17),(.bin .eql (.t 16) (vz 0)),(some ((some 12),true))⟩,O 18 (.pick (.t 12) (.t 17) (.v bf)),O 19 (.mov (.t 18)),⟨(some 20),(.fldA 0 (.t 3)),(some ((some 19),true))⟩,⟨(some 21),(.load false 1 (.t 20)),(some ((some 19),true))⟩,⟨(some 22),(.fldA 0 (.t 4)),(some ((some 19),true))⟩,⟨(some 23),(.load false 1 (.t 22)),(some ((some 19),true))⟩,⟨(some 24),(.fldA 0 (.t 5)),(some ((some 19),true))⟩,⟨(some 25),(.load false 1 (.t 24)),(some ((some 19),true))⟩,⟨(some 26),(.call .b (.v (.fn 76 [] [])) [(.t 21),(.t 23),(.t 25)]),(some ((some 19),true))⟩,O 27 (.pick (.t 19) (.t 26) (.v bf)),O 28 (.mov (.t 27)),⟨(some 29),(.fldA 1 (.t 3)),(some ((some 28),true))⟩,⟨(some 30),(.load false 1 (.t 29)),(some ((some 28),true))⟩,⟨(some 31),(.fldA 1 (.t 4)),(some ((some 28),true))⟩,⟨(some 32),(.load false 1 (.t 31)),(some ((some 28),true))⟩,⟨(some 33),(.fldA 1 (.t 5)),(some ((some 28),true))⟩,⟨(some 34),(.load false 1 (.t 33)),(some ((some 28),true))⟩,⟨(some 35),(.call .b (.v (.fn 76 [] [])) [(.t 30),(.t 32),(.t 34)]),(some ((some 28),true))⟩,O 36 (.pick (.t 28) (.t 35) (.v bf)),O 6 (.mov (.t 36))]) .ret))⟩
def c70:AFn:=⟨56,[(.tmp 8)],(.seq (.reg [O 4 (.box E62 (.t 0)),O 5 (.box E62 (.t 1)),O 6 (.box E62 (.t 2)),O 7 (.box E62 (.t 3)),O 8 (.mov (.v bf))]) (.seq (.block 0 (.seq (.reg [O 10 (.load true 2 (.t 4)),O 11 (.load true 2 (.t 5)),O 12 (.load true 2 (.t 6)),O 13 (.load true 2 (.t 7)),O 14 (.mkrow E62 4 [(0,(.t 10)),(1,(.t 11)),(2,(.t 12)),(3,(.t 13))]),O 15 (.call .b (.v (.fn 74 [] [])) [(.t 14)]),O 16 (.un .not (.t 15)),O 9 (.mov (.t 16))]) (.cond (.t 9) (.seq (.reg [O 8 (.mov (.v bf))]) .ret) (.seq (.seq (.reg [O 18 (.load true 2 (.t 4)),O 19 (.load true 2 (.t 6)),O 20 (.load true 2 (.t 7)),O 21 (.call .b (.v (.fn 69 [] [])) [(.t 18),(.t 19),(.t 20)]),O 17 (.mov (.t 21))]) (.cond (.t 17) .skip (.seq (.reg [O 22 (.load true 2 (.t 5)),O 23 (.load true 2 (.t 6)),O 24 (.load true 2 (.t 7)),O 25 (.call .b (.v (.fn 69 [] [])) [(.t 22),(.t 23),(.t 24)]),O 17 (.mov (.t 25))]) (.cond (.t 17) .skip (.seq (.reg [O 26 (.load true 2 (.t 6)),O 27 (.load true 2 (.t 4)),O 28 (.load true 2 (.t 5)),O 29 (.call .b (.v (.fn 69 [] [])) [(.t 26),(.t 27),(.t 28)]),O 17 (.mov (.t 29))]) (.cond (.t 17) .skip (.reg [O 30 (.load true 2 (.t 7)),O 31 (.load true 2 (.t 4)),O 32 (.load true 2 (.t 5)),O 33 (.call .b (.v (.fn 69 [] [])) [(.t 30),(.t 31),(.t 32)]),O 17 (.mov (.t 33))]))))))) (.cond (.t 17) (.seq (.reg [O 8 (.mov (.v bt))]) .ret) .skip))))) (.seq (.regD [((O 34 (.load true 2 (.t 4))),[]),((O 35 (.load true 2 (.t 5))),[]),((O 36 (.load true 2 (.t 6))),[]),((O 37 (.call i6 (.v (.fn 75 [] [])) [(.t 34),(.t 35),(.t 36)])),[]),((O 38 (.load true 2 (.t 4))),[]),((O 39 (.load true 2 (.t 5))),[]),((O 40 (.load true 2 (.t 7))),[]),((O 41 (.call i6 (.v (.fn 75 [] [])) [(.t 38),(.t 39),(.t 40)])),[1000000]),((O 42 (.bin .mul (.t 37) (.t 41))),[]),((O 43 (.bin .lss (.t 42) (vz 0))),[]),((O 44 (.mov (.t 43))),[]),(⟨(some 45),(.load true 2 (.t 6)),(some ((some 44),true))⟩,[]),(⟨(some 46),(.load true 2 (.t 7)),(some ((some 44),true))⟩,[]),(⟨(some 47),(.load true 2 (.t 4)),(some ((some 44),true))⟩,[]),(⟨(some 48),(.call i6 (.v (.fn 75 [] [])) [(.t 45),(.t 46),(.t 47)]),(some ((some 44),true))⟩,[]),(⟨(some 49),(.load true 2 (.t 6)),(some ((some 44),true))⟩,[]),(⟨(some 50),(.load true 2 (.t 7)),(some ((some 44),true))⟩,[]),(⟨(some 51),(.load true 2 (.t 5)),(some ((some 44),true))⟩,[]),(⟨(some 52),(.call i6 (.v (.fn 75 [] [])) [(.t 49),(.t 50),(.t 51)]),(some ((some 44),true))⟩,[1000000]),(⟨(some 53),(.bin .mul (.t 48) (.t 52)),(some ((some 44),true))⟩,[]),(⟨(some 54),(.bin .lss (.t 53) (vz 0)),(some ((some 44),true))⟩,[]),((O 55 (.pick (.t 44) (.t 54) (.v bf))),[]),((O 8 (.mov (.t 55))),[])]) .ret)))⟩
def c71:AFn:=⟨11,[(.cell true 2 2)],(.seq (.reg [O 2 (.alloc E98)]) (.seq (.seq (.reg [O 3 (.mov (.t 0)),O 4 (.bin .lss (.t 3) (vz 0))]) (.cond (.t 4) (.seq (.reg [O 5 (.mov (.t 0)),O 6 (.conv .u64 (.t 5)),O 7 (.build [(iz 0),(.int .u64 0)] [(0,(1,(vz (-1)))),(1,(1,(.t 6)))]),⟨none,(.store 2 (.t 2) (.t 7)),none⟩]) .ret) .skip)) (.seq (.reg [O 8 (.mov (.t 0)),O 9 (.conv .u64 (.t 8)),O 10 (.build [(iz 0),(.int .u64 0)] [(0,(1,(vz 0))),(1,(1,(.t 9)))]),⟨none,(.store 2 (.t 2) (.t 10)),none⟩]) .ret)))⟩
def c72:AFn:=⟨39,[(.cell true 2 4)],(.seq (.reg [O 2 (.box E98 (.t 0)),O 3 (.box E98 (.t 1)),O 4 (.alloc E98)]) (.seq (.regD [((O 11 (.load true 2 (.t 2))),[]),((O 12 (.call .l (.v (.fn 77 [] [])) [(.t 11)])),[]),((O 13 (.load true 2 (.t 3))),[]),((O 14 (.call .l (.v (.fn 77 [] [])) [(.t 13)])),[1000000]),((O 5 (.mov (.t 12))),[]),((O 6 (.mov (.t 14))),[])]) (.seq (.reg [O 7 (.mov (.v (.zsl true)))]) (.seq (.reg [O 8 (.mov (vz 0))]) (.seq (.seq (.reg [O 9 (.mov (vz 0))]) (.block 0 (.loop (.seq (.seq (.reg [O 15 (.mov (.t 9)),O 16 (.bin .lss (.t 15) (vz 128))]) (.cond (.t 16) .skip (.exit 0))) (.seq (.block 1 (.seq (.regD [((O 19 (.mov (.t 5))),[]),((O 20 (.mov (.t 9))),[]),((O 21 (.ixAS i6 1 (.t 19) (.t 20))),[]),((O 22 (.load false 1 (.t 21))),[]),((O 23 (.mov (.t 6))),[]),((O 24 (.mov (.t 9))),[]),((O 25 (.ixAS i6 1 (.t 23) (.t 24))),[]),((O 26 (.load false 1 (.t 25))),[]),((O 27 (.bin .add (.t 22) (.t 26))),[]),((O 28 (.mov (.t 8))),[]),((O 29 (.bin .add (.t 27) (.t 28))),[]),((O 10 (.mov (.t 29))),[])]) (.seq (.reg [O 30 (.mov (.t 7)),O 31 (.mov (.t 10)),O 32 (.bin .rem (.t 31) (vz 2)),O 33 (.mkrow E3 1 [(0,(.t 32))]),O 34 (.app E3 (.t 30) (.t 33)),O 7 (.mov (.t 34))]) (.reg [O 35 (.mov (.t 10)),O 36 (.bin .quo (.t 35) (vz 2)),O 8 (.mov (.t 36))])))) (.reg [O 17 (.mov (.t 9)),O 18 (.bin .add (.t 17) (vz 1)),O 9 (.mov (.t 18))])))))) (.seq (.reg [O 37 (.mov (.t 7)),O 38 (.call (.agg [i6,(.i .u64)]) (.v (.fn 78 [] [])) [(.t 37)]),⟨none,(.store 2 (.t 4) (.t 38)),none⟩]) .ret))))))⟩
def c73:AFn:=⟨12,[(.cell true 2 2)],(.seq (.reg [O 1 (.box E98 (.t 0)),O 2 (.alloc E98)]) (.seq (.reg [O 3 (.fldA 0 (.t 1)),O 4 (.load false 1 (.t 3)),O 5 (.un .xor (.t 4)),O 6 (.fldA 1 (.t 1)),O 7 (.load false 1 (.t 6)),O 8 (.un .xor (.t 7)),O 9 (.build [(iz 0),(.int .u64 0)] [(0,(1,(.t 5))),(1,(1,(.t 8)))]),O 10 (.build [(iz 0),(.int .u64 0)] [(0,(1,(vz 0))),(1,(1,(.v (.int .u64 1))))]),O 11 (.call (.agg [i6,(.i .u64)]) (.v (.fn 72 [] [])) [(.t 9),(.t 10)]),⟨none,(.store 2 (.t 2) (.t 11)),none⟩]) .ret))⟩
def c74:AFn:=⟨6,[(.tmp 2)],(.seq (.reg [O 2 (.mov (.v bf))]) (.seq (.reg [O 3 (.mov (.t 0)),O 4 (.call .b (.v (.fn 58 [] [])) [(.t 3),(.v (.fn 79 [] []))]),O 5 (.un .not (.t 4)),O 2 (.mov (.t 5))]) .ret))⟩
def c75:AFn:=⟨36,[(.tmp 6)],(.seq (.reg [O 3 (.box E62 (.t 0)),O 4 (.box E62 (.t 1)),O 5 (.box E62 (.t 2)),O 6 (.mov (vz 0))]) (.seq (.seq (.reg [O 7 (.load true 2 (.t 3)),O 8 (.load true 2 (.t 4)),O 9 (.load true 2 (.t 5)),O 10 (.mkrow E62 3 [(0,(.t 7)),(1,(.t 8)),(2,(.t 9))]),O 11 (.call .b (.v (.fn 74 [] [])) [(.t 10)]),O 12 (.un .not (.t 11))]) (.cond (.t 12) (.seq (.reg [O 6 (.mov (vz 0))]) .ret) .skip)) (.seq (.regD [((O 13 (.fldA 0 (.t 4))),[]),((O 14 (.load false 1 (.t 13))),[]),((O 15 (.fldA 0 (.t 3))),[]),((O 16 (.load false 1 (.t 15))),[]),((O 17 (.bin .sub (.t 14) (.t 16))),[]),((O 18 (.fldA 1 (.t 5))),[]),((O 19 (.load false 1 (.t 18))),[]),((O 20 (.fldA 1 (.t 3))),[]),((O 21 (.load false 1 (.t 20))),[]),((O 22 (.bin .sub (.t 19) (.t 21))),[]),((O 23 (.call (.agg [i6,(.i .u64)]) (.v (.fn 80 [] [])) [(.t 17),(.t 22)])),[]),((O 24 (.fldA 1 (.t 4))),[]),((O 25 (.load false 1 (.t 24))),[]),((O 26 (.fldA 1 (.t 3))),[]),((O 27 (.load false 1 (.t 26))),[]),((O 28 (.bin .sub (.t 25) (.t 27))),[]),((O 29 (.fldA 0 (.t 5))),[]),((O 30 (.load false 1 (.t 29))),[]),((O 31 (.fldA 0 (.t 3))),[]),((O 32 (.load false 1 (.t 31))),[]),((O 33 (.bin .sub (.t 30) (.t 32))),[]),((O 34 (.call (.agg [i6,(.i .u64)]) (.v (.fn 80 [] [])) [(.t 28),(.t 33)])),[1000000]),((O 35 (.call i6 (.v (.fn 81 [] [])) [(.t 23),(.t 34)])),[1000000]),((O 6 (.mov (.t 35))),[])]) .ret)))⟩
def c76:AFn:=⟨19,[(.tmp 6)],(.seq (.reg [O 6 (.mov (.v bf))]) (.seq (.reg [O 7 (.mov (.t 1)),O 8 (.mov (.t 2)),O 9 (.bk .min [(.t 7),(.t 8)]),O 10 (.mov (.t 0)),O 11 (.bin .leq (.t 9) (.t 10)),O 12 (.mov (.t 11)),⟨(some 13),(.mov (.t 0)),(some ((some 12),true))⟩,⟨(some 14),(.mov (.t 1)),(some ((some 12),true))⟩,⟨(some 15),(.mov (.t 2)),(some ((some 12),true))⟩,⟨(some 16),(.bk .max [(.t 14),(.t 15)]),(some ((some 12),true))⟩,⟨(some 17),(.bin .leq (.t 13) (.t 16)),(some ((some 12),true))⟩,O 18 (.pick (.t 12) (.t 17) (.v bf)),O 6 (.mov (.t 18))]) .ret))⟩
def c77:AFn:=⟨34,[(.tmp 2)],(.seq (.reg [O 1 (.box E98 (.t 0)),O 2 (.mov (.v (.zsl true)))]) (.seq (.reg [O 3 (.mov (.v (.zsl true)))]) (.seq (.seq (.reg [O 4 (.mov (vz 0))]) (.block 0 (.loop (.seq (.seq (.reg [O 6 (.mov (.t 4)),O 7 (.bin .lss (.t 6) (vz 64))]) (.cond (.t 7) .skip (.exit 0))) (.seq (.block 1 (.reg [O 10 (.mov (.t 3)),O 11 (.fldA 1 (.t 1)),O 12 (.load false 1 (.t 11)),O 13 (.mov (.t 4)),O 14 (.bin .shr (.t 12) (.t 13)),O 15 (.bin .and (.t 14) (.v (.int .u64 1))),O 16 (.conv .i64 (.t 15)),O 17 (.mkrow E3 1 [(0,(.t 16))]),O 18 (.app E3 (.t 10) (.t 17)),O 3 (.mov (.t 18))])) (.reg [O 8 (.mov (.t 4)),O 9 (.bin .add (.t 8) (vz 1)),O 4 (.mov (.t 9))])))))) (.seq (.seq (.reg [O 5 (.mov (vz 0))]) (.block 2 (.loop (.seq (.seq (.reg [O 19 (.mov (.t 5)),O 20 (.bin .lss (.t 19) (vz 64))]) (.cond (.t 20) .skip (.exit 2))) (.seq (.block 3 (.reg [O 23 (.mov (.t 3)),O 24 (.fldA 0 (.t 1)),O 25 (.load false 1 (.t 24)),O 26 (.conv .u64 (.t 25)),O 27 (.mov (.t 5)),O 28 (.bin .shr (.t 26) (.t 27)),O 29 (.bin .and (.t 28) (.v (.int .u64 1))),O 30 (.conv .i64 (.t 29)),O 31 (.mkrow E3 1 [(0,(.t 30))]),O 32 (.app E3 (.t 23) (.t 31)),O 3 (.mov (.t 32))])) (.reg [O 21 (.mov (.t 5)),O 22 (.bin .add (.t 21) (vz 1)),O 5 (.mov (.t 22))])))))) (.seq (.reg [O 33 (.mov (.t 3)),O 2 (.mov (.t 33))]) .ret)))))⟩
def c78:AFn:=⟨36,[(.cell true 2 2)],(.seq (.reg [O 2 (.alloc E98)]) (.seq (.reg [O 6 (.build [(iz 0),(.int .u64 0)] []),O 3 (.alloc E98),⟨none,(.store 2 (.t 3) (.t 6)),none⟩]) (.seq (.reg [O 4 (.mov (.v (.int .u64 0)))]) (.seq (.seq (.reg [O 5 (.mov (vz 0))]) (.block 0 (.loop (.seq (.seq (.reg [O 7 (.mov (.t 5)),O 8 (.bin .lss (.t 7) (vz 64))]) (.cond (.t 8) .skip (.exit 0))) (.seq (.block 1 (.seq (.seq (.reg [O 11 (.mov (.t 0)),O 12 (.mov (.t 5)),O 13 (.ixAS i6 1 (.t 11) (.t 12)),O 14 (.load false 1 (.t 13)),O 15 (.bin .eql (.t 14) (vz 1))]) (.cond (.t 15) (.regD [((O 16 (.fldA 1 (.t 3))),[]),((O 17 (.load false 1 (.t 16))),[]),((O 18 (.mov (.t 5))),[]),((O 19 (.bin .shl (.v (.int .u64 1)) (.t 18))),[]),((O 20 (.bin .or (.t 17) (.t 19))),[]),((O 21 (.fldA 1 (.t 3))),[]),(⟨none,(.store 1 (.t 21) (.t 20)),none⟩,[])]) .skip)) (.seq (.reg [O 22 (.mov (.t 0)),O 23 (.mov (.t 5)),O 24 (.bin .add (vz 64) (.t 23)),O 25 (.ixAS i6 1 (.t 22) (.t 24)),O 26 (.load false 1 (.t 25)),O 27 (.bin .eql (.t 26) (vz 1))]) (.cond (.t 27) (.reg [O 28 (.mov (.t 4)),O 29 (.mov (.t 5)),O 30 (.bin .shl (.v (.int .u64 1)) (.t 29)),O 31 (.bin .or (.t 28) (.t 30)),O 4 (.mov (.t 31))]) .skip)))) (.reg [O 9 (.mov (.t 5)),O 10 (.bin .add (.t 9) (vz 1)),O 5 (.mov (.t 10))])))))) (.seq (.reg [O 32 (.mov (.t 4)),O 33 (.conv .i64 (.t 32)),O 34 (.fldA 0 (.t 3)),⟨none,(.store 1 (.t 34) (.t 33)),none⟩]) (.seq (.reg [O 35 (.load true 2 (.t 3)),⟨none,(.store 2 (.t 2) (.t 35)),none⟩]) .ret))))))⟩
def c79:AFn:=⟨6,[(.tmp 2)],(.seq (.reg [O 1 (.box E62 (.t 0)),O 2 (.mov (.v bf))]) (.seq (.reg [O 3 (.load true 2 (.t 1)),O 4 (.call .b (.v (.fn 62 [] [])) [(.t 3)]),O 5 (.un .not (.t 4)),O 2 (.mov (.t 5))]) .ret))⟩
def c80:AFn:=⟨31,[(.cell true 2 4)],(.seq (.reg [O 4 (.alloc E110)]) (.seq (.reg [O 8 (.mov (.t 0)),O 9 (.conv .u64 (.t 8)),O 10 (.mov (.t 1)),O 11 (.conv .u64 (.t 10)),O 12 (.call (.tup [(.i .u64),(.i .u64)]) (.v (.fn 82 [] [])) [(.t 9),(.t 11)]),O 7 (.mov (.t 12)),O 13 (.extr (.t 7) 0),O 14 (.extr (.t 7) 1),O 5 (.mov (.t 13)),O 6 (.mov (.t 14))]) (.seq (.seq (.reg [O 15 (.mov (.t 0)),O 16 (.bin .lss (.t 15) (vz 0))]) (.cond (.t 16) (.reg [O 17 (.mov (.t 5)),O 18 (.mov (.t 1)),O 19 (.conv .u64 (.t 18)),O 20 (.bin .sub (.t 17) (.t 19)),O 5 (.mov (.t 20))]) .skip)) (.seq (.seq (.reg [O 21 (.mov (.t 1)),O 22 (.bin .lss (.t 21) (vz 0))]) (.cond (.t 22) (.reg [O 23 (.mov (.t 5)),O 24 (.mov (.t 0)),O 25 (.conv .u64 (.t 24)),O 26 (.bin .sub (.t 23) (.t 25)),O 5 (.mov (.t 26))]) .skip)) (.seq (.reg [O 27 (.mov (.t 5)),O 28 (.conv .i64 (.t 27)),O 29 (.mov (.t 6)),O 30 (.build [(iz 0),(.int .u64 0)] [(0,(1,(.t 28))),(1,(1,(.t 29)))]),⟨none,(.store 2 (.t 4) (.t 30)),none⟩]) .ret)))))⟩
def c81:AFn:=⟨17,[(.tmp 4)],(.seq (.reg [O 2 (.box E110 (.t 0)),O 3 (.box E110 (.t 1)),O 4 (.mov (vz 0))]) (.seq (.regD [((O 5 (.fldA 0 (.t 2))),[]),((O 6 (.load false 1 (.t 5))),[]),((O 7 (.fldA 0 (.t 3))),[]),((O 8 (.load false 1 (.t 7))),[]),((O 9 (.call i6 (.v (.fn 84 [] [])) [(.t 6),(.t 8)])),[]),((O 10 (.fldA 1 (.t 2))),[]),((O 11 (.load false 1 (.t 10))),[]),((O 12 (.fldA 1 (.t 3))),[]),((O 13 (.load false 1 (.t 12))),[]),((O 14 (.call i6 (.v (.fn 85 [] [])) [(.t 11),(.t 13)])),[1000000]),((O 15 (.mkrow E3 2 [(0,(.t 9)),(1,(.t 14))])),[]),((O 16 (.call i6 (.v (.fn 83 [] [])) [(.t 15)])),[1000000]),((O 4 (.mov (.t 16))),[])]) .ret))⟩
def c82:AFn:=⟨51,[(.tmp 4),(.tmp 5)],(.seq (.reg [O 4 (.mov (.v (.int .u64 0))),O 5 (.mov (.v (.int .u64 0)))]) (.seq (.reg [O 14 (.mov (.t 0)),O 15 (.bin .and (.t 14) (.v (.int .u64 4294967295))),O 6 (.mov (.t 15))]) (.seq (.reg [O 16 (.mov (.t 0)),O 17 (.bin .shr (.t 16) (.v (.int .u64 32))),O 7 (.mov (.t 17))]) (.seq (.reg [O 18 (.mov (.t 1)),O 19 (.bin .and (.t 18) (.v (.int .u64 4294967295))),O 8 (.mov (.t 19))]) (.seq (.reg [O 20 (.mov (.t 1)),O 21 (.bin .shr (.t 20) (.v (.int .u64 32))),O 9 (.mov (.t 21))]) (.seq (.reg [O 22 (.mov (.t 6)),O 23 (.mov (.t 8)),O 24 (.bin .mul (.t 22) (.t 23)),O 10 (.mov (.t 24))]) (.seq (.reg [O 25 (.mov (.t 7)),O 26 (.mov (.t 8)),O 27 (.bin .mul (.t 25) (.t 26)),O 28 (.mov (.t 10)),O 29 (.bin .shr (.t 28) (.v (.int .u64 32))),O 30 (.bin .add (.t 27) (.t 29)),O 11 (.mov (.t 30))]) (.seq (.reg [O 31 (.mov (.t 11)),O 32 (.bin .and (.t 31) (.v (.int .u64 4294967295))),O 12 (.mov (.t 32))]) (.seq (.reg [O 33 (.mov (.t 11)),O 34 (.bin .shr (.t 33) (.v (.int .u64 32))),O 13 (.mov (.t 34))]) (.seq (.reg [O 35 (.mov (.t 12)),O 36 (.mov (.t 6)),O 37 (.mov (.t 9)),O 38 (.bin .mul (.t 36) (.t 37)),O 39 (.bin .add (.t 35) (.t 38)),O 12 (.mov (.t 39))]) (.seq (.reg [O 40 (.mov (.t 7)),O 41 (.mov (.t 9)),O 42 (.bin .mul (.t 40) (.t 41)),O 43 (.mov (.t 13)),O 44 (.bin .add (.t 42) (.t 43)),O 45 (.mov (.t 12)),O 46 (.bin .shr (.t 45) (.v (.int .u64 32))),O 47 (.bin .add (.t 44) (.t 46)),O 4 (.mov (.t 47))]) (.seq (.reg [O 48 (.mov (.t 0)),O 49 (.mov (.t 1)),O 50 (.bin .mul (.t 48) (.t 49)),O 5 (.mov (.t 50))]) .ret))))))))))))⟩
def c83:AFn:=⟨18,[(.tmp 2)],(.seq (.reg [O 2 (.mov (vz 0))]) (.seq (.reg [O 3 (.mov (vz 0))]) (.seq (.seq (.reg [O 6 (.mov (.t 0)),O 7 (.bk .lenV [(.t 6)]),O 8 (.mov (vz 0))]) (.block 0 (.loop (.seq (.reg [O 9 (.bin .lss (.t 8) (.t 7))]) (.seq (.cond (.t 9) .skip (.exit 0)) (.seq (.block 1 (.seq (.reg [O 10 (.ixAS i6 1 (.t 6) (.t 8)),O 11 (.load false 1 (.t 10)),O 5 (.mov (.t 11))]) (.seq (.reg [O 12 (.mov (.t 5)),O 13 (.mov (.t 3)),O 14 (.bin .neq (.t 12) (.t 13))]) (.cond (.t 14) (.seq (.reg [O 15 (.mov (.t 5)),O 2 (.mov (.t 15))]) .ret) .skip)))) (.reg [O 16 (.bin .add (.t 8) (vz 1)),O 8 (.mov (.t 16))]))))))) (.seq (.reg [O 17 (.mov (.t 3)),O 2 (.mov (.t 17))]) .ret))))⟩
def c84:AFn:=⟨20,[(.tmp 4)],(.seq (.reg [O 4 (.mov (vz 0))]) (.seq (.reg [O 7 (.mov (.t 0)),O 8 (.call .b (.v (.fn 86 [] [])) [(.t 7)]),O 5 (.mov (.t 8))]) (.seq (.reg [O 9 (.mov (.t 1)),O 10 (.call .b (.v (.fn 86 [] [])) [(.t 9)]),O 6 (.mov (.t 10))]) (.seq (.seq (.reg [O 11 (.mov (.t 5))]) (.cond (.t 11) (.seq (.seq (.reg [O 12 (.mov (.t 6))]) (.cond (.t 12) (.seq (.reg [O 4 (.mov (vz 0))]) .ret) .skip)) (.seq (.reg [O 4 (.mov (vz (-1)))]) .ret)) .skip)) (.seq (.seq (.reg [O 13 (.mov (.t 6))]) (.cond (.t 13) (.seq (.reg [O 4 (.mov (vz 1))]) .ret) .skip)) (.seq (.seq (.reg [O 14 (.mov (.t 0)),O 15 (.mov (.t 1)),O 16 (.bin .lss (.t 14) (.t 15))]) (.cond (.t 16) (.seq (.reg [O 4 (.mov (vz (-1)))]) .ret) .skip)) (.seq (.seq (.reg [O 17 (.mov (.t 0)),O 18 (.mov (.t 1)),O 19 (.bin .gtr (.t 17) (.t 18))]) (.cond (.t 19) (.seq (.reg [O 4 (.mov (vz 1))]) .ret) .skip)) (.seq (.reg [O 4 (.mov (vz 0))]) .ret))))))))⟩
def c85:AFn:=⟨20,[(.tmp 4)],(.seq (.reg [O 4 (.mov (vz 0))]) (.seq (.reg [O 7 (.mov (.t 0)),O 8 (.call .b (.v (.fn 87 [] [])) [(.t 7)]),O 5 (.mov (.t 8))]) (.seq (.reg [O 9 (.mov (.t 1)),O 10 (.call .b (.v (.fn 87 [] [])) [(.t 9)]),O 6 (.mov (.t 10))]) (.seq (.seq (.reg [O 11 (.mov (.t 5))]) (.cond (.t 11) (.seq (.seq (.reg [O 12 (.mov (.t 6))]) (.cond (.t 12) (.seq (.reg [O 4 (.mov (vz 0))]) .ret) .skip)) (.seq (.reg [O 4 (.mov (vz (-1)))]) .ret)) .skip)) (.seq (.seq (.reg [O 13 (.mov (.t 6))]) (.cond (.t 13) (.seq (.reg [O 4 (.mov (vz 1))]) .ret) .skip)) (.seq (.seq (.reg [O 14 (.mov (.t 0)),O 15 (.mov (.t 1)),O 16 (.bin .lss (.t 14) (.t 15))]) (.cond (.t 16) (.seq (.reg [O 4 (.mov (vz (-1)))]) .ret) .skip)) (.seq (.seq (.reg [O 17 (.mov (.t 0)),O 18 (.mov (.t 1)),O 19 (.bin .gtr (.t 17) (.t 18))]) (.cond (.t 19) (.seq (.reg [O 4 (.mov (vz 1))]) .ret) .skip)) (.seq (.reg [O 4 (.mov (vz 0))]) .ret))))))))⟩
def c86:AFn:=⟨6,[(.tmp 2)],(.seq (.reg [O 2 (.mov (.v bf))]) (.seq (.reg [O 3 (.mov (.t 0)),O 4 (.mov (.t 0)),O 5 (.bin .neq (.t 3) (.t 4)),O 2 (.mov (.t 5))]) .ret))⟩
def c87:AFn:=⟨6,[(.tmp 2)],(.seq (.reg [O 2 (.mov (.v bf))]) (.seq (.reg [O 3 (.mov (.t 0)),O 4 (.mov (.t 0)),O 5 (.bin .neq (.t 3) (.t 4)),O 2 (.mov (.t 5))]) .ret))⟩
def h3:List (Nat × Sh):=hof [((.agg [.l,i6,i6,i6,i6,i6,i6,i6,i6]),[0,13,23,25,32]),(.l,[1,18,35,63,159,168]),(.b,[4,10,11,12,14,15,16,17,20,21,22,27,29,31,45,46,51,52,53,97,96,100,102,103,106,108,109,110,112,111,118,119,121,122,128,129,131,132,133,58,59,65,66,67,70,71,72,75,76,9,82,83,84,85,140,141,148,149,150,152,161,162,163,164,175,176,177]),(i6,[19,26,36,37,43,49,55,116,126,57,61,64,69,74,79,81,89,91,135,139,143,147,156,157,160,172,178]),((.agg [.l,i6,i6,i6,i6,i6,i6,i6,i6,i6,i6]),[33]),((.agg [i6,i6,i6,.b,.b,.b,i6]),[40]),((.agg [.l,i6,i6,i6,i6]),[166,174])]
def h7:List (Nat × Sh):=hof [(.b,[0,11,12,15,16,18,20,21,24,25,26,29,31,33,2,3,4,35,5,37,6,39,7,40,41,42,43,44,45,46,47,48,49,50,51,52,53,54,55,56,59,60,61,64,65,66,68,69,70,71,72,73,74,76,77,78,81,82,83,87,88]),((.agg [.l,i6,i6,i6,i6,i6,i6,i6,i6]),[8,13]),(i6,[17,27,58,63,80,86]),((.agg [.l,i6,i6,i6,i6]),[85])]
def h8:List (Nat × Sh):=hof [((.agg [.l,i6,i6,i6,i6,i6,i6,i6,i6]),[0]),(.b,[2,8,18,22]),(i6,[3,4,7,13,17,9,10,21]),(.l,[6,12,16,20])]
def h9:List (Nat × Sh):=hof [((.agg [.l,i6,i6,i6,i6,i6,i6,i6,i6]),[0,3,6,7]),(.b,[4,5]),((.agg [.l,i6,i6,i6,i6,i6,i6,i6,i6,i6,.any]),[9])]
def h10:List (Nat × Sh):=hof [((.agg [.l,i6,i6,i6,i6,i6,i6,i6,i6]),[0]),(i6,[2,6,11,3,14,17,23,19,20,30,35,41,47,52,57,62,67,70]),(.l,[5,10,16,22,69]),(.b,[7,8,12,13,18,26,27,31,32,33,36,37,38,39,42,43,44,28,48,49,45,53,54,50,58,59,55,63,64,60,71,72,65]),((.agg [.l,i6,i6,i6,i6]),[25])]
def h11:List (Nat × Sh):=hof [(i6,[1,18,20,24,26]),(.b,[2,6,10,11,13,14,15,16,21,22,23,27,28]),((.agg [.l,i6,i6,i6,i6]),[9])]
def h12:List (Nat × Sh):=hof [(i6,[1,16,24,25,31,38,40,44,46]),(.b,[2,6,19,20,32,33,34,41,42,43,47,48]),(.l,[12,30]),((.agg [.l,i6,i6,i6,i6]),[18])]
def h13:List (Nat × Sh):=hof [(.b,[1,2,6,8,9,10,11,12,13,14,15,17,18]),(i6,[23,27,28])]
def h14:List (Nat × Sh):=hof [(.b,[1,2,6,7,8,9,10,11,23,24]),(i6,[15,16,22,28,29,39,40,41]),(.l,[21])]
def h15:List (Nat × Sh):=hof [(i6,[1,2,10,14,20,24,28,32,39]),(.b,[6,8,9,11,12,13,21,22,23,25,26,27,29,30]),(.l,[19])]
def h16:List (Nat × Sh):=hof [(i6,[2,8]),(.b,[4])]
def h17:List (Nat × Sh):=hof [(i6,[2,9]),(.b,[4])]
def h18:List (Nat × Sh):=hof [(.b,[2,4,5,17,18]),(i6,[9,10,16]),(.l,[15])]
def h19:List (Nat × Sh):=hof [((.agg [.l,i6,i6,i6,i6]),[0,1]),(.b,[4,9,10,15,16,17,22,23,24,29,30,31,36,37]),(.l,[6,8]),(i6,[12,14,19,21,26,28,33,35])]
def h20:List (Nat × Sh):=hof [(.b,[6,19,4]),((.agg [.l,i6,i6,i6,i6]),[7,18,20]),((.agg [.l,i6,i6,i6,i6,i6,i6,i6,i6]),[12]),(i6,[16]),((.tup [(.agg [.l,i6,i6,i6,i6]),.b]),[17,8])]
def h21:List (Nat × Sh):=hof [(i6,[0,4,6,7,20]),((.agg [.l,i6,i6,i6,i6,i6,i6,i6,i6]),[5,21]),(.b,[8]),(.l,[10,15,17,18]),(ag2,[11,12,13,14]),((.agg [.l,i6,i6,i6,i6]),[16])]
def h22:List (Nat × Sh):=hof [((.agg [.l,i6,i6,i6,i6,i6,i6,i6,i6]),[0,3]),(.b,[2,5]),(i6,[4])]
def h23:List (Nat × Sh):=hof [((.agg [.l,i6,i6,i6,i6,i6,i6,i6,i6]),[0,27]),(.l,[5,6,9,15,18,22,23]),(i6,[10,11,13,3,16,19,26])]
def h24:List (Nat × Sh):=hof [(i6,[0,3,4,5]),(ag2,[6])]
def h25:List (Nat × Sh):=hof [((.agg [.l,i6,i6,i6,i6]),[0]),(.b,[2,5,6,9,10,11,14,15,16,19,20,21,24,25]),(.l,[4]),(i6,[8,13,18,23])]
def h26:List (Nat × Sh):=hof [(i6,[0,1,2,7,8,11,12]),(.b,[6,9,10,13,14])]
def h27:List (Nat × Sh):=hof [(i6,[2,4])]
def h28:List (Nat × Sh):=hof []
def h29:List (Nat × Sh):=hof [(i6,[1,9,10,14,15]),(.b,[5])]
def h30:List (Nat × Sh):=hof [(i6,[2,8]),(.b,[4])]
def h31:List (Nat × Sh):=hof [(.l,[0,1,6,8,12,17,21]),(.b,[4,10,14,25]),(i6,[7,9,5,11,13,18,22,15,16]),(ag2,[20,24])]
def h32:List (Nat × Sh):=hof [((.agg [.l,i6,i6,i6,i6,i6,i6,i6,i6]),[0]),(i6,[1,6,9,12,18]),(.b,[5,7,8,13,14]),(.l,[11,17,22,23]),((.agg [.l,i6,i6,i6,i6]),[15,20,25])]
def h33:List (Nat × Sh):=hof [((.agg [.l,i6,i6,i6,i6,i6,i6,i6,i6]),[0]),(i6,[2,6,18,23,28,33,38,41]),(.l,[5,11,40]),(.b,[7,8,3,12,9,14,15,13,19,20,16,24,25,21,29,30,26,34,35,31,42,43,36])]
def h34:List (Nat × Sh):=hof [(.l,[0,2,3,5,6,7]),(.b,[4])]
def h35:List (Nat × Sh):=hof [(.l,[0,2,3,5,6,7]),(.b,[4])]
def h36:List (Nat × Sh):=hof [(.l,[0,5,9,15,22,30,38,45]),(.b,[2,7,8,11,12,20,21,27,28,29,35,36,37,43,44,46]),(i6,[3,4,6,10,16,19,23,26,31,34,39,42,13,14])]
def h37:List (Nat × Sh):=hof [(i6,[1,4,12,5,13,14,15,19,20,21,22,23,6,27,28,30]),(.b,[8,29])]
def h38:List (Nat × Sh):=hof [(i6,[1,7])]
def h39:List (Nat × Sh):=hof [(i6,[2,6])]
def h40:List (Nat × Sh):=hof [(i6,[0,1,2,7,8,11,12]),(.b,[6,9,10,13,14])]
def h41:List (Nat × Sh):=hof [(.l,[0,5]),(.b,[4,8]),(i6,[7])]
def h42:List (Nat × Sh):=hof [((.agg [.l,i6,i6,i6,i6]),[0,3]),(.b,[2,4,5])]
def h43:List (Nat × Sh):=hof [((.agg [.l,i6,i6,i6,i6]),[0]),(.b,[2,5,6,9,10,11,14,15,16,19,20,21,24,25]),(.l,[4]),(i6,[8,13,18,23])]
def h44:List (Nat × Sh):=hof [(.b,[2,16,17,31,32]),(i6,[6,10,14,15,21,25,29,30])]
def h45:List (Nat × Sh):=hof [(i6,[0,1,2,7,8,11,12]),(.b,[6,9,10,13,14])]
def h46:List (Nat × Sh):=hof [(.l,[0,11,24,42,46,49,53]),(.b,[2,14,15,17,18,21,28,29,32,39,59,56,64,60,68,69,73,74,77,78,82,83,75,87,88,92,93,99,94]),(i6,[12,3,13,16,4,19,20,25,22,23,5,30,31,35,36,6,37,38,43,47,50,54,61,62,63,76,79,80,81,40,41,33,34]),(ag2,[27,45,48,52,55,57,58,65,66,67,70,71,72,84,85,86,89,90,91,95,96,97,98])]
def h47:List (Nat × Sh):=hof [(i6,[1,2,10,11]),(.b,[6,12])]
def h50:List (Nat × Sh):=hof [(.l,[0,6,12]),(i6,[4,7,8,10,5,13,17,18]),((.agg [.l,i6,i6,i6,i6]),[15]),(.b,[16])]
def h51:List (Nat × Sh):=hof [(.l,[0,3,6]),(.b,[2,4,5,7,8,9])]
def h52:List (Nat × Sh):=hof [(ag2,[0]),(.b,[2,5,6,9,10,11,14,15,16,19,20]),(i6,[4,8,13,18])]
def h53:List (Nat × Sh):=hof [(.l,[0,5,8]),(i6,[1,6,7,9,10]),(ag2,[12])]
def h54:List (Nat × Sh):=hof [(ag2,[0,1,2,7,11,16,21,22,23]),(.b,[6,8,9,10,12,13,14,15,17,18,19,20,25,26,34,35,43,44,45,53,54,55,63,64]),(i6,[24,28,30,32,33,37,39,41,42,47,49,51,52,57,59,61,62])]
def h55:List (Nat × Sh):=hof [(ag2,[0,1,2,3,9,13,18,23,27,28,29,32,33,34,38,39,40,44,45,46,49,50,51,53,54,55,60,61,62,64,65,66]),(.b,[8,10,11,12,14,15,16,17,19,20,21,22,24,25,26,30,31,35,36,37,41,42,43,47,48,58,59,69,70]),(i6,[52,56,57,63,67,68])]
def h57:List (Nat × Sh):=hof [(.l,[0,6,15,26,30,36]),(.b,[2,9,10,12,13,14,16,17,20,24,34,35,39,40,41]),(i6,[7,3,8,11,18,19,21,4,22,23,25,5,27,31,37,38,42,43]),(ag2,[29,33])]
def h58:List (Nat × Sh):=hof [(.l,[0,5]),(.b,[4,8]),(i6,[7])]
def h59:List (Nat × Sh):=hof [(ag2,[0]),(.b,[2,14]),(i6,[4,6,7,9,11,12,13])]
def h60:List (Nat × Sh):=hof [(ag2,[0,1,2,7,11,16]),(i6,[6,21,23,24,26,28,29,32,34,35,37,39,40,42]),(.b,[8,9,10,12,13,14,15,17,18,19]),((.agg [i6,(.i .u64)]),[30,41])]
def h61:List (Nat × Sh):=hof [(ag2,[0,3]),(.b,[2,4,5])]
def h62:List (Nat × Sh):=hof [(ag2,[0]),(.b,[2,5,6,9,10]),(i6,[4,8])]
def h63:List (Nat × Sh):=hof [(.l,[0,12,15,21]),(i6,[1,2,13,7,16,22,27,28,29,30,31,46,47,48,49,50]),(.b,[6,32,26,36,37,38,42,43,44,51,45,55,56,57,61,62,63,68,69]),((.tup [ag2,ag2]),[17,14,23,20]),(ag2,[18,19,24,25,33,34,35,39,40,41,52,53,54,58,59,60,64,65,66,67])]
def h64:List (Nat × Sh):=hof [(.l,[0,6,12]),(i6,[4,7,8,10,5,13,17,18]),(ag2,[15]),(.b,[16])]
def h65:List (Nat × Sh):=hof [((.agg [i6,(.i .u64)]),[0,1,26,27]),(i6,[4,7,9,13,15]),(.b,[10,11,16,17,22,23,24,5,28,25]),((.i .u64),[19,21])]
def h66:List (Nat × Sh):=hof [(i6,[0,1,9,12,8,14,19,16,17,29]),((.agg [i6,(.i .u64)]),[10,11,23,24,25,26,27,28,31,32,33,34,35]),((.i .u64),[13,7,18,20,21]),(.b,[15,22,30])]
def h67:List (Nat × Sh):=hof [(i6,[0,3,6]),(.b,[2,4,5,7,8])]
def h68:List (Nat × Sh):=hof [(.l,[0,6,10,13]),(i6,[1,7,11,12,14,15]),(ag2,[9,17])]
def h69:List (Nat × Sh):=hof [(ag2,[0,1,2,7,8,9,13,14,15]),(.b,[6,11,12,17,18,19,26,27,28,35,36]),(.l,[10]),(i6,[16,21,23,25,30,32,34])]
def h70:List (Nat × Sh):=hof [(ag2,[0,1,2,3,10,11,12,13,18,19,20,22,23,24,26,27,28,30,31,32,34,35,36,38,39,40,45,46,47,49,50,51]),(.b,[8,15,16,9,21,17,25,29,33,43,44,54,55]),(.l,[14]),(i6,[37,41,42,48,52,53])]
def h71:List (Nat × Sh):=hof [(i6,[0,3,5,8]),(.b,[4]),((.i .u64),[6,9]),((.agg [i6,(.i .u64)]),[7,10])]
def h72:List (Nat × Sh):=hof [((.agg [i6,(.i .u64)]),[0,1,11,13,38]),(.l,[12,14,5,6,7,19,23,30,33,34,37]),(i6,[8,9,15,20,22,24,26,27,28,29,10,31,32,35,36,17,18]),(.b,[16])]
def h73:List (Nat × Sh):=hof [((.agg [i6,(.i .u64)]),[0,9,10,11]),(i6,[4,5]),((.i .u64),[7,8])]
def h74:List (Nat × Sh):=hof [(.l,[0,3]),(.b,[2,4,5])]
def h75:List (Nat × Sh):=hof [(ag2,[0,1,2,7,8,9]),(i6,[6,14,16,17,19,21,22,25,27,28,30,32,33,35]),(.l,[10]),(.b,[11,12]),((.agg [i6,(.i .u64)]),[23,34])]
def h76:List (Nat × Sh):=hof [(i6,[0,1,2,7,8,9,10,13,14,15,16]),(.b,[6,11,12,17,18])]
def h77:List (Nat × Sh):=hof [((.agg [i6,(.i .u64)]),[0]),(.l,[2,3,10,17,18,23,31,32,33]),(i6,[4,6,13,16,8,9,5,19,25,27,30,21,22]),(.b,[7,20]),((.i .u64),[12,14,15,26,28,29])]
def h78:List (Nat × Sh):=hof [(.l,[0,11,22]),((.agg [i6,(.i .u64)]),[6,35]),((.i .u64),[4,17,19,20,28,30,31,32]),(i6,[5,7,12,14,18,23,24,26,29,9,10,33]),(.b,[8,15,27])]
def h79:List (Nat × Sh):=hof [(ag2,[0,3]),(.b,[2,4,5])]
def h80:List (Nat × Sh):=hof [(i6,[0,1,8,10,15,18,21,24,28]),((.i .u64),[9,11,13,14,5,6,17,19,20,23,25,26,27,29]),((.tup [(.i .u64),(.i .u64)]),[12,7]),(.b,[16,22]),((.agg [i6,(.i .u64)]),[30])]
def h81:List (Nat × Sh):=hof [((.agg [i6,(.i .u64)]),[0,1]),(i6,[4,6,8,9,14,16]),((.i .u64),[11,13]),(.l,[15])]
def h82:List (Nat × Sh):=hof [((.i .u64),[0,1,4,5,14,15,6,16,17,7,18,19,8,20,21,9,22,23,24,10,25,26,27,28,29,30,11,31,32,12,33,34,13,35,36,37,38,39,40,41,42,43,44,45,46,47,48,49,50])]
def h83:List (Nat × Sh):=hof [(.l,[0,6]),(i6,[2,3,7,8,11,5,12,13,15,16,17]),(.b,[14])]
def h84:List (Nat × Sh):=hof [(i6,[0,1,4,7,9,14,15,17,18]),(.b,[8,5,10,6,11,12,13,16,19])]
def h85:List (Nat × Sh):=hof [((.i .u64),[0,1,7,9,14,15,17,18]),(i6,[4]),(.b,[8,5,10,6,11,12,13,16,19])]
def h86:List (Nat × Sh):=hof [(i6,[0,3,4]),(.b,[2,5])]
def h87:List (Nat × Sh):=hof [((.i .u64),[0,3,4]),(.b,[2,5])]
def inlF (g:FuncId):Bool:=[9,11,12,13,14,15,16,17,18,20,23,32,24,27,28,29,30,37,38,39,47,48,49,56,34,35].contains g
theorem c3_ok:cFnQ Try.prog true 3=some c3:=by kernel_rfl
theorem c7_ok:cFnQ Try.prog true 7=some c7:=by kernel_rfl
theorem c8_ok:cFnQ Try.prog false 8=some c8:=by kernel_rfl
theorem c9_ok:cFnQ Try.prog false 9=some c9:=by kernel_rfl
theorem c10_ok:cFnQ Try.prog false 10=some c10:=by kernel_rfl
theorem c11_ok:cFnQ Try.prog true 11=some c11:=by kernel_rfl
theorem c12_ok:cFnQ Try.prog false 12=some c12:=by kernel_rfl
theorem c13_ok:cFnQ Try.prog false 13=some c13:=by kernel_rfl
theorem c14_ok:cFnQ Try.prog false 14=some c14:=by kernel_rfl
theorem c15_ok:cFnQ Try.prog false 15=some c15:=by kernel_rfl
theorem c16_ok:cFnQ Try.prog false 16=some c16:=by kernel_rfl
theorem c17_ok:cFnQ Try.prog false 17=some c17:=by kernel_rfl
theorem c18_ok:cFnQ Try.prog false 18=some c18:=by kernel_rfl
theorem c19_ok:cFnQ Try.prog false 19=some c19:=by kernel_rfl
theorem c20_ok:cFnQ Try.prog true 20=some c20:=by kernel_rfl
theorem c21_ok:cFnQ Try.prog false 21=some c21:=by kernel_rfl
theorem c22_ok:cFnQ Try.prog false 22=some c22:=by kernel_rfl
theorem c23_ok:cFnQ Try.prog false 23=some c23:=by kernel_rfl
theorem c24_ok:cFnQ Try.prog false 24=some c24:=by kernel_rfl
theorem c25_ok:cFnQ Try.prog false 25=some c25:=by kernel_rfl
theorem c26_ok:cFnQ Try.prog false 26=some c26:=by kernel_rfl
theorem c27_ok:cFnQ Try.prog false 27=some c27:=by kernel_rfl
theorem c28_ok:cFnQ Try.prog false 28=some c28:=by kernel_rfl
theorem c29_ok:cFnQ Try.prog false 29=some c29:=by kernel_rfl
theorem c30_ok:cFnQ Try.prog false 30=some c30:=by kernel_rfl
theorem c31_ok:cFnQ Try.prog false 31=some c31:=by kernel_rfl
theorem c32_ok:cFnQ Try.prog false 32=some c32:=by kernel_rfl
theorem c33_ok:cFnQ Try.prog false 33=some c33:=by kernel_rfl
theorem c34_ok:cFnQ Try.prog false 34=some c34:=by kernel_rfl
theorem c35_ok:cFnQ Try.prog false 35=some c35:=by kernel_rfl
theorem c36_ok:cFnQ Try.prog false 36=some c36:=by kernel_rfl
theorem c37_ok:cFnQ Try.prog false 37=some c37:=by kernel_rfl
theorem c38_ok:cFnQ Try.prog false 38=some c38:=by kernel_rfl
theorem c39_ok:cFnQ Try.prog false 39=some c39:=by kernel_rfl
theorem c40_ok:cFnQ Try.prog false 40=some c40:=by kernel_rfl
theorem c41_ok:cFnQ Try.prog false 41=some c41:=by kernel_rfl
theorem c42_ok:cFnQ Try.prog false 42=some c42:=by kernel_rfl
theorem c43_ok:cFnQ Try.prog false 43=some c43:=by kernel_rfl
theorem c44_ok:cFnQ Try.prog false 44=some c44:=by kernel_rfl
theorem c45_ok:cFnQ Try.prog false 45=some c45:=by kernel_rfl
theorem c46_ok:cFnQ Try.prog false 46=some c46:=by kernel_rfl
theorem c47_ok:cFnQ Try.prog false 47=some c47:=by kernel_rfl
theorem c50_ok:cFnQ Try.prog false 50=some c50:=by kernel_rfl
theorem c51_ok:cFnQ Try.prog false 51=some c51:=by kernel_rfl
theorem c52_ok:cFnQ Try.prog false 52=some c52:=by kernel_rfl
theorem c53_ok:cFnQ Try.prog false 53=some c53:=by kernel_rfl
theorem c54_ok:cFnQ Try.prog false 54=some c54:=by kernel_rfl
theorem c55_ok:cFnQ Try.prog false 55=some c55:=by kernel_rfl
theorem c57_ok:cFnQ Try.prog false 57=some c57:=by kernel_rfl
theorem c58_ok:cFnQ Try.prog false 58=some c58:=by kernel_rfl
theorem c59_ok:cFnQ Try.prog false 59=some c59:=by kernel_rfl
theorem c60_ok:cFnQ Try.prog false 60=some c60:=by kernel_rfl
theorem c61_ok:cFnQ Try.prog false 61=some c61:=by kernel_rfl
theorem c62_ok:cFnQ Try.prog false 62=some c62:=by kernel_rfl
theorem c63_ok:cFnQ Try.prog false 63=some c63:=by kernel_rfl
theorem c64_ok:cFnQ Try.prog false 64=some c64:=by kernel_rfl
theorem c65_ok:cFnQ Try.prog false 65=some c65:=by kernel_rfl
theorem c66_ok:cFnQ Try.prog false 66=some c66:=by kernel_rfl
theorem c67_ok:cFnQ Try.prog false 67=some c67:=by kernel_rfl
theorem c68_ok:cFnQ Try.prog false 68=some c68:=by kernel_rfl
theorem c69_ok:cFnQ Try.prog false 69=some c69:=by kernel_rfl
theorem c70_ok:cFnQ Try.prog false 70=some c70:=by kernel_rfl
theorem c71_ok:cFnQ Try.prog false 71=some c71:=by kernel_rfl
theorem c72_ok:cFnQ Try.prog false 72=some c72:=by kernel_rfl
theorem c73_ok:cFnQ Try.prog false 73=some c73:=by kernel_rfl
theorem c74_ok:cFnQ Try.prog false 74=some c74:=by kernel_rfl
theorem c75_ok:cFnQ Try.prog false 75=some c75:=by kernel_rfl
theorem c76_ok:cFnQ Try.prog false 76=some c76:=by kernel_rfl
theorem c77_ok:cFnQ Try.prog false 77=some c77:=by kernel_rfl
theorem c78_ok:cFnQ Try.prog false 78=some c78:=by kernel_rfl
theorem c79_ok:cFnQ Try.prog false 79=some c79:=by kernel_rfl
theorem c80_ok:cFnQ Try.prog false 80=some c80:=by kernel_rfl
theorem c81_ok:cFnQ Try.prog false 81=some c81:=by kernel_rfl
theorem c82_ok:cFnQ Try.prog false 82=some c82:=by kernel_rfl
theorem c83_ok:cFnQ Try.prog false 83=some c83:=by kernel_rfl
theorem c84_ok:cFnQ Try.prog false 84=some c84:=by kernel_rfl
theorem c85_ok:cFnQ Try.prog false 85=some c85:=by kernel_rfl
theorem c86_ok:cFnQ Try.prog false 86=some c86:=by kernel_rfl
theorem c87_ok:cFnQ Try.prog false 87=some c87:=by kernel_rfl
end Go.Proofs.Ytdceaeifcniabaa.AE

namespace Go.Proofs.Ytdceaeifcniabaa.AE
set_option linter.unusedVariables false
set_option linter.unusedSimpArgs false
set_option linter.constructorNameAsVariable false
open Go Go.RowKit

mutual
theorem eqAV_ok:∀ (a b:AV),eqAV a b=true→a=b
 | .int k n,b,h=>by cases b <;> simp [eqAV] at h ⊢; exact h
 | .bool x,b,h=>by cases b <;> simp [eqAV] at h ⊢; exact h
 | .str x,b,h=>by cases b <;> simp [eqAV] at h ⊢; exact h
 | .nilp,b,h=>by cases b <;> simp [eqAV] at h ⊢
 | .zsl x,b,h=>by cases b <;> simp [eqAV] at h ⊢; exact h
 | .ptr i j k,b,h=>by cases b <;> simp [eqAV] at h ⊢; exact ⟨h.1.1,h.1.2,h.2⟩
 | .slc i j k,b,h=>by cases b <;> simp [eqAV] at h ⊢; exact ⟨h.1.1,h.1.2,h.2⟩
 | .lst l,b,h=>by cases b <;> simp [eqAV] at h ⊢; exact eqAVs_ok _ _ h
 | .fptr v j,b,h=>by cases b <;> simp [eqAV] at h ⊢; exact ⟨eqAV_ok _ _ h.1,h.2⟩
 | .agg l,b,h=>by cases b <;> simp [eqAV] at h ⊢; exact eqAVs_ok _ _ h
 | .tup l,b,h=>by cases b <;> simp [eqAV] at h ⊢; exact eqAVs_ok _ _ h
 | .fn g x y,b,h=>by cases b <;> simp [eqAV] at h ⊢; exact ⟨h.1.1,eqAVs_ok _ _ h.1.2,eqAVs_ok _ _ h.2⟩
 | .nilf,b,h=>by cases b <;> simp [eqAV] at h ⊢
 | .undef,b,h=>by cases b <;> simp [eqAV] at h ⊢
 | .emp,b,h=>by cases b <;> simp [eqAV] at h ⊢
 | .slk i j k,b,h=>by cases b <;> simp [eqAV] at h ⊢; exact ⟨h.1.1,h.1.2,h.2⟩
theorem eqAVs_ok:∀ (a b:List AV),eqAVs a b=true→a=b
 | [],b,h=>by cases b <;> simp [eqAVs] at h ⊢
 | x::l,b,h=>by
   cases b with
   | nil=>simp [eqAVs] at h
   | cons y m =>
     simp only [eqAVs,Bool.and_eq_true] at h
     rw [eqAV_ok _ _ h.1,eqAVs_ok _ _ h.2]
end
mutual
theorem eqAV_r:∀ a:AV,eqAV a a=true
 | .int k n=>by simp [eqAV]
 | .bool x=>by simp [eqAV]
 | .str x=>by simp [eqAV]
 | .nilp=>by simp [eqAV]
 | .zsl x=>by simp [eqAV]
 | .ptr i j k=>by simp [eqAV]
 | .slc i j k=>by simp [eqAV]
 | .lst l=>by simp [eqAV,eqAVs_r l]
 | .fptr v j=>by simp [eqAV,eqAV_r v]
 | .agg l=>by simp [eqAV,eqAVs_r l]
 | .tup l=>by simp [eqAV,eqAVs_r l]
 | .fn g x y=>by simp [eqAV,eqAVs_r x,eqAVs_r y]
 | .nilf=>by simp [eqAV]
 | .undef=>by simp [eqAV]
 | .emp=>by simp [eqAV]
 | .slk i j k=>by simp [eqAV]
theorem eqAVs_r:∀ a:List AV,eqAVs a a=true
 | []=>by simp [eqAVs]
 | x::l=>by simp [eqAVs,eqAV_r x,eqAVs_r l]
end
theorem eqBlk_ok {a b:Blk} (h:eqBlk a b=true):a=b:=by
 obtain ⟨⟨t,e,g,by',z⟩,l⟩:=a
 obtain ⟨⟨t',e',g',by'',z'⟩,l'⟩:=b
 simp only [eqBlk,Bool.and_eq_true,decide_eq_true_eq] at h
 obtain ⟨⟨⟨⟨⟨h1,h2⟩,h3⟩,h4⟩,h5⟩,h6⟩:=h
 rw [h1,h2,h3,h4,eqAV_ok _ _ h5,eqAVs_ok _ _ h6]
theorem eqBlk_r (a:Blk):eqBlk a a=true:=by simp [eqBlk,eqAV_r,eqAVs_r]
theorem keepB_ok {H H':Heap} {id:Nat} (h:keepB H H' id=true):H[id]?=H'[id]?:=by
 unfold keepB at h
 split at h
 ·rename_i a b h1 h2; rw [h1,h2,eqBlk_ok h]
 ·rename_i h1 h2; rw [h1,h2]
 ·rename_i h1 h2; rw [h1,h2]
 ·cases h
theorem keepB_of {H H':Heap} {id:Nat} (h:H[id]?=H'[id]?):keepB H H' id=true:=by
 unfold keepB
 rw [← h]
 cases H[id]? with
 | none=>rfl
 | some x=>cases x with
   | none=>rfl
   | some b=>exact eqBlk_r b
theorem keepL_ok {H H':Heap} {l:List AV} (h:keepL H H' l=true) {v:AV} (hv:v ∈ l) {id:Nat} (hi:id ∈ idsOf v):H[id]?=H'[id]? :=
 keepB_ok (List.all_eq_true.mp (List.all_eq_true.mp h v hv) id hi)

structure TS (call:CallF) (base:Nat) (l:List SOp) (f:Nat→St):Prop where
 step:∀ (k:Nat) (o:SOp),l[k]?=some o→(want (f k).env o.op.guard=some true∧∃ v H',stepS call base o (f k)=some (v,H')∧f (k+1)=⟨put (f k).env o.op.dst v,H'⟩) ∨
  (want (f k).env o.op.guard=some false∧f (k+1)=⟨put (f k).env o.op.dst (.tup []),(f k).H⟩)
 log:∀ (i k:Nat) (a b:SOp),i < k→l[i]?=some a→l[k]?=some b→want (f i).env a.op.guard=some true→want (f k).env b.op.guard=some true→b.chk.contains i=true →
  logC (entS i a (evO (f i).env) (f i).H (f (i+1)).H) b (evO (f k).env) (f k).H (f (k+1)).H=true
 kp:∀ (k:Nat) (o:SOp) (j:Nat),l[k]?=some o→want (f k).env o.op.guard=some true→o.kp.contains j=true→(f k).H[base+j]?=(f (k+1)).H[base+j]?

theorem traceS {call:CallF} {base:Nat}:∀ (l:List SOp) (i:Nat) (log:List LogE) (s s':St),runOpsS call base l i log s=some s' →
 ∃ f:Nat→St,f 0=s∧f l.length=s' ∧
   (∀ (k:Nat) (o:SOp),l[k]?=some o→(want (f k).env o.op.guard=some true∧∃ v H',stepS call base o (f k)=some (v,H')∧f (k+1)=⟨put (f k).env o.op.dst v,H'⟩) ∨
     (want (f k).env o.op.guard=some false∧f (k+1)=⟨put (f k).env o.op.dst (.tup []),(f k).H⟩)) ∧
   (∀ (k:Nat) (b:SOp),l[k]?=some b→want (f k).env b.op.guard=some true →
     (∀ e ∈ log,b.chk.contains e.idx=true→logC e b (evO (f k).env) (f k).H (f (k+1)).H=true) ∧
     (∀ (m:Nat) (a:SOp),m < k→l[m]?=some a→want (f m).env a.op.guard=some true→b.chk.contains (i+m)=true→logC (entS (i+m) a (evO (f m).env) (f m).H (f (m+1)).H) b (evO (f k).env) (f k).H (f (k+1)).H=true) ∧
     ∀ j,b.kp.contains j=true→(f k).H[base+j]?=(f (k+1)).H[base+j]?)
 | [],i,log,s,s',h=>by
   simp only [runOpsS,Option.some.injEq] at h
   exact ⟨fun _=>s,rfl,h,by simp,by simp⟩
 | o::l,i,log,s,s',h=>by
   simp only [runOpsS] at h
   split at h
   ·rename_i hw
    split at h <;> (try (cases h; done))
    rename_i v H' hv
    split at h <;> (try (cases h; done))
    rename_i hok
    simp only [Bool.and_eq_true,List.all_eq_true] at hok
    obtain ⟨hlog,hkp⟩:=hok
    obtain ⟨f,h0,h1,h2,h3⟩:=traceS l (i+1) _ _ s' h
    refine ⟨fun k=>match k with | 0=>s | k+1=>f k,rfl,h1,?_,?_⟩
    ·intro k b hk
     cases k with
     | zero =>
       simp only [List.getElem?_cons_zero,Option.some.injEq] at hk
       subst hk
       exact .inl ⟨hw,v,H',hv,h0⟩
     | succ k =>
       simp only [List.getElem?_cons_succ] at hk
       exact h2 k b hk
    ·intro k b hk hwk
     cases k with
     | zero =>
       simp only [List.getElem?_cons_zero,Option.some.injEq] at hk
       subst hk
       have hH:(f 0).H=H':=by rw [h0]
       refine ⟨fun e he hc=>?_,fun m _ hm=>absurd hm (by omega),fun j hj=>?_⟩
       ·have:=hlog e he
        rw [hc] at this
        simp only [hH]
        simpa using this
       ·simp only [hH]
        exact keepB_ok (hkp j (by simpa using hj))
     | succ k =>
       simp only [List.getElem?_cons_succ] at hk
       obtain ⟨q1,q2,q3⟩:=h3 k b hk hwk
       refine ⟨fun e he=>q1 e (by simp [he]),fun m a hm ha hwm hc=>?_,q3⟩
       cases m with
       | zero =>
         simp only [List.getElem?_cons_zero,Option.some.injEq] at ha
         subst ha
         have hH:(f 0).H=H':=by rw [h0]
         have:=q1 (entS i o (evO s.env) s.H H') (by simp) (by simpa [entS] using hc)
         simp only [hH,Nat.add_zero]
         exact this
       | succ m =>
         simp only [List.getElem?_cons_succ] at ha
         have:=q2 m a (by omega) ha hwm (by rwa [show i+1+m=i+(m+1) by omega])
         rwa [show i+1+m=i+(m+1) by omega] at this
   ·rename_i hw
    obtain ⟨f,h0,h1,h2,h3⟩:=traceS l (i+1) _ _ s' h
    refine ⟨fun k=>match k with | 0=>s | k+1=>f k,rfl,h1,?_,?_⟩
    ·intro k b hk
     cases k with
     | zero =>
       simp only [List.getElem?_cons_zero,Option.some.injEq] at hk
       subst hk
       exact .inr ⟨hw,h0⟩
     | succ k =>
       simp only [List.getElem?_cons_succ] at hk
       exact h2 k b hk
    ·intro k b hk hwk
     cases k with
     | zero =>
       simp only [List.getElem?_cons_zero,Option.some.injEq] at hk
       subst hk
       simp only [hw] at hwk
       cases hwk
     | succ k =>
       simp only [List.getElem?_cons_succ] at hk
       obtain ⟨q1,q2,q3⟩:=h3 k b hk hwk
       refine ⟨fun e he=>q1 e he,fun m a hm ha hwm hc=>?_,q3⟩
       cases m with
       | zero =>
         simp only [List.getElem?_cons_zero,Option.some.injEq] at ha
         subst ha
         simp only [hw] at hwm
         cases hwm
       | succ m =>
         simp only [List.getElem?_cons_succ] at ha
         have:=q2 m a (by omega) ha hwm (by rwa [show i+1+m=i+(m+1) by omega])
         rwa [show i+1+m=i+(m+1) by omega] at this
   ·cases h

theorem ts_of {call:CallF} {base:Nat} {l:List SOp} {s s':St} (h:runOpsS call base l 0 [] s=some s'):∃ f:Nat→St,f 0=s∧f l.length=s'∧TS call base l f:=by
 obtain ⟨f,h0,h1,h2,h3⟩:=traceS l 0 [] s s' h
 refine ⟨f,h0,h1,h2,fun i k a b hik ha hb hwa hwb hc=>?_,fun k o j hk hw hj=>(h3 k o hk hw).2.2 j hj⟩
 have:=(h3 k b hb hwb).2.1 i a hik ha hwa (by simpa using hc)
 simpa using this

/-! One operation, told over memory that agrees where it looks -/
theorem hget_eq {H G:Heap} {id:Nat} (h:H[id]?=G[id]?):hget H id=hget G id:=by unfold hget; rw [h]
theorem lenOf_eq {H G:Heap} {x:AV} (h:∀ id ∈ idsOf x,H[id]?=G[id]?):lenOf H x=lenOf G x:=by
 cases x <;> try rfl
 all_goals
  rename_i id o n
  simp only [lenOf,hget_eq (h id (by simp [idsOf]))]
theorem elsOf_eq {H G:Heap} {x:AV} (h:∀ id ∈ idsOf x,H[id]?=G[id]?):elsOf H x=elsOf G x:=by
 cases x <;> try rfl
 rename_i id o n
 simp only [elsOf,hget_eq (h id (by simp [idsOf]))]
theorem light_op {call:CallF} {ev:Opd→AV} {H H':Heap} {io:IOp} {v:AV} (hl:lightOp io=true) (h:aop call ev H io=some (v,H')) :
 H'=H∧∀ G:Heap,(∀ x ∈ namesOf ev io,∀ id ∈ idsOf x,H[id]?=G[id]?)→aop call ev G io=some (v,G):=by
 cases io <;> simp only [lightOp,Bool.false_eq_true] at hl
 case load ag n a =>
  simp only [aop] at h
  cases hx:aLoad H ag n (ev a) with
  | none=>rw [hx] at h; cases h
  | some y =>
    rw [hx] at h
    simp only [Option.some.injEq,Prod.mk.injEq] at h
    obtain ⟨rfl,rfl⟩:=h
    refine ⟨rfl,fun G hG=>?_⟩
    have:aLoad H ag n (ev a)=aLoad G ag n (ev a):=by
     cases he:ev a <;> try rfl
     rename_i id i j
     have:=hG (ev a) (by simp [namesOf]) id (by simp [he,idsOf])
     simp only [aLoad,hget_eq this]
    simp only [aop,← this,hx]
 case mark x =>
  simp only [aop] at h
  split at h <;> (try (cases h; done))
  rename_i id q n hxv
  split at h <;> (try (cases h; done))
  rename_i k hg
  split at h <;> (try (cases h; done))
  rename_i hne
  simp only [Option.some.injEq,Prod.mk.injEq] at h
  obtain ⟨rfl,rfl⟩:=h
  refine ⟨rfl,fun G hG=>?_⟩
  have:=hget_eq (hG (ev x) (by simp [namesOf]) id (by simp [hxv,idsOf]))
  simp only [aop,hxv,← this,hg,hne]
 case b2s x =>
  have key:∀ G:Heap,(∀ s,ev x ≠ .str s)→aop call ev G (.b2s x)=(match elsOf G (ev x) with
   | some l=>(match b2sL l with
     | some s=>some (.str s,G)
     | none=>none)
   | none=>none):=by
   intro G hn
   simp only [aop]
   generalize ev x=X at hn ⊢
   cases X <;> first | rfl | exact absurd rfl (hn _)
  have hn:∀ s,ev x ≠ .str s:=by
   intro s hs
   simp [aop,hs] at h
  rw [key H hn] at h
  split at h <;> (try (cases h; done))
  rename_i l hl'
  split at h <;> (try (cases h; done))
  rename_i q hq
  simp only [Option.some.injEq,Prod.mk.injEq] at h
  obtain ⟨rfl,rfl⟩:=h
  refine ⟨rfl,fun G hG=>?_⟩
  rw [key G hn,← elsOf_eq (hG (ev x) (by simp [namesOf])),hl']
  simp only [hq]
 case subV es x lo hi mx =>
  simp only [aop] at h
  split at h <;> (try (cases h; done))
  rename_i y hy
  simp only [Option.some.injEq,Prod.mk.injEq] at h
  obtain ⟨rfl,rfl⟩:=h
  refine ⟨rfl,fun G hG=>?_⟩
  have hn:=hG (ev x) (by simp [namesOf])
  have:aSubV H es (ev x) (lo.map ev) (hi.map ev) (mx.map ev)=aSubV G es (ev x) (lo.map ev) (hi.map ev) (mx.map ev):=by
   have hle:=lenOf_eq hn
   generalize ev x=X at hn hle
   unfold aSubV
   rw [← hle]
   cases X <;> try rfl
   rename_i id o n
   have:=hget_eq (hn id (by simp [idsOf]))
   simp only [this]
  simp only [aop,← this,hy]
 case ixAS sh es x i =>
  simp only [aop] at h
  split at h <;> (try (cases h; done))
  rename_i q hq
  split at h <;> (try (cases h; done))
  rename_i y hy
  simp only [Option.some.injEq,Prod.mk.injEq] at h
  obtain ⟨rfl,rfl⟩:=h
  refine ⟨rfl,fun G hG=>?_⟩
  have hn:=hG (ev x) (by simp [namesOf])
  have:aIx H es (ev x) q=aIx G es (ev x) q:=by
   generalize ev x=X at hn
   cases X <;> try rfl
   rename_i id o n
   have:=hget_eq (hn id (by simp [idsOf]))
   simp only [aIx,this]
  simp only [aop,hq,← this,hy]
 case bk b args =>
  cases b
  case lenV =>
   simp only [aop] at h
   split at h <;> (try (cases h; done))
   rename_i x
   split at h <;> (try (cases h; done))
   rename_i n hn
   simp only [Option.some.injEq,Prod.mk.injEq] at h
   obtain ⟨rfl,rfl⟩:=h
   refine ⟨rfl,fun G hG=>?_⟩
   have:=lenOf_eq (hG (ev x) (by simp [namesOf]))
   simp only [aop,← this,hn]
  all_goals
   simp only [aop] at h ⊢
   repeat' (split at h <;> (try (cases h; done)))
   all_goals
    simp only [Option.some.injEq,Prod.mk.injEq] at h
    obtain ⟨rfl,rfl⟩:=h
    refine ⟨rfl,fun G _=>?_⟩
    simp_all
 all_goals
  simp only [aop] at h ⊢
  first
  | (simp only [Option.some.injEq,Prod.mk.injEq] at h
     obtain ⟨rfl,rfl⟩:=h
     exact ⟨rfl,fun G _=>rfl⟩)
  | (repeat' (split at h <;> (try (cases h; done)))
     all_goals
      simp only [Option.some.injEq,Prod.mk.injEq] at h
      obtain ⟨rfl,rfl⟩:=h
      refine ⟨rfl,fun G _=>?_⟩
      simp_all)
end Go.Proofs.Ytdceaeifcniabaa.AE

namespace Go.Proofs.Ytdceaeifcniabaa.AE
set_option linter.unusedVariables false
set_option linter.unusedSimpArgs false
set_option linter.constructorNameAsVariable false
open Go Go.RowKit

theorem sops_at {ios:List IOper} {ps:List Nat} {k:Nat} {o:SOp} (h:(sopsOf ios ps)[k]?=some o):ios[k]?=some o.op:=by
 simp only [sopsOf,List.getElem?_map,List.getElem?_zipIdx,Nat.zero_add,Option.map_map,Option.map_eq_some_iff] at h
 obtain ⟨a,ha,rfl⟩:=h
 exact ha
theorem sops_len (ios:List IOper) (ps:List Nat):(sopsOf ios ps).length=ios.length:=by simp [sopsOf]

def preB (o:SOp):Blk:=match o.op.op with
 | .alloc e=>⟨e,[e.zero]⟩
 | _=>rjunk
def kindOk (o:SOp):Prop:=(∃ e,o.op.op=.alloc e∧e.es ≠ 0) ∨ (∃ e x,o.op.op=.box e x∧e.bytes ≠ 0) ∨ ∃ e n q,o.op.op=.mkrow e n q∧e.bytes ≠ 0
theorem slots_spec:∀ (l:List SOp) (c:Nat),slotsOk l c=true→∀ (m:Nat) (a:SOp) (j:Nat),l[m]?=some a→a.slot=some j →
 c≤j∧a.op.guard=none∧kindOk a∧(preH l)[j - c]?=some (some (preB a))∧∀ (m':Nat) (a':SOp) (j':Nat),m < m'→l[m']?=some a'→a'.slot=some j'→j < j'
 | [],c,h,m,a,j,hm,_=>by simp at hm
 | o::l,c,h,m,a,j,hm,hj=>by
   simp only [slotsOk] at h
   cases hs:o.slot with
   | none =>
     rw [hs] at h
     cases m with
     | zero =>
       simp only [List.getElem?_cons_zero,Option.some.injEq] at hm
       subst hm; rw [hs] at hj; cases hj
     | succ m =>
       simp only [List.getElem?_cons_succ] at hm
       obtain ⟨q1,q2,q3,q4,q5⟩:=slots_spec l c h m a j hm hj
       refine ⟨q1,q2,q3,by simp only [preH,hs]; exact q4,fun m' a' j' hlt ha' hj'=>?_⟩
       cases m' with
       | zero=>omega
       | succ m'=>exact q5 m' a' j' (by omega) (by simpa using ha') hj'
   | some s =>
     rw [hs] at h
     simp only [Bool.and_eq_true,beq_iff_eq] at h
     obtain ⟨⟨⟨h1,h2⟩,h3⟩,h4⟩:=h
     subst h1
     cases m with
     | zero =>
       simp only [List.getElem?_cons_zero,Option.some.injEq] at hm
       subst hm
       rw [hs] at hj; cases hj
       refine ⟨Nat.le_refl _,by simpa using h2,?_,?_,fun m' a' j' hlt ha' hj'=>?_⟩
       ·split at h3
        ·rename_i e he; exact .inl ⟨e,he,by simpa using h3⟩
        ·rename_i e x he; exact .inr (.inl ⟨e,x,he,by simpa using h3⟩)
        ·rename_i e n q he; exact .inr (.inr ⟨e,n,q,he,by simpa using h3⟩)
        ·cases h3
       ·simp only [preH,hs,Nat.sub_self,List.getElem?_cons_zero]
        unfold preB
        cases o.op.op <;> rfl
       ·cases m' with
        | zero=>omega
        | succ m' =>
          have:=(slots_spec l _ h4 m' a' j' (by simpa using ha') hj').1
          omega
     | succ m =>
       simp only [List.getElem?_cons_succ] at hm
       obtain ⟨q1,q2,q3,q4,q5⟩:=slots_spec l _ h4 m a j hm hj
       refine ⟨by omega,q2,q3,?_,fun m' a' j' hlt ha' hj'=>?_⟩
       ·simp only [preH,hs]
        rw [show j - s=(j - (s+1))+1 by omega,List.getElem?_cons_succ]; exact q4
       ·cases m' with
        | zero=>omega
        | succ m'=>exact q5 m' a' j' (by omega) (by simpa using ha') hj'

def hv (o:SOp):Prop:=chgS o=true∧o.slot=none
def mkF (o:SOp):Prop:=o.slot ≠ none∧allocOp o.op.op=false

structure GS (P:Program) (call:CallF) (base:Nat) (ops:Array Oper) (l:List SOp) (ps:List Nat) (f:Nat→St):Prop where
 size:l.length=ops.size
 ts:TS call base l f
 at_:∀ k,k < ops.size→∃ (o:Oper) (so:SOp),ops[k]?=some o∧l[k]?=some so∧cOper P ops.toList o=some so.op
 slots:∀ (m k:Nat) (om ok:Oper) (t:Nat),m ≠ k→ops[m]?=some om→ops[k]?=some ok→om.dst=some t→(t ∈ ok.looksAt ops ∨ ok.dst=some t)→Ord ps m k
 heavy:∀ (m k:Nat) (a b:SOp),m ≠ k→l[m]?=some a→l[k]?=some b→hv a→hv b→Ord ps m k
 mkcall:∀ (m k:Nat) (a b:SOp),m ≠ k→l[m]?=some a→l[k]?=some b→mkF a→hv b→stApp b.op.op=false→Ord ps m k
 chk:∀ (i k:Nat) (a b:SOp),i < k→l[i]?=some a→l[k]?=some b→meetsS a b=true→Ord ps i k ∨ b.chk.contains i=true
 kp:∀ (m k:Nat) (a b:SOp) (s:Nat),l[m]?=some a→l[k]?=some b→a.slot=some s→hv b→(ps.getD k 0).testBit m=true ∨ b.kp.contains s=true
 slot:∀ (m:Nat) (a:SOp) (j:Nat),l[m]?=some a→a.slot=some j→a.op.guard=none∧kindOk a∧(preH l)[j]?=some (some (preB a))
 inj:∀ (m m':Nat) (a a':SOp) (j:Nat),l[m]?=some a→l[m']?=some a'→a.slot=some j→a'.slot=some j→m=m'
 low:∀ (m i:Nat),(ps.getD m 0).testBit i=true→i < m
 trans:∀ (m h k:Nat),k < ops.size→(ps.getD k 0).testBit h=true→(ps.getD h 0).testBit m=true→(ps.getD k 0).testBit m=true

theorem predsOf_low {ops:Array Oper} (hed:edgesOk ops=true):∀ m i,((predsOf ops.toList []).getD m 0).testBit i=true→i < m:=by
 intro m
 induction m using Nat.strongRecOn with
 | _ m ih =>
   intro i hi
   rcases Nat.lt_or_ge m ops.size with hlt | hge
   ·have ho:ops.toList[m]?=some ops[m]:=by simp [hlt]
    obtain ⟨x,h1,h2,h3⟩:=predsOf_bits ops.toList [] m i ops[m] ho (by simpa using hi)
    have:=List.all_eq_true.mp hed (ops[m],m) (by rw [List.mem_zipIdx_iff_getElem?]; simp [hlt])
    have:=List.all_eq_true.mp this x (by simpa using h1)
    have hx:x.on < m:=by simpa [h2] using this
    rcases h3 with rfl | h3
    ·exact hx
    ·have:=ih x.on hx i h3; omega
   ·have hl:=predsOf_len ops.toList []
    rw [List.getD_eq_getElem?_getD,List.getElem?_eq_none (by simp at hl; omega)] at hi
    simp at hi

theorem gs_of {P:Program} {call:CallF} {base:Nat} {ops:Array Oper} {ios:List IOper} {f:Nat→St} (hc:optAll (cOper P ops.toList) ops.toList=some ios)
 (hd:drawSOk ops (sopsOf ios (predsOf ops.toList [])) (predsOf ops.toList [])=true) (hed:edgesOk ops=true) (ht:TS call base (sopsOf ios (predsOf ops.toList [])) f) :
 GS P call base ops (sopsOf ios (predsOf ops.toList [])) (predsOf ops.toList []) f:=by
 have hlow:=predsOf_low hed
 generalize hps:predsOf ops.toList []=ps at *
 obtain ⟨hl,hat⟩:=optAll_spec hc
 have hlen:ios.length=ops.size:=by simpa using hl
 have hsz:(sopsOf ios ps).length=ops.size:=by rw [sops_len,hlen]
 have hop:∀ (k:Nat) (so:SOp),(sopsOf ios ps)[k]?=some so→ios[k]?=some so.op:=fun k so h=>sops_at h
 generalize sopsOf ios ps=l at *
 simp only [drawSOk,Bool.and_eq_true] at hd
 obtain ⟨⟨⟨htr,hs⟩,hd⟩,hk⟩:=hd
 have lt_of:∀ (k:Nat) (so:SOp),l[k]?=some so→k < ops.size:=fun k so h=>by rw [← hsz]; exact (List.getElem?_eq_some_iff.mp h).1
 have lt_of2:∀ (k:Nat) (o:Oper),ops[k]?=some o→k < ops.size:=fun k o h=>(Array.getElem?_eq_some_iff.mp h).1
 have hat':∀ k,k < ops.size→∃ (o:Oper) (so:SOp),ops[k]?=some o∧l[k]?=some so∧cOper P ops.toList o=some so.op:=by
  intro k hk
  obtain ⟨io,e1,e2⟩:=hat k ops[k] (by simp [hk])
  have h1:l[k]?=some l[k]:=List.getElem?_eq_getElem (by omega)
  have h2:=hop k _ h1
  rw [e1] at h2
  injection h2 with h2
  exact ⟨ops[k],l[k],by simp [hk],h1,by rw [← h2]; exact e2⟩
 have hpair:∀ (i j:Nat) (o p:Oper) (a b:SOp),i < j→ops[i]?=some o→ops[j]?=some p→l[i]?=some a→l[j]?=some b→(ps.getD j 0).testBit i=true ∨ pairS ops o p a b i=true:=by
  intro i j o p a b hij ho hp ha hb
  have:=List.all_eq_true.mp (List.all_eq_true.mp hd j (List.mem_range.mpr (lt_of j b hb))) i (List.mem_range.mpr hij)
  simp only [Bool.or_eq_true,ho,hp,ha,hb] at this
  exact this
 have ordOf:∀ m k,m ≠ k→((m < k→(ps.getD k 0).testBit m=true)∧(k < m→(ps.getD m 0).testBit k=true))→Ord ps m k:=fun m k _ h=>h
 have two:∀ (m k:Nat) (om ok:Oper) (a b:SOp),m ≠ k→ops[m]?=some om→ops[k]?=some ok→l[m]?=some a→l[k]?=some b→(∀ o p x y i,pairS ops o p x y i=true→(o=om∧p=ok∧x=a∧y=b ∨ o=ok∧p=om∧x=b∧y=a)→False)→Ord ps m k:=by
  intro m k om ok a b hmk hm hk ha hb hno
  constructor
  ·intro hlt
   exact (hpair m k om ok a b hlt hm hk ha hb).resolve_right fun h=>hno _ _ _ _ _ h (.inl ⟨rfl,rfl,rfl,rfl⟩)
  ·intro hlt
   exact (hpair k m ok om b a hlt hk hm hb ha).resolve_right fun h=>hno _ _ _ _ _ h (.inr ⟨rfl,rfl,rfl,rfl⟩)
 have opsAt:∀ (k:Nat) (so:SOp),l[k]?=some so→∃ o,ops[k]?=some o:=fun k so h=>⟨ops[k]'(lt_of k so h),by simp [lt_of k so h]⟩
 have lAt:∀ (k:Nat) (o:Oper),ops[k]?=some o→∃ so,l[k]?=some so:=fun k o h=>⟨l[k]'(by have:=lt_of2 k o h; omega),List.getElem?_eq_getElem _⟩
 have hvl:∀ a:SOp,hv a→lightOp a.op.op=false:=by
  rintro a ⟨h1,h2⟩
  simp only [chgS,h2,Option.isSome_none,Bool.false_and,Bool.not_false,Bool.and_true,Bool.not_eq_true'] at h1
  exact h1
 have hsp:=slots_spec l 0 hs
 have mkl:∀ (m:Nat) (a:SOp),l[m]?=some a→a.slot ≠ none→lightOp a.op.op=false:=by
  intro m a ha hn
  cases hsl:a.slot with
  | none=>exact absurd hsl hn
  | some j =>
    obtain ⟨_,_,hkd,_⟩:=hsp m a j ha hsl
    rcases hkd with ⟨e,he,_⟩ | ⟨e,x,he,_⟩ | ⟨e,n,q,he,_⟩ <;> rw [he] <;> rfl
 refine ⟨hsz,ht,hat',?_,?_,?_,?_,?_,?_,?_,hlow,?_⟩
 rotate_right
 ·intro m h k hk h1 h2
  have:=List.all_eq_true.mp (List.all_eq_true.mp htr k (List.mem_range.mpr hk)) h (List.mem_range.mpr (hlow k h h1))
  simp only [h1,Bool.not_true,Bool.false_or,beq_iff_eq] at this
  have:=congrArg (fun z=>z.testBit m) this
  simp only [Nat.testBit_and,h2,Bool.true_and] at this
  exact this
 ·intro m k om ok t hmk hm hk hdst hlook
  obtain ⟨a,ha⟩:=lAt m om hm
  obtain ⟨b,hb⟩:=lAt k ok hk
  refine two m k om ok a b hmk hm hk ha hb fun o p x y i h hh=>?_
  simp only [pairS,Bool.and_eq_true] at h
  obtain ⟨a1,a2,a3⟩:=Oper.apart_spec h.1.1
  rcases hh with ⟨rfl,rfl,_,_⟩ | ⟨rfl,rfl,_,_⟩
  ·rcases hlook with hl | hl
   ·exact a1 t hdst hl
   ·exact a2 t hdst hl
  ·rcases hlook with hl | hl
   ·exact a3 t hdst hl
   ·exact a2 t hl hdst
 ·intro m k a b hmk ha hb hva hvb
  obtain ⟨om,hm⟩:=opsAt m a ha
  obtain ⟨ok,hk⟩:=opsAt k b hb
  refine two m k om ok a b hmk hm hk ha hb fun o p x y i h hh=>?_
  simp only [pairS,Bool.and_eq_true] at h
  have h:=h.1.2
  have e1:=hvl a hva
  have e2:=hvl b hvb
  rcases hh with ⟨_,_,rfl,rfl⟩ | ⟨_,_,rfl,rfl⟩ <;> simp [e1,e2,hva.2,hvb.2] at h
 ·intro m k a b hmk ha hb hma hvb hns
  obtain ⟨om,hm⟩:=opsAt m a ha
  obtain ⟨ok,hk⟩:=opsAt k b hb
  refine two m k om ok a b hmk hm hk ha hb fun o p x y i h hh=>?_
  simp only [pairS,Bool.and_eq_true] at h
  have h:=h.1.2
  have e1:=mkl m a ha hma.1
  have e2:=hvl b hvb
  rcases hh with ⟨_,_,rfl,rfl⟩ | ⟨_,_,rfl,rfl⟩ <;> simp [e1,e2,hvb.2,hns,hma.2] at h
 ·intro i k a b hik ha hb hme
  obtain ⟨oi,hi⟩:=opsAt i a ha
  obtain ⟨ok,hk⟩:=opsAt k b hb
  rcases hpair i k oi ok a b hik hi hk ha hb with h | h
  ·exact .inl ⟨fun _=>h,fun h'=>by omega⟩
  ·right
   simp only [pairS,Bool.and_eq_true,hme,Bool.not_true,Bool.false_or] at h
   exact h.2
 ·intro m k a b s ha hb hsl hvb
  have:=List.all_eq_true.mp (List.all_eq_true.mp hk k (List.mem_range.mpr (lt_of k b hb))) m (List.mem_range.mpr (lt_of m a ha))
  simp only [ha,hb,hsl,hvb.1,hvb.2,Option.isNone_none,Bool.and_self,Bool.not_true,Bool.or_false,Bool.or_eq_true] at this
  exact this
 ·intro m a j ha hj
  obtain ⟨_,q2,q3,q4,_⟩:=hsp m a j ha hj
  exact ⟨q2,q3,by simpa using q4⟩
 ·intro m m' a a' j ha ha' hj hj'
  rcases Nat.lt_trichotomy m m' with h | h | h
  ·have:=(hsp m a j ha hj).2.2.2.2 m' a' j h ha' hj'; omega
  ·exact h
  ·have:=(hsp m' a' j ha' hj').2.2.2.2 m a j h ha hj; omega
end Go.Proofs.Ytdceaeifcniabaa.AE

namespace Go.Proofs.Ytdceaeifcniabaa.AE
set_option linter.unusedVariables false
set_option linter.unusedSimpArgs false
set_option linter.constructorNameAsVariable false
open Go Go.RowKit

theorem names_has {ev:Opd→AV} {io:IOp} {x:AV} (h:x ∈ namesOf ev io):hasNames io=true:=by
 cases io <;> simp [namesOf,hasNames] at h ⊢
 case bk b args=>cases b <;> simp [namesOf,hasNames] at h ⊢
theorem kind_not {a:SOp} (h:kindOk a):lightOp a.op.op=false:=by
 rcases h with ⟨e,he,_⟩ | ⟨e,x,he,_⟩ | ⟨e,n,q,he,_⟩ <;> rw [he] <;> rfl
theorem make_not {ev:Opd→AV} {id:Nat} {a:SOp} {v:AV} {k:Blk} (h:kindOk a) (hm:makeAt ev id a.op.op=some (v,k)):k ≠ rjunk:=by
 rcases h with ⟨e,he,_⟩ | ⟨e,x,he,hb⟩ | ⟨e,n,q,he,hb⟩ <;> rw [he] at hm <;> simp only [makeAt] at hm
 ·cases hm
 ·split at hm <;> cases hm
  intro hk
  have:=congrArg (fun b:Blk=>b.e.bytes) hk
  exact hb this
 ·split at hm <;> cases hm
  intro hk
  have:=congrArg (fun b:Blk=>b.e.bytes) hk
  exact hb this

section
variable {P:Program} {call:CallF} {base:Nat} {ops:Array Oper} {l:List SOp} {ps:List Nat} {f:Nat→St}

theorem GS.lt (G:GS P call base ops l ps f) {k:Nat} {o:SOp} (h:l[k]?=some o):k < ops.size:=by rw [← G.size]; exact (List.getElem?_eq_some_iff.mp h).1
theorem GS.get (G:GS P call base ops l ps f) {k:Nat} (h:k < ops.size):∃ o:SOp,l[k]?=some o:=⟨l[k]'(by rw [G.size]; exact h),List.getElem?_eq_getElem _⟩
theorem mkF_chg {a:SOp} (h:mkF a) (hk:kindOk a):chgS a=true:=by simp [chgS,h.2,kind_not hk]

theorem GS.soft (G:GS P call base ops l ps f) {k:Nat} {o:SOp} (h:l[k]?=some o) (hn:¬ hv o):(f (k+1)).H.length=(f k).H.length∧∀ id,(∀ j,o.slot=some j→mkF o→id ≠ base+j)→(f k).H[id]?=(f (k+1)).H[id]?:=by
 rcases G.ts.step k o h with ⟨hw,v,H',hs,he⟩ | ⟨hw,he⟩
 ·rw [he]
  simp only
  cases hsl:o.slot with
  | none =>
    simp only [stepS,hsl] at hs
    have hlt:lightOp o.op.op=true:=by
     cases hl:lightOp o.op.op with
     | true=>rfl
     | false=>exact absurd ⟨by simp [chgS,hsl,hl],hsl⟩ hn
    obtain ⟨rfl,_⟩:=light_op hlt hs
    exact ⟨rfl,fun _ _=>rfl⟩
  | some j =>
    simp only [stepS,hsl] at hs
    split at hs
    ·cases hs; exact ⟨rfl,fun _ _=>rfl⟩
    ·rename_i hal
     split at hs <;> (try (cases hs; done))
     cases hs
     refine ⟨by simp,fun id hid=>?_⟩
     rw [List.getElem?_set_ne (Ne.symm (hid j rfl ⟨by simp [hsl],hal⟩))]
 ·rw [he]; exact ⟨rfl,fun _ _=>rfl⟩
theorem GS.keeps (G:GS P call base ops l ps f) {k m:Nat} {o a:SOp} {j:Nat} (h:l[k]?=some o) (hh:hv o) (ha:l[m]?=some a) (hj:a.slot=some j) (hb:(ps.getD k 0).testBit m=false):(f k).H[base+j]?=(f (k+1)).H[base+j]?:=by
 rcases G.kp m k a o j ha h hj hh with h1 | h1
 ·rw [hb] at h1; cases h1
 ·rcases G.ts.step k o h with ⟨hw,_⟩ | ⟨hw,he⟩
  ·exact G.ts.kp k o j h hw h1
  ·rw [he]
theorem path {id y z:Nat} (h:∀ m,y≤m→m < z→(f m).H[id]?=(f (m+1)).H[id]?) (hyz:y≤z):(f y).H[id]?=(f z).H[id]?:=by
 induction z,hyz using le_ind with
 | base=>rfl
 | succ z hz ih=>rw [ih fun m h1 h2=>h m h1 (by omega)]; exact h z hz (by omega)
theorem path2 {id y z:Nat} (h:∀ m,(y≤m∧m < z ∨ z≤m∧m < y)→(f m).H[id]?=(f (m+1)).H[id]?):(f y).H[id]?=(f z).H[id]?:=by
 rcases Nat.le_total y z with hl | hl
 ·exact path (fun m h1 h2=>h m (.inl ⟨h1,h2⟩)) hl
 ·exact (path (fun m h1 h2=>h m (.inr ⟨h1,h2⟩)) hl).symm
theorem lens {y z:Nat} (h:∀ m,(y≤m∧m < z ∨ z≤m∧m < y)→(f (m+1)).H.length=(f m).H.length):(f y).H.length=(f z).H.length:=by
 have go:∀ y z:Nat,y≤z→(∀ m,y≤m→m < z→(f (m+1)).H.length=(f m).H.length)→(f y).H.length=(f z).H.length:=by
  intro y z hyz
  induction z,hyz using le_ind with
  | base=>intro _; rfl
  | succ z hz ih=>intro h; rw [ih fun m h1 h2=>h m h1 (by omega)]; exact (h z hz (by omega)).symm
 rcases Nat.le_total y z with hl | hl
 ·exact go y z hl fun m h1 h2=>h m (.inl ⟨h1,h2⟩)
 ·exact (go z y hl fun m h1 h2=>h m (.inr ⟨h1,h2⟩)).symm
theorem GS.pre (G:GS P call base ops l ps f) {H0:Heap} (h0:(f 0).H=H0 ++ preH l) (hb:base=H0.length) {m:Nat} {a:SOp} {j:Nat} (ha:l[m]?=some a) (hj:a.slot=some j):∀ k,k≤m→(f k).H[base+j]?=some (some (preB a)):=by
 intro k
 induction k with
 | zero =>
   intro _
   rw [h0,hb,List.getElem?_append_right (by omega),show H0.length+j - H0.length=j by omega]
   exact (G.slot m a j ha hj).2.2
 | succ k ih =>
   intro hk
   rw [← ih (by omega)]
   obtain ⟨o,ho⟩:=G.get (k:=k) (by have:=G.lt ha; omega)
   by_cases hh:hv o
   ·refine (G.keeps ho hh ha hj ?_).symm
    cases hx:(ps.getD k 0).testBit m with
    | false=>rfl
    | true=>have:=G.low k m hx; omega
   ·refine ((G.soft ho hh).2 _ fun j' hj' hm e=>?_).symm
    have:j'=j:=by omega
    subst this
    have:=G.inj k m o a _ ho ha hj' hj
    omega
theorem GS.made (G:GS P call base ops l ps f) {m:Nat} {a:SOp} {j:Nat} (ha:l[m]?=some a) (hj:a.slot=some j) {y:Nat} (hy:m < y) (hyn:y≤ops.size) (hno:∀ (h:Nat) (b:SOp),m < h→h < y→l[h]?=some b→hv b→(ps.getD h 0).testBit m=false) :
 (f (m+1)).H[base+j]?=(f y).H[base+j]?:=by
 refine path (fun h h1 h2=>?_) hy
 obtain ⟨b,hb⟩:=G.get (k:=h) (by omega)
 by_cases hh:hv b
 ·exact G.keeps hb hh ha hj (hno h b (by omega) h2 hb hh)
 ·refine (G.soft hb hh).2 _ fun j' hj' _ e=>?_
  have:j'=j:=by omega
  subst this
  have:=G.inj h m b a _ hb ha hj' hj
  omega
theorem GS.names (G:GS P call base ops l ps f) {k m:Nat} {o a:SOp} (h:l[k]?=some o) (hw:want (f k).env o.op.guard=some true) (ha:l[m]?=some a) (hc:chgS a=true) (hmk:m ≠ k) (hno:¬ Ord ps m k)
 {x:AV} (hx:x ∈ namesOf (evO (f k).env) o.op.op) {id:Nat} (hi:id ∈ idsOf x):(f m).H[id]?=(f (m+1)).H[id]?:=by
 rcases G.ts.step m a ha with ⟨hwm,_⟩ | ⟨_,he⟩
 ·have hn:=names_has hx
  rcases Nat.lt_or_ge m k with hlt | hge
  ·rcases G.chk m k a o hlt ha h (by simp [meetsS,hc,hn]) with h1 | h1
   ·exact absurd h1 hno
   ·have:=G.ts.log m k a o hlt ha h hwm hw h1
    simp only [logC,entS,hc,Bool.and_eq_true] at this
    exact keepL_ok this.1 hx hi
  ·rcases G.chk k m o a (by omega) h ha (by simp [meetsS,hc,hn]) with h1 | h1
   ·exact absurd ⟨h1.2,h1.1⟩ hno
   ·have:=G.ts.log k m o a (by omega) h ha hw hwm h1
    simp only [logC,entS,hc,Bool.and_eq_true] at this
    exact keepL_ok this.2 hx hi
 ·rw [he]

structure InvX (G:GS P call base ops l ps f) (L:Nat→Prop) (ρ0 ρ:Rho) (s:St) (x:Nat):Prop where
 len:s.env.length=(f 0).env.length
 env:∀ t,∃ c,c≤ops.size∧s.env.getD t .undef=(f c).env.getD t .undef∧∀ (m:Nat) (o:Oper),ops[m]?=some o→o.dst=some t→(m < c ↔ L m)
 xle:x≤ops.size
 hx:∀ (m:Nat) (a:SOp),l[m]?=some a→hv a→(m < x ↔ L m)
 hlen:s.H.length=(f x).H.length
 a:∀ id,(∀ (m:Nat) (o:SOp) (j:Nat),l[m]?=some o→o.slot=some j→mkF o→id ≠ base+j)→s.H[id]?=(f x).H[id]?
 b:∀ (m:Nat) (o:SOp) (j:Nat),l[m]?=some o→o.slot=some j→mkF o→(L m→s.H[base+j]?=(f (max x (m+1))).H[base+j]?)∧(¬ L m→s.H[base+j]?=some (some rjunk))
 c:∀ (m:Nat) (o:SOp) (j:Nat),l[m]?=some o→o.slot=some j→¬ L m→ρ (base+j)=.res
 d:∀ (m:Nat) (o:SOp) (j:Nat),l[m]?=some o→o.slot=some j→ρ0 (base+j)=.no

theorem InvX.to {G:GS P call base ops l ps f} {L:Nat→Prop} {ρ0 ρ:Rho} {s:St} {x:Nat} (I:InvX G L ρ0 ρ s x) {y:Nat} (hy:y≤ops.size) (hx:∀ (m:Nat) (a:SOp),l[m]?=some a→hv a→(m < y ↔ L m)):InvX G L ρ0 ρ s y:=by
 have soft:∀ (m:Nat) (o:SOp),l[m]?=some o→(x≤m∧m < y ∨ y≤m∧m < x)→¬ hv o:=by
  intro m o ho hm hh
  have h1:=I.hx m o ho hh
  have h2:=hx m o ho hh
  rcases hm with ⟨q1,q2⟩ | ⟨q1,q2⟩
  ·have:=h1.mpr (h2.mp q2); omega
  ·have:=h2.mpr (h1.mp q2); omega
 have xl:=I.xle
 refine ⟨I.len,I.env,hy,hx,?_,fun id hid=>?_,fun m o j ho hj hm=>⟨fun hl=>?_,(I.b m o j ho hj hm).2⟩,I.c,I.d⟩
 ·rw [I.hlen]
  refine lens fun m hm=>?_
  obtain ⟨o,ho⟩:=G.get (k:=m) (by omega)
  exact (G.soft ho (soft m o ho hm)).1
 ·rw [I.a id hid]
  refine path2 fun m hm=>?_
  obtain ⟨o,ho⟩:=G.get (k:=m) (by omega)
  exact (G.soft ho (soft m o ho hm)).2 id fun j hj hmk=>hid m o j ho hj hmk
 ·rw [(I.b m o j ho hj hm).1 hl]
  refine path2 fun m' hm'=>?_
  have hlt:m < ops.size:=G.lt ho
  obtain ⟨o',ho'⟩:=G.get (k:=m') (by omega)
  refine (G.soft ho' (soft m' o' ho' (by omega))).2 _ fun j' hj' hmk e=>?_
  have:j'=j:=by omega
  subst this
  have:=G.inj m' m o' o _ ho' ho hj' hj
  omega
end
end Go.Proofs.Ytdceaeifcniabaa.AE

namespace Go.Proofs.Ytdceaeifcniabaa.AE
set_option linter.unusedVariables false
set_option linter.unusedSimpArgs false
set_option linter.constructorNameAsVariable false
open Go Go.RowKit

def updH (G:Heap):Option (Nat × Option Blk)→Heap
 | some (id,x)=>G.set id x
 | none=>G
theorem updH_len (G:Heap) (u:Option (Nat × Option Blk)):(updH G u).length=G.length:=by cases u <;> simp [updH]
theorem updH_at {G:Heap} {u:Option (Nat × Option Blk)} {id:Nat} (h:∀ x,u ≠ some (id,x)):(updH G u)[id]?=G[id]?:=by
 cases u with
 | none=>rfl
 | some p =>
   obtain ⟨i,x⟩:=p
   have:i ≠ id:=fun e=>h x (by rw [e])
   simp only [updH,List.getElem?_set_ne this]
theorem updH_hit {G G':Heap} {id:Nat} {x:Option Blk} (h:G.length=G'.length):(updH G (some (id,x)))[id]?=(updH G' (some (id,x)))[id]?:=by
 simp only [updH,List.getElem?_set,h,if_true]
theorem stApp_op {call:CallF} {ev:Opd→AV} {H H':Heap} {io:IOp} {v:AV} (hl:stApp io=true) (h:aop call ev H io=some (v,H')) :
 ∃ (u:Option (Nat × Option Blk)) (Z:Heap),H'=updH H u ++ Z∧(∀ id y,u=some (id,y)→∃ x ∈ namesOf ev io,id ∈ idsOf x) ∧
   ∀ G:Heap,G.length=H.length→(∀ x ∈ namesOf ev io,∀ id ∈ idsOf x,H[id]?=G[id]?)→aop call ev G io=some (v,updH G u ++ Z):=by
 cases io <;> simp only [stApp,Bool.false_eq_true] at hl
 case store n a x =>
  simp only [aop] at h
  cases hp:aStore H n (ev x) (ev a) with
  | none=>rw [hp] at h; cases h
  | some Hn =>
    rw [hp] at h
    simp only [Option.some.injEq,Prod.mk.injEq] at h
    obtain ⟨rfl,rfl⟩:=h
    cases he:ev a <;> rw [he] at hp <;> simp only [aStore] at hp <;> (try (cases hp; done))
    rename_i id i j
    cases hg:hget H id with
    | none=>rw [hg] at hp; cases hp
    | some b =>
      rw [hg] at hp
      simp only at hp
      split at hp <;> (try (cases hp; done))
      rename_i el hel
      split at hp <;> (try (cases hp; done))
      rename_i el' hel'
      simp only [Option.some.injEq] at hp
      subst hp
      refine ⟨some (id,some { b with els:=b.els.set i el' }),[],by simp [updH],fun id' y hu=>?_,fun G hG hn=>?_⟩
      ·simp only [Option.some.injEq,Prod.mk.injEq] at hu
       exact ⟨ev a,by simp [namesOf],by simp [he,idsOf,hu.1]⟩
      ·have:=hn (ev a) (by simp [namesOf]) id (by simp [he,idsOf])
       rw [hget_eq this] at hg
       simp only [aop,he,aStore,hg,hel,hel',updH,List.append_nil]
 case app e sv x =>
  simp only [aop] at h
  cases hx:elsOf H (ev x) with
  | none=>rw [hx] at h; cases h
  | some xs =>
    rw [hx] at h
    simp only at h
    cases he:ev sv <;> rw [he] at h <;> simp only [aApp] at h <;> (try (cases h; done))
    ·split at h <;> (try (cases h; done))
     rename_i hc
     simp only [Option.some.injEq,Prod.mk.injEq] at h
     obtain ⟨rfl,rfl⟩:=h
     refine ⟨none,_,rfl,by simp,fun G hG hn=>?_⟩
     have e1:=elsOf_eq (hn (ev x) (by simp [namesOf]))
     simp only [aop,← e1,hx,he,aApp,if_pos hc,updH,hG]
    ·rename_i id o n
     cases o with
     | succ o=>simp only [aApp] at h; cases h
     | zero =>
       simp only [aApp] at h
       cases hg:hget H id with
       | none=>rw [hg] at h; cases h
       | some b =>
         rw [hg] at h
         simp only at h
         split at h <;> (try (cases h; done))
         rename_i hc
         simp only [Option.some.injEq,Prod.mk.injEq] at h
         obtain ⟨rfl,rfl⟩:=h
         refine ⟨some (id,none),_,rfl,fun id' y hu=>?_,fun G hG hn=>?_⟩
         ·simp only [Option.some.injEq,Prod.mk.injEq] at hu
          exact ⟨ev sv,by simp [namesOf],by simp [he,idsOf,hu.1]⟩
         ·have e1:=elsOf_eq (hn (ev x) (by simp [namesOf]))
          have e2:=hn (ev sv) (by simp [namesOf]) id (by simp [he,idsOf])
          rw [hget_eq e2] at hg
          simp only [aop,← e1,hx,he,aApp,hg,if_pos hc,updH,hG]
    ·rename_i id o n
     cases hg:hget H id with
     | none=>rw [hg] at h; cases h
     | some b =>
       rw [hg] at h
       simp only at h
       cases hxe:xs.isEmpty
       ·rw [hxe] at h
        simp only at h
        split at h <;> (try (cases h; done))
        rename_i hc
        simp only [Option.some.injEq,Prod.mk.injEq] at h
        obtain ⟨rfl,rfl⟩:=h
        refine ⟨none,_,rfl,by simp,fun G hG hn=>?_⟩
        have e1:=elsOf_eq (hn (ev x) (by simp [namesOf]))
        have e2:=hn (ev sv) (by simp [namesOf]) id (by simp [he,idsOf])
        rw [hget_eq e2] at hg
        simp only [aop,← e1,hx,he,aApp,hg,hxe,if_pos hc,updH,hG]
       ·rw [hxe] at h
        simp only [Option.some.injEq,Prod.mk.injEq] at h
        obtain ⟨rfl,rfl⟩:=h
        refine ⟨none,[],by simp [updH],by simp,fun G hG hn=>?_⟩
        have e1:=elsOf_eq (hn (ev x) (by simp [namesOf]))
        have e2:=hn (ev sv) (by simp [namesOf]) id (by simp [he,idsOf])
        rw [hget_eq e2] at hg
        simp only [aop,← e1,hx,he,aApp,hg,hxe,updH,List.append_nil]

theorem Rep.drop {w:World} {bad D:Nat→Prop} {ρ:Rho} {id:Nat} (hr:ρ id=.res) {v:AV} {c:Value} (h:Rep w bad D ρ v c):Rep w bad D (fun i=>if i=id then .no else ρ i) v c:=by
 have ne:∀ {i:Nat} {x:RB},ρ i=x→x ≠ .res→i ≠ id:=by rintro i x h1 h2 rfl; exact h2 (h1.symm.trans hr)
 induction h with
 | frz h=>exact .frz (h.mono (Nat.le_refl _) (fun _ _ _=>rfl) (fun b _ hb=>hb.elim .inl (fun ⟨i,es,cap,x⟩=>.inr (by
    simp only at x
    split at x
    ·cases x
    ·exact ⟨i,es,cap,x⟩))))
 | ptr h=>exact .ptr (by simp only [ne h (by simp),if_false]; exact h)
 | ptrD b o h=>exact .ptrD b o h
 | slc h hc hn=>exact .slc (by simp only [ne h (by simp),if_false]; exact h) hc hn
 | slcV a h=>exact .slcV a (by simp only [ne h (by simp),if_false]; exact h)
 | slk h hc=>exact .slk (by simp only [ne h (by simp),if_false]; exact h) hc
 | slkD a h ha=>exact .slkD a h ha
 | slcD a c h hn ha=>exact .slcD a c h hn ha
 | agg cs vs hl h ih=>exact .agg cs vs hl fun i c v hc hv=>ih i c v hc hv
 | tup cs vs hl h ih=>exact .tup cs vs hl fun i c v hc hv=>ih i c v hc hv
 | fn g a b va vb hla hlb ha hb iha ihb=>exact .fn g a b va vb hla hlb (fun i c v hc hv=>iha i c v hc hv) (fun i c v hc hv=>ihb i c v hc hv)
theorem HRel.drop {w:World} {bad:Nat→Prop} {ρ:Rho} {B:Nat} {H:Heap} {id:Nat} (hr:ρ id=.res) (h:HRel w bad ρ B H):HRel w bad (fun i=>if i=id then .no else ρ i) B H:=by
 refine ⟨fun i b es cap hi=>?_,fun i hi=>?_,fun i i' b es cap es' cap' hi hi'=>?_,fun i hi=>?_⟩
 ·try simp only at hi
  split at hi
  ·cases hi
  ·obtain ⟨k,hk,hb⟩:=h.real i b es cap hi
   obtain ⟨cur,fz,q1,q2,q3,q4⟩:=hb.mem
   exact ⟨k,hk,hb.hes,hb.pos,hb.low,hb.len,hb.ok,cur,fz,q1,q2,q3,fun i el j c hel hj=>let ⟨u,hu,hp⟩:=q4 i el j c hel hj; ⟨u,hu,hp.drop hr⟩⟩
 ·try simp only at hi
  split at hi
  ·cases hi
  ·exact h.virt i hi
 ·try simp only at hi hi'
  split at hi
  ·cases hi
  ·split at hi'
   ·cases hi'
   ·exact h.inj _ _ _ _ _ _ _ hi hi'
 ·try simp only at hi
  split at hi
  ·cases hi
  ·exact h.res i hi

section
variable {P:Program} {call:CallF} {base:Nat} {ops:Array Oper} {l:List SOp} {ps:List Nat} {f:Nat→St}
variable {w w0:World} {bad D0:Nat→Prop} {ρ ρ0:Rho} {a:Act} {B:Nat} {s:St} {Q:Exit→Act→World→Prop}

theorem Sim.drop {id:Nat} (hr:ρ id=.res) (h0:ρ0 id=.no) (h:Sim w0 D0 ρ0 bad B ρ s a w):Sim w0 D0 ρ0 bad B (fun i=>if i=id then .no else ρ i) s a w:=by
 refine ⟨h.defers,h.size,fun t ht=>(h.env t ht).drop hr,h.heap.drop hr,h.low,h.st.grow,⟨fun b hb=>?_⟩,h.st.dead,fun i hi=>?_⟩
 ·obtain ⟨i,es,cap,x⟩:=hb
  simp only at x
  split at x
  ·cases x
  ·exact h.st.rle.keep b ⟨i,es,cap,x⟩
 ·have:i ≠ id:=by rintro rfl; exact hi h0
  simp only [this,if_false]
  exact h.st.keep i hi
theorem Sim.rebase (h:Sim w0 D0 ρ0 bad B ρ s a w):Sim w (dead s.H) ρ bad B ρ s a w:=⟨h.defers,h.size,h.env,h.heap,h.low,Step.refl _ _ _⟩
theorem Sim.back {w':World} {ρ':Rho} {s':St} {a':Act} (h:Sim w0 D0 ρ0 bad B ρ s a w) (h':Sim w (dead s.H) ρ bad B ρ' s' a' w'):Sim w0 D0 ρ0 bad B ρ' s' a' w':=⟨h'.defers,h'.size,h'.env,h'.heap,h'.low,h.st.trans h'.st⟩

theorem GS.lenE (G:GS P call base ops l ps f) {k:Nat} (h:k≤ops.size):(f k).env.length=(f 0).env.length:=by
 induction k with
 | zero=>rfl
 | succ k ih =>
   obtain ⟨o,ho⟩:=G.get (k:=k) (by omega)
   rcases G.ts.step k o ho with ⟨_,v,H',_,he⟩ | ⟨_,he⟩ <;> rw [he] <;> simp only [put_length] <;> exact ih (by omega)
theorem env_put {G:GS P call base ops l ps f} {L:Nat→Prop} {x:Nat} (I:InvX G L ρ0 ρ s x) {k:Nat} {o:Oper} {v:AV} (he:k < ops.size) (ho:ops[k]?=some o) (hput:(f (k+1)).env=put (f k).env o.dst v)
 (hord:∀ (m:Nat) (om:Oper) (t:Nat),m ≠ k→ops[m]?=some om→om.dst=some t→o.dst=some t→(m < k ↔ L m)) :
 ∀ t,∃ c,c≤ops.size∧(put s.env o.dst v).getD t .undef=(f c).env.getD t .undef∧∀ (m:Nat) (om:Oper),ops[m]?=some om→om.dst=some t→(m < c ↔ (L m ∨ m=k)):=by
 intro t
 by_cases hd:o.dst=some t
 ·refine ⟨k+1,by omega,?_,fun m om h3 h4=>?_⟩
  ·rw [hput,hd]
   simp only [put,List.getD_eq_getElem?_getD]
   rcases Nat.lt_or_ge t s.env.length with hlt | hge
   ·rw [List.getElem?_set_self hlt,List.getElem?_set_self (by rw [G.lenE (by omega),← I.len]; exact hlt)]
   ·rw [List.getElem?_eq_none (by simpa using hge),List.getElem?_eq_none (by simp; rw [G.lenE (by omega),← I.len]; exact hge)]
  ·by_cases hmk:m=k
   ·subst hmk; simp
   ·have:=hord m om t hmk h3 h4 hd
    rw [← this]
    omega
 ·obtain ⟨c,h2,h3,h4⟩:=I.env t
  refine ⟨c,h2,by rw [put_getD_ne hd,h3],fun m om q3 q4=>?_⟩
  have hmk:m ≠ k:=by
   rintro rfl
   rw [ho] at q3; cases q3
   exact hd q4
  rw [h4 m om q3 q4]
  simp [hmk]
theorem res_stays {w':World} {ρ':Rho} {s':St} {a':Act} {D:Nat→Prop} {id:Nat} (h':Sim w D ρ bad B ρ' s' a' w') (hr:ρ id=.res) (hd:s'.H[id]? ≠ some none):ρ' id=.res:=by
 rcases h'.st.keep id (by rw [hr]; simp) with h1 | h1
 ·rw [h1,hr]
 ·exact absurd h1 hd
theorem res_alive (h:Sim w0 D0 ρ0 bad B ρ s a w) {id:Nat} (hr:ρ id=.res):s.H[id]? ≠ some none:=by
 obtain ⟨k,hk,_⟩:=h.heap.res id hr
 rw [hk]; simp
end
end Go.Proofs.Ytdceaeifcniabaa.AE
