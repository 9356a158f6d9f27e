/- The texts that the law RulesPhases needs, part 1. No conditions. -/
import Derived.ChangeKeysEq
import Derived.LoopN
import Derived.Orders
import Derived.Test.YtffiilnmfmkpmaaMRulesPhases0
namespace Go.Proofs.Ytffiilnmfmkpmaa.AE
set_option linter.unusedVariables false
set_option linter.unusedSimpArgs false
set_option linter.constructorNameAsVariable false
open Go Go.RowKit

section
variable {P:Program} {w w':World} {bad D D':Nat→Prop} {ρ ρ':Rho} {a:Act} {ev:Opd→AV} {o:Oper} {B:Nat}

structure Src (P:Program) (w:World) (bad D:Nat→Prop) (ρ:Rho) (xs:List AV) (es:Nat) (v:Value) (news:List Value):Prop where
 len:(Builtin.lenOf v).run P w=.ok xs.length w
 first:∀ w2:World,w2.heap=w.heap→(Builtin.firstCells es xs.length v).run P w2=.ok news.toArray w2
 size:news.length=xs.length * es
 one:∀ u ∈ news,u.oneCell'=true
 rep:∀ (i:Nat) (el:AV) (j:Nat) (c:AV),xs[i]?=some el→el.cells[j]?=some c→∃ u,news[i * es+j]?=some u∧Rep w bad D ρ c u

theorem dead_get (H:Heap):∀ id,dead H id→hget H id=none:=fun id hd=>by simp only [dead] at hd; simp [hget,hd]

theorem src_of {H H':Heap} {X:AV} {xs:List AV} {v:Value} {e:ETy} (h:elsOf H X=some xs) (hok:xs.all (elOk e)=true) (hR:HRel w bad ρ B H') (hD:∀ id,D id ↔ H'[id]?=some none) (hsame:∀ id u q,X=.slc id u q→∀ b,hget H id=some b→ρ id ≠ .no→hget H' id=some b) (hdd:∀ id,D id→hget H id=none)
 (hv:Rep w bad D ρ X v):∃ news,Src P w bad D ρ xs e.es v news:=by
 by_cases hX:∃ s,X=.str s
 ·obtain ⟨s,rfl⟩:=hX
  have e2:=rep_str hv
  subst e2
  simp only [elsOf,Option.some.injEq] at h
  subst h
  have hsz:(⟨s.toArray⟩:ByteArray).size=s.length:=by simp [ByteArray.size]
  have hlen:(bytesAV s).length=s.length:=by simp [bytesAV]
  by_cases hs:s=[]
  ·subst hs
   exact ⟨[],by simp [Builtin.lenOf,bytesAV,ByteArray.size],fun w2 _=>by simp [Builtin.firstCells,bytesAV],by simp [bytesAV],by simp,by simp [bytesAV]⟩
  ·have he:e.es=1:=by
    cases s with
    | nil=>exact absurd rfl hs
    | cons b s =>
      have:=(List.all_eq_true.mp hok) (.int .u8 b.toNat) (by simp [bytesAV])
      simp [elOk,AV.cells] at this
      exact this.1.symm
   refine ⟨s.map fun b=>Value.int .u8 b.toNat,by simp [Builtin.lenOf,hsz,hlen],?_,by simp [hlen,he],by simp [Value.oneCell'],?_⟩
   ·intro w2 _
    rw [hlen]
    have:(⟨s.toArray⟩:ByteArray).extract 0 s.length=⟨s.toArray⟩:=by
     apply ByteArray.ext
     simp
    simp only [Builtin.firstCells,this,Sem.run_pure]
    congr 1
    simp
   ·intro i el j c hel hj
    simp only [bytesAV,List.getElem?_map] at hel
    obtain ⟨b,hb,rfl⟩:=Option.map_eq_some_iff.mp hel
    cases j with
    | succ j=>simp [AV.cells] at hj
    | zero =>
      simp [AV.cells] at hj
      subst hj
      exact ⟨.int .u8 b.toNat,by rw [he]; simp [hb],.frz (.int _ _)⟩
 ·obtain ⟨ad,c,e2,hn,hrow⟩:=elsOf_rep h (fun s hs=>hX ⟨s,hs⟩) hR hD hsame hdd hv
  subst e2
  by_cases hnil:xs=[]
  ·subst hnil
   refine ⟨[],by simp [Builtin.lenOf],fun w2 _=>?_,by simp,by simp,by simp⟩
   cases ad with
   | none=>simp [Builtin.firstCells]
   | some ad=>simp [Builtin.firstCells,loadCells,loadCellsFrom]
  ·rcases hrow with h0 | ⟨b,q,es,rfl,hpos,hes,hc⟩
   ·exact absurd h0 hnil
   ·have he:es=e.es:=by
     cases xs with
     | nil=>exact absurd rfl hnil
     | cons x xs =>
       have h1:=(List.all_eq_true.mp hok) x (by simp)
       simp only [elOk,Bool.and_eq_true,beq_iff_eq] at h1
       rw [← hes 0 x rfl,h1.1]
    subst he
    have hcell:∀ k,k < xs.length * e.es→∃ u,w.cell? (Addr.add ⟨b,q,none⟩ k)=some u∧∀ i j c,i * e.es+j=k→j < e.es→(xs[i]?.bind fun el=>el.cells[j]?)=some c→Rep w bad D ρ c u∧isSc c=true:=by
     intro k hk
     have hi:k / e.es < xs.length:=Nat.div_lt_of_lt_mul (by rw [Nat.mul_comm]; exact hk)
     have hj:k % e.es < e.es:=Nat.mod_lt _ hpos
     have hx:=List.getElem?_eq_getElem hi
     have hxl:=hes _ _ hx
     have hcj:=List.getElem?_eq_getElem (l:=(xs[k / e.es]).cells) (i:=k % e.es) (by omega)
     obtain ⟨u,hu,hr⟩:=hc _ _ _ _ hx hcj
     have hsc:isSc (xs[k / e.es]).cells[k % e.es]=true:=(elOk_sc (List.all_eq_true.mp hok _ (List.getElem_mem hi))).2.2 _ (List.getElem_mem _)
     have hdm:k / e.es * e.es+k % e.es=k:=by rw [Nat.mul_comm]; exact Nat.div_add_mod k e.es
     refine ⟨u,by rw [Addr.add_lit,← hdm]; exact hu,fun i j c hij hjl hcc=>?_⟩
     have e1:i=k / e.es:=by rw [← hij,Nat.mul_comm,Nat.mul_add_div hpos,Nat.div_eq_of_lt hjl]; omega
     have e2:j=k % e.es:=by rw [← hij,Nat.mul_comm,Nat.mul_add_mod,Nat.mod_eq_of_lt hjl]
     subst e1; subst e2
     rw [hx] at hcc
     simp only [Option.bind_some,hcj,Option.some.injEq] at hcc
     subst hcc
     exact ⟨hr,hsc⟩
    let f:Nat→Value:=fun k=>(w.cell? (Addr.add ⟨b,q,none⟩ k)).getD undef
    have hf:∀ k,k < xs.length * e.es→w.cell? (Addr.add ⟨b,q,none⟩ k)=some (f k):=by
     intro k hk
     obtain ⟨u,hu,_⟩:=hcell k hk
     simp only [f,hu,Option.getD_some]
    refine ⟨(List.range (xs.length * e.es)).map f,by simp [Builtin.lenOf],?_,by simp,?_,?_⟩
    ·intro w2 hw2
     simp only [Builtin.firstCells,run_loadCells w2 _ _ f (fun k hk=>by have:=hf k hk; simp only [World.cell?,hw2] at this ⊢; exact this)]
    ·intro u hu
     obtain ⟨k,hk,rfl⟩:=List.mem_map.mp hu
     have hk':k < xs.length * e.es:=by simpa using hk
     obtain ⟨u,hu,hr⟩:=hcell k hk'
     have hi:k / e.es < xs.length:=Nat.div_lt_of_lt_mul (by rw [Nat.mul_comm]; exact hk')
     have hx:=List.getElem?_eq_getElem hi
     have hj:k % e.es < e.es:=Nat.mod_lt _ hpos
     have hcj:=List.getElem?_eq_getElem (l:=(xs[k / e.es]).cells) (i:=k % e.es) (by rw [hes _ _ hx]; exact hj)
     have hdm:k / e.es * e.es+k % e.es=k:=by rw [Nat.mul_comm]; exact Nat.div_add_mod k e.es
     obtain ⟨h1,h2⟩:=hr _ _ _ hdm hj (by rw [hx]; exact hcj)
     have:f k=u:=by simp only [f,hu,Option.getD_some]
     rw [this]
     exact (rep_one h1 h2).1
    ·intro i el j c hel hj
     have hil:i < xs.length:=(List.getElem?_eq_some_iff.mp hel).1
     have hjl:j < e.es:=by have:=(List.getElem?_eq_some_iff.mp hj).1; rw [hes _ _ hel] at this; exact this
     have hk:i * e.es+j < xs.length * e.es:=by
      have:=Nat.mul_le_mul_right e.es hil
      rw [Nat.succ_mul] at this; omega
     obtain ⟨u,hu,hr⟩:=hcell _ hk
     refine ⟨f (i * e.es+j),by simp [hk],?_⟩
     have:f (i * e.es+j)=u:=by simp only [f,hu,Option.getD_some]
     rw [this]
     exact (hr i j c rfl hjl (by rw [hel]; exact hj)).1

theorem append_grow {t u ty e:TypeId} {du:TypeDesc} {i:TypeInfo} {z:Value} {base:Option Addr} {n c m:Nat} {x:Value} {olds news:List Value} (ht:P.underlying t=some (.slice e)) (hu:P.underlying u=some du) (hni:du=.string ∨ ∃ e',du=.slice e') (hi:P.info? e=some i) (hz:i.zero=some z)
 (hm:(Builtin.lenOf x).run P w=.ok m w) (hold:∀ w2:World,w2.heap=w.heap→(Builtin.firstCells i.size n (.slice base n c)).run P w2=.ok olds.toArray w2) (hnew:∀ w2:World,w2.heap=w.heap→(Builtin.firstCells i.size m x).run P w2=.ok news.toArray w2)
 (hg:c < n+m) (h63:n+m≤9223372036854775807) (hb:(n+m) * i.bytes≤140737488355328) :
 (Builtin.append_ #[t,u] ty #[.slice base n c,x]).run P w =
   .ok (.slice (some ⟨w.heap.size,0,none⟩) (n+m) (grownCap w (n+m) c e)) (w.drew.alloc (.cells (olds.toArray ++ news.toArray ++ Builtin.zeroCells z.cells (grownCap w (n+m) c e - (n+m))) e)):=by
 have hfit:=growslice_fits hg hb
 have h48':¬ (281474976710656 < Builtin.nextslicecap (n+m) c * i.bytes):=by omega
 have h63':¬ (9223372036854775807 < (n:Int)+(m:Int)):=by omega
 have hn:¬ (n+m≤c):=by omega
 have h1:=hold w.drew rfl
 have h2:=hnew w.drew rfl
 rcases hni with rfl | ⟨e',rfl⟩
 all_goals simp [Builtin.append_,run_underlying ht,run_underlying hu,sizeOf,typeInfo,zeroValue,hi,hz,hm,hn,h63',h48',Question.forced,h1,h2,newRow,grownCap]
 all_goals
  congr 2
  apply Array.ext'
  simp [List.append_assoc]

theorem append_room {t u ty e:TypeId} {du:TypeDesc} {i:TypeInfo} {base:Option Addr} {n c m:Nat} {x:Value} {news:List Value} (ht:P.underlying t=some (.slice e)) (hu:P.underlying u=some du) (hni:du=.string ∨ ∃ e',du=.slice e') (hi:P.info? e=some i)
 (hm:(Builtin.lenOf x).run P w=.ok m w) (hnew:∀ w2:World,w2.heap=w.heap→(Builtin.firstCells i.size m x).run P w2=.ok news.toArray w2)
 (hg:n+m≤c) {w':World} (hst:(match base with | some a=>storeCells (a.add (n * i.size)) news | none=>pure ():Sem Unit).run P w=.ok () w') :
 (Builtin.append_ #[t,u] ty #[.slice base n c,x]).run P w=.ok (.slice base (n+m) c) w':=by
 have h2:=hnew w rfl
 rcases hni with rfl | ⟨e',rfl⟩
 all_goals
  cases base with
  | none =>
    simp at hst
    subst hst
    simp [Builtin.append_,run_underlying ht,run_underlying hu,sizeOf,typeInfo,hi,hm,hg,h2]
  | some ad =>
    simp at hst
    simp [Builtin.append_,run_underlying ht,run_underlying hu,sizeOf,typeInfo,hi,hm,hg,h2,hst]

theorem kill_upd {H:Heap} {id:Nat} (hR:HRel w bad ρ B H):Step w w (dead H) (dead (H.set id none)) ρ (fun i=>if i=id∧id < H.length then .no else ρ i)∧HRel w bad (fun i=>if i=id∧id < H.length then .no else ρ i) B (H.set id none):=by
 have hst:Step w w (dead H) (dead (H.set id none)) ρ (fun i=>if i=id∧id < H.length then .no else ρ i):=by
  refine ⟨.refl _ _,⟨fun b hb=>?_⟩,fun i hi=>?_,fun i hi=>?_⟩
  ·obtain ⟨i,es,cp,h⟩:=hb
   try simp only at h
   split at h
   ·cases h
   ·exact .inl ⟨i,es,cp,h⟩
  ·simp only [dead,List.getElem?_set] at hi ⊢
   split
   ·rename_i he; subst he
    split
    ·rfl
    ·rename_i hlt; rw [List.getElem?_eq_none (by simpa using hlt)] at hi; cases hi
   ·exact hi
  ·by_cases he:i=id∧id < H.length
   ·right
    obtain ⟨rfl,hlt⟩:=he
    simp [dead,List.getElem?_set_self hlt]
   ·left; simp [he]
 refine ⟨hst,?_,?_,?_,fun i h=>?_⟩
 rotate_right
 ·try simp only at h
  split at h
  ·cases h
  ·rename_i hne
   obtain ⟨k,hk,hb⟩:=hR.res i h
   have hlt:i < H.length:=(List.getElem?_eq_some_iff.mp hk).1
   have:id ≠ i:=fun e=>hne ⟨e.symm,by omega⟩
   exact ⟨k,by rw [List.getElem?_set_ne this]; exact hk,hb⟩
 ·intro i b es cp h
  try simp only at h
  split at h
  ·cases h
  ·rename_i hne
   obtain ⟨k,hk,hb⟩:=hR.real i b es cp h
   have hlt:i < H.length:=(List.getElem?_eq_some_iff.mp hk).1
   have:id ≠ i:=fun e=>hne ⟨e.symm,by omega⟩
   exact ⟨k,by rw [List.getElem?_set_ne this]; exact hk,hb.step hst rfl⟩
 ·intro i h
  try simp only at h
  split at h
  ·cases h
  ·rename_i hne
   obtain ⟨k,hk,hb⟩:=hR.virt i h
   have hlt:i < H.length:=(List.getElem?_eq_some_iff.mp hk).1
   have:id ≠ i:=fun e=>hne ⟨e.symm,by omega⟩
   exact ⟨k,by rw [List.getElem?_set_ne this]; exact hk,hb⟩
 ·intro i i' b es cp es' cp' h h'
  try simp only at h h'
  split at h <;> (try (cases h; done))
  split at h' <;> (try (cases h'; done))
  exact hR.inj i i' b es cp es' cp' h h'

theorem no_at_end {H:Heap} (hR:HRel w bad ρ B H):ρ H.length=.no:=by
 cases h:ρ H.length with
 | no=>rfl
 | virt=>obtain ⟨k,hk,_⟩:=hR.virt _ h; simp at hk
 | res=>obtain ⟨k,hk,_⟩:=hR.res _ h; simp at hk
 | real b es cap=>obtain ⟨k,hk,_⟩:=hR.real _ _ _ _ h; simp at hk

theorem lt_of_no {H:Heap} {ρ:Rho} (hR:HRel w bad ρ B H) {i:Nat} (h:ρ i ≠ .no):i < H.length:=by
 cases hq:ρ i with
 | no=>exact absurd hq h
 | virt=>obtain ⟨k,hk,_⟩:=hR.virt _ hq; exact (List.getElem?_eq_some_iff.mp hk).1
 | res=>obtain ⟨k,hk,_⟩:=hR.res _ hq; exact (List.getElem?_eq_some_iff.mp hk).1
 | real b es cap=>obtain ⟨k,hk,_⟩:=hR.real _ _ _ _ hq; exact (List.getElem?_eq_some_iff.mp hk).1

theorem dead_app {H:Heap} {k:Option Blk} {i:Nat} (h:H[i]?=some none):(H ++ [k])[i]?=some none:=by
 rw [List.getElem?_append_left (List.getElem?_eq_some_iff.mp h).1]; exact h

theorem virt_upd {H:Heap} {k:Blk} (hR:HRel w bad ρ B H) (hk:k.els=[]):Step w w (dead H) (dead (H ++ [some k])) ρ (fun i=>if i=H.length then .virt else ρ i)∧HRel w bad (fun i=>if i=H.length then .virt else ρ i) B (H ++ [some k]):=by
 have hst:Step w w (dead H) (dead (H ++ [some k])) ρ (fun i=>if i=H.length then .virt else ρ i):=by
  refine ⟨.refl _ _,⟨fun b hb=>?_⟩,fun i hi=>dead_app hi,fun i hi=>.inl ?_⟩
  ·obtain ⟨i,es,cp,h⟩:=hb
   try simp only at h
   split at h
   ·cases h
   ·exact .inl ⟨i,es,cp,h⟩
  ·have:i ≠ H.length:=fun e=>hi (e ▸ no_at_end hR)
   simp [this]
 refine ⟨hst,?_,?_,?_,fun i h=>?_⟩
 rotate_right
 ·try simp only at h
  split at h
  ·cases h
  ·obtain ⟨k',hk',hb⟩:=hR.res i h
   exact ⟨k',by rw [List.getElem?_append_left (List.getElem?_eq_some_iff.mp hk').1]; exact hk',hb⟩
 ·intro i b es cp h
  try simp only at h
  split at h
  ·cases h
  ·obtain ⟨k',hk',hb⟩:=hR.real i b es cp h
   exact ⟨k',by rw [List.getElem?_append_left (List.getElem?_eq_some_iff.mp hk').1]; exact hk',hb.step hst rfl⟩
 ·intro i h
  try simp only at h
  split at h
  ·rename_i he; subst he
   exact ⟨k,by simp,hk⟩
  ·obtain ⟨k',hk',hb⟩:=hR.virt i h
   exact ⟨k',by rw [List.getElem?_append_left (List.getElem?_eq_some_iff.mp hk').1]; exact hk',hb⟩
 ·intro i i' b es cp es' cp' h h'
  try simp only at h h'
  split at h <;> (try (cases h; done))
  split at h' <;> (try (cases h'; done))
  exact hR.inj i i' b es cp es' cp' h h'

theorem flat_rep {xs:List AV} {e:ETy} {news rest:List Value} (pre:List Value) (n:Nat) (hpre:pre.length=n * e.es) (hok:xs.all (elOk e)=true) (hsz:news.length=xs.length * e.es)
 (hrep:∀ (i:Nat) (el:AV) (j:Nat) (c:AV),xs[i]?=some el→el.cells[j]?=some c→∃ u,news[i * e.es+j]?=some u∧Rep w bad D ρ c u) (i:Nat) (el:AV) (j:Nat) (c:AV) (hel:xs[i]?=some el) (hj:el.cells[j]?=some c) :
 ∃ u,(pre ++ news ++ rest)[(n+i) * e.es+j]?=some u∧Rep w bad D ρ c u:=by
 obtain ⟨u,hu,hr⟩:=hrep i el j c hel hj
 refine ⟨u,?_,hr⟩
 have hlt:=(List.getElem?_eq_some_iff.mp hu).1
 rw [List.append_assoc,List.getElem?_append_right (by rw [hpre,Nat.add_mul]; omega),List.getElem?_append_left (by rw [hpre,Nat.add_mul]; omega)]
 rw [show (n+i) * e.es+j - pre.length=i * e.es+j by rw [hpre,Nat.add_mul]; omega]
 exact hu

theorem app_run {H H':Heap} {t u ty et:TypeId} {du:TypeDesc} {e:ETy} {s x v:AV} {vs vx:Value} {xs:List AV} (ht:P.underlying t=some (.slice et)) (hu:P.underlying u=some du) (hni:du=.string ∨ ∃ e',du=.slice e') (he:cETy P et=some e)
 (hxs:elsOf H x=some xs) (hR:HRel w bad ρ B H) (hB:B≤w.heap.size) (hs:Rep w bad (dead H) ρ s vs) (hx:Rep w bad (dead H) ρ x vx)
 (h:aApp H e xs s=some (v,H')) :
 ∃ cv w' ρ',(Builtin.append_ #[t,u] ty #[vs,vx]).run P w=.ok cv w'∧Step w w' (dead H) (dead H') ρ ρ'∧HRel w' bad ρ' B H'∧Rep w' bad (dead H') ρ' v cv:=by
 obtain ⟨i,z,hi,ha,hz,hzv,htid,hes,hby,hzo,hpos⟩:=cETy_spec he
 have fresh:∀ (H1:Heap) (ρ1:Rho) (base:Option Addr),HRel w bad ρ1 B H1→Step w w (dead H) (dead H1) ρ ρ1→H1.length=H.length→vs=.slice base 0 0→xs.length * e.bytes≤140737488355328→xs.length≤9223372036854775807→xs.all (elOk e)=true →
  ∃ cv w' ρ',(Builtin.append_ #[t,u] ty #[vs,vx]).run P w=.ok cv w'∧Step w w' (dead H) (dead (H1 ++ [some ⟨e,xs⟩])) ρ ρ'∧HRel w' bad ρ' B (H1 ++ [some ⟨e,xs⟩])∧Rep w' bad (dead (H1 ++ [some ⟨e,xs⟩])) ρ' (.slc H.length 0 xs.length) cv:=by
  intro H1 ρ1 base hR1 hst1 hlen hvs hb h63 hok
  obtain ⟨news,hsrc⟩:=src_of (P:=P) hxs hok hR (fun _=>Iff.rfl) (fun _ _ _ _ _ hb _=>hb) (dead_get H) hx
  subst hvs
  by_cases hm:xs.length=0
  ·obtain ⟨v1,v2⟩:=virt_upd (k:=⟨e,xs⟩) hR1 (by simpa using hm)
   refine ⟨.slice base 0 0,w,_,?_,hst1.trans v1,v2,?_⟩
   ·have hnn:news=[]:=by have:=hsrc.size; rw [hm] at this; simpa using this
    have h1:=append_room (P:=P) (w:=w) (ty:=ty) (base:=base) (n:=0) (c:=0) (x:=vx) ht hu hni hi hsrc.len (by rw [← hes]; exact hsrc.first) (by omega) (w':=w) (by
     subst hnn
     cases base <;> rfl)
    rw [hm] at h1
    exact h1
   ·rw [hm,← hlen]
    exact .slcV base (by simp)
  ·have hgrow:=append_grow (P:=P) (w:=w) (ty:=ty) (base:=base) (n:=0) (c:=0) (x:=vx) (olds:=[]) ht hu hni hi hz hsrc.len (fun w2 _=>by cases base <;> simp [Builtin.firstCells,loadCells,loadCellsFrom]) (by rw [← hes]; exact hsrc.first) (by omega) (by omega) (by rw [← hby]; simpa using hb)
   simp only [Nat.zero_add] at hgrow
   have hge:=grownCap_ge w xs.length 0 et
   have hzs:z.cells.size=e.es:=(elOk_rep hzo (.frz (cv_rep (w:=w) (bad:=fun b=>bad b ∨ own ρ b) hzv):Rep w bad (dead H) ρ e.zero z)).1
   have hcsz:([].toArray ++ news.toArray ++ Builtin.zeroCells z.cells (grownCap w xs.length 0 et - xs.length)).size=grownCap w xs.length 0 et * e.es:=by
    simp only [Array.size_append,List.size_toArray,List.length_nil,size_zeroCells,hzs,hsrc.size]
    rw [Nat.zero_add,← Nat.add_mul]; congr 1; omega
   obtain ⟨ρ',hρ',st,hr⟩:=alloc_upd (w':=w.drew.alloc (.cells ([].toArray ++ news.toArray ++ Builtin.zeroCells z.cells (grownCap w xs.length 0 et - xs.length)) et)) (k:=⟨e,xs⟩) (H':=H1 ++ [some ⟨e,xs⟩]) (id:=H1.length) (fz:=(0,0)) hR1 hB (no_at_end hR1) (by simp)
    (fun i hi hn=>List.getElem?_append_left (lt_of_no hR1 hn))
    (fun i hi=>dead_app hi) rfl rfl rfl (by simp) (fun j hj=>Below.heap_alloc w.drew _ j hj) (by simp only [htid]; exact heap_alloc_new w.drew _) hpos hcsz (unfz0 _) (by simp; omega)
    (fun i el hel=>List.all_eq_true.mp hok el (List.mem_of_getElem? hel))
    (fun i el j c hel hj=>by
      obtain ⟨q,hq,hrq⟩:=flat_rep (w:=w) (bad:=bad) (D:=dead H) (ρ:=ρ) (rest:=(Builtin.zeroCells z.cells (grownCap w xs.length 0 et - xs.length)).toList) [] 0 (by simp) hok hsrc.size hsrc.rep i el j c hel hj
      refine ⟨q,?_,hrq.step hst1⟩
      rw [← Array.getElem?_toList]
      simpa using hq)
   refine ⟨_,_,ρ',hgrow,hst1.trans st,hr,?_⟩
   rw [← hlen]
   subst hρ'
   have:Rep (w.drew.alloc (.cells ([].toArray ++ news.toArray ++ Builtin.zeroCells z.cells (grownCap w xs.length 0 et - xs.length)) et)) bad (dead (H1 ++ [some ⟨e,xs⟩])) (fun i=>if i=H1.length then RB.real w.heap.size e.es (grownCap w xs.length 0 et) else ρ1 i) (.slc H1.length 0 xs.length) (.slice (some ⟨w.heap.size,0 * e.es,none⟩) xs.length (grownCap w xs.length 0 et)) :=
    Rep.slc (b:=w.heap.size) (es:=e.es) (cap:=grownCap w xs.length 0 et) (by simp) (by omega) hge
   simpa using this
 cases s <;> simp only [aApp] at h <;> (try (cases h; done))
 ·split at h <;> (try (cases h; done))
  rename_i hc
  obtain ⟨rfl,rfl⟩:_=v∧_=H':=by simpa using h
  have:∃ base,vs=.slice base 0 0:=by
   cases hs with
   | frz hs=>cases hs with
     | znil=>exact ⟨_,rfl⟩
     | zsl a=>exact ⟨_,rfl⟩
  obtain ⟨base,hb⟩:=this
  exact fresh H ρ base hR (Step.refl _ _ _) rfl hb hc.1 hc.2.1 hc.2.2
 ·rename_i id o' n
  cases o' with
  | succ o'=>cases h
  | zero =>
    cases hg:hget H id with
    | none=>simp [hg] at h
    | some k =>
      simp only [hg] at h
      split at h <;> (try (cases h; done))
      rename_i hc
      obtain ⟨c1,c2,c3,c4,c5,c6⟩:=hc
      obtain ⟨rfl,rfl⟩:_=v∧_=H':=by simpa using h
      have hk:=agree_of hg
      have hidlt:id < H.length:=(List.getElem?_eq_some_iff.mp hk).1
      cases hs with
      | frz hs=>cases hs
      | slcD a c hd=>rw [dead,hk] at hd; cases hd
      | slcV base hρ =>
        obtain ⟨k2,hk2,he2⟩:=hR.virt _ hρ
        rw [hk] at hk2; cases hk2
        obtain ⟨q1,q2⟩:=kill_upd (id:=id) hR
        rw [he2]
        simp only [Nat.zero_add,List.nil_append] at c2 c3 ⊢
        exact fresh (H.set id none) _ base q2 q1 (by simp) rfl c2 c3 c6
      | slc hρ hcap hnc =>
        rename_i b es cap c
        obtain ⟨k2,hk2,hbr⟩:=hR.real _ _ _ _ hρ
        rw [hk] at hk2; cases hk2
        have hees:es=e.es:=by rw [← hbr.hes,c5]
        subst hees
        obtain ⟨cur,fz,m1,m2,m3,m4⟩:=hbr.mem
        obtain ⟨news,hsrc⟩:=src_of (P:=P) hxs c6 hR (fun _=>Iff.rfl) (fun _ _ _ _ _ hb _=>hb) (dead_get H) hx
        have hnn:n * e.es≤cap * e.es:=Nat.mul_le_mul_right _ (by omega)
        have hold:∀ w2:World,w2.heap=w.heap→(Builtin.firstCells i.size n (.slice (some ⟨b,0 * e.es,none⟩) n c)).run P w2=.ok (cur.toList.take (n * e.es)).toArray w2:=by
         intro w2 hw2
         rw [← hes]
         have:=run_firstCells_some (P:=P) w2 e.es n ⟨b,0 * e.es,none⟩ n c (cur.toList.take (n * e.es)) (by simp; omega) (by
          intro j v hv
          rw [Addr.add_lit]
          have hj:j < n * e.es:=by have:=(List.getElem?_eq_some_iff.mp hv).1; simp at this; omega
          rw [List.getElem?_take_of_lt hj] at hv
          simp only [World.cell?,hw2,m1]
          simpa using hv)
         exact this
        have hold2:∀ (i':Nat) (el:AV) (j:Nat) (y:AV),k.els[i']?=some el→el.cells[j]?=some y→∃ q,cur[i' * e.es+j]?=some q∧Rep w bad (dead H) ρ y q∧i' * e.es+j < n * e.es:=by
         intro i' el j y hel hj
         obtain ⟨q,h1,h2⟩:=m4 i' el j y hel hj
         refine ⟨q,h1,h2,?_⟩
         have hil:i' < n:=by rw [← c1]; exact (List.getElem?_eq_some_iff.mp hel).1
         have hjl:j < e.es:=by have h9:=(List.getElem?_eq_some_iff.mp hj).1; have:=(elOk_sc (hbr.ok _ _ hel)).2.1; omega
         have:=Nat.mul_le_mul_right e.es hil
         rw [Nat.succ_mul] at this; omega
        have hokAll:∀ (j:Nat) (el:AV),(k.els ++ xs)[j]?=some el→elOk e el=true:=by
         intro j el hel
         rcases List.mem_append.mp (List.mem_of_getElem? hel) with hm | hm
         ·obtain ⟨j',hj'⟩:=List.getElem?_of_mem hm
          have:=hbr.ok j' el hj'
          simp only [elOk,c5] at this ⊢
          exact this
         ·exact List.all_eq_true.mp c6 el hm
        by_cases hroom:n+xs.length≤c
        ·have hfit:(n+xs.length) * e.es≤cap * e.es:=Nat.mul_le_mul_right _ (by omega)
         obtain ⟨w',cur',r1,r2,r3,r4,r5,r6,r7,r8,r9⟩:=storeCells_run (P:=P) b k.e.tid fz news (n * e.es) 0 cur w m1 (by rw [hsrc.size,m2]; rw [Nat.add_mul] at hfit; omega) m3.1 hsrc.one
         have hrun:=append_room (P:=P) (w:=w) (ty:=ty) (base:=some ⟨b,0 * e.es,none⟩) (n:=n) (c:=c) (x:=vx) ht hu hni hi hsrc.len (by rw [← hes]; exact hsrc.first) hroom (w':=w') (by
          simp only [Addr.add_lit,← hes,Nat.zero_mul,Nat.zero_add]
          exact r1)
         have hst:Step w w' (dead H) (dead (H.set id none ++ [some ⟨e,k.els ++ xs⟩])) ρ (fun i=>if i=H.length then .real b e.es cap else if i=id then .no else ρ i):=by
          refine ⟨⟨r2,r3,r4,Nat.le_of_eq r5.symm,fun b' _ hn=>r6 b' (fun e'=>hn (e' ▸ ⟨id,_,_,hρ⟩))⟩,⟨fun b' hb'=>?_⟩,fun j hj=>?_,fun j hj=>?_⟩
          ·obtain ⟨j,es',cp',h'⟩:=hb'
           try simp only at h'
           split at h'
           ·cases h'; exact .inl ⟨id,_,_,hρ⟩
           ·split at h'
            ·cases h'
            ·exact .inl ⟨j,_,_,h'⟩
          ·refine dead_app ?_
           have:id ≠ j:=fun e'=>by subst e'; rw [dead,hk] at hj; cases hj
           rw [List.getElem?_set_ne this]; exact hj
          ·by_cases hjd:j=id
           ·right
            subst hjd
            exact dead_app (by rw [List.getElem?_set_self hidlt])
           ·left
            have:j ≠ H.length:=fun e'=>hj (e' ▸ no_at_end hR)
            simp [this,hjd]
         have hid2:id ≠ H.length:=by omega
         refine ⟨_,w',_,hrun,hst,⟨?_,?_,?_,?_⟩,?_⟩
         rotate_left 3
         ·intro j h'
          try simp only at h'
          split at h'
          ·cases h'
          ·split at h'
           ·cases h'
           ·rename_i hj2
            obtain ⟨k3,hk3,hb3⟩:=hR.res _ h'
            refine ⟨k3,?_,hb3⟩
            rw [List.getElem?_append_left (by simp; exact (List.getElem?_eq_some_iff.mp hk3).1),List.getElem?_set_ne (fun e'=>hj2 e'.symm)]
            exact hk3
         rotate_right 3
         ·intro j b' es' cp' h'
          try simp only at h'
          split at h'
          ·rename_i hj
           cases h'
           subst hj
           refine ⟨⟨e,k.els ++ xs⟩,by simp,rfl,hpos,hbr.low,by simp; omega,hokAll,cur',fz,by rw [r7]; simp [c4],by rw [r8,m2],by rw [r8]; exact m3,?_⟩
           intro j el l y hel hl
           rcases Nat.lt_or_ge j k.els.length with hlt | hge'
           ·rw [List.getElem?_append_left hlt] at hel
            obtain ⟨q,h1,h2,h3⟩:=hold2 j el l y hel hl
            refine ⟨q,?_,h2.step hst⟩
            rw [r9,if_neg (by omega)]
            exact h1
           ·rw [List.getElem?_append_right hge'] at hel
            obtain ⟨q,h1,h2⟩:=hsrc.rep _ el l y hel hl
            refine ⟨q,?_,h2.step hst⟩
            have hlt2:=(List.getElem?_eq_some_iff.mp h1).1
            have e9:j * e.es+l=n * e.es+((j - k.els.length) * e.es+l):=by
             have:j=n+(j - k.els.length):=by omega
             conv=>lhs; rw [this,Nat.add_mul]
             omega
            rw [r9,if_pos (by omega),e9]
            rw [show n * e.es+((j - k.els.length) * e.es+l) - (n * e.es+0)=(j - k.els.length) * e.es+l by omega]
            exact h1
          ·rename_i hj
           split at h'
           ·cases h'
           ·rename_i hj2
            obtain ⟨k3,hk3,hb3⟩:=hR.real _ _ _ _ h'
            refine ⟨k3,?_,hb3.step hst (r6 _ (fun e'=>hj2 ?_))⟩
            ·rw [List.getElem?_append_left (by simp; exact (List.getElem?_eq_some_iff.mp hk3).1),List.getElem?_set_ne (fun e'=>hj2 e'.symm)]
             exact hk3
            ·subst e'; exact hR.inj _ _ _ _ _ _ _ h' hρ
         ·intro j h'
          try simp only at h'
          split at h'
          ·cases h'
          ·split at h'
           ·cases h'
           ·rename_i hj2
            obtain ⟨k3,hk3,hb3⟩:=hR.virt _ h'
            refine ⟨k3,?_,hb3⟩
            rw [List.getElem?_append_left (by simp; exact (List.getElem?_eq_some_iff.mp hk3).1),List.getElem?_set_ne (fun e'=>hj2 e'.symm)]
            exact hk3
         ·intro j j' b' es' cp' es2 cp2 h1 h2
          try simp only at h1 h2
          split at h1
          ·rename_i q1
           split at h2
           ·rename_i q2; omega
           ·cases h1
            split at h2
            ·cases h2
            ·rename_i q3; exact absurd (hR.inj _ _ _ _ _ _ _ h2 hρ) q3
          ·split at h1
           ·cases h1
           ·rename_i q3
            split at h2
            ·cases h2; exact absurd (hR.inj _ _ _ _ _ _ _ h1 hρ) q3
            ·split at h2
             ·cases h2
             ·exact hR.inj _ _ _ _ _ _ _ h1 h2
         ·exact Rep.slc (b:=b) (es:=e.es) (cap:=cap) (by simp) (by omega) hroom
        ·have hgrow:=append_grow (P:=P) (w:=w) (ty:=ty) (base:=some ⟨b,0 * e.es,none⟩) (n:=n) (c:=c) (x:=vx) (olds:=cur.toList.take (n * e.es)) ht hu hni hi hz hsrc.len hold (by rw [← hes]; exact hsrc.first) (by omega) (by omega) (by rw [← hby]; exact c2)
         have hge:=grownCap_ge w (n+xs.length) c et
         have hzs:z.cells.size=e.es:=(elOk_rep hzo (.frz (cv_rep (w:=w) (bad:=fun b=>bad b ∨ own ρ b) hzv):Rep w bad (dead H) ρ e.zero z)).1
         have hol:(cur.toList.take (n * e.es)).length=n * e.es:=by simp; omega
         have hcsz:((cur.toList.take (n * e.es)).toArray ++ news.toArray ++ Builtin.zeroCells z.cells (grownCap w (n+xs.length) c et - (n+xs.length))).size=grownCap w (n+xs.length) c et * e.es:=by
          simp only [Array.size_append,List.size_toArray,hol,size_zeroCells,hzs,hsrc.size]
          rw [← Nat.add_mul,← Nat.add_mul]; congr 1; omega
         obtain ⟨q1,q2⟩:=kill_upd (id:=id) hR
         obtain ⟨ρ',hρ',st,hr⟩:=alloc_upd (w':=w.drew.alloc (.cells ((cur.toList.take (n * e.es)).toArray ++ news.toArray ++ Builtin.zeroCells z.cells (grownCap w (n+xs.length) c et - (n+xs.length))) et)) (k:=⟨e,k.els ++ xs⟩) (H':=H.set id none ++ [some ⟨e,k.els ++ xs⟩]) (id:=(H.set id none).length) (fz:=(0,0)) q2 hB (no_at_end q2) (by simp)
          (fun i hi hn=>List.getElem?_append_left (lt_of_no q2 hn))
          (fun i hi=>dead_app hi) rfl rfl rfl (by simp) (fun j hj=>Below.heap_alloc w.drew _ j hj) (by simp only [htid]; exact heap_alloc_new w.drew _) hpos hcsz (unfz0 _) (by simp; omega) hokAll
          (fun j el l y hel hl=>by
            rcases Nat.lt_or_ge j k.els.length with hlt | hge'
            ·rw [List.getElem?_append_left hlt] at hel
             obtain ⟨q,h1,h2,h3⟩:=hold2 j el l y hel hl
             refine ⟨q,?_,h2.step q1⟩
             simp only
             rw [← Array.getElem?_toList]
             simp only [Array.toList_append,List.append_assoc]
             rw [List.getElem?_append_left (by simp only [hol]; exact h3),List.getElem?_take_of_lt h3]
             simpa using h1
            ·rw [List.getElem?_append_right hge'] at hel
             obtain ⟨q,hq,hrq⟩:=flat_rep (w:=w) (bad:=bad) (D:=dead H) (ρ:=ρ) (rest:=(Builtin.zeroCells z.cells (grownCap w (n+xs.length) c et - (n+xs.length))).toList) (cur.toList.take (n * e.es)) n hol c6 hsrc.size hsrc.rep _ el l y hel hl
             refine ⟨q,?_,hrq.step q1⟩
             rw [show n+(j - k.els.length)=j by omega] at hq
             rw [← Array.getElem?_toList]
             simpa using hq)
         refine ⟨_,_,ρ',hgrow,q1.trans st,hr,?_⟩
         subst hρ'
         have hsl:(H.set id none).length=H.length:=by simp
         have:Rep (w.drew.alloc (.cells ((cur.toList.take (n * e.es)).toArray ++ news.toArray ++ Builtin.zeroCells z.cells (grownCap w (n+xs.length) c et - (n+xs.length))) et)) bad (dead (H.set id none ++ [some ⟨e,k.els ++ xs⟩])) (fun i=>if i=(H.set id none).length then RB.real w.heap.size e.es (grownCap w (n+xs.length) c et) else (if i=id∧id < H.length then .no else ρ i)) (.slc H.length 0 (n+xs.length)) (.slice (some ⟨w.heap.size,0 * e.es,none⟩) (n+xs.length) (grownCap w (n+xs.length) c et)) :=
          Rep.slc (b:=w.heap.size) (es:=e.es) (cap:=grownCap w (n+xs.length) c et) (by simp) (by omega) hge
         simpa using this
 ·rename_i id o n
  cases hg:hget H id with
  | none=>simp [hg] at h
  | some k =>
    simp only [hg] at h
    have hk:=agree_of hg
    cases hs with
    | frz hs=>cases hs
    | slkD a hd=>rw [dead,hk] at hd; cases hd
    | slk hρ hcap =>
      rename_i b es cap
      obtain ⟨k2,hk2,hbr⟩:=hR.real _ _ _ _ hρ
      rw [hk] at hk2; cases hk2
      cases hxe:xs.isEmpty
      ·rw [hxe] at h
       simp only at h
       split at h <;> (try (cases h; done))
       rename_i hc
       obtain ⟨c1,c2,c3,c4,c5,c6⟩:=hc
       obtain ⟨rfl,rfl⟩:_=v∧_=H':=by simpa using h
       have hees:es=e.es:=by rw [← hbr.hes,c5]
       subst hees
       have hx0:0 < xs.length:=by
        cases xs with
        | nil=>cases hxe
        | cons _ _=>simp
       obtain ⟨cur,fz,m1,m2,m3,m4⟩:=hbr.mem
       obtain ⟨news,hsrc⟩:=src_of (P:=P) hxs c6 hR (fun _=>Iff.rfl) (fun _ _ _ _ _ hb _=>hb) (dead_get H) hx
       have hnn:(o+n) * e.es≤cap * e.es:=Nat.mul_le_mul_right _ (by omega)
       rw [Nat.add_mul] at hnn
       have hol:((cur.toList.drop (o * e.es)).take (n * e.es)).length=n * e.es:=by simp; omega
       have hold:∀ w2:World,w2.heap=w.heap→(Builtin.firstCells i.size n (.slice (some ⟨b,o * e.es,none⟩) n n)).run P w2=.ok ((cur.toList.drop (o * e.es)).take (n * e.es)).toArray w2:=by
        intro w2 hw2
        rw [← hes]
        have:=run_firstCells_some (P:=P) w2 e.es n ⟨b,o * e.es,none⟩ n n ((cur.toList.drop (o * e.es)).take (n * e.es)) (by simp; omega) (by
         intro j v hv
         rw [Addr.add_lit]
         have hj:j < n * e.es:=by have:=(List.getElem?_eq_some_iff.mp hv).1; omega
         rw [List.getElem?_take_of_lt hj,List.getElem?_drop] at hv
         simp only [World.cell?,hw2,m1]
         simpa using hv)
        exact this
       have htl:((k.els.drop o).take n).length=n:=by simp; omega
       have hold2:∀ (i':Nat) (el:AV) (j:Nat) (y:AV),((k.els.drop o).take n)[i']?=some el→el.cells[j]?=some y→∃ q,cur[o * e.es+(i' * e.es+j)]?=some q∧Rep w bad (dead H) ρ y q∧i' * e.es+j < n * e.es:=by
        intro i' el j y hel hj
        have hil:i' < n:=by rw [← htl]; exact (List.getElem?_eq_some_iff.mp hel).1
        rw [List.getElem?_take_of_lt hil,List.getElem?_drop] at hel
        obtain ⟨q,h1,h2⟩:=m4 _ el j y hel hj
        refine ⟨q,by rw [show o * e.es+(i' * e.es+j)=(o+i') * e.es+j by rw [Nat.add_mul]; omega]; exact h1,h2,?_⟩
        have hjl:j < e.es:=by have h9:=(List.getElem?_eq_some_iff.mp hj).1; have:=(elOk_sc (hbr.ok _ _ hel)).2.1; omega
        have:=Nat.mul_le_mul_right e.es hil
        rw [Nat.succ_mul] at this; omega
       have hokAll:∀ (j:Nat) (el:AV),((k.els.drop o).take n ++ xs)[j]?=some el→elOk e el=true:=by
        intro j el hel
        rcases List.mem_append.mp (List.mem_of_getElem? hel) with hm | hm
        ·obtain ⟨j',hj'⟩:=List.getElem?_of_mem (List.mem_of_mem_drop (List.mem_of_mem_take hm))
         have:=hbr.ok j' el hj'
         simp only [elOk,c5] at this ⊢
         exact this
        ·exact List.all_eq_true.mp c6 el hm
       have hgrow:=append_grow (P:=P) (w:=w) (ty:=ty) (base:=some ⟨b,o * e.es,none⟩) (n:=n) (c:=n) (x:=vx) (olds:=(cur.toList.drop (o * e.es)).take (n * e.es)) ht hu hni hi hz hsrc.len hold (by rw [← hes]; exact hsrc.first) (by omega) (by omega) (by rw [← hby]; exact c2)
       have hge:=grownCap_ge w (n+xs.length) n et
       have hzs:z.cells.size=e.es:=(elOk_rep hzo (.frz (cv_rep (w:=w) (bad:=fun b=>bad b ∨ own ρ b) hzv):Rep w bad (dead H) ρ e.zero z)).1
       have hcsz:(((cur.toList.drop (o * e.es)).take (n * e.es)).toArray ++ news.toArray ++ Builtin.zeroCells z.cells (grownCap w (n+xs.length) n et - (n+xs.length))).size=grownCap w (n+xs.length) n et * e.es:=by
        simp only [Array.size_append,List.size_toArray,hol,size_zeroCells,hzs,hsrc.size]
        rw [← Nat.add_mul,← Nat.add_mul]; congr 1; omega
       obtain ⟨ρ',hρ',st,hr⟩:=alloc_upd (w':=w.drew.alloc (.cells (((cur.toList.drop (o * e.es)).take (n * e.es)).toArray ++ news.toArray ++ Builtin.zeroCells z.cells (grownCap w (n+xs.length) n et - (n+xs.length))) et)) (k:=⟨e,(k.els.drop o).take n ++ xs⟩) (H':=H ++ [some ⟨e,(k.els.drop o).take n ++ xs⟩]) (id:=H.length) (fz:=(0,0)) hR hB (no_at_end hR) (by simp)
        (fun i hi hn=>List.getElem?_append_left (lt_of_no hR hn))
        (fun i hi=>dead_app hi) rfl rfl rfl (by simp) (fun j hj=>Below.heap_alloc w.drew _ j hj) (by simp only [htid]; exact heap_alloc_new w.drew _) hpos hcsz (unfz0 _) (by simp only [List.length_append,htl]; omega) hokAll
        (fun j el l y hel hl=>by
          rcases Nat.lt_or_ge j n with hlt | hge'
          ·rw [List.getElem?_append_left (by rw [htl]; exact hlt)] at hel
           obtain ⟨q,h1,h2,h3⟩:=hold2 j el l y hel hl
           refine ⟨q,?_,h2⟩
           simp only
           rw [← Array.getElem?_toList]
           simp only [Array.toList_append,List.append_assoc]
           rw [List.getElem?_append_left (by simp only [hol]; exact h3),List.getElem?_take_of_lt h3,List.getElem?_drop]
           simpa using h1
          ·rw [List.getElem?_append_right (by rw [htl]; exact hge'),htl] at hel
           obtain ⟨q,hq,hrq⟩:=flat_rep (w:=w) (bad:=bad) (D:=dead H) (ρ:=ρ) (rest:=(Builtin.zeroCells z.cells (grownCap w (n+xs.length) n et - (n+xs.length))).toList) ((cur.toList.drop (o * e.es)).take (n * e.es)) n hol c6 hsrc.size hsrc.rep _ el l y hel hl
           refine ⟨q,?_,hrq⟩
           rw [show n+(j - n)=j by omega] at hq
           rw [← Array.getElem?_toList]
           simpa using hq)
       refine ⟨_,_,ρ',hgrow,st,hr,?_⟩
       subst hρ'
       have:Rep (w.drew.alloc (.cells (((cur.toList.drop (o * e.es)).take (n * e.es)).toArray ++ news.toArray ++ Builtin.zeroCells z.cells (grownCap w (n+xs.length) n et - (n+xs.length))) et)) bad (dead (H ++ [some ⟨e,(k.els.drop o).take n ++ xs⟩])) (fun i=>if i=H.length then RB.real w.heap.size e.es (grownCap w (n+xs.length) n et) else ρ i) (.slc H.length 0 (n+xs.length)) (.slice (some ⟨w.heap.size,0 * e.es,none⟩) (n+xs.length) (grownCap w (n+xs.length) n et)) :=
        Rep.slc (b:=w.heap.size) (es:=e.es) (cap:=grownCap w (n+xs.length) n et) (by simp) (by omega) hge
       simpa using this
      ·rw [hxe] at h
       obtain ⟨rfl,rfl⟩:_=v∧_=H':=by simpa using h
       obtain rfl:=List.isEmpty_iff.mp hxe
       obtain ⟨news,hsrc⟩:=src_of (P:=P) (e:=e) hxs rfl hR (fun _=>Iff.rfl) (fun _ _ _ _ _ hb _=>hb) (dead_get H) hx
       have hnn:news=[]:=by have:=hsrc.size; simpa using this
       subst hnn
       have h1:=append_room (P:=P) (w:=w) (ty:=ty) (base:=some ⟨b,o * es,none⟩) (n:=n) (c:=n) (x:=vx) ht hu hni hi hsrc.len (by rw [← hes]; exact hsrc.first) (by simp) (w':=w) rfl
       exact ⟨_,w,ρ,h1,Step.refl _ _ _,hR,.slk hρ hcap⟩
end
end Go.Proofs.Ytffiilnmfmkpmaa.AE

namespace Go.Proofs.Ytffiilnmfmkpmaa.AE
set_option linter.unusedVariables false
set_option linter.unusedSimpArgs false
set_option linter.constructorNameAsVariable false
open Go Go.RowKit

structure Sim (w0:World) (D0:Nat→Prop) (ρ0:Rho) (bad:Nat→Prop) (B:Nat) (ρ:Rho) (s:St) (a:Act) (w:World):Prop where
 defers:a.defers=[]
 size:a.tmps.size=s.env.length
 env:∀ t,t < s.env.length→Rep w bad (dead s.H) ρ (s.env.getD t .undef) (a.tmps.getD t undef)
 heap:HRel w bad ρ B s.H
 low:B≤w.heap.size
 st:Step w0 w D0 (dead s.H) ρ0 ρ

def CallRes (P:Program) (g:FuncId) (vs:Array Value) (w:World) (R:Value→World→Prop):Prop :=
 (∃ cv w',(callFunc g vs).run P w=.ok (.value cv) w'∧R cv w') ∨ ((callFunc g vs).run P w=.ok (.enter g vs) w∧Calls P g vs w fun e w'=>∃ cv,e=.returned cv∧R cv w')

def CallOK (P:Program) (call:CallF):Prop :=
 ∀ g args H v H',call g args H=some (v,H')→∀ (w:World) (bad:Nat→Prop) (ρ:Rho) (B:Nat) (vs:List Value),HRel w bad ρ B H→B≤w.heap.size→(∀ b,bad b→b < B)→args.length=vs.length →
   (∀ (i:Nat) (c:AV) (u:Value),args[i]?=some c→vs[i]?=some u→Rep w bad (dead H) ρ c u) →
   CallRes P g vs.toArray w fun cv w'=>∃ ρ',Step w w' (dead H) (dead H') ρ ρ'∧HRel w' bad ρ' B H'∧Rep w' bad (dead H') ρ' v cv

def Keeps (call:CallF):Prop:=∀ g args H v H',call g args H=some (v,H')→H'=H

section
variable {P:Program} {w w0:World} {bad D0:Nat→Prop} {ρ ρ0:Rho} {a:Act} {o:Oper} {B:Nat} {s:St} {Q:Exit→Act→World→Prop} {K:Act→World→Prop}

theorem evO_rep (h:Sim w0 D0 ρ0 bad B ρ s a w) (xs:List Operand):OpsOk w bad (dead s.H) ρ a (evO s.env) xs:=by
 intro x _ y hy
 cases x with
 | tmp t =>
   simp only [cOpd,Option.some.injEq] at hy
   subst hy
   simp only [evO,Act.eval]
   rcases Nat.lt_or_ge t s.env.length with hlt | hge
   ·exact h.env t hlt
   ·have:s.env.getD t .undef=.undef:=by simp [List.getD_eq_getElem?_getD,List.getElem?_eq_none hge]
    rw [this]
    exact .frz (.undef _)
 | const v =>
   simp only [cOpd] at hy
   cases hv:cv v with
   | none=>simp [hv] at hy
   | some z =>
     simp [hv] at hy
     subst hy
     exact .frz (cv_rep hv)
 | global g=>simp [cOpd] at hy
 | func f =>
   simp only [cOpd,Option.some.injEq] at hy
   subst hy
   exact .frz (.fn f [] [] [] [] rfl rfl (by simp) (by simp))

theorem put_sim {v:AV} {cv:Value} {H':Heap} {w':World} {ρ':Rho} (d:Option Nat) (h:Sim w0 D0 ρ0 bad B ρ s a w) (st:Step w w' (dead s.H) (dead H') ρ ρ') (hR:HRel w' bad ρ' B H') (hv:Rep w' bad (dead H') ρ' v cv) :
 Sim w0 D0 ρ0 bad B ρ' ⟨AE.put s.env d v,H'⟩ (a.put d cv) w':=by
 cases d with
 | none=>exact ⟨h.defers,h.size,fun t ht=>(h.env t ht).step st,hR,Nat.le_trans h.low st.grow.size,h.st.trans st⟩
 | some d =>
   refine ⟨h.defers,by simp [AE.put,Act.put,h.size],fun t ht=>?_,hR,Nat.le_trans h.low st.grow.size,h.st.trans st⟩
   simp only [AE.put,List.length_set] at ht
   simp only [AE.put,Act.put,List.getD_eq_getElem?_getD,Array.getD_eq_getD_getElem?]
   by_cases hd:d=t
   ·subst hd
    rw [List.getElem?_set_self ht,Array.getElem?_setIfInBounds_self_of_lt (by rw [h.size]; exact ht)]
    exact hv
   ·rw [List.getElem?_set_ne hd,Array.getElem?_setIfInBounds_ne hd]
    have:=(h.env t ht).step st
    rwa [List.getD_eq_getElem?_getD,Array.getD_eq_getD_getElem?] at this

theorem fin_says {v:AV} (h:Sim w0 D0 ρ0 bad B ρ s a w) (hs:Says P w bad (dead s.H) ρ a o v) (hK:∀ a' w' ρ',Sim w0 D0 ρ0 bad B ρ' ⟨AE.put s.env o.dst v,s.H⟩ a' w'→K a' w'):o.wp P a w K Q:=by
 obtain ⟨cv,hr,hrep⟩:=hs
 unfold Oper.wp
 rw [hr]
 exact hK _ _ ρ (put_sim o.dst h (Step.refl _ _ _) h.heap hrep)

theorem fin_mark {ty e:TypeId} {x:Operand} {x':Opd} {id q n:Nat} {k:Blk} {ev:Opd→AV} (h:Sim w0 D0 ρ0 bad B ρ s a w) (ho:o.op=.convert ty ty x) (hs:P.underlying ty=some (.slice e)) (he:P.underlying e=some (.int .u8))
 (hx:cOpd x=some x') (hv:ev x'=.slc id q n) (hg:hget s.H id=some k) (hne:k.els ≠ []) (hO:OpsOk w bad (dead s.H) ρ a ev o.op.operands.toList)
 (hK:∀ a' w' ρ',Sim w0 D0 ρ0 bad B ρ' ⟨AE.put s.env o.dst (.slc id q n),s.H⟩ a' w'→K a' w'):o.wp P a w K Q:=by
 have h2:=hO x (by simp [ho,Op.operands]) x' hx
 rw [hv] at h2
 have hR:=h.heap
 generalize hva:a.eval x=va at h2
 have hgk:s.H[id]?=some (some k):=by
  unfold hget at hg
  split at hg <;> simp_all
 cases h2 with
 | frz hv=>cases hv
 | slcD ad c hd =>
   have hd2:s.H[id]?=some none:=hd
   rw [hgk] at hd2; cases hd2
 | slcV ad hρ =>
   obtain ⟨k2,hk2,h0⟩:=hR.virt id hρ
   rw [hgk] at hk2; cases hk2
   exact absurd h0 hne
 | slc hρ hc hn =>
   rename_i b es cap c
   obtain ⟨k2,hk2,hb⟩:=hR.real id b es cap hρ
   rw [hgk] at hk2; cases hk2
   obtain ⟨cur,fz,m1,m2,m3,m4⟩:=hb.mem
   have hsh:w.shape? b=some (k.e.tid,cur.size):=by simp [World.shape?,m1]
   have hrun:(execOp a.eval o).run P w=.ok (.value (.slice (some ⟨b,q * es,none⟩) n c)) (w.freeze ⟨b,cur.size,none⟩ 1):=by
    simp [execOp,ho,hva,convert,run_underlying hs,run_underlying he,markStringish,hsh]
   obtain ⟨lo,hi⟩:=fz
   have hw:(w.freeze ⟨b,cur.size,none⟩ 1).heap=w.heap.modify b fun
    | .cells c elem (lo,hi)=>.cells c elem (if lo == hi then (cur.size,cur.size+1) else (min lo cur.size,max hi (cur.size+1)))
    | o=>o:=by rfl
   have hat:(w.freeze ⟨b,cur.size,none⟩ 1).heap[b]?=some (.cells cur k.e.tid (if lo == hi then (cur.size,cur.size+1) else (min lo cur.size,max hi (cur.size+1)))):=by
    rw [hw,Array.getElem?_modify]
    simp [m1]
   have hoth:∀ b',b' ≠ b→(w.freeze ⟨b,cur.size,none⟩ 1).heap[b']?=w.heap[b']?:=fun b' hb'=>by
    rw [hw,Array.getElem?_modify]
    simp [Ne.symm hb']
   have hst:Step w (w.freeze ⟨b,cur.size,none⟩ 1) (dead s.H) (dead s.H) ρ ρ :=
    ⟨⟨by simp [World.freeze],by simp [World.freeze],by simp [World.freeze],by rw [hw]; simp,fun b' _ hn=>hoth b' (fun e=>hn (e ▸ ⟨id,es,cap,hρ⟩))⟩,RLe.refl _ _,fun _ h=>h,fun _ _=>.inl rfl⟩
   have hR':HRel (w.freeze ⟨b,cur.size,none⟩ 1) bad ρ B s.H:=by
    refine ⟨?_,hR.virt,hR.inj,hR.res⟩
    intro id' b' es' cap' h'
    by_cases hid:id=id'
    ·subst hid
     rw [hρ] at h'; cases h'
     refine ⟨k,hgk,hb.hes,hb.pos,hb.low,hb.len,hb.ok,cur,_,hat,m2,?_,fun i el j c hel hj=>let ⟨v,hv,hr⟩:=m4 i el j c hel hj; ⟨v,hv,hr.step hst⟩⟩
     obtain ⟨f1,f2⟩:=m3
     simp only at f1 f2
     by_cases hl:lo=hi
     ·simp only [hl,beq_self_eq_true,if_true]
      exact ⟨fun j hj=>by simp only; omega,by simp only; omega⟩
     ·have hge:cur.size≤lo:=by
       rcases Nat.lt_or_ge lo cur.size with hlt | hge
       ·exact absurd ⟨Nat.le_refl _,by omega⟩ (f1 lo hlt)
       ·exact hge
      simp only [beq_eq_false_iff_ne.mpr hl,Bool.false_eq_true,if_false]
      exact ⟨fun j hj=>by simp only; omega,by simp only; omega⟩
    ·obtain ⟨k3,hk3,hb3⟩:=hR.real id' b' es' cap' h'
     exact ⟨k3,hk3,hb3.step hst (hoth b' (fun e=>by subst e; exact hid (hR.inj id id' _ _ _ _ _ hρ h')))⟩
   unfold Oper.wp
   rw [hrun]
   exact hK _ _ ρ (put_sim o.dst h hst hR' (.slc hρ hc hn))

theorem fin_makes {v:AV} {k:Blk} (h:Sim w0 D0 ρ0 bad B ρ s a w) (hs:Makes P w bad (dead s.H) ρ a o v s.H.length k) (hK:∀ a' w' ρ',Sim w0 D0 ρ0 bad B ρ' ⟨AE.put s.env o.dst v,s.H ++ [some k]⟩ a' w'→K a' w'):o.wp P a w K Q:=by
 obtain ⟨cv,w',cur,fz,cap,hr,h1,h2,h3,⟨h4,h5,h6⟩,h7,h8,h9,h10,h11,h12,h13⟩:=hs
 obtain ⟨ρ',hρ',st,hR⟩:=alloc_upd (H':=s.H ++ [some k]) h.heap h.low (no_at_end h.heap) (by simp) (fun i _ hn=>List.getElem?_append_left (lt_of_no h.heap hn)) (fun i hi=>dead_app hi) h1 h2 h3 h4 h5 h6 h7 h8 h9 h10 h11 h12
 unfold Oper.wp
 rw [hr]
 refine hK _ _ ρ' (put_sim o.dst h st hR ?_)
 rcases h13 with ⟨rfl,rfl⟩ | ⟨n,c,rfl,q1,q2,rfl⟩
 ·have:=Rep.ptr (w:=w') (bad:=bad) (D:=dead (s.H ++ [some k])) (ρ:=ρ') (id:=s.H.length) (i:=0) (j:=0) (b:=w.heap.size) (es:=k.e.es) (cap:=cap) (by subst hρ'; simp)
  simpa using this
 ·have:=Rep.slc (w:=w') (bad:=bad) (D:=dead (s.H ++ [some k])) (ρ:=ρ') (id:=s.H.length) (o:=0) (n:=n) (c:=c) (b:=w.heap.size) (es:=k.e.es) (cap:=cap) (by subst hρ'; simp) (by omega) q1
  simpa using this

theorem app_args {c:Call} {sArg xArg:Operand} {t u:TypeId} (ho:o.op=.call c) (hcc:c.callee=.builtin .append) (hca:c.args.toList=[sArg,xArg]) (hct:c.argTypes.toList=[t,u]) :
 (execOp a.eval o).run P w=((Builtin.append_ #[t,u] o.type #[a.eval sArg,a.eval xArg]).run P w).andThen fun v w'=>.ok (.value v) w':=by
 obtain ⟨cal,args,tys⟩:=c
 obtain ⟨args⟩:=args
 obtain ⟨tys⟩:=tys
 simp only at hcc hca hct
 subst hcc; subst hca; subst hct
 simp [execOp,ho,resolve,invoke,builtin]

theorem call_run {D:Nat→Prop} {ev:Opd→AV} {c:Call} {f:Operand} {f':Opd} {ys:List Opd} {g:FuncId} {p q:List AV} (hO:OpsOk w bad D ρ a ev o.op.operands.toList) (ho:o.op=.call c) (hcc:c.callee=.value f) (hf:cOpd f=some f') (hx:cOpds c.args.toList=some ys) (he:ev f'=.fn g p q) :
 ∃ vs:List Value,(execOp a.eval o).run P w=(callFunc g vs.toArray).run P w∧(p ++ ys.map ev ++ q).length=vs.length ∧
   ∀ (i:Nat) (c:AV) (u:Value),(p ++ ys.map ev ++ q)[i]?=some c→vs[i]?=some u→Rep w bad D ρ c u:=by
 obtain ⟨h1,h2⟩:=opds_rep hx (fun x hx y hy=>hO x (by simp only [ho,Op.operands,Call.operands,hcc]; simp; exact .inr (by simpa using hx)) y hy)
 have h3:=hO f (by simp [ho,Op.operands,Call.operands,hcc]) f' hf
 rw [he] at h3
 obtain ⟨va,vb,e3,l1,l2,r1,r2⟩:=rep_fn h3
 refine ⟨va ++ c.args.toList.map a.eval ++ vb,?_,by simp at h1 ⊢; omega,?_⟩
 ·have hmap:c.args.map a.eval=(c.args.toList.map a.eval).toArray:=by simp [← Array.toList_map]
  simp only [execOp,ho,resolve,hcc,hmap,e3,Deferred.ofValue,Sem.run_bind,Sem.run_pure,Result.andThen_ok,invoke]
  congr 2
  simp
 ·intro i c' u hc hu
  by_cases hi:i < p.length
  ·rw [List.append_assoc,List.getElem?_append_left hi] at hc
   rw [List.append_assoc,List.getElem?_append_left (by omega)] at hu
   exact r1 i c' u hc hu
  ·rw [List.append_assoc,List.getElem?_append_right (by omega)] at hc
   rw [List.append_assoc,List.getElem?_append_right (by omega),← l1] at hu
   by_cases hi2:i - p.length < (ys.map ev).length
   ·rw [List.getElem?_append_left hi2] at hc
    rw [List.getElem?_append_left (by omega)] at hu
    exact h2 _ c' u hc hu
   ·rw [List.getElem?_append_right (by omega)] at hc
    rw [List.getElem?_append_right (by omega),← h1] at hu
    exact r2 _ c' u hc hu

theorem fin_call {c:Call} {f:Operand} {f':Opd} {ys:List Opd} {g:FuncId} {p q:List AV} {call:CallF} {v:AV} {H':Heap} {ev:Opd→AV} (h:Sim w0 D0 ρ0 bad B ρ s a w) (hO:OpsOk w bad (dead s.H) ρ a ev o.op.operands.toList) (hbad:∀ b,bad b→b < B) (hcall:CallOK P call) (ho:o.op=.call c) (hcc:c.callee=.value f) (hf:cOpd f=some f')
 (hx:cOpds c.args.toList=some ys) (he:ev f'=.fn g p q) (hres:call g (p ++ ys.map ev ++ q) s.H=some (v,H')) (hK:∀ a' w' ρ',Sim w0 D0 ρ0 bad B ρ' ⟨AE.put s.env o.dst v,H'⟩ a' w'→K a' w'):o.wp P a w K Q:=by
 obtain ⟨vs,hr,hl,hp⟩:=call_run (P:=P) hO ho hcc hf hx he
 have hc:=hcall g _ _ _ _ hres w bad ρ B vs h.heap h.low hbad hl hp
 unfold Oper.wp
 rw [hr]
 rcases hc with ⟨cv,w',h1,ρ',st,hR,hrep⟩ | ⟨h1,h2⟩
 ·rw [h1]
  exact hK _ _ ρ' (put_sim o.dst h st hR hrep)
 ·rw [h1]
  refine h2.mono ?_
  rintro e w' ⟨cv,rfl,ρ',st,hR,hrep⟩
  exact hK _ _ ρ' (put_sim o.dst h st hR hrep)
end
end Go.Proofs.Ytffiilnmfmkpmaa.AE

namespace Go.Proofs.Ytffiilnmfmkpmaa.AE
set_option linter.unusedVariables false
set_option linter.unusedSimpArgs false
set_option linter.constructorNameAsVariable false
open Go Go.RowKit

section
variable {P:Program} {w:World} {bad D:Nat→Prop} {ρ:Rho} {a:Act} {ev:Opd→AV} {o:Oper}

theorem eqL_len:∀ {sh:List Sh} {l m:List AV} {r:Bool},eqL sh l m=some r→l.length=sh.length∧m.length=sh.length
 | [],l,m,r,h=>by
   cases l <;> cases m <;> simp [eqL] at h ⊢
 | s::sh,l,m,r,h=>by
   cases l with
   | nil=>cases s <;> simp [eqL] at h
   | cons x l =>
     cases m with
     | nil=>cases s <;> cases x <;> simp [eqL] at h
     | cons y m =>
       unfold eqL at h
       split at h <;> (try (cases h; done))
       all_goals (rename_i e1 e2 e3; first | (cases e1; done) | skip)
       all_goals
        cases e1; cases e2; cases e3
        first
         | (split at h <;> (try (cases h; done))
            split at h <;> (try (cases h; done))
            rename_i r' hr
            obtain ⟨h1,h2⟩:=eqL_len hr
            simp [h1,h2])
         | (split at h <;> (try (cases h; done))
            rename_i r' hr
            obtain ⟨h1,h2⟩:=eqL_len hr
            simp [h1,h2])

theorem eqL_app:∀ (s1:List Sh) {s2:List Sh} {l m:List AV} {r:Bool},eqL (s1 ++ s2) l m=some r →
 ∃ r1 r2,eqL s1 (l.take s1.length) (m.take s1.length)=some r1∧eqL s2 (l.drop s1.length) (m.drop s1.length)=some r2∧r=(r1 && r2)
 | [],s2,l,m,r,h=>⟨true,r,by simp [eqL],by simpa using h,by simp⟩
 | s::s1,s2,l,m,r,h=>by
   cases l with
   | nil=>cases s <;> simp [eqL] at h
   | cons x l =>
     cases m with
     | nil=>cases s <;> cases x <;> simp [eqL] at h
     | cons y m =>
       simp only [List.cons_append] at h
       unfold eqL at h
       split at h <;> (try (cases h; done))
       all_goals (rename_i e1 e2 e3; first | (cases e1; done) | skip)
       all_goals
        cases e1; cases e2; cases e3
        first
         | (split at h <;> (try (cases h; done))
            rename_i hk
            split at h <;> (try (cases h; done))
            rename_i r' hr
            obtain ⟨r1,r2,h1,h2,h3⟩:=eqL_app s1 hr
            subst hk
            refine ⟨_,r2,by simp [eqL,h1]; rfl,by simpa using h2,?_⟩
            simp only [Option.some.injEq] at h
            rw [← h,h3,Bool.and_assoc])
         | (split at h <;> (try (cases h; done))
            rename_i r' hr
            obtain ⟨r1,r2,h1,h2,h3⟩:=eqL_app s1 hr
            refine ⟨_,r2,by simp [eqL,h1]; rfl,by simpa using h2,?_⟩
            simp only [Option.some.injEq] at h
            rw [← h,h3,Bool.and_assoc])

def CellsRep (w:World) (bad D:Nat→Prop) (ρ:Rho) (l:List AV) (xs:List Value):Prop:=l.length=xs.length∧∀ (i:Nat) (c:AV) (u:Value),l[i]?=some c→xs[i]?=some u→Rep w bad D ρ c u

theorem CellsRep.sub {l:List AV} {xs:List Value} (h:CellsRep w bad D ρ l xs) (o n:Nat):CellsRep w bad D ρ ((l.drop o).take n) ((xs.drop o).take n):=by
 refine ⟨by simp [h.1],fun i c u hc hu=>?_⟩
 have hi:i < n:=by have:=(List.getElem?_eq_some_iff.mp hc).1; simp at this; omega
 rw [List.getElem?_take_of_lt hi,List.getElem?_drop] at hc hu
 exact h.2 _ c u hc hu

def EqAt (P:Program) (w:World) (bad D:Nat→Prop) (ρ:Rho) (n:Nat) (t:TypeId) (sh:List Sh):Prop :=
 ∀ (l m:List AV) (xs ys:List Value) (off:Nat) (r:Bool),CellsRep w bad D ρ l xs→CellsRep w bad D ρ m ys→eqL sh ((l.drop off).take sh.length) ((m.drop off).take sh.length)=some r →
   ∃ va vb,(part t xs.toArray off).run P w=.ok va w∧(part t ys.toArray off).run P w=.ok vb w∧(Op.equalIn n t va vb).run P w=.ok r w

theorem fields_run {n:Nat} {g:TypeId→Option (List Sh)} (hg:∀ t sh,g t=some sh→EqAt P w bad D ρ n t sh):∀ (fs:List Field) (o:Nat) (sh:List Sh) (l m:List AV) (xs ys:List Value) (r:Bool),eqFs g fs o=some sh→CellsRep w bad D ρ l xs→CellsRep w bad D ρ m ys →
 eqL sh (l.drop o) (m.drop o)=some r→(Op.eqFields n xs.toArray ys.toArray fs).run P w=.ok r w
 | [],o,sh,l,m,xs,ys,r,h,_,_,he=>by
   simp only [eqFs,Option.some.injEq] at h
   subst h
   obtain ⟨h1,h2⟩:=eqL_len he
   simp only [List.length_nil] at h1 h2
   rw [List.eq_nil_of_length_eq_zero h1,List.eq_nil_of_length_eq_zero h2] at he
   simp [eqL] at he
   subst he
   rfl
 | f::fs,o,sh,l,m,xs,ys,r,h,hl,hm,he=>by
   simp only [eqFs] at h
   split at h <;> (try (cases h; done))
   rename_i hf
   split at h <;> (try (cases h; done))
   rename_i l1 hl1
   split at h <;> (try (cases h; done))
   rename_i l2 hl2
   obtain rfl:=Option.some.inj h
   obtain ⟨r1,r2,h1,h2,rfl⟩:=eqL_app l1 he
   obtain ⟨va,vb,p1,p2,p3⟩:=hg _ _ hl1 l m xs ys o r1 hl hm h1
   rw [List.drop_drop,List.drop_drop] at h2
   have ih:=fields_run hg fs (o+l1.length) l2 l m xs ys r2 hl2 hl hm h2
   simp only [Op.eqFields,ne_eq,hf.1,not_false_eq_true,if_true,hf.2,Sem.run_bind,p1,p2,p3,Result.andThen_ok]
   cases r1 with
   | true=>simpa using ih
   | false=>simp

theorem items_run {n:Nat} {e:TypeId} {sh:List Sh} (hg:EqAt P w bad D ρ n e sh) (l m:List AV) (xs ys:List Value) (hl:CellsRep w bad D ρ l xs) (hm:CellsRep w bad D ρ m ys):∀ (k s:Nat) (r:Bool),
 eqL ((List.replicate k sh).flatten) (l.drop (s * sh.length)) (m.drop (s * sh.length))=some r→(Op.eqItems n e sh.length xs.toArray ys.toArray (List.range' s k)).run P w=.ok r w
 | 0,s,r,he=>by
   simp only [List.replicate_zero,List.flatten_nil] at he
   obtain ⟨h1,h2⟩:=eqL_len he
   simp only [List.length_nil] at h1 h2
   rw [List.eq_nil_of_length_eq_zero h1,List.eq_nil_of_length_eq_zero h2] at he
   simp [eqL] at he
   subst he
   rfl
 | k+1,s,r,he=>by
   simp only [List.replicate_succ,List.flatten_cons] at he
   obtain ⟨r1,r2,h1,h2,rfl⟩:=eqL_app sh he
   obtain ⟨va,vb,p1,p2,p3⟩:=hg l m xs ys _ r1 hl hm h1
   rw [List.drop_drop,List.drop_drop,show s * sh.length+sh.length=(s+1) * sh.length by rw [Nat.succ_mul]] at h2
   have ih:=items_run hg l m xs ys hl hm k (s+1) r2 h2
   simp only [List.range'_succ,Op.eqItems,Sem.run_bind,p1,p2,p3,Result.andThen_ok]
   cases r1 with
   | true=>simpa using ih
   | false=>simp

theorem array_run {n len:Nat} {t e:TypeId} {sh:List Sh} (ht:P.underlying t=some (.array len e)) (hg:EqAt P w bad D ρ n e sh) {i:TypeInfo} (hi:P.info? e=some i) (hsz:i.size=sh.length) (l m:List AV) (xs ys:List Value) (r:Bool) (hl:CellsRep w bad D ρ l xs) (hm:CellsRep w bad D ρ m ys)
 (he:eqL ((List.replicate len sh).flatten) l m=some r):(Op.equalIn (n+1) t (.agg xs.toArray) (.agg ys.toArray)).run P w=.ok r w:=by
 rw [run_equalIn_array (P:=P) w n _ _ ht hi,show P.cellsOf e=sh.length by rw [← hsz]; simp [Program.cellsOf,hi],List.range_eq_range']
 exact items_run hg l m xs ys hl hm len 0 r (by simpa using he)

theorem eqSh_run:∀ (d:Nat) (t:TypeId) (sh:List Sh),eqSh P d t=some sh→∀ n,d≤n→EqAt P w bad D ρ n t sh
 | 0,t,sh,h,n,_=>by simp [eqSh] at h
 | d+1,t,sh,h,n,hn=>by
   obtain ⟨n,rfl⟩:∃ k,n=k+1:=⟨n - 1,by omega⟩
   intro l m xs ys off r hl hm he
   have one:∀ (kd:Sh),(agB P t=some false)→eqL [kd] ((l.drop off).take 1) ((m.drop off).take 1)=some r→∃ c1 c2 va vb,l[off]?=some c1∧m[off]?=some c2∧eqL [kd] [c1] [c2]=some r∧Rep w bad D ρ c1 va∧Rep w bad D ρ c2 vb ∧
    (part t xs.toArray off).run P w=.ok va w∧(part t ys.toArray off).run P w=.ok vb w:=by
    intro kd ha he
    obtain ⟨h1,h2⟩:=eqL_len he
    simp only [List.length_take,List.length_drop,List.length_cons,List.length_nil] at h1 h2
    have o1:off < l.length:=by omega
    have o2:off < m.length:=by omega
    have e1:(l.drop off).take 1=[l[off]]:=by rw [List.drop_eq_getElem_cons o1,List.take_succ_cons,List.take_zero]
    have e2:(m.drop off).take 1=[m[off]]:=by rw [List.drop_eq_getElem_cons o2,List.take_succ_cons,List.take_zero]
    rw [e1,e2] at he
    have x1:off < xs.length:=by rw [← hl.1]; exact o1
    have x2:off < ys.length:=by rw [← hm.1]; exact o2
    refine ⟨l[off],m[off],xs[off],ys[off],List.getElem?_eq_getElem o1,List.getElem?_eq_getElem o2,he,hl.2 _ _ _ (List.getElem?_eq_getElem o1) (List.getElem?_eq_getElem x1),hm.2 _ _ _ (List.getElem?_eq_getElem o2) (List.getElem?_eq_getElem x2),?_,?_⟩
    ·simp only [part,Sem.run_bind,run_ag ha,Result.andThen_ok,Bool.false_eq_true,if_false]
     simp [x1]
    ·simp only [part,Sem.run_bind,run_ag ha,Result.andThen_ok,Bool.false_eq_true,if_false]
     simp [x2]
   have agg:∀ (i:TypeInfo),P.info? t=some i→agB P t=some true→i.size=sh.length→∀ ys:List Value,(part t ys.toArray off).run P w=.ok (.agg ((ys.drop off).take sh.length).toArray) w:=by
    intro i hi ha hsz ys
    rw [run_part hi ha,if_pos rfl,hsz]
    congr 2
    apply Array.ext'
    simp
   simp only [eqSh] at h
   split at h <;> (try (cases h; done))
   ·rename_i fs hfs
    split at h <;> (try (cases h; done))
    rename_i hst
    split at h <;> (try (cases h; done))
    rename_i sh' hsh
    split at h <;> (try (cases h; done))
    rename_i hsz
    obtain rfl:=Option.some.inj h
    obtain ⟨i,hi⟩:∃ i,P.info? t=some i:=by
     cases hq:P.info? t with
     | none=>simp [Program.underlying,hq] at hfs
     | some i=>exact ⟨i,rfl⟩
    have hsz':i.size=sh'.length:=by rw [← hsz]; simp [Program.cellsOf,hi]
    have ha:agB P t=some true:=by simp [agB,hfs]
    refine ⟨_,_,agg i hi ha hsz' xs,agg i hi ha hsz' ys,?_⟩
    have hfo:P.fieldsOf t=fs:=by simp [Program.fieldsOf,hfs]
    rw [run_equalIn_struct (P:=P) w n t _ _ (by rw [hfo]; exact hfs) (by simpa using hst),hfo]
    exact fields_run (fun t' sh'' h'=>eqSh_run d t' sh'' h' n (by omega)) fs.toList 0 sh' _ _ _ _ r hsh (hl.sub off sh'.length) (hm.sub off sh'.length) (by simpa using he)
   ·rename_i len e hfs
    split at h <;> (try (cases h; done))
    rename_i sh' hsh
    split at h <;> (try (cases h; done))
    rename_i hsz
    obtain rfl:=Option.some.inj h
    obtain ⟨i,hi⟩:∃ i,P.info? t=some i:=by
     cases hq:P.info? t with
     | none=>simp [Program.underlying,hq] at hfs
     | some i=>exact ⟨i,rfl⟩
    have hlen:((List.replicate len sh').flatten).length=len * sh'.length:=by simp
    have hsz':i.size=((List.replicate len sh').flatten).length:=by rw [hlen,← hsz.1]; simp [Program.cellsOf,hi]
    have ha:agB P t=some true:=by simp [agB,hfs]
    refine ⟨_,_,agg i hi ha hsz' xs,agg i hi ha hsz' ys,?_⟩
    have heq:=eqSh_run d e sh' hsh n (by omega)
    cases hie:P.info? e with
    | none =>
      exfalso
      cases d with
      | zero=>simp [eqSh] at hsh
      | succ d=>simp [eqSh,Program.underlying,hie] at hsh
    | some ie=>exact array_run hfs heq hie (by rw [← hsz.2]; simp [Program.cellsOf,hie]) _ _ _ _ r (hl.sub off _) (hm.sub off _) he
   ·rename_i k hfs
    split at h <;> (try (cases h; done))
    obtain rfl:=Option.some.inj h
    obtain ⟨c1,c2,va,vb,q1,q2,q3,q4,q5,q6,q7⟩:=one _ (by simp [agB,hfs]) he
    refine ⟨va,vb,q6,q7,?_⟩
    cases c1 <;> cases c2 <;> simp [eqL] at q3
    obtain ⟨rfl,rfl⟩:=q3
    rw [rep_int q4,rep_int q5]
    exact run_equalIn_int w n t _ k _ _ hfs
   ·rename_i hfs
    split at h <;> (try (cases h; done))
    obtain rfl:=Option.some.inj h
    obtain ⟨c1,c2,va,vb,q1,q2,q3,q4,q5,q6,q7⟩:=one _ (by simp [agB,hfs]) he
    refine ⟨va,vb,q6,q7,?_⟩
    cases c1 <;> cases c2 <;> simp [eqL] at q3
    subst q3
    rw [rep_bool q4,rep_bool q5]
    exact run_equalIn_bool' w n t _ _ hfs
   ·rename_i hfs
    split at h <;> (try (cases h; done))
    obtain rfl:=Option.some.inj h
    obtain ⟨c1,c2,va,vb,q1,q2,q3,q4,q5,q6,q7⟩:=one _ (by simp [agB,hfs]) he
    refine ⟨va,vb,q6,q7,?_⟩
    cases c1 <;> cases c2 <;> simp [eqL] at q3
    subst q3
    rw [rep_str q4,rep_str q5,run_equalIn_string w n t _ _ hfs]
    simp [ByteArray.toList_eq]

theorem eqIn_ptr (d:Nat) {t e:TypeId} (hu:P.underlying t=some (.pointer e)) (p q:Option Addr) (h:p=none ∨ q=none):(Op.equalIn (d+1) t (.pointer p) (.pointer q)).run P w=.ok (p.isNone && q.isNone) w:=by
 cases p <;> cases q <;> simp at h <;> simp [Op.equalIn,run_underlying hu]
theorem eqIn_slc (d:Nat) {t e:TypeId} (hu:P.underlying t=some (.slice e)) (p:Option Addr) (n c:Nat):(Op.equalIn (d+1) t (.slice p n c) (.slice none 0 0)).run P w=.ok p.isNone w:=by
 cases p <;> simp [Op.equalIn,run_underlying hu]
theorem eqIn_fn (d:Nat) {t:TypeId} {ps rs:Array TypeId} {v:Bool} (hu:P.underlying t=some (.func ps rs v)):(Op.equalIn (d+1) t .nilFunc .nilFunc).run P w=.ok true w ∧
 (∀ f p q,(Op.equalIn (d+1) t .nilFunc (.func f p q)).run P w=.ok false w)∧(∀ f p q,(Op.equalIn (d+1) t (.func f p q) .nilFunc).run P w=.ok false w):=by
 refine ⟨?_,fun f p q=>?_,fun f p q=>?_⟩ <;> simp [Op.equalIn,run_underlying hu]

theorem part_all {t:TypeId} {i:TypeInfo} (hi:P.info? t=some i) (ha:agB P t=some true) (xs:List Value) (h:i.size=xs.length):(part t xs.toArray 0).run P w=.ok (.agg xs.toArray) w:=by
 rw [run_part hi ha,if_pos rfl]
 congr 2
 apply Array.ext'
 simp [h]

theorem eqSh_size {d:Nat} {t:TypeId} {sh:List Sh} (h:eqSh P (d+1) t=some sh) (ha:agB P t=some true):P.cellsOf t=sh.length:=by
 simp only [eqSh] at h
 split at h <;> (try (cases h; done))
 ·split at h <;> (try (cases h; done))
  split at h <;> (try (cases h; done))
  split at h <;> (try (cases h; done))
  rename_i hc
  obtain rfl:=Option.some.inj h
  exact hc
 ·split at h <;> (try (cases h; done))
  split at h <;> (try (cases h; done))
  rename_i hc
  obtain rfl:=Option.some.inj h
  rw [hc.1]; simp
 all_goals
  rename_i hu
  simp [agB,hu] at ha

theorem says_eqv {op:BinOp} {neg:Bool} {t u:TypeId} {k:Nat} {sh:List Sh} {x y:Operand} {x' y':Opd} {b:Bool} (hop:(op=.eql∧neg=false) ∨ (op=.neq∧neg=true)) (ho:o.op=.binOp op t x y u) (hk:eqKind P t=some (k,sh)) (hx:cOpd x=some x') (hy:cOpd y=some y')
 (hv:eqV k sh (ev x') (ev y')=some b) (hO:OpsOk w bad D ρ a ev o.op.operands.toList):Says P w bad D ρ a o (.bool (xor neg b)):=by
 have h2:=hO x (by simp [ho,Op.operands]) x' hx
 have h3:=hO y (by simp [ho,Op.operands]) y' hy
 generalize ev x'=X at *
 generalize ev y'=Y at *
 have fin:∀ (va vb:Value),a.eval x=va→a.eval y=vb→(eqGuard op t x y va vb).run P w=.ok () w→(∀ op',op'=.eql ∨ op'=.neq→(binOp op' t va vb).run P w=((Op.equal t va vb).run P w).andThen fun r w'=>.ok (.bool (if op'=.eql then r else !r)) w')→(Op.equal t va vb).run P w=.ok b w→Says P w bad D ρ a o (.bool (xor neg b)):=by
  intro va vb e1 e2 hg hbin heq
  have hb:(binOp op t va vb).run P w=.ok (.bool (xor neg b)) w:=by
   rcases hop with ⟨rfl,rfl⟩ | ⟨rfl,rfl⟩
   ·rw [hbin _ (.inl rfl),heq]; simp
   ·rw [hbin _ (.inr rfl),heq]; simp
  refine ⟨.bool (xor neg b),?_,.frz (.bool _)⟩
  simp only [execOp,ho,e1,e2,Sem.run_bind,hg,hb,Result.andThen_ok,Sem.run_pure]
 have max1:Op.maxDepth=9999+1:=rfl
 unfold eqKind at hk
 split at hk <;> (try (cases hk; done))
 ·rename_i hu
  cases hk
  simp only [eqV] at hv
  unfold eqB at hv
  split at hv <;> (try (cases hv; done))
  obtain rfl:=Option.some.inj hv
  refine fin _ _ (rep_bool h2) (rep_bool h3) (by rw [eqGuard_off _ _ _ _ _ _ (by simp) (by simp)]; rfl) (fun op' h=>by rcases h with rfl | rfl <;> simp [binOp]) ?_
  rw [Op.equal,max1,run_equalIn_bool' w 9999 t _ _ hu]
 ·rename_i e hu
  cases hk
  have hp:∀ {v:AV} {c:Value},Rep w bad D ρ v c→((∃ i j q,v=.ptr i j q) ∨ ∃ z j,v=.fptr z j)→∃ ad,c=.pointer (some ad):=by
   intro v c h hh
   rcases hh with ⟨i,j,q,rfl⟩ | ⟨z,j,rfl⟩
   ·cases h with
    | frz h=>cases h
    | ptr h=>exact ⟨_,rfl⟩
    | ptrD b o h=>exact ⟨_,rfl⟩
   ·cases h with
    | frz h=>cases h with
      | fptr=>exact ⟨_,rfl⟩
  have run:∀ (p q:Option Addr),(p=none ∨ q=none)→b=(p.isNone && q.isNone)→a.eval x=.pointer p→a.eval y=.pointer q→Says P w bad D ρ a o (.bool (xor neg b)):=by
   intro p q hpq hb e1 e2
   refine fin _ _ e1 e2 (by rw [eqGuard_off _ _ _ _ _ _ (by simp) (by simp)]; rfl) (fun op' h=>by rcases h with rfl | rfl <;> simp [binOp]) ?_
   rw [Op.equal,max1,hb]
   exact eqIn_ptr 9999 hu p q hpq
  simp only [eqV] at hv
  unfold eqP at hv
  split at hv <;> (try (cases hv; done))
  ·exact run none none (.inl rfl) (by simpa using hv.symm) (rep_nilp h2) (rep_nilp h3)
  ·obtain ⟨ad,e⟩:=hp h3 (.inl ⟨_,_,_,rfl⟩)
   exact run none (some ad) (.inl rfl) (by simpa using hv.symm) (rep_nilp h2) e
  ·obtain ⟨ad,e⟩:=hp h2 (.inl ⟨_,_,_,rfl⟩)
   exact run (some ad) none (.inr rfl) (by simpa using hv.symm) e (rep_nilp h3)
  ·obtain ⟨ad,e⟩:=hp h3 (.inr ⟨_,_,rfl⟩)
   exact run none (some ad) (.inl rfl) (by simpa using hv.symm) (rep_nilp h2) e
  ·obtain ⟨ad,e⟩:=hp h2 (.inr ⟨_,_,rfl⟩)
   exact run (some ad) none (.inr rfl) (by simpa using hv.symm) e (rep_nilp h3)
 ·rename_i e hu
  cases hk
  have nil3:∀ {c:Value},Rep w bad D ρ (.zsl true) c→c=.slice none 0 0:=by
   intro c h
   cases h with
   | frz h=>cases h; rfl
  have run:∀ (p:Option Addr) (n c:Nat),b=p.isNone→a.eval x=.slice p n c→a.eval y=.slice none 0 0→Says P w bad D ρ a o (.bool (xor neg b)):=by
   intro p n c hb e1 e2
   refine fin _ _ e1 e2 (by rw [eqGuard_off _ _ _ _ _ _ (by simp) (by simp)]; rfl) (fun op' h=>by rcases h with rfl | rfl <;> simp [binOp]) ?_
   rw [Op.equal,max1,hb]
   exact eqIn_slc 9999 hu p n c
  simp only [eqV] at hv
  unfold eqS at hv
  split at hv <;> (try (cases hv; done))
  ·exact run none 0 0 (by simpa using hv.symm) (nil3 h2) (nil3 h3)
  ·have:∃ ad n c,a.eval x=.slice (some ad) n c:=by
    generalize a.eval x=V at *
    cases h2 with
    | frz h=>cases h
    | slc h _ _=>exact ⟨_,_,_,rfl⟩
    | slcD ad c hd hn ha =>
      cases ad with
      | none=>exact absurd rfl (ha (by simp))
      | some ad=>exact ⟨_,_,_,rfl⟩
   obtain ⟨ad,n,c,e1⟩:=this
   exact run (some ad) n c (by simpa using hv.symm) e1 (nil3 h3)
  ·have:∃ ad n c,a.eval x=.slice (some ad) n c:=by
    generalize a.eval x=V at *
    cases h2 with
    | frz h=>cases h with
      | lst=>exact ⟨_,_,_,rfl⟩
   obtain ⟨ad,n,c,e1⟩:=this
   exact run (some ad) n c (by simpa using hv.symm) e1 (nil3 h3)
  ·have:∃ ad n c,a.eval x=.slice (some ad) n c:=by
    generalize a.eval x=V at *
    cases h2 with
    | frz h=>cases h with
      | emp=>exact ⟨_,_,_,rfl⟩
   obtain ⟨ad,n,c,e1⟩:=this
   exact run (some ad) n c (by simpa using hv.symm) e1 (nil3 h3)
 ·rename_i hu
  cases hk
  have run:∀ (va vb:Value),(va=.nilFunc ∨ ∃ f p q,va=.func f p q)→(vb=.nilFunc ∨ ∃ f p q,vb=.func f p q)→(va=.nilFunc ∨ vb=.nilFunc)→(b=true ↔ va=.nilFunc∧vb=.nilFunc)→a.eval x=va→a.eval y=vb→Says P w bad D ρ a o (.bool (xor neg b)):=by
   intro va vb h1 h2 h3 hb e1 e2
   rcases h1 with rfl | ⟨f,p,q,rfl⟩ <;> rcases h2 with rfl | ⟨f',p',q',rfl⟩
   ·refine fin _ _ e1 e2 (by rw [eqGuard_off _ _ _ _ _ _ (by simp) (by simp)]; rfl) (fun op' h=>by rcases h with rfl | rfl <;> simp [binOp]) ?_
    rw [Op.equal,max1,hb.mpr ⟨rfl,rfl⟩]
    exact (eqIn_fn 9999 hu).1
   ·have hb':b=false:=by cases b; rfl; simp at hb
    refine fin _ _ e1 e2 (by rw [eqGuard_off _ _ _ _ _ _ (by simp) (by simp)]; rfl) (fun op' h=>by rcases h with rfl | rfl <;> simp [binOp]) ?_
    rw [Op.equal,max1,hb']
    exact (eqIn_fn 9999 hu).2.1 _ _ _
   ·have hb':b=false:=by cases b; rfl; simp at hb
    refine fin _ _ e1 e2 (by rw [eqGuard_off _ _ _ _ _ _ (by simp) (by simp)]; rfl) (fun op' h=>by rcases h with rfl | rfl <;> simp [binOp]) ?_
    rw [Op.equal,max1,hb']
    exact (eqIn_fn 9999 hu).2.2 _ _ _
   ·simp at h3
  simp only [eqV] at hv
  unfold eqF at hv
  split at hv <;> (try (cases hv; done))
  ·exact run _ _ (.inl rfl) (.inl rfl) (.inl rfl) (by simp only [Option.some.injEq] at hv; simp [← hv]) (rep_nilf h2) (rep_nilf h3)
  ·obtain ⟨va,vb,e,_⟩:=rep_fn h3
   exact run _ _ (.inl rfl) (.inr ⟨_,_,_,rfl⟩) (.inl rfl) (by simp only [Option.some.injEq] at hv; simp [← hv]) (rep_nilf h2) e
  ·obtain ⟨va,vb,e,_⟩:=rep_fn h2
   exact run _ _ (.inr ⟨_,_,_,rfl⟩) (.inl rfl) (.inr rfl) (by simp only [Option.some.injEq] at hv; simp [← hv]) e (rep_nilf h3)
 all_goals
  split at hk <;> (try (cases hk; done))
  rename_i hg
  split at hk <;> (try (cases hk; done))
  rename_i sh' hsh
  cases hk
  simp only [eqV] at hv
  unfold eqA at hv
  split at hv <;> (try (cases hv; done))
  rename_i cs ds
  obtain ⟨xs,e1,l1,p1⟩:=rep_agg h2
  obtain ⟨ys,e2,l2,p2⟩:=rep_agg h3
  have hlen:=eqL_len hv
  refine fin _ _ e1 e2 (run_eqGuard_agg w op t x y _ _ (by simpa using hg)) (fun op' h=>by rcases h with rfl | rfl <;> simp [binOp]) ?_
  rw [Op.equal,max1]
  obtain ⟨va,vb,q1,q2,q3⟩:=eqSh_run (w:=w) (bad:=bad) (D:=D) (ρ:=ρ) 5 t sh hsh (9999+1) (by omega) cs ds xs ys 0 b ⟨l1,p1⟩ ⟨l2,p2⟩ (by simp only [List.drop_zero]; rw [List.take_of_length_le (by omega),List.take_of_length_le (by omega)]; exact hv)
  have ha:agB P t=some true:=by simp [agB, *]
  obtain ⟨i,hi⟩:∃ i,P.info? t=some i:=info_of_underlying (by assumption)
  have hsz:i.size=sh.length:=by
   rw [← eqSh_size hsh ha]; simp [Program.cellsOf,hi]
  rw [part_all hi ha xs (by omega)] at q1
  rw [part_all hi ha ys (by omega)] at q2
  cases q1; cases q2
  exact q3
end
end Go.Proofs.Ytffiilnmfmkpmaa.AE

namespace Go.Proofs.Ytffiilnmfmkpmaa.AE
set_option linter.unusedVariables false
set_option linter.unusedSimpArgs false
set_option linter.constructorNameAsVariable false
open Go Go.RowKit

section
variable {P:Program} {w w0:World} {bad D0:Nat→Prop} {ρ ρ0:Rho} {a:Act} {o:Oper} {B:Nat} {s:St} {Q:Exit→Act→World→Prop} {K:Act→World→Prop}

theorem same_sh (H:Heap):(∀ id b,hget H id=some b→∃ b',hget H id=some b'∧b'.els.length=b.els.length)∧(∀ id b,hget H id=some b→∃ b',hget H id=some b'∧b'.e=b.e):=⟨fun _ b h=>⟨b,h,rfl⟩,fun _ b h=>⟨b,h,rfl⟩⟩

theorem map_some' {α β:Type} {x:Option α} {f:α→β} {y:β} (h:x.map f=some y):∃ z,x=some z∧f z=y:=opt_some h

set_option maxHeartbeats 1000000 in
theorem op_stepE {io:IOp} {call:CallF} {v:AV} {H':Heap} {ev:Opd→AV} (hev:∀ x,ev (.v x)=x) (hO:OpsOk w bad (dead s.H) ρ a ev o.op.operands.toList) (hc:cOp P o.type o.op=some io) (hcall:CallOK P call) (hbad:∀ b,bad b→b < B) (h:Sim w0 D0 ρ0 bad B ρ s a w) (hv:aop call ev s.H io=some (v,H'))
 (hK:∀ a' w' ρ',Sim w0 D0 ρ0 bad B ρ' ⟨AE.put s.env o.dst v,H'⟩ a' w'→K a' w'):o.wp P a w K Q:=by
 have hD:∀ id,dead s.H id ↔ s.H[id]?=some none:=fun _=>Iff.rfl
 obtain ⟨hsh,hse⟩:=same_sh s.H
 have hR:=h.heap
 generalize hop:o.op=op at hc
 have hopO:OpsOk w bad (dead s.H) ρ a ev o.op.operands.toList:=hO
 cases op with
 | move x =>
   obtain ⟨y,hy,rfl⟩:=map_some' hc
   simp only [aop,Option.some.injEq,Prod.mk.injEq] at hv
   obtain ⟨rfl,rfl⟩:=hv
   exact fin_says h (says_mov (.inl hop) hy hO) hK
 | assign x =>
   obtain ⟨y,hy,rfl⟩:=map_some' hc
   simp only [aop,Option.some.injEq,Prod.mk.injEq] at hv
   obtain ⟨rfl,rfl⟩:=hv
   exact fin_says h (says_mov (.inr hop) hy hO) hK
 | pick c x y =>
   simp only [cOp] at hc
   split at hc <;> (try (cases hc; done))
   rename_i c' x' y' h1 h2 h3
   cases hc
   simp only [aop] at hv
   split at hv <;> (try (cases hv; done))
   rename_i t ht
   simp only [Option.some.injEq,Prod.mk.injEq] at hv
   obtain ⟨rfl,rfl⟩:=hv
   exact fin_says h (says_pick hop h1 h2 h3 ht hO) hK
 | alloc t =>
   obtain ⟨e,he,rfl⟩:=map_some' hc
   simp only [aop,Option.some.injEq,Prod.mk.injEq] at hv
   obtain ⟨rfl,rfl⟩:=hv
   exact fin_makes h (makes_alloc _ hop he) hK
 | box t x =>
   simp only [cOp] at hc
   split at hc <;> (try (cases hc; done))
   rename_i e x' he hx
   cases hc
   simp only [aop] at hv
   split at hv <;> (try (cases hv; done))
   rename_i hok
   simp only [Option.some.injEq,Prod.mk.injEq] at hv
   obtain ⟨rfl,rfl⟩:=hv
   exact fin_makes h (makes_box _ hop he hx hok hO) hK
 | build t ps =>
   simp only [cOp] at hc
   have hio:∃ zs l,io=.build zs l:=by
    have h2:=hc
    unfold cBuild at h2
    split at h2 <;> (try (cases h2; done))
    split at h2 <;> (try (cases h2; done))
    split at h2 <;> (try (cases h2; done))
    split at h2 <;> (try (cases h2; done))
    ·split at h2 <;> (try (cases h2; done))
     split at h2 <;> (try (cases h2; done))
     cases h2; exact ⟨_,_,rfl⟩
    ·split at h2 <;> (try (cases h2; done))
     split at h2 <;> (try (cases h2; done))
     cases h2; exact ⟨_,_,rfl⟩
   obtain ⟨zs,l,rfl⟩:=hio
   simp only [aop] at hv
   split at hv <;> (try (cases hv; done))
   rename_i cs hcs
   simp only [Option.some.injEq,Prod.mk.injEq] at hv
   obtain ⟨rfl,rfl⟩:=hv
   exact fin_says h (says_build hop hc hcs hO) hK
 | buildSlice t n ps =>
   simp only [cOp] at hc
   split at hc <;> (try (cases hc; done))
   rename_i e hs
   split at hc <;> (try (cases hc; done))
   rename_i e' l he hl
   split at hc <;> (try (cases hc; done))
   rename_i hn
   cases hc
   simp only [aop] at hv
   split at hv <;> (try (cases hv; done))
   rename_i els hels
   simp only [Option.some.injEq,Prod.mk.injEq] at hv
   obtain ⟨rfl,rfl⟩:=hv
   exact fin_makes h (makes_mkrow _ hop hs he hl hn hels hO) hK
 | load t x =>
   simp only [cOp] at hc
   split at hc <;> (try (cases hc; done))
   rename_i i ag x' hi ha hx
   cases hc
   simp only [aop] at hv
   split at hv <;> (try (cases hv; done))
   rename_i u hu
   simp only [Option.some.injEq,Prod.mk.injEq] at hv
   obtain ⟨rfl,rfl⟩:=hv
   exact fin_says h (says_load hop hi ha hx hu hR hD (fun _ _ _ _ _ hb _=>hb) (dead_get s.H) hO) hK
 | store t x y =>
   simp only [cOp] at hc
   split at hc <;> (try (cases hc; done))
   rename_i i x' y' hi hx hy
   split at hc <;> (try (cases hc; done))
   rename_i hz
   cases hc
   simp only [aop] at hv
   split at hv <;> (try (cases hv; done))
   rename_i Hn hst
   simp only [Option.some.injEq,Prod.mk.injEq] at hv
   obtain ⟨rfl,rfl⟩:=hv
   have r1:=hO x (by simp [hop,Op.operands]) x' hx
   have r2:=hO y (by simp [hop,Op.operands]) y' hy
   obtain ⟨id,k,w',hk,-,⟨k',rfl,-,-,hst2⟩,-,hrun⟩:=store_run (P:=P) hi hz hst hR (fun _ _ _ _ _ hb _=>hb) (dead_get s.H) r1 r2
   obtain ⟨st,hR'⟩:=hst2 _ rfl
   unfold Oper.wp
   have hr:(execOp a.eval o).run P w=.ok .skip w':=by simp [execOp,hop,hrun]
   rw [hr]
   exact hK _ _ ρ (put_sim o.dst h st hR' (.frz (.undef _)))
 | nilCheck x =>
   obtain ⟨y,hy,rfl⟩:=map_some' hc
   simp only [aop] at hv
   split at hv <;> (try (cases hv; done))
   all_goals
    rename_i he
    simp only [Option.some.injEq,Prod.mk.injEq] at hv
    obtain ⟨rfl,rfl⟩:=hv
    first
     | exact fin_says h (says_nilck hop hy (.inl ⟨_,_,_,he⟩) he.symm hO) hK
     | exact fin_says h (says_nilck hop hy (.inr (.inl ⟨_,_,he⟩)) he.symm hO) hK
     | exact fin_says h (says_nilck hop hy (.inr (.inr ⟨_,_,_,he⟩)) he.symm hO) hK
 | binOp op t x y u =>
   simp only [cOp] at hc
   split at hc <;> (try (cases hc; done))
   rename_i d x' y' hd hx hy
   have bin:∀ op',io=.bin op' x' y'→op'=op→o.wp P a w K Q:=by
    rintro op' rfl rfl
    simp only [aop] at hv
    split at hv <;> (try (cases hv; done))
    rename_i r hr
    simp only [Option.some.injEq,Prod.mk.injEq] at hv
    obtain ⟨rfl,rfl⟩:=hv
    exact fin_says h (says_bin hop hx hy hr hO) hK
   have eqv:∀ neg k sh,io=.eqv neg k sh x' y'→eqKind P t=some (k,sh)→((op=.eql∧neg=false) ∨ (op=.neq∧neg=true))→o.wp P a w K Q:=by
    rintro neg k sh rfl hk hopn
    simp only [aop] at hv
    split at hv <;> (try (cases hv; done))
    rename_i b hb
    simp only [Option.some.injEq,Prod.mk.injEq] at hv
    obtain ⟨rfl,rfl⟩:=hv
    exact fin_says h (says_eqv hopn hop hk hx hy hb hO) hK
   split at hc
   ·split at hc
    ·cases hc; exact bin _ rfl rfl
    ·cases hc; exact bin _ rfl rfl
    ·split at hc <;> (try (cases hc; done))
     rename_i k sh hk
     cases hc
     exact eqv _ _ _ rfl hk (.inl ⟨rfl,rfl⟩)
   ·split at hc
    ·cases hc; exact bin _ rfl rfl
    ·cases hc; exact bin _ rfl rfl
    ·split at hc <;> (try (cases hc; done))
     rename_i k sh hk
     cases hc
     exact eqv _ _ _ rfl hk (.inr ⟨rfl,rfl⟩)
   ·cases hc; exact bin _ rfl rfl
 | unOp op t x =>
   obtain ⟨y,hy,rfl⟩:=map_some' hc
   simp only [aop] at hv
   split at hv <;> (try (cases hv; done))
   rename_i r hr
   simp only [Option.some.injEq,Prod.mk.injEq] at hv
   obtain ⟨rfl,rfl⟩:=hv
   exact fin_says h (says_un hop hy hr hO) hK
 | convert sT dT x =>
   simp only [cOp] at hc
   by_cases hm:sT=dT∧bytesT P sT=true
   ·rw [if_pos hm] at hc
    obtain ⟨x',hx,rfl⟩:=map_some' hc
    obtain ⟨rfl,hby⟩:=hm
    obtain ⟨e,h2,h3⟩:=bytesT_spec P hby
    simp only [aop] at hv
    split at hv <;> (try (cases hv; done))
    rename_i id q n hxv
    split at hv <;> (try (cases hv; done))
    rename_i k hg
    split at hv <;> (try (cases hv; done))
    rename_i hne
    simp only [Option.some.injEq,Prod.mk.injEq] at hv
    obtain ⟨rfl,rfl⟩:=hv
    exact fin_mark h hop h2 h3 hx hxv hg (by rw [hne]; simp) hO hK
   rw [if_neg hm] at hc
   split at hc <;> (try (cases hc; done))
   ·rename_i k k' x' h1 h2 hx
    cases hc
    simp only [aop] at hv
    split at hv <;> (try (cases hv; done))
    rename_i k0 n he
    simp only [Option.some.injEq,Prod.mk.injEq] at hv
    obtain ⟨rfl,rfl⟩:=hv
    exact fin_says h (says_conv hop h1 h2 hx he hO) hK
   ·rename_i x' h1 h2 hx
    cases hc
    simp only [aop] at hv
    split at hv <;> (try (cases hv; done))
    rename_i l he
    simp only [Option.some.injEq,Prod.mk.injEq] at hv
    obtain ⟨rfl,rfl⟩:=hv
    exact fin_says h (says_cid hop h1 h2 hx he hO) hK
   ·rename_i e x' h1 h2 hx
    split at hc <;> (try (cases hc; done))
    rename_i e' h3 he
    split at hc <;> (try (cases hc; done))
    rename_i he1
    cases hc
    simp only [aop] at hv
    split at hv <;> (try (cases hv; done))
    rename_i l hl
    simp only [Option.some.injEq,Prod.mk.injEq] at hv
    obtain ⟨rfl,rfl⟩:=hv
    exact fin_makes h (makes_s2b _ hop h1 h2 h3 he he1 hx hl hO) hK
   ·rename_i e x' h1 h2 hx
    split at hc <;> (try (cases hc; done))
    rename_i h3
    cases hc
    simp only [aop] at hv
    split at hv <;> (try (cases hv; done))
    rename_i hns
    split at hv <;> (try (cases hv; done))
    rename_i l hl
    split at hv <;> (try (cases hv; done))
    rename_i z hz
    simp only [Option.some.injEq,Prod.mk.injEq] at hv
    obtain ⟨rfl,rfl⟩:=hv
    exact fin_says h (says_b2s hop h1 h3 h2 hx hl (fun s hs=>hns s hs) hz hR hD (fun _ _ _ _ _ hb _=>hb) (dead_get s.H) hO) hK
 | makeFunc fn p q =>
   cases fn <;> simp only [cOp] at hc <;> (try (cases hc; done))
   rename_i g
   split at hc <;> (try (cases hc; done))
   rename_i p' q' hp hq
   cases hc
   simp only [aop,Option.some.injEq,Prod.mk.injEq] at hv
   obtain ⟨rfl,rfl⟩:=hv
   exact fin_says h (says_mkfn hop hp hq hO) hK
 | makeSlice t x y =>
   simp only [cOp] at hc
   split at hc <;> (try (cases hc; done))
   rename_i e hs
   split at hc <;> (try (cases hc; done))
   rename_i e' x' y' he hx hy
   cases hc
   simp only [aop] at hv
   split at hv <;> (try (cases hv; done))
   rename_i n c hn hm
   split at hv <;> (try (cases hv; done))
   rename_i hcnd
   obtain ⟨c1,c2,c3,c4⟩:=hcnd
   subst c2
   simp only [Option.some.injEq,Prod.mk.injEq] at hv
   obtain ⟨rfl,rfl⟩:=hv
   exact fin_makes h (makes_mkslice _ hop hs he hx hy hn hm c1 c3 c4 hO) hK
 | slice t x lo hi mx =>
   simp only [cOp] at hc
   split at hc <;> (try (cases hc; done))
   ·rename_i x' lo' hi' hs hx h1 h2 h3
    cases hc
    have hmn:mx=none:=by
     cases mx with
     | none=>rfl
     | some z =>
       simp only [cOptOpd] at h3
       split at h3 <;> cases h3
    subst hmn
    simp only [aop] at hv
    split at hv <;> (try (cases hv; done))
    rename_i r hr
    simp only [Option.some.injEq,Prod.mk.injEq] at hv
    obtain ⟨rfl,rfl⟩:=hv
    exact fin_says h (says_subS hop hs hx h1 h2 hr hO) hK
   ·rename_i e x' lo' hi' mx' hs hx h1 h2 h3
    split at hc <;> (try (cases hc; done))
    rename_i ie hie
    split at hc <;> (try (cases hc; done))
    rename_i hmh
    cases hc
    simp only [aop] at hv
    split at hv <;> (try (cases hv; done))
    rename_i r hr
    simp only [Option.some.injEq,Prod.mk.injEq] at hv
    obtain ⟨rfl,rfl⟩:=hv
    refine fin_says h (says_subV hop hs hie hx h1 h2 h3 ?_ hr hR hD hsh hse hO) hK
    cases mx <;> cases hi <;> simp [cOptOpd] at h2 h3 hmh ⊢
    ·rename_i z
     cases hz:cOpd z <;> simp [hz] at h3
     subst h3; subst h2
     simp at hmh
 | fieldAddr sT x f =>
   simp only [cOp] at hc
   split at hc <;> (try (cases hc; done))
   rename_i off n t x' hf hx
   cases hc
   simp only [aop] at hv
   split at hv <;> (try (cases hv; done))
   rename_i r hr
   simp only [Option.some.injEq,Prod.mk.injEq] at hv
   obtain ⟨rfl,rfl⟩:=hv
   unfold cField at hf
   split at hf <;> (try (cases hf; done))
   rename_i fs hs
   split at hf <;> (try (cases hf; done))
   rename_i fd hfd
   split at hf <;> (try (cases hf; done))
   rename_i i hi
   split at hf <;> (try (cases hf; done))
   rename_i hz
   cases hf
   exact fin_says h (says_fldA hop hs hfd hi hz hx hr hO) hK
 | field sT x f =>
   simp only [cOp] at hc
   split at hc <;> (try (cases hc; done))
   rename_i off n t x' hf hx
   split at hc <;> (try (cases hc; done))
   rename_i ag hag
   cases hc
   simp only [aop] at hv
   split at hv <;> (try (cases hv; done))
   rename_i cs he
   split at hv <;> (try (cases hv; done))
   rename_i r hr
   simp only [Option.some.injEq,Prod.mk.injEq] at hv
   obtain ⟨rfl,rfl⟩:=hv
   unfold cField at hf
   split at hf <;> (try (cases hf; done))
   rename_i fs hs
   split at hf <;> (try (cases hf; done))
   rename_i fd hfd
   split at hf <;> (try (cases hf; done))
   rename_i i hi
   split at hf <;> (try (cases hf; done))
   rename_i hz
   cases hf
   exact fin_says h (says_fld hop hs hfd hi hag hx he hr hO) hK
 | indexAddr t x y =>
   simp only [cOp] at hc
   split at hc <;> (try (cases hc; done))
   ·rename_i e x' y' hs hx hy
    split at hc <;> (try (cases hc; done))
    rename_i ie hie
    split at hc <;> (try (cases hc; done))
    cases hc
    simp only [aop] at hv
    split at hv <;> (try (cases hv; done))
    rename_i q hq
    split at hv <;> (try (cases hv; done))
    rename_i r hr
    simp only [Option.some.injEq,Prod.mk.injEq] at hv
    obtain ⟨rfl,rfl⟩:=hv
    obtain ⟨k,hk⟩:∃ k,ev y'=.int k q:=by
     generalize ev y'=Y at hq
     cases Y <;> simp [aInt] at hq
     subst hq; exact ⟨_,rfl⟩
    exact fin_says h (says_ixAS hop hs hie hx hy hk hr hR hD hsh hse hO) hK
   ·rename_i n e x' y' hs hx hy
    split at hc <;> (try (cases hc; done))
    rename_i ie hie
    cases hc
    simp only [aop] at hv
    split at hv <;> (try (cases hv; done))
    rename_i q hq
    split at hv <;> (try (cases hv; done))
    rename_i hb
    split at hv <;> (try (cases hv; done))
    rename_i r hr
    simp only [Option.some.injEq,Prod.mk.injEq] at hv
    obtain ⟨rfl,rfl⟩:=hv
    obtain ⟨k,hk⟩:∃ k,ev y'=.int k q:=by
     generalize ev y'=Y at hq
     cases Y <;> simp [aInt] at hq
     subst hq; exact ⟨_,rfl⟩
    exact fin_says h (says_ixAA hop hs hie hx hy hk hb hr hO) hK
 | index t x y =>
   simp only [cOp] at hc
   split at hc <;> (try (cases hc; done))
   ·rename_i x' y' hs hx hy
    cases hc
    simp only [aop] at hv
    split at hv <;> (try (cases hv; done))
    rename_i l q hl hq
    split at hv <;> (try (cases hv; done))
    rename_i h0
    split at hv <;> (try (cases hv; done))
    rename_i b hb
    simp only [Option.some.injEq,Prod.mk.injEq] at hv
    obtain ⟨rfl,rfl⟩:=hv
    obtain ⟨k,hk⟩:∃ k,ev y'=.int k q:=by
     generalize ev y'=Y at hq
     cases Y <;> simp [aInt] at hq
     subst hq; exact ⟨_,rfl⟩
    exact fin_says h (says_ixS hop hs hx hy hk hl h0 hb hO) hK
   ·rename_i n e x' y' hs hx hy
    split at hc <;> (try (cases hc; done))
    rename_i ie ag hie hag
    cases hc
    simp only [aop] at hv
    split at hv <;> (try (cases hv; done))
    rename_i cs q hcs hq
    split at hv <;> (try (cases hv; done))
    rename_i hb
    split at hv <;> (try (cases hv; done))
    rename_i r hr
    simp only [Option.some.injEq,Prod.mk.injEq] at hv
    obtain ⟨rfl,rfl⟩:=hv
    obtain ⟨k,hk⟩:∃ k,ev y'=.int k q:=by
     generalize ev y'=Y at hq
     cases Y <;> simp [aInt] at hq
     subst hq; exact ⟨_,rfl⟩
    exact fin_says h (says_ixA hop hs hie hag hx hy hk hcs hb hr hO) hK
 | extract x i =>
   simp only [cOp] at hc
   split at hc <;> (try (cases hc; done))
   rename_i x' hx
   cases hc
   simp only [aop] at hv
   split at hv <;> (try (cases hv; done))
   rename_i vs he
   split at hv <;> (try (cases hv; done))
   rename_i r hr
   simp only [Option.some.injEq,Prod.mk.injEq] at hv
   obtain ⟨rfl,rfl⟩:=hv
   exact fin_says h (says_extr hop hx he hr hO) hK
 | call c =>
   simp only [cOp,cCall] at hc
   split at hc <;> (try (cases hc; done))
   ·rename_i f hcc
    split at hc <;> (try (cases hc; done))
    rename_i f' ys hf hys
    cases hc
    simp only [aop] at hv
    split at hv <;> (try (cases hv; done))
    rename_i g p q he
    exact fin_call h hO hbad hcall hop hcc hf hys he hv hK
   ·rename_i hcc
    split at hc <;> (try (cases hc; done))
    rename_i x t hca hct
    split at hc <;> (try (cases hc; done))
    ·rename_i x' hs hx
     cases hc
     simp only [aop] at hv
     split at hv <;> (try (cases hv; done))
     rename_i l hl
     simp only [Option.some.injEq,Prod.mk.injEq] at hv
     obtain ⟨rfl,rfl⟩:=hv
     exact fin_says h (says_lenS hop hcc hca hct hs hx hl hO) hK
    ·rename_i e x' hs hx
     cases hc
     simp only [aop] at hv
     split at hv <;> (try (cases hv; done))
     rename_i n hn
     simp only [Option.some.injEq,Prod.mk.injEq] at hv
     obtain ⟨rfl,rfl⟩:=hv
     exact fin_says h (says_lenV hop hcc hca hct hs hx hn hD hsh hO) hK
    ·rename_i n e x' hs hx
     cases hc
     simp only [aop,hev,Option.some.injEq,Prod.mk.injEq] at hv
     obtain ⟨rfl,rfl⟩:=hv
     refine fin_says h ⟨.int .i64 n,?_,.frz (.int _ _)⟩ hK
     obtain ⟨cal,args,tys⟩:=c
     obtain ⟨args⟩:=args
     obtain ⟨tys⟩:=tys
     simp only at hcc hca hct
     subst hcc; subst hca; subst hct
     simp [execOp,hop,resolve,invoke,builtin,Builtin.len_,run_underlying hs,goInt]
   ·rename_i hcc
    split at hc <;> (try (cases hc; done))
    rename_i ys hys
    cases hc
    simp only [aop] at hv
    split at hv <;> (try (cases hv; done))
    rename_i r hr
    simp only [Option.some.injEq,Prod.mk.injEq] at hv
    obtain ⟨rfl,rfl⟩:=hv
    exact fin_says h (says_min hop hcc hys hr hO) hK
   ·rename_i hcc
    split at hc <;> (try (cases hc; done))
    rename_i ys hys
    cases hc
    simp only [aop] at hv
    split at hv <;> (try (cases hv; done))
    rename_i r hr
    simp only [Option.some.injEq,Prod.mk.injEq] at hv
    obtain ⟨rfl,rfl⟩:=hv
    exact fin_says h (says_max hop hcc hys hr hO) hK
   ·rename_i hcc
    split at hc <;> (try (cases hc; done))
    rename_i sA xA t u hca hct
    split at hc <;> (try (cases hc; done))
    rename_i e du s' x' ht hu hs hx
    have app:∀ e',cETy P e=some e'→(du=.string ∨ ∃ e',du=.slice e')→io=.app e' s' x'→o.wp P a w K Q:=by
     rintro e' he hdu rfl
     simp only [aop] at hv
     split at hv <;> (try (cases hv; done))
     rename_i xs hxs
     have r1:=hO sA (by simp [hop,Op.operands,Call.operands,hcc]; exact by have:=hca; (have h9:sA ∈ c.args.toList:=by rw [this]; simp); simpa using h9) s' hs
     have r2:=hO xA (by simp [hop,Op.operands,Call.operands,hcc]; exact by have:=hca; (have h9:xA ∈ c.args.toList:=by rw [this]; simp); simpa using h9) x' hx
     obtain ⟨cv,w',ρ',hrun,st,hR',hrep⟩:=app_run (P:=P) (ty:=o.type) ht hu hdu he hxs hR h.low r1 r2 hv
     unfold Oper.wp
     rw [app_args hop hcc hca hct,hrun]
     exact hK _ _ ρ' (put_sim o.dst h st hR' hrep)
    split at hc <;> (try (cases hc; done))
    ·split at hc <;> (try (cases hc; done))
     rename_i e' he
     cases hc
     exact app e' he (.inr ⟨_,rfl⟩) rfl
    ·split at hc <;> (try (cases hc; done))
     rename_i e' he
     cases hc
     exact app e' he (.inl rfl) rfl
 | _=>simp [cOp] at hc
theorem op_step {io:IOp} {call:CallF} {v:AV} {H':Heap} (hc:cOp P o.type o.op=some io) (hcall:CallOK P call) (hbad:∀ b,bad b→b < B) (h:Sim w0 D0 ρ0 bad B ρ s a w) (hv:aop call (evO s.env) s.H io=some (v,H'))
 (hK:∀ a' w' ρ',Sim w0 D0 ρ0 bad B ρ' ⟨AE.put s.env o.dst v,H'⟩ a' w'→K a' w'):o.wp P a w K Q :=
 op_stepE (fun _=>rfl) (evO_rep h o.op.operands.toList) hc hcall hbad h hv hK
end
end Go.Proofs.Ytffiilnmfmkpmaa.AE

namespace Go.Proofs.Ytffiilnmfmkpmaa.AE
set_option linter.unusedVariables false
set_option linter.unusedSimpArgs false
set_option linter.constructorNameAsVariable false
open Go Go.RowKit

def exOf:Ex→Exit
 | .normal=>.normal
 | .exit id=>.exit id
 | .ret=>.ret

def DrawD (P:Program) (call callP:CallF):Prop :=
 ∀ (ops:Array Oper) (ios:List IOper) (id:Nat),optAll (cOper P ops.toList) ops.toList=some ios→drawOk ops ios (predsOf ops.toList [])=true→edgesOk ops=true→Region.noSelect ops=true→P.follows .mixedOrders=true →
   ∀ (w w0:World) (bad D0:Nat→Prop) (ρ ρ0:Rho) (a:Act) (B:Nat) (s s':St) (Q:Exit→Act→World→Prop),(∀ b,bad b→b < B)→Sim w0 D0 ρ0 bad B ρ s a w →
     runOpsD call callP (ios.zipIdx.map fun p=>(p.1,chkOf ios (predsOf ops.toList []) p.2 p.1)) 0 [] s=some s'→(∀ a' w' ρ',Sim w0 D0 ρ0 bad B ρ' s' a' w'→Q .normal a' w')→(Code.region id ops true).wp P Q a w
def DrawS (P:Program) (call:CallF):Prop :=
 ∀ (ops:Array Oper) (ios:List IOper) (id:Nat),optAll (cOper P ops.toList) ops.toList=some ios→drawSOk ops (sopsOf ios (predsOf ops.toList [])) (predsOf ops.toList [])=true→edgesOk ops=true→Region.noSelect ops=true→P.follows .mixedOrders=true →
   ∀ (w w0:World) (bad D0:Nat→Prop) (ρ ρ0:Rho) (a:Act) (B:Nat) (s s':St) (Q:Exit→Act→World→Prop),(∀ b,bad b→b < B)→Sim w0 D0 ρ0 bad B ρ s a w →
     runOpsS call s.H.length (sopsOf ios (predsOf ops.toList [])) 0 [] ⟨s.env,s.H ++ preH (sopsOf ios (predsOf ops.toList []))⟩=some s'→(∀ a' w' ρ',Sim w0 D0 ρ0 bad B ρ' s' a' w'→Q .normal a' w')→(Code.region id ops true).wp P Q a w
def DrawOK (P:Program) (call callP:CallF):Prop:=DrawD P call callP∧DrawS P call

section
variable {P:Program} {w w0:World} {bad D0:Nat→Prop} {ρ ρ0:Rho} {a:Act} {o:Oper} {B:Nat} {s:St} {Q:Exit→Act→World→Prop}

theorem want_spec {ops:Array Oper} {io:IOper} {b:Bool} (hc:cOper P ops.toList o=some io) (h:Sim w0 D0 ρ0 bad B ρ s a w) (hw:want s.env io.guard=some b):Region.wanted o (yielded ops a.tmps)=b:=by
 unfold cOper at hc
 split at hc <;> (try (cases hc; done))
 cases hc
 simp only at hw
 unfold Region.wanted
 cases hg:o.guard with
 | none=>simp [hg,want] at hw; subst hw; rfl
 | some p =>
   obtain ⟨j,q⟩:=p
   simp only [hg] at hw
   simp only [yielded]
   have he:(ops.toList[j]?)=ops[j]?:=by simp
   rw [he] at hw
   cases hd:(ops[j]?).bind (·.dst) with
   | none =>
     simp only [hd,want,Option.some.injEq] at hw
     subst hw
     simp
   | some t =>
     simp only [hd,want] at hw
     have hlt:t < s.env.length:=by
      rcases Nat.lt_or_ge t s.env.length with hlt | hge
      ·exact hlt
      ·rw [List.getD_eq_getElem?_getD,List.getElem?_eq_none hge] at hw
       simp at hw
     have hr:=h.env t hlt
     have htm:a.tmps[t]?=some (a.tmps.getD t undef):=by
      rw [Array.getD_eq_getD_getElem?,Array.getElem?_eq_getElem (by rw [h.size]; exact hlt)]; rfl
     simp only [Option.bind_some,htm]
     split at hw
     ·rename_i c hcv
      rw [hcv] at hr
      rw [rep_bool hr]
      simp only [Option.some.injEq] at hw
      subst hw
      simp
     ·rename_i hcv
      rw [hcv] at hr
      obtain ⟨vs,hv,hl,_⟩:=rep_tup hr
      have:vs=[]:=by simpa using hl.symm
      subst this
      rw [hv]
      simp only [Option.some.injEq] at hw
      subst hw
      rfl
     ·cases hw

theorem cOper_op {ops:List Oper} {io:IOper} (hc:cOper P ops o=some io):cOp P o.type o.op=some io.op∧io.dst=o.dst:=by
 unfold cOper at hc
 split at hc <;> (try (cases hc; done))
 rename_i op hop
 cases hc
 exact ⟨hop,rfl⟩

theorem skip_sim (d:Option Nat) (h:Sim w0 D0 ρ0 bad B ρ s a w):Sim w0 D0 ρ0 bad B ρ ⟨AE.put s.env d (.tup []),s.H⟩ (a.put d undef) w :=
 put_sim d h (Step.refl _ _ _) h.heap (.frz (.tup [] [] rfl (by simp)))

theorem runOps_sound {call:CallF} (hcall:CallOK P call) (hbad:∀ b,bad b→b < B) (ops:Array Oper):∀ (l:List Oper) (il:List IOper) (ρ:Rho) (s s':St) (a:Act) (w:World),optAll (cOper P ops.toList) l=some il→Sim w0 D0 ρ0 bad B ρ s a w→runOps call il s=some s' →
 (∀ a' w' ρ',Sim w0 D0 ρ0 bad B ρ' s' a' w'→Q .normal a' w')→wpList P ops Q l a w
 | [],il,ρ,s,s',a,w,hc,h,hr,hq=>by
   simp only [optAll,Option.some.injEq] at hc
   subst hc
   simp only [runOps,Option.some.injEq] at hr
   subst hr
   exact wpList_nil (hq _ _ _ h)
 | o::l,il,ρ,s,s',a,w,hc,h,hr,hq=>by
   simp only [optAll] at hc
   split at hc <;> (try (cases hc; done))
   rename_i io hio
   split at hc <;> (try (cases hc; done))
   rename_i il' hil
   cases hc
   obtain ⟨hop,hdst⟩:=cOper_op hio
   simp only [runOps] at hr
   refine wpList_step fun K hK=>?_
   split at hr
   ·rename_i hw
    rw [want_spec hio h hw,if_pos rfl]
    split at hr <;> (try (cases hr; done))
    rename_i v H' hv
    refine op_step hop hcall hbad h hv fun a' w' ρ' h'=>hK _ _ ?_
    rw [← hdst] at h'
    exact runOps_sound hcall hbad ops l il' ρ' _ s' a' w' hil h' hr hq
   ·rename_i hw
    rw [want_spec hio h hw,if_neg (by simp)]
    have h':=skip_sim o.dst h
    rw [← hdst] at h' ⊢
    exact hK _ _ (runOps_sound hcall hbad ops l il' ρ _ s' _ w hil h' hr hq)
   ·cases hr

theorem opd_bool {c:Operand} {c':Opd} {t:Bool} (hc:cOpd c=some c') (h:Sim w0 D0 ρ0 bad B ρ s a w) (he:evO s.env c'=.bool t):a.eval c=.bool t:=by
 have:=evO_rep h [c] c (by simp) c' hc
 rw [he] at this
 exact rep_bool this

theorem exec_sound {call callP:CallF} {fu:Nat} (hcall:CallOK P call) (hdraw:DrawOK P call callP) (hbad:∀ b,bad b→b < B):∀ (sq:Bool) (c:Code) (ic:IC),cCode P sq c=some ic→∀ (ρ:Rho) (s:St) (e:Ex) (s':St) (a:Act) (w:World) (Q:Exit→Act→World→Prop),
 exec call callP fu ic s=some (e,s')→Sim w0 D0 ρ0 bad B ρ s a w→(∀ a' w' ρ',Sim w0 D0 ρ0 bad B ρ' s' a' w'→Q (exOf e) a' w')→c.wp P Q a w:=by
 intro sq c
 induction c with
 | skip =>
   intro ic hc ρ s e s' a w Q he h hq
   simp only [cCode,Option.some.injEq] at hc
   subst hc
   simp only [exec,Option.some.injEq,Prod.mk.injEq] at he
   obtain ⟨rfl,rfl⟩:=he
   exact wp_skip (hq _ _ _ h)
 | region id ops draw =>
   intro ic hc ρ s e s' a w Q he h hq
   simp only [cCode] at hc
   split at hc <;> (try (cases hc; done))
   rename_i il hil
   split at hc
   ·rename_i hdr
    subst hdr
    split at hc
    ·rename_i hok
     cases hc
     simp only [Bool.and_eq_true] at hok
     simp only [exec] at he
     split at he <;> (try (cases he; done))
     rename_i s2 hs2
     simp only [Option.some.injEq,Prod.mk.injEq] at he
     obtain ⟨rfl,rfl⟩:=he
     exact hdraw.2 ops il id hil hok.1.1.1.2 hok.1.1.2 hok.1.2 hok.2 w w0 bad D0 ρ ρ0 a B s s2 Q hbad h hs2 hq
    split at hc <;> (try (cases hc; done))
    rename_i hok
    cases hc
    simp only [Bool.and_eq_true] at hok
    simp only [exec] at he
    split at he <;> (try (cases he; done))
    rename_i s2 hs2
    simp only [Option.some.injEq,Prod.mk.injEq] at he
    obtain ⟨rfl,rfl⟩:=he
    exact hdraw.1 ops il id hil hok.1.1.1 hok.1.1.2 hok.1.2 hok.2 w w0 bad D0 ρ ρ0 a B s s2 Q hbad h hs2 hq
   ·rename_i hdr
    have:draw=false:=by simpa using hdr
    subst this
    cases hc
    simp only [exec] at he
    split at he <;> (try (cases he; done))
    rename_i s2 hs2
    simp only [Option.some.injEq,Prod.mk.injEq] at he
    obtain ⟨rfl,rfl⟩:=he
    exact wp_region_list (runOps_sound hcall hbad ops ops.toList il ρ s s2 a w hil h hs2 hq)
 | seq x y ihx ihy =>
   intro ic hc ρ s e s' a w Q he h hq
   simp only [cCode] at hc
   split at hc <;> (try (cases hc; done))
   rename_i ix iy hx hy
   cases hc
   simp only [exec] at he
   refine wp_seq ?_
   split at he
   ·rename_i s1 h1
    exact ihx ix hx ρ s .normal s1 a w _ h1 h fun a' w' ρ' h'=>ihy iy hy ρ' s1 e s' a' w' Q he h' hq
   ·rename_i hn
    refine ihx ix hx ρ s e s' a w _ he h fun a' w' ρ' h'=>?_
    cases e with
    | normal=>exact absurd he (hn _)
    | exit id=>exact hq _ _ _ h'
    | ret=>exact hq _ _ _ h'
 | cond cnd x y ihx ihy =>
   intro ic hc ρ s e s' a w Q he h hq
   simp only [cCode] at hc
   split at hc <;> (try (cases hc; done))
   rename_i c' ix iy hcc hx hy
   cases hc
   simp only [exec] at he
   split at he <;> (try (cases he; done))
   rename_i t ht
   refine wp_cond_split (opd_bool hcc h ht) (fun ht'=>?_) (fun ht'=>?_)
   ·subst ht'
    exact ihx ix hx ρ s e s' a w Q he h hq
   ·subst ht'
    exact ihy iy hy ρ s e s' a w Q he h hq
 | block id x ihx =>
   intro ic hc ρ s e s' a w Q he h hq
   simp only [cCode] at hc
   split at hc <;> (try (cases hc; done))
   rename_i ix hx
   cases hc
   simp only [exec] at he
   refine wp_block ?_
   split at he
   ·rename_i i s1 h1
    refine ihx ix hx ρ s (.exit i) s1 a w _ h1 h fun a' w' ρ' h'=>?_
    simp only [exOf,Exit.inBlock]
    split at he
    ·rename_i hi
     cases he
     rw [if_pos hi]
     exact hq _ _ _ h'
    ·rename_i hi
     cases he
     rw [if_neg hi]
     exact hq _ _ _ h'
   ·rename_i hn
    refine ihx ix hx ρ s e s' a w _ he h fun a' w' ρ' h'=>?_
    cases e with
    | normal=>exact hq _ _ _ h'
    | exit id=>exact absurd he (hn _ _)
    | ret=>exact hq _ _ _ h'
 | loop x ihx =>
   intro ic hc ρ s e s' a w Q he h hq
   simp only [cCode] at hc
   split at hc <;> (try (cases hc; done))
   rename_i ix hx
   cases hc
   simp only [exec] at he
   have key:∀ (n:Nat) (ρ:Rho) (s:St) (a:Act) (w:World),iter (exec call callP fu ix) n s=some (e,s')→Sim w0 D0 ρ0 bad B ρ s a w→Code.rounds P x Q n a w:=by
    intro n
    induction n with
    | zero=>intro ρ s a w he h; simp [iter] at he
    | succ n ih =>
      intro ρ s a w he h
      simp only [iter] at he
      rw [rounds_succ]
      split at he
      ·rename_i s1 h1
       exact ihx ix hx ρ s .normal s1 a w _ h1 h fun a' w' ρ' h'=>ih ρ' s1 a' w' he h'
      ·rename_i hn
       refine ihx ix hx ρ s e s' a w _ he h fun a' w' ρ' h'=>?_
       cases e with
       | normal=>exact absurd he (hn _)
       | exit id=>exact hq _ _ _ h'
       | ret=>exact hq _ _ _ h'
   exact wp_loop_rounds fu (key fu ρ s a w he h)
 | exit id =>
   intro ic hc ρ s e s' a w Q he h hq
   simp only [cCode,Option.some.injEq] at hc
   subst hc
   simp only [exec,Option.some.injEq,Prod.mk.injEq] at he
   obtain ⟨rfl,rfl⟩:=he
   exact wp_exit (hq _ _ _ h)
 | ret =>
   intro ic hc ρ s e s' a w Q he h hq
   simp only [cCode,Option.some.injEq] at hc
   subst hc
   simp only [exec,Option.some.injEq,Prod.mk.injEq] at he
   obtain ⟨rfl,rfl⟩:=he
   exact wp_ret (hq _ _ _ h)
 | _=>intros; rename_i hc _ _ _ _ _ _ _ _ _ _; simp [cCode] at hc
end
end Go.Proofs.Ytffiilnmfmkpmaa.AE

namespace Go.Proofs.Ytffiilnmfmkpmaa.AE
set_option linter.unusedVariables false
set_option linter.unusedSimpArgs false
set_option linter.constructorNameAsVariable false
open Go Go.RowKit

section
variable {P:Program} {w w0:World} {bad D0:Nat→Prop} {ρ ρ0:Rho} {a:Act} {B:Nat} {s:St}

theorem resAll_run:∀ (rs:List ResultVar) (rv:List RV) (vs:List AV),optAll (cRV P) rs=some rv→resAll s rv=some vs→Sim w0 D0 ρ0 bad B ρ s a w →
 ∃ us:List Value,(rs.mapM fun
   | .tmp t=>pure (a.tmps.getD t undef)
   | .cell x t=>do loadVar t (← asAddr (a.tmps.getD x undef)):Sem (List Value)).run P w=.ok us w∧vs.length=us.length∧∀ (i:Nat) (c:AV) (u:Value),vs[i]?=some c→us[i]?=some u→Rep w bad (dead s.H) ρ c u
 | [],rv,vs,hc,hr,h=>by
   simp only [optAll,Option.some.injEq] at hc
   subst hc
   simp only [resAll,Option.some.injEq] at hr
   subst hr
   exact ⟨[],rfl,rfl,by simp⟩
 | r::rs,rv,vs,hc,hr,h=>by
   simp only [optAll] at hc
   split at hc <;> (try (cases hc; done))
   rename_i r' hr'
   split at hc <;> (try (cases hc; done))
   rename_i rv' hrv
   cases hc
   simp only [resAll] at hr
   split at hr <;> (try (cases hr; done))
   rename_i v hv
   split at hr <;> (try (cases hr; done))
   rename_i vs' hvs
   cases hr
   obtain ⟨us,h1,h2,h3⟩:=resAll_run rs rv' vs' hrv hvs h
   have one:∃ u,((match r with
    | .tmp t=>pure (a.tmps.getD t undef)
    | .cell x t=>do loadVar t (← asAddr (a.tmps.getD x undef)):Sem Value)).run P w=.ok u w∧Rep w bad (dead s.H) ρ v u:=by
    cases r with
    | tmp t =>
      simp only [cRV,Option.some.injEq] at hr'
      subst hr'
      simp only [resOf,Option.some.injEq] at hv
      subst hv
      exact ⟨_,rfl,evO_rep h [.tmp t] (.tmp t) (by simp) (.t t) rfl⟩
    | cell x t =>
      simp only [cRV] at hr'
      split at hr' <;> (try (cases hr'; done))
      rename_i i ag hi ha
      cases hr'
      simp only [resOf] at hv
      have hx:=evO_rep h [.tmp x] (.tmp x) (by simp) (.t x) rfl
      obtain ⟨u,hu,hru⟩:=aLoad_rep hi ha hv h.heap (fun _=>Iff.rfl) (fun _ _ _ _ _ hb _=>hb) (dead_get s.H) hx
      refine ⟨u,?_,hru⟩
      simp only [Act.eval] at hu hx
      simp only [Sem.run_bind]
      generalize a.tmps.getD x undef=V at *
      generalize evO s.env (.t x)=X at *
      have:∃ ad,V=.pointer (some ad):=by
       simp only [Instr.loadAt,Sem.run_bind] at hu
       cases V <;> simp [Instr.sureAddr,Result.andThen] at hu
       rename_i ad
       cases ad <;> simp at hu
       exact ⟨_,rfl⟩
      obtain ⟨ad,rfl⟩:=this
      simp only [Instr.loadAt,Instr.sureAddr,Sem.run_bind,Sem.run_pure,Result.andThen_ok] at hu
      simp only [asAddr,Sem.run_pure,Result.andThen_ok]
      exact hu
   obtain ⟨u,hu,hru⟩:=one
   refine ⟨u::us,?_,by simp [h2],fun i c z hc hz=>?_⟩
   ·simp only [List.mapM_cons,Sem.run_bind,hu,Result.andThen_ok,h1,Sem.run_pure]
   ·cases i with
    | zero=>simp at hc hz; subst hc; subst hz; exact hru
    | succ i=>exact h3 i c z (by simpa using hc) (by simpa using hz)

theorem results_run {fn:Func} {rv:List RV} {vs:List AV} (hc:optAll (cRV P) fn.results.toList=some rv) (hr:resAll s rv=some vs) (h:Sim w0 D0 ρ0 bad B ρ s a w):∃ cv,(results fn a.tmps).run P w=.ok cv w∧Rep w bad (dead s.H) ρ (packRes vs) cv:=by
 obtain ⟨us,h1,h2,h3⟩:=resAll_run fn.results.toList rv vs hc hr h
 have hm:(fn.results.mapM fun
  | .tmp t=>pure (a.tmps.getD t undef)
  | .cell x t=>do loadVar t (← asAddr (a.tmps.getD x undef)):Sem (Array Value)).run P w=.ok us.toArray w:=by
  rw [Array.mapM_eq_mapM_toList,Sem.run_map,h1]; rfl
 have e:results fn a.tmps=((fn.results.mapM fun
  | .tmp t=>pure (a.tmps.getD t undef)
  | .cell x t=>do loadVar t (← asAddr (a.tmps.getD x undef)):Sem (Array Value)) >>= fun vs=>pure (if h:vs.size=1 then vs[0] else .tuple vs)):=rfl
 rw [e]
 simp only [Sem.run_bind,hm,Result.andThen_ok,Sem.run_pure]
 by_cases hl:us.length=1
 ·obtain ⟨u,rfl⟩:=List.length_eq_one_iff.mp hl
  obtain ⟨v,rfl⟩:=List.length_eq_one_iff.mp (h2.trans hl)
  exact ⟨u,by simp,h3 0 v u rfl rfl⟩
 ·refine ⟨.tuple us.toArray,by simp [hl],?_⟩
  have:packRes vs=.tup vs:=by
   cases vs with
   | nil=>rfl
   | cons v vs =>
     cases vs with
     | nil=>simp at h2; omega
     | cons=>rfl
  rw [this]
  exact .tup vs us h2 h3

theorem runFn_sound {call callP:CallF} {fu:Nat} {g:FuncId} {fn:AFn} {args:List AV} {H H':Heap} {v:AV} {vs:List Value} (hcall:CallOK P call) (hdraw:DrawOK P call callP) (hbad:∀ b,bad b→b < B) {sq:Bool} (hfn:cFnQ P sq g=some fn) (hr:runFn call callP fu fn args H=some (v,H'))
 (hR:HRel w bad ρ B H) (hB:B≤w.heap.size) (hl:args.length=vs.length) (hargs:∀ (i:Nat) (c:AV) (u:Value),args[i]?=some c→vs[i]?=some u→Rep w bad (dead H) ρ c u) :
 Calls P g vs.toArray w fun e w'=>∃ cv,e=.returned cv∧∃ ρ',Step w w' (dead H) (dead H') ρ ρ'∧HRel w' bad ρ' B H'∧Rep w' bad (dead H') ρ' v cv:=by
 unfold cFnQ at hfn
 split at hfn <;> (try (cases hfn; done))
 rename_i f hf
 split at hfn <;> (try (cases hfn; done))
 rename_i c hb
 split at hfn <;> (try (cases hfn; done))
 split at hfn <;> (try (cases hfn; done))
 rename_i ic rv hic hrv
 cases hfn
 unfold runFn at hr
 simp only at hr
 refine calls_of_wp hf hb ?_
 have h0:Sim w (dead H) ρ bad B ρ ⟨args ++ List.replicate (f.ntmps - args.length) (.tup []),H⟩ { tmps:=vs.toArray ++ Array.replicate (f.ntmps - vs.toArray.size) undef,defers:=[] } w:=by
  refine ⟨rfl,by simp [hl],fun t ht=>?_,hR,hB,Step.refl _ _ _⟩
  rw [List.getD_eq_getElem?_getD,Array.getD_eq_getD_getElem?]
  by_cases hlt:t < args.length
  ·rw [List.getElem?_append_left hlt,Array.getElem?_append_left (by simp; omega)]
   rw [List.getElem?_eq_getElem hlt]
   have hlt2:t < vs.length:=by omega
   rw [List.getElem?_toArray,List.getElem?_eq_getElem hlt2]
   exact hargs t _ _ (List.getElem?_eq_getElem hlt) (List.getElem?_eq_getElem hlt2)
  ·simp only [List.length_append,List.length_replicate] at ht
   rw [List.getElem?_append_right (by omega),Array.getElem?_append_right (by simp; omega)]
   rw [List.getElem?_replicate,if_pos (by omega)]
   simp only [List.size_toArray,Array.getElem?_replicate]
   rw [if_pos (by omega)]
   exact .frz (.tup [] [] rfl (by simp))
 split at hr
 ·rename_i s1 h1
  split at hr <;> (try (cases hr; done))
  rename_i vs' hvs
  cases hr
  refine exec_sound hcall hdraw hbad sq c ic hic ρ _ .normal s1 _ w _ h1 h0 fun a' w' ρ' h'=>?_
  obtain ⟨cv,r1,r2⟩:=results_run hrv hvs h'
  exact ⟨h'.defers,cv,r1,cv,rfl,ρ',h'.st,h'.heap,r2⟩
 ·rename_i s1 h1
  split at hr <;> (try (cases hr; done))
  rename_i vs' hvs
  cases hr
  refine exec_sound hcall hdraw hbad sq c ic hic ρ _ .ret s1 _ w _ h1 h0 fun a' w' ρ' h'=>?_
  obtain ⟨cv,r1,r2⟩:=results_run hrv hvs h'
  exact ⟨h'.defers,cv,r1,cv,rfl,ρ',h'.st,h'.heap,r2⟩
 ·cases hr

/-! ### What is handed on alone -/
theorem snap_sc {k:Nat} {H:Heap} {v:AV} (h:isSc v=true):∀ cs,snap k H v ≠ .agg cs:=by
 intro cs
 cases k with
 | zero=>simp [snap]
 | succ k =>
   cases v <;> simp [isSc] at h <;> simp only [snap] <;> (try simp)
   all_goals (split <;> (try split) <;> (try split) <;> simp)
theorem snap_len {k:Nat} {H:Heap} {v:AV} (h:isSc v=true ∨ ∃ cs,v=.agg cs):(snap (k+1) H v).cells.length=v.cells.length:=by
 rcases h with h | ⟨cs,rfl⟩
 ·have h1:v.cells=[v]:=by cases v <;> first | rfl | (simp [isSc] at h; done)
  have h2:=snap_sc (k:=k+1) (H:=H) h
  have:(snap (k+1) H v).cells=[snap (k+1) H v]:=by
   generalize snap (k+1) H v=x at *
   cases x <;> first | rfl | exact absurd rfl (h2 _)
  rw [this,h1]; rfl
 ·simp [snap,AV.cells]
theorem snap_cells {k:Nat} {H:Heap} {v c:AV} {q:Nat} (h:isSc v=true ∨ ∃ cs,v=.agg cs) (hq:(snap (k+1) H v).cells[q]?=some c):∃ c',v.cells[q]?=some c'∧(c=snap k H c' ∨ c=snap (k+1) H c'):=by
 rcases h with h | ⟨cs,rfl⟩
 ·have h1:v.cells=[v]:=by cases v <;> first | rfl | (simp [isSc] at h; done)
  have h2:=snap_sc (k:=k+1) (H:=H) h
  have h3:(snap (k+1) H v).cells=[snap (k+1) H v]:=by
   generalize snap (k+1) H v=x at *
   cases x <;> first | rfl | exact absurd rfl (h2 _)
  rw [h3] at hq
  rw [h1]
  cases q with
  | zero=>simp at hq; exact ⟨v,rfl,.inr hq.symm⟩
  | succ q=>simp at hq
 ·simp only [snap,AV.cells,List.getElem?_map] at hq ⊢
  obtain ⟨c',hc',rfl⟩:=Option.map_eq_some_iff.mp hq
  exact ⟨c',hc',.inl rfl⟩
theorem snap_rep (hbad:∀ b,bad b→b < B) {H G:Heap} (hR:HRel w bad ρ B G) (hsame:∀ id b,hget H id=some b→ρ id ≠ .no→hget G id=some b) (hdead:∀ id,dead G id→hget H id=none):∀ (k:Nat) {v:AV} {cv:Value},Rep w bad (dead G) ρ v cv→FRep w bad (snap k H v) cv
 | 0,v,cv,_=>.undef _
 | k+1,v,cv,hv=>by
   have lists:∀ (cs:List AV) (us:List Value),(∀ (i:Nat) (c:AV) (u:Value),cs[i]?=some c→us[i]?=some u→Rep w bad (dead G) ρ c u) →
    ∀ (i:Nat) (c:AV) (u:Value),(cs.map (snap k H))[i]?=some c→us[i]?=some u→FRep w bad c u:=by
    intro cs us h i c u hc hu
    rw [List.getElem?_map] at hc
    obtain ⟨c',hc',rfl⟩:=Option.map_eq_some_iff.mp hc
    exact snap_rep hbad hR hsame hdead k (h i c' u hc' hu)
   have down:∀ {x:AV} {c:Value},FRep w (fun b=>bad b ∨ own ρ b) x c→FRep w bad x c:=fun h=>h.mono (Nat.le_refl _) (fun _ _ _=>rfl) (fun b _ hb=>.inl hb)
   -- what has no room behind it is told as_ another slice
   suffices main:∀ v:AV,(∀ id o n,v ≠ .slk id o n)→Rep w bad (dead G) ρ v cv→FRep w bad (snap (k+1) H v) cv by
    by_cases hc:∃ id o n,v=.slk id o n
    ·obtain ⟨id,o,n,rfl⟩:=hc
     refine main (.slc id o n) (fun _ _ _ h=>by cases h) ?_
     cases hv with
     | frz h=>cases h
     | slk hρ hc=>exact .slc hρ hc (Nat.le_refl _)
     | slkD a hd ha=>exact .slcD a _ hd (Nat.le_refl _) ha
    ·exact main v (fun id o n h=>hc ⟨id,o,n,h⟩) hv
   clear hv
   intro v hn' hv
   cases v with
   | slk id o n=>exact absurd rfl (hn' id o n)
   | int a b=>cases rep_int hv; exact .int _ _
   | bool b=>cases rep_bool hv; exact .bool _
   | str s=>cases rep_str hv; exact .str _
   | nilp=>cases rep_nilp hv; exact .nilp
   | zsl b =>
     simp only [snap]
     cases hv with
     | frz h=>cases h <;> exact .lst0 _ _ (fun _=>rfl)
   | nilf=>cases rep_nilf hv; exact .nilf
   | undef=>exact .undef _
   | emp =>
     simp only [snap]
     cases hv with
     | frz h=>cases h; exact .emp _ _
   | lst l =>
     simp only [snap]
     cases hv with
     | frz h=>exact down h
   | fptr x j =>
     simp only [snap]
     cases hv with
     | frz h=>exact down h
   | agg cs =>
     obtain ⟨us,rfl,hl,hp⟩:=rep_agg hv
     exact .agg _ _ (by simp [hl]) (lists cs us hp)
   | tup cs =>
     obtain ⟨us,rfl,hl,hp⟩:=rep_tup hv
     exact .tup _ _ (by simp [hl]) (lists cs us hp)
   | fn g p q =>
     obtain ⟨va,vb,rfl,l1,l2,r1,r2⟩:=rep_fn hv
     exact .fn g _ _ _ _ (by simp [l1]) (by simp [l2]) (lists p va r1) (lists q vb r2)
   | ptr id i j =>
     simp only [snap]
     split <;> (try exact .undef _)
     rename_i hk0
     obtain ⟨k,rfl⟩:∃ k',k=k'+1:=⟨k - 1,by omega⟩
     split <;> (try exact .undef _)
     rename_i b hg
     split <;> (try exact .undef _)
     rename_i el hel
     cases hv with
     | frz h=>cases h
     | ptrD b' o hd=>rw [hdead _ hd] at hg; cases hg
     | ptr hρ =>
       rename_i bb es cap
       obtain ⟨k2,hk2,hbr⟩:=hR.real _ _ _ _ hρ
       rw [agree_of (hsame _ _ hg (by simp [hρ]))] at hk2; cases hk2
       obtain ⟨cur,fz,m1,m2,m3,m4⟩:=hbr.mem
       have hlt:bb < w.heap.size:=(Array.getElem?_eq_some_iff.mp m1).1
       have hcell:∀ (q:Nat) (c:AV),(snap (k+1) H el).cells[q]?=some c→∃ u,w.cell? ⟨bb,i * es+q,none⟩=some u∧FRep w bad c u:=by
        intro q c hq
        obtain ⟨c',hc',hcc⟩:=snap_cells (elOk_sc (hbr.ok _ _ hel)).1 hq
        obtain ⟨u,hu,hru⟩:=m4 i el q c' hel hc'
        refine ⟨u,by simp only [World.cell?,m1]; simpa using hu,?_⟩
        rcases hcc with rfl | rfl
        ·exact snap_rep hbad hR hsame hdead k hru
        ·exact snap_rep hbad hR hsame hdead (k+1) hru
       exact .fptr _ bb (i * es) j (fun q=>(w.cell? ⟨bb,i * es+q,none⟩).getD undef) (fun hb=>by have:=hbad _ hb; have:=hbr.low; omega) hlt
        (fun q c hq=>by obtain ⟨u,hu,_⟩:=hcell q c hq; simp [hu]) (fun q c hq=>by obtain ⟨u,hu,hf⟩:=hcell q c hq; simpa [hu] using hf)
   | slc id o n =>
     simp only [snap]
     split <;> (try exact .undef _)
     rename_i hk0
     obtain ⟨k,rfl⟩:∃ k',k=k'+1:=⟨k - 1,by omega⟩
     split <;> (try exact .undef _)
     rename_i b hg
     split <;> (try exact .undef _)
     rename_i hle
     cases hv with
     | frz h=>cases h
     | slcD a c hd=>rw [hdead _ hd] at hg; cases hg
     | slcV a hρ=>simp only [Nat.le_zero_eq,List.take_zero,List.map_nil]; exact .lst0 _ _ (fun _=>rfl)
     | slc hρ hcc hn =>
       rename_i bb es cap c
       obtain ⟨k2,hk2,hbr⟩:=hR.real _ _ _ _ hρ
       rw [agree_of (hsame _ _ hg (by simp [hρ]))] at hk2; cases hk2
       obtain ⟨cur,fz,m1,m2,m3,m4⟩:=hbr.mem
       have hlt:bb < w.heap.size:=(Array.getElem?_eq_some_iff.mp m1).1
       have key:∀ (i:Nat) (x:AV),(((b.els.drop o).take n).map (snap (k+1) H))[i]?=some x→∃ el,b.els[o+i]?=some el∧x=snap (k+1) H el:=by
        intro i x hx
        rw [List.getElem?_map] at hx
        obtain ⟨el,hel,rfl⟩:=Option.map_eq_some_iff.mp hx
        have hi:i < n:=by have:=(List.getElem?_eq_some_iff.mp hel).1; simp at this; omega
        rw [List.getElem?_take_of_lt hi,List.getElem?_drop] at hel
        exact ⟨el,hel,rfl⟩
       have hcell:∀ (i:Nat) (x:AV) (q:Nat) (y:AV),(((b.els.drop o).take n).map (snap (k+1) H))[i]?=some x→x.cells[q]?=some y→∃ u,w.cell? ⟨bb,o * es+(i * es+q),none⟩=some u∧FRep w bad y u:=by
        intro i x q y hx hq
        obtain ⟨el,hel,rfl⟩:=key i x hx
        obtain ⟨c',hc',hcc⟩:=snap_cells (elOk_sc (hbr.ok _ _ hel)).1 hq
        obtain ⟨u,hu,hru⟩:=m4 _ el q c' hel hc'
        refine ⟨u,?_,(by rcases hcc with rfl | rfl; exact snap_rep hbad hR hsame hdead k hru; exact snap_rep hbad hR hsame hdead (k+1) hru)⟩
        rw [show o * es+(i * es+q)=(o+i) * es+q by rw [Nat.add_mul]; omega]
        simp only [World.cell?,m1]; simpa using hu
       have hlen:(((b.els.drop o).take n).map (snap (k+1) H)).length=n:=by simp; omega
       have:=FRep.lst (w:=w) (bad:=bad) (((b.els.drop o).take n).map (snap (k+1) H)) bb (o * es) es c (fun i q=>(w.cell? ⟨bb,o * es+(i * es+q),none⟩).getD undef) (by omega) hbr.pos (fun hb=>by have:=hbad _ hb; have:=hbr.low; omega) hlt
        (fun i x hx=>by obtain ⟨el,hel,rfl⟩:=key i x hx; rw [snap_len (elOk_sc (hbr.ok _ _ hel)).1,(elOk_sc (hbr.ok _ _ hel)).2.1,hbr.hes])
        (fun i x q y hx hq=>by obtain ⟨u,hu,_⟩:=hcell i x q y hx hq; simp [hu]) (fun i x q y hx hq=>by obtain ⟨u,hu,hf⟩:=hcell i x q y hx hq; simpa [hu] using hf)
       rw [hlen] at this
       exact this
 termination_by k=>k
end
end Go.Proofs.Ytffiilnmfmkpmaa.AE

namespace Go.Proofs.Ytffiilnmfmkpmaa.AE
set_option linter.unusedVariables false
set_option linter.unusedSimpArgs false
set_option linter.constructorNameAsVariable false
open Go Go.RowKit

def ExtOK (P:Program) (g:FuncId) (e:List AV→Option AV):Prop :=
 ∀ args v,e args=some v→∃ (ks:List (IntKind × Int)),args=ks.map (fun p=>AV.int p.1 p.2)∧∃ cv:Value,(∀ w,(callFunc g (ks.map fun p=>Value.int p.1 p.2).toArray).run P w=.ok (.value cv) w)∧∀ w bad,FRep w bad v cv

def FnOK (P:Program) (g:FuncId) (n:Nat) (fn:AFn):Prop :=
 ∀ (call callP:CallF) (fu:Nat) (args:List AV) (H H':Heap) (v:AV),args.length=n→CallOK P call→DrawOK P call callP→runFn call callP fu fn args H=some (v,H') →
   ∀ (w:World) (bad:Nat→Prop) (ρ:Rho) (B:Nat) (vs:List Value),HRel w bad ρ B H→B≤w.heap.size→(∀ b,bad b→b < B)→args.length=vs.length →
     (∀ (i:Nat) (c:AV) (u:Value),args[i]?=some c→vs[i]?=some u→Rep w bad (dead H) ρ c u) →
     CallRes P g vs.toArray w fun cv w'=>∃ ρ',Step w w' (dead H) (dead H') ρ ρ'∧HRel w' bad ρ' B H'∧Rep w' bad (dead H') ρ' v cv

structure ModOK (P:Program) (M:Mod):Prop where
 code:∀ g n fn,M.code g n=some fn→FnOK P g n fn
 ext:∀ g e,M.ext g=some e→ExtOK P g e

theorem CallRes.mono {P:Program} {g:FuncId} {vs:Array Value} {w:World} {R R':Value→World→Prop} (h:CallRes P g vs w R) (hi:∀ cv w',R cv w'→R' cv w'):CallRes P g vs w R':=by
 rcases h with ⟨cv,w',h1,h2⟩ | ⟨h1,h2⟩
 ·exact .inl ⟨cv,w',h1,hi _ _ h2⟩
 ·refine .inr ⟨h1,h2.mono ?_⟩
  rintro e w' ⟨cv,rfl,h⟩
  exact ⟨cv,rfl,hi _ _ h⟩

def PureOK (P:Program) (g:FuncId) (args:List AV) (v:AV):Prop :=
 ∀ (w:World) (bad:Nat→Prop) (vs:List Value),(∀ b,bad b→b < w.heap.size)→args.length=vs.length→(∀ (i:Nat) (c:AV) (u:Value),args[i]?=some c→vs[i]?=some u→FRep w bad c u) →
   CallRes P g vs.toArray w fun cv w'=>FRep w' bad v cv∧Below w.heap.size w w'

section
variable {P:Program} {w w0:World} {bad D D0:Nat→Prop} {ρ ρ0:Rho} {a:Act} {B:Nat} {s:St} {M:Mod}

theorem noId_frz:∀ (k:Nat) {v:AV} {cv:Value},noId k v=true→Rep w bad D ρ v cv→FRep w (fun b=>bad b ∨ own ρ b) v cv
 | 0,v,cv,h,_=>by simp [noId] at h
 | k+1,v,cv,h,hv=>by
   cases hv with
   | frz h=>exact h
   | ptr _=>simp [noId] at h
   | ptrD _ _ _=>simp [noId] at h
   | slc _ _ _=>simp [noId] at h
   | slcV _ _=>simp [noId] at h
   | slk _ _=>simp [noId] at h
   | slkD _ _ _=>simp [noId] at h
   | slcD _ _ _ _ _=>simp [noId] at h
   | agg cs vs hl hp =>
     simp only [noId,List.all_eq_true] at h
     exact .agg cs vs hl fun i c u hc hu=>noId_frz k (h c (List.mem_of_getElem? hc)) (hp i c u hc hu)
   | tup cs vs hl hp =>
     simp only [noId,List.all_eq_true] at h
     exact .tup cs vs hl fun i c u hc hu=>noId_frz k (h c (List.mem_of_getElem? hc)) (hp i c u hc hu)
   | fn g p q va vb l1 l2 r1 r2 =>
     simp only [noId,Bool.and_eq_true,List.all_eq_true] at h
     exact .fn g p q va vb l1 l2 (fun i c u hc hu=>noId_frz k (h.1 c (List.mem_of_getElem? hc)) (r1 i c u hc hu)) (fun i c u hc hu=>noId_frz k (h.2 c (List.mem_of_getElem? hc)) (r2 i c u hc hu))

theorem noMem_any {w2:World} {bad2:Nat→Prop}:∀ (k:Nat) {v:AV} {cv:Value},noMem k v=true→FRep w bad v cv→FRep w2 bad2 v cv
 | 0,v,cv,h,_=>by simp [noMem] at h
 | k+1,v,cv,h,hv=>by
   cases hv with
   | int a b=>exact .int _ _
   | bool b=>exact .bool _
   | str s=>exact .str _
   | nilp=>exact .nilp
   | znil=>exact .znil
   | zsl a=>exact .zsl a
   | lst0 a c h0=>exact .lst0 a c h0
   | emp a c=>exact .emp a c
   | lst l b o es c vs hn he hb hl hs hc hr =>
     simp only [noMem,List.isEmpty_iff] at h
     subst h
     exact .lst0 _ _ (fun h=>by cases h)
   | fptr=>simp [noMem] at h
   | nilf=>exact .nilf
   | undef=>exact .undef _
   | agg cs vs hl hp =>
     simp only [noMem,List.all_eq_true] at h
     exact .agg cs vs hl fun i c u hc hu=>noMem_any k (h c (List.mem_of_getElem? hc)) (hp i c u hc hu)
   | tup cs vs hl hp =>
     simp only [noMem,List.all_eq_true] at h
     exact .tup cs vs hl fun i c u hc hu=>noMem_any k (h c (List.mem_of_getElem? hc)) (hp i c u hc hu)
   | fn g p q va vb l1 l2 r1 r2 =>
     simp only [noMem,Bool.and_eq_true,List.all_eq_true] at h
     exact .fn g p q va vb l1 l2 (fun i c u hc hu=>noMem_any k (h.1 c (List.mem_of_getElem? hc)) (r1 i c u hc hu)) (fun i c u hc hu=>noMem_any k (h.2 c (List.mem_of_getElem? hc)) (r2 i c u hc hu))

theorem enter_run {sq:Bool} {g:FuncId} {fn:AFn} (h:cFnQ P sq g=some fn) (vs:Array Value) (w:World):(callFunc g vs).run P w=.ok (.enter g vs) w:=by
 unfold cFnQ at h
 split at h <;> (try (cases h; done))
 rename_i f hf
 split at h <;> (try (cases h; done))
 rename_i c hb
 split at h <;> (try (cases h; done))
 rename_i hn
 have hn' : (f.name == "runtime.NumGoroutine") = false := by simpa using hn
 unfold callFunc
 simp only [Sem.run_bind,run_program,Result.andThen_ok,hf]
 simp [hn',hb]

theorem below_step {w':World} {H:Heap} (hR:HRel w bad ρ B H) (hB:Below w.heap.size w w'):Step w w' (dead H) (dead H) ρ ρ∧HRel w' bad ρ B H:=by
 have hst:Step w w' (dead H) (dead H) ρ ρ:=⟨⟨hB.os,hB.tape,hB.output,hB.size,fun b hb _=>hB.block b hb⟩,RLe.refl _ _,fun _ h=>h,fun _ _=>.inl rfl⟩
 refine ⟨hst,?_,hR.virt,hR.inj,hR.res⟩
 intro id b es cap h
 obtain ⟨k,hk,hbr⟩:=hR.real id b es cap h
 exact ⟨k,hk,hbr.step hst (hB.block b (own_lt hR ⟨id,es,cap,h⟩).1)⟩

theorem fnOK_of {sq:Bool} {g:FuncId} {n:Nat} {fn:AFn} (h:cFnQ P sq g=some fn):FnOK P g n fn:=by
 intro call callP fu args H H' v _ hcall hdraw hr w bad ρ B vs hR hB hbad hl hp
 exact .inr ⟨enter_run h _ _,runFn_sound hcall hdraw hbad h hr hR hB hl hp⟩

structure Fits (n:Nat) (Z:Heap) (ρ:Rho) (G G':Heap):Prop where
 none:∀ i:Nat,n≤i→i < n+Z.length→ρ i=.no
 new:∀ (i:Nat) (z:Option Blk),Z[i]?=some z→G'[n+i]?=some z
 old:∀ i:Nat,¬ (n≤i∧i < n+Z.length)→ρ i ≠ .no→G'[i]?=G[i]?
 dead:∀ i,dead G i→dead G' i

def PCallOK (P:Program) (call:CallF):Prop :=
 ∀ g args H v H',call g args H=some (v,H')→∃ Z:Heap,H'=H ++ Z∧∀ (w:World) (bad:Nat→Prop) (ρ:Rho) (B:Nat) (vs:List Value) (G G':Heap),HRel w bad ρ B G→B≤w.heap.size→(∀ b,bad b→b < B) →
   (args.all (noId DEPTH)=true ∨ ((∀ id b,hget H id=some b→ρ id ≠ .no→hget G id=some b)∧∀ id,dead G id→hget H id=none))→args.length=vs.length →
   (∀ (i:Nat) (c:AV) (u:Value),args[i]?=some c→vs[i]?=some u→Rep w bad (dead G) ρ c u)→Fits H.length Z ρ G G' →
   CallRes P g vs.toArray w fun cv w'=>∃ ρ':Rho,(∀ i,¬ (H.length≤i∧i < H.length+Z.length)→ρ' i=ρ i)∧Step w w' (dead G) (dead G') ρ ρ'∧HRel w' bad ρ' B G'∧Rep w' bad (dead G') ρ' v cv

theorem below_fits {w':World} {G G':Heap} {n:Nat} (hR:HRel w bad ρ B G) (hB:Below w.heap.size w w') (hf:Fits n [] ρ G G'):Step w w' (dead G) (dead G') ρ ρ∧HRel w' bad ρ B G':=by
 have hst:Step w w' (dead G) (dead G') ρ ρ:=⟨⟨hB.os,hB.tape,hB.output,hB.size,fun b hb _=>hB.block b hb⟩,RLe.refl _ _,hf.dead,fun _ _=>.inl rfl⟩
 have hold:∀ i:Nat,ρ i ≠ .no→G'[i]?=G[i]?:=fun i hi=>hf.old i (by simp) hi
 refine ⟨hst,?_,?_,hR.inj,fun id h=>let ⟨k,hk,he⟩:=hR.res id h; ⟨k,(hold id (by simp [h])).trans hk,he⟩⟩
 ·intro id b es cap h
  obtain ⟨k,hk,hbr⟩:=hR.real id b es cap h
  exact ⟨k,(hold id (by simp [h])).trans hk,hbr.step hst (hB.block b (own_lt hR ⟨id,es,cap,h⟩).1)⟩
 ·intro id h
  obtain ⟨k,hk,he⟩:=hR.virt id h
  exact ⟨k,(hold id (by simp [h])).trans hk,he⟩

theorem PCallOK.call {call:CallF} (h:PCallOK P call):CallOK P call:=by
 intro g args H v H' hc w bad ρ B vs hR hB hbad hl hp
 obtain ⟨Z,rfl,h2⟩:=h g args H v H' hc
 have hf:Fits H.length Z ρ H (H ++ Z):=by
  refine ⟨fun i h1 _=>?_,fun i z hz=>?_,fun i h1 h2=>?_,fun i hd=>?_⟩
  ·cases hx:ρ i with
   | no=>rfl
   | _=>exact absurd (lt_of_no hR (i:=i) (by simp [hx])) (by omega)
  ·rw [List.getElem?_append_right (by omega),show H.length+i - H.length=i by omega]; exact hz
  ·exact List.getElem?_append_left (lt_of_no hR h2)
  ·simp only [dead] at *
   rw [List.getElem?_append_left (List.getElem?_eq_some_iff.mp hd).1]; exact hd
 refine (h2 w bad ρ B vs H (H ++ Z) hR hB hbad (.inr ⟨fun id b hb _=>hb,fun id hd=>by simp only [dead] at hd; simp [hget,hd]⟩) hl hp hf).mono ?_
 rintro cv w' ⟨ρ',_,hst,hR',hrep⟩
 exact ⟨ρ',hst,hR',hrep⟩

theorem pureCall_ok {pc:FuncId→List AV→Option AV} (hpc:∀ g args v,pc g args=some v→PureOK P g args v):PCallOK P (pureCall pc):=by
 intro g args H v H' h
 unfold pureCall at h
 split at h
 ·rename_i hno
  split at h <;> (try (cases h; done))
  rename_i r hr
  cases h
  refine ⟨[],by simp,fun w bad ρ B vs G G' hR hB hbad _ hl hp hf=>?_⟩
  refine (hpc _ _ _ hr w (fun b=>bad b ∨ own ρ b) vs (fun b hb=>hb.elim (fun x=>Nat.lt_of_lt_of_le (hbad b x) hB) (fun x=>(own_lt hR x).1)) hl (fun i c u hc hu=>noId_frz DEPTH (List.all_eq_true.mp hno c (List.mem_of_getElem? hc)) (hp i c u hc hu))).mono ?_
  rintro cv w' ⟨hfr,hbw⟩
  obtain ⟨hst,hR'⟩:=below_fits hR hbw hf
  exact ⟨ρ,fun _ _=>rfl,hst,hR',.frz hfr⟩
 ·rename_i hno
  split at h <;> (try (cases h; done))
  rename_i r hr
  split at h <;> (try (cases h; done))
  rename_i hnm
  cases h
  refine ⟨[],by simp,fun w bad ρ B vs G G' hR hB hbad hag hl hp hf=>?_⟩
  obtain ⟨hag1,hag2⟩:=hag.resolve_left hno
  refine (hpc _ _ _ hr w bad vs (fun b hb=>Nat.lt_of_lt_of_le (hbad b hb) hB) (by simpa using hl) (fun i c u hc hu=>by
   rw [List.getElem?_map] at hc
   obtain ⟨c',hc',rfl⟩:=Option.map_eq_some_iff.mp hc
   exact snap_rep hbad hR hag1 hag2 DEPTH (hp i c' u hc' hu))).mono ?_
  rintro cv w' ⟨hfr,hbw⟩
  obtain ⟨hst,hR'⟩:=below_fits hR hbw hf
  exact ⟨ρ,fun _ _=>rfl,hst,hR',.frz (noMem_any DEPTH hnm hfr)⟩

theorem extCall_ok {g:FuncId} {e:List AV→Option AV} (he:ExtOK P g e) {args:List AV} {H H':Heap} {v:AV} (h:extCall e g args H=some (v,H')):H'=H∧∀ (w:World) (bad:Nat→Prop) (ρ:Rho) (vs:List Value) (G:Heap),args.length=vs.length →
 (∀ (i:Nat) (c:AV) (u:Value),args[i]?=some c→vs[i]?=some u→Rep w bad (dead G) ρ c u)→CallRes P g vs.toArray w fun cv w'=>w'=w∧Rep w' bad (dead G) ρ v cv:=by
 unfold extCall at h
 split at h <;> (try (cases h; done))
 rename_i r hr
 cases h
 refine ⟨rfl,fun w bad ρ vs G hl hp=>?_⟩
 obtain ⟨ks,rfl,cv,h1,h2⟩:=he _ _ hr
 have:vs=ks.map fun p=>Value.int p.1 p.2:=by
  apply List.ext_getElem?
  intro i
  rcases Nat.lt_or_ge i ks.length with hlt | hge
  ·have hvl:i < vs.length:=by simp at hl; omega
   have:=hp i (.int ks[i].1 ks[i].2) vs[i] (by simp [hlt]) (List.getElem?_eq_getElem hvl)
   rw [List.getElem?_eq_getElem hvl,rep_int this]
   simp [hlt]
  ·rw [List.getElem?_eq_none (by simp at hl; omega),List.getElem?_eq_none (by simp; omega)]
 subst this
 exact .inl ⟨cv,w,h1 w,rfl,.frz (h2 _ _)⟩

theorem emptyCall_ok {pc:FuncId→List AV→Option AV} (hpc:∀ g args v,pc g args=some v→PureOK P g args v):PCallOK P (emptyCall M pc):=by
 intro g args H v H' h
 unfold emptyCall at h
 split at h <;> (try (cases h; done))
 rename_i r hr
 cases h
 unfold emptyR at hr
 split at hr <;> (try (cases hr; done))
 split at hr <;> (try (cases hr; done))
 rename_i x
 split at hr <;> (try (cases hr; done))
 rename_i hx
 unfold emptyQ at hr
 split at hr <;> (try (cases hr; done))
 rename_i h1 h2
 cases hr
 refine ⟨[],by simp,fun w bad ρ B vs G G' hR hB hbad _ hl hp hf=>?_⟩
 obtain ⟨u,rfl⟩:∃ u,vs=[u]:=by
  match vs,hl with
  | [u],_=>exact ⟨u,rfl⟩
 have hu:=hp 0 x u rfl rfl
 have he:∃ a c,u=.slice a 0 c∧(a=none→c=0):=by
  cases x <;> simp only [clr] at hx <;> (try (cases hx; done))
  ·cases hu with
   | frz hu=>cases hu with
     | znil=>exact ⟨_,_,rfl,fun _=>rfl⟩
     | zsl a=>exact ⟨_,_,rfl,fun _=>rfl⟩
  ·rename_i l _
   have hl0:l=[]:=by simpa using hx
   subst hl0
   cases hu with
   | frz hu=>cases hu with
     | lst0 a c h=>exact ⟨_,_,rfl,h⟩
     | lst _ b o es c vs hn he hb hl hs hc hr=>exact ⟨_,_,rfl,fun h=>by cases h⟩
 obtain ⟨a,c,rfl,hac⟩:=he
 have hbad':∀ b,(bad b ∨ own ρ b)→b < w.heap.size:=fun b hb=>hb.elim (fun x=>Nat.lt_of_lt_of_le (hbad b x) hB) (fun x=>(own_lt hR x).1)
 cases a with
 | none =>
   obtain rfl:=hac rfl
   refine (hpc _ _ _ h1 w (fun b=>bad b ∨ own ρ b) [.slice none 0 0] hbad' rfl (fun i c u hc hu=>by
    match i,hc,hu with
    | 0,hc,hu=>cases hc; cases hu; exact .znil)).mono ?_
   rintro cv w' ⟨hfr,hbw⟩
   obtain ⟨hst,hR'⟩:=below_fits hR hbw hf
   exact ⟨ρ,fun _ _=>rfl,hst,hR',.frz (noMem_any 1 rfl hfr)⟩
 | some a =>
   refine (hpc _ _ _ h2 w (fun b=>bad b ∨ own ρ b) [.slice (some a) 0 c] hbad' rfl (fun i c u hc hu=>by
    match i,hc,hu with
    | 0,hc,hu=>cases hc; cases hu; exact .emp _ _)).mono ?_
   rintro cv w' ⟨hfr,hbw⟩
   obtain ⟨hst,hR'⟩:=below_fits hR hbw hf
   exact ⟨ρ,fun _ _=>rfl,hst,hR',.frz (noMem_any 1 rfl hfr)⟩

theorem callZ_ok (hM:ModOK P M) {pc:FuncId→List AV→Option AV} (hpc:∀ g args v,pc g args=some v→PureOK P g args v):PCallOK P (callZ M pc):=by
 intro g args H v H' h
 unfold callZ at h
 split at h
 ·rename_i e he
  obtain ⟨q1,q2⟩:=extCall_ok (hM.ext g e he) h
  refine ⟨[],by simp [q1],fun w bad ρ B vs G G' hR hB hbad hag hl hp hf=>?_⟩
  refine (q2 w bad ρ vs G hl hp).mono ?_
  rintro cv w' ⟨rfl,hrep⟩
  obtain ⟨hst,hR'⟩:=below_fits hR (Below.refl _ _) hf
  exact ⟨ρ,fun _ _=>rfl,hst,hR',hrep.step hst⟩
 ·split at h
  ·split at h
   ·rename_i u hu
    exact emptyCall_ok (M:=M) hpc g args H v H' (by unfold emptyCall; rw [hu]; exact h)
   ·exact pureCall_ok hpc g args H v H' h
  ·exact pureCall_ok hpc g args H v H' h

def DrawLaw (P:Program):Prop:=∀ call callP:CallF,CallOK P call→PCallOK P callP→DrawOK P call callP

theorem padH_len:∀ n,(padH n).length=n
 | 0=>rfl
 | n+1=>by simp [padH,padH_len n]
theorem padOk_spec:∀ {n:Nat} {H:Heap},padOk n H=true→n≤H.length∧∀ i,i < n→∃ b,H[i]?=some (some b)∧b.e.es=0∧b.els ≠ []
 | 0,H,_=>⟨Nat.zero_le _,fun i hi=>absurd hi (by omega)⟩
 | n+1,[],h=>by simp [padOk] at h
 | n+1,none::l,h=>by simp [padOk] at h
 | n+1,some b::l,h=>by
   simp only [padOk,Bool.and_eq_true] at h
   obtain ⟨⟨h1,h2⟩,h3⟩:=h
   obtain ⟨q1,q2⟩:=padOk_spec h3
   refine ⟨by simp; omega,fun i hi=>?_⟩
   cases i with
   | zero=>exact ⟨b,rfl,Nat.eq_of_beq_eq_true h1,by intro hx; simp [hx] at h2⟩
   | succ i=>exact q2 i (by omega)

theorem Rep.move {w:World} {bad bad' D D':Nat→Prop} {ρ ρ':Rho} (hf:∀ b,(bad' b ∨ own ρ' b)→(bad b ∨ own ρ b)) (hρ:∀ i,ρ i ≠ .no→ρ' i=ρ i) (hD:∀ i,D i→D' i) {v:AV} {c:Value} (h:Rep w bad D ρ v c):Rep w bad' D' ρ' v c:=by
 induction h with
 | frz h=>exact .frz (h.mono (Nat.le_refl _) (fun _ _ _=>rfl) (fun b _ hb=>hf b hb))
 | ptr h=>exact .ptr ((hρ _ (by simp [h])).trans h)
 | ptrD b o h=>exact .ptrD b o (hD _ h)
 | slc h hc hn=>exact .slc ((hρ _ (by simp [h])).trans h) hc hn
 | slcV a h=>exact .slcV a ((hρ _ (by simp [h])).trans h)
 | slk h hc=>exact .slk ((hρ _ (by simp [h])).trans h) hc
 | slkD a h ha=>exact .slkD a (hD _ h) ha
 | slcD a c h hn ha=>exact .slcD a c (hD _ h) hn ha
 | agg cs vs hl h ih=>exact .agg cs vs hl fun i c v hc hv=>ih i c v hc hv
 | tup cs vs hl h ih=>exact .tup cs vs hl fun i c v hc hv=>ih i c v hc hv
 | fn g a b va vb hla hlb ha hb iha ihb=>exact .fn g a b va vb hla hlb (fun i c v hc hv=>iha i c v hc hv) (fun i c v hc hv=>ihb i c v hc hv)

theorem fresh_ok {call callP:CallF} {fu:Nat} {g:FuncId} {n0:Nat} {fn:AFn} (hfn:FnOK P g n0 fn) (hcall:CallOK P call) (hdraw:DrawOK P call callP) {args:List AV} {H H':Heap} {v:AV} (hlen:args.length=n0) (hno:args.all (noId DEPTH)=true) (h:freshRun (runFn call callP fu fn) args H=some (v,H')) :
 ∃ Z:Heap,H'=H ++ Z∧∀ (w:World) (bad:Nat→Prop) (ρ:Rho) (B:Nat) (vs:List Value) (G G':Heap),HRel w bad ρ B G→B≤w.heap.size→(∀ b,bad b→b < B)→args.length=vs.length →
   (∀ (i:Nat) (c:AV) (u:Value),args[i]?=some c→vs[i]?=some u→Rep w bad (dead G) ρ c u)→Fits H.length Z ρ G G' →
   CallRes P g vs.toArray w fun cv w'=>∃ ρ':Rho,(∀ i,¬ (H.length≤i∧i < H.length+Z.length)→ρ' i=ρ i)∧Step w w' (dead G) (dead G') ρ ρ'∧HRel w' bad ρ' B G'∧Rep w' bad (dead G') ρ' v cv:=by
 unfold freshRun at h
 split at h <;> (try (cases h; done))
 rename_i r H1 hr
 split at h <;> (try (cases h; done))
 rename_i hpad
 cases h
 obtain ⟨p1,p2⟩:=padOk_spec hpad
 generalize hn:H.length=n at *
 have hZl:(H1.drop n).length=H1.length - n:=by simp
 have hZ:∀ i,n≤i→(H1.drop n)[i - n]?=H1[i]?:=fun i hi=>by rw [List.getElem?_drop,show n+(i - n)=i by omega]
 refine ⟨H1.drop n,rfl,fun w bad ρ B vs G G' hR hB hbad hl hp hf=>?_⟩
 have hR1:HRel w (fun b=>bad b ∨ own ρ b) (fun _=>.no) w.heap.size (padH n):=⟨(fun _ _ _ _ h=>by cases h),(fun _ h=>by cases h),(fun _ _ _ _ _ _ _ h=>by cases h),(fun _ h=>by cases h)⟩
 have hb1:∀ b,(bad b ∨ own ρ b)→b < w.heap.size:=fun b hb=>hb.elim (fun x=>Nat.lt_of_lt_of_le (hbad b x) hB) (fun x=>(own_lt hR x).1)
 refine (hfn call callP fu args (padH n) H1 _ hlen hcall hdraw hr w (fun b=>bad b ∨ own ρ b) (fun _=>.no) w.heap.size vs hR1 (Nat.le_refl _) hb1 hl (fun i c u hc hu =>
  .frz ((noId_frz DEPTH (List.all_eq_true.mp hno c (List.mem_of_getElem? hc)) (hp i c u hc hu)).mono (Nat.le_refl _) (fun _ _ _=>rfl) (fun b _ hb=>hb.elim (fun x=>x) (fun ⟨_,_,_,x⟩=>by cases x))))).mono ?_
 rintro cv w' ⟨ρ1,st,hR2,hrep⟩
 have hlow:∀ i,i < n→ρ1 i=.no:=by
  intro i hi
  obtain ⟨b,h1,h2,h3⟩:=p2 i hi
  cases hx:ρ1 i with
  | no=>rfl
  | virt =>
    obtain ⟨k,hk,he⟩:=hR2.virt i hx
    rw [h1] at hk; cases hk
    exact absurd he h3
  | res =>
    obtain ⟨k,hk,he⟩:=hR2.res i hx
    rw [h1] at hk; cases hk
    exact absurd h2 he
  | real b' es cap =>
    obtain ⟨k,hk,he⟩:=hR2.real i b' es cap hx
    rw [h1] at hk; cases hk
    have e1:=he.hes
    have e2:=he.pos
    omega
 have hin:∀ i,ρ1 i ≠ .no→n≤i∧i < n+(H1.drop n).length:=by
  intro i hi
  have h1:=lt_of_no hR2 hi
  rcases Nat.lt_or_ge i n with h2 | h2
  ·exact absurd (hlow i h2) hi
  ·omega
 have hdl:∀ i,dead H1 i→n≤i:=by
  intro i hd
  rcases Nat.lt_or_ge i n with h2 | h2
  ·obtain ⟨b,h1,_⟩:=p2 i h2
   simp only [dead] at hd
   rw [h1] at hd; cases hd
  ·exact h2
 have hD:∀ i,dead H1 i→dead G' i:=by
  intro i hd
  have h1:=hdl i hd
  simp only [dead] at *
  have:=hf.new (i - n) none (by rw [hZ i h1]; exact hd)
  rwa [show n+(i - n)=i by omega] at this
 have hnew:∀ i k,ρ1 i ≠ .no→H1[i]?=some k→G'[i]?=some k:=by
  intro i k hi hk
  obtain ⟨h1,h2⟩:=hin i hi
  have:=hf.new (i - n) k (by rw [hZ i h1]; exact hk)
  rwa [show n+(i - n)=i by omega] at this
 let ρ':Rho:=fun i=>if n≤i∧i < n+(H1.drop n).length then ρ1 i else ρ i
 have e1:∀ i,n≤i∧i < n+(H1.drop n).length→ρ' i=ρ1 i:=fun i hi=>if_pos hi
 have e2:∀ i,¬ (n≤i∧i < n+(H1.drop n).length)→ρ' i=ρ i:=fun i hi=>if_neg hi
 have e3:∀ i,ρ1 i ≠ .no→ρ' i=ρ1 i:=fun i hi=>e1 i (hin i hi)
 have e4:∀ i,ρ i ≠ .no→ρ' i=ρ i:=fun i hi=>e2 i (fun h=>hi (hf.none i h.1 h.2))
 have hown:∀ b,own ρ' b→own ρ b ∨ own ρ1 b:=by
  rintro b ⟨i,es,cap,h⟩
  by_cases hi:n≤i∧i < n+(H1.drop n).length
  ·rw [e1 i hi] at h; exact .inr ⟨i,es,cap,h⟩
  ·rw [e2 i hi] at h; exact .inl ⟨i,es,cap,h⟩
 have hkeep:∀ b,b < w.heap.size→w'.heap[b]?=w.heap[b]?:=fun b hb=>st.grow.block b hb (fun ⟨_,_,_,x⟩=>by cases x)
 have hst:Step w w' (dead G) (dead G') ρ ρ':=by
  refine ⟨⟨st.grow.os,st.grow.tape,st.grow.output,st.grow.size,fun b hb _=>hkeep b hb⟩,⟨fun b hb=>?_⟩,hf.dead,fun i hi=>.inl (e4 i hi)⟩
  rcases hown b hb with h | h
  ·exact .inl h
  ·exact (st.rle.keep b h).elim (fun ⟨_,_,_,x⟩=>by cases x) .inr
 have hmv:∀ {c:AV} {u:Value},Rep w' (fun b=>bad b ∨ own ρ b) (dead H1) ρ1 c u→Rep w' bad (dead G') ρ' c u:=fun h=>h.move (fun b hb=>by
  rcases hb with hb | hb
  ·exact .inl (.inl hb)
  ·exact (hown b hb).elim (fun x=>.inl (.inr x)) .inr) e3 hD
 refine ⟨ρ',e2,hst,⟨?_,?_,?_,fun id h=>?_⟩,hmv hrep⟩
 rotate_right
 ·by_cases hi:n≤id∧id < n+(H1.drop n).length
  ·rw [e1 id hi] at h
   obtain ⟨k,hk,hb⟩:=hR2.res id h
   exact ⟨k,hnew id _ (by simp [h]) hk,hb⟩
  ·rw [e2 id hi] at h
   obtain ⟨k,hk,hb⟩:=hR.res id h
   exact ⟨k,(hf.old id hi (by simp [h])).trans hk,hb⟩
 ·intro id b es cap h
  by_cases hi:n≤id∧id < n+(H1.drop n).length
  ·rw [e1 id hi] at h
   obtain ⟨k,hk,hb⟩:=hR2.real id b es cap h
   obtain ⟨cur,fz,q1,q2,q3,q4⟩:=hb.mem
   exact ⟨k,hnew id _ (by simp [h]) hk,hb.hes,hb.pos,Nat.le_trans hB hb.low,hb.len,hb.ok,cur,fz,q1,q2,q3,fun i el j c hel hj=>let ⟨u,hu,hr⟩:=q4 i el j c hel hj; ⟨u,hu,hmv hr⟩⟩
  ·rw [e2 id hi] at h
   obtain ⟨k,hk,hb⟩:=hR.real id b es cap h
   exact ⟨k,(hf.old id hi (by simp [h])).trans hk,hb.step hst (hkeep b (own_lt hR ⟨id,es,cap,h⟩).1)⟩
 ·intro id h
  by_cases hi:n≤id∧id < n+(H1.drop n).length
  ·rw [e1 id hi] at h
   obtain ⟨k,hk,hb⟩:=hR2.virt id h
   exact ⟨k,hnew id _ (by simp [h]) hk,hb⟩
  ·rw [e2 id hi] at h
   obtain ⟨k,hk,hb⟩:=hR.virt id h
   exact ⟨k,(hf.old id hi (by simp [h])).trans hk,hb⟩
 ·intro id id' b es cap es' cap' h h'
  by_cases hi:n≤id∧id < n+(H1.drop n).length <;> by_cases hi':n≤id'∧id' < n+(H1.drop n).length
  ·rw [e1 id hi] at h; rw [e1 id' hi'] at h'
   exact hR2.inj _ _ _ _ _ _ _ h h'
  ·rw [e1 id hi] at h; rw [e2 id' hi'] at h'
   have q1:=(own_lt hR2 ⟨id,es,cap,h⟩).2
   have q2:=(own_lt hR ⟨id',es',cap',h'⟩).1
   omega
  ·rw [e2 id hi] at h; rw [e1 id' hi'] at h'
   have q1:=(own_lt hR2 ⟨id',es',cap',h'⟩).2
   have q2:=(own_lt hR ⟨id,es,cap,h⟩).1
   omega
  ·rw [e2 id hi] at h; rw [e2 id' hi'] at h'
   exact hR.inj _ _ _ _ _ _ _ h h'

theorem callB_ok (hM:ModOK P M) (hD:DrawLaw P) {pc:FuncId→List AV→Option AV} (hpc:∀ g args v,pc g args=some v→PureOK P g args v) :
 ∀ n,CallOK P (callB M pc n true)∧PCallOK P (callB M pc n false)
 | 0=>⟨(callZ_ok hM hpc).call,callZ_ok hM hpc⟩
 | n+1=>by
   obtain ⟨ih1,ih2⟩:=callB_ok hM hD hpc n
   constructor
   ·intro g args H v H' h w bad ρ B vs hR hB hbad hl hp
    simp only [callB] at h
    split at h
    ·rename_i e he
     obtain ⟨r1,r2⟩:=extCall_ok (hM.ext g e he) h
     subst r1
     refine (r2 w bad ρ vs H' hl hp).mono ?_
     rintro cv w' ⟨rfl,hrep⟩
     exact ⟨ρ,Step.refl _ _ _,hR,hrep⟩
    ·split at h
     ·split at h
      ·rename_i r hr
       exact (emptyCall_ok (M:=M) hpc).call g args H v H' (by unfold emptyCall; rw [hr]; exact h) w bad ρ B vs hR hB hbad hl hp
      split at h <;> (try (cases h; done))
      rename_i fn hfn
      exact hM.code g _ fn hfn _ _ _ _ _ _ _ rfl ih1 (hD _ _ ih1 ih2) h w bad ρ B vs hR hB hbad hl hp
     ·exact (pureCall_ok hpc).call g args H v H' h w bad ρ B vs hR hB hbad hl hp
   ·intro g args H v H' h
    simp only [callB] at h
    split at h
    ·rename_i e he
     exact callZ_ok hM hpc g args H v H' (by simp only [callZ,he]; exact h)
    ·split at h
     ·split at h
      ·rename_i r hr
       exact emptyCall_ok (M:=M) hpc g args H v H' (by unfold emptyCall; rw [hr]; exact h)
      ·split at h
       ·rename_i hfr
        simp only [Bool.and_eq_true] at hfr
        split at h <;> (try (cases h; done))
        rename_i fn hfn
        obtain ⟨Z,q1,q2⟩:=fresh_ok (hM.code g _ fn hfn) ih1 (hD _ _ ih1 ih2) rfl hfr.2 h
        exact ⟨Z,q1,fun w bad ρ B vs G G' hR hB hbad _ hl hp hf=>q2 w bad ρ B vs G G' hR hB hbad hl hp hf⟩
       ·exact pureCall_ok hpc g args H v H' h
     ·exact pureCall_ok hpc g args H v H' h

theorem pcall_sound (hM:ModOK P M) (hD:DrawLaw P):∀ (d:Nat) g args v,pcall M d g args=some v→PureOK P g args v
 | 0,g,args,v,h=>by simp [pcall] at h
 | d+1,g,args,v,h=>by
   have ih:=pcall_sound hM hD d
   obtain ⟨q1,q2⟩:=callB_ok hM hD ih IDEPTH
   simp only [pcall] at h
   split at h <;> (try (cases h; done))
   rename_i fn hfn
   split at h <;> (try (cases h; done))
   rename_i r H' hr
   cases h
   intro w bad vs hbad hl hp
   have hR:HRel w bad (fun _=>.no) w.heap.size ([]:Heap):=⟨(fun _ _ _ _ h=>by cases h),(fun _ h=>by cases h),(fun _ _ _ _ _ _ _ h=>by cases h),(fun _ h=>by cases h)⟩
   refine (hM.code g _ fn hfn _ _ _ _ _ _ _ rfl q1 (hD _ _ q1 q2) hr w bad (fun _=>.no) w.heap.size vs hR (Nat.le_refl _) hbad hl (fun i c u hc hu=>.frz ((hp i c u hc hu).mono (Nat.le_refl _) (fun _ _ _=>rfl) (fun b _ hb=>hb.elim (fun x=>x) (fun ⟨_,_,_,x⟩=>by cases x))))).mono ?_
   rintro cv w' ⟨ρ',st,hR',hrep⟩
   refine ⟨snap_rep hbad hR' (fun id b hb _=>hb) (fun id hd=>by simp only [dead] at hd; simp [hget,hd]) DEPTH hrep,st.grow.os,st.grow.tape,st.grow.output,st.grow.size,fun b hb=>st.grow.block b hb (fun ⟨_,_,_,x⟩=>by cases x)⟩
end
end Go.Proofs.Ytffiilnmfmkpmaa.AE

namespace Go.Proofs.Ytffiilnmfmkpmaa.AE
set_option linter.unusedVariables false
set_option linter.unusedSimpArgs false
set_option linter.constructorNameAsVariable false
open Go Go.RowKit

def DrawnRes (P:Program) (w:World) (bad:Nat→Prop) (B:Nat) (ρ:Rho) (a:Act) (o:Oper) (ev:Opd→AV) (H G:Heap) (io:IOp) (v:AV) (H':Heap):Prop :=
 (Says P w bad (dead G) ρ a o v∧H'=H∧storeOp io=false) ∨ (∃ k,Makes P w bad (dead G) ρ a o v H.length k∧H'=H ++ [some k]∧storeOp io=false) ∨
 (∃ id k k' w',G[id]?=some (some k)∧hget H id=some k∧k'.e=k.e∧k'.els.length=k.els.length∧H'=H.set id (some k')∧touch ev H io=[id]∧storeOp io=true∧v=.undef ∧
   (∀ G':Heap,G'=G.set id (some k')→Step w w' (dead G) (dead G') ρ ρ∧HRel w' bad ρ B G')∧(execOp a.eval o).run P w=.ok .skip w'∧ρ id ≠ .no) ∨
 (storeOp io=false∧isCall io=true∧∃ Z:Heap,H'=H ++ Z∧∃ vs g,(execOp a.eval o).run P w=(callFunc g vs).run P w∧∀ G':Heap,Fits H.length Z ρ G G'→CallRes P g vs w fun cv w'=>∃ ρ':Rho,(∀ i,¬ (H.length≤i∧i < H.length+Z.length)→ρ' i=ρ i)∧Step w w' (dead G) (dead G') ρ ρ'∧HRel w' bad ρ' B G'∧Rep w' bad (dead G') ρ' v cv)

section
variable {P:Program} {w:World} {bad:Nat→Prop} {ρ:Rho} {a:Act} {o:Oper} {B:Nat}

set_option maxHeartbeats 1000000 in
theorem op_drawn {io:IOp} {call:CallF} {v:AV} {H H' G:Heap} {ev:Opd→AV} (hc:cOp P o.type o.op=some io) (hcall:PCallOK P call) (hnf:fullOp io=false) (hbad:∀ b,bad b→b < B) (hR:HRel w bad ρ B G) (hB:B≤w.heap.size)
 (hO:OpsOk w bad (dead G) ρ a ev o.op.operands.toList) (hsh:∀ id b,hget H id=some b→∃ b',hget G id=some b'∧b'.els.length=b.els.length) (hse:∀ id b,hget H id=some b→∃ b',hget G id=some b'∧b'.e=b.e)
 (htc:∀ id ∈ touch ev H io,∀ b,hget H id=some b→ρ id ≠ .no→hget G id=some b) (hdd:∀ id,dead G id→hget H id=none) (hev:∀ x,ev (.v x)=x) (hv:aop call ev H io=some (v,H')):DrawnRes P w bad B ρ a o ev H G io v H':=by
 have hD:∀ id,dead G id ↔ G[id]?=some none:=fun _=>Iff.rfl
 generalize hop:o.op=op at hc
 cases op with
 | move x =>
   obtain ⟨y,hy,rfl⟩:=map_some' hc
   simp only [aop,Option.some.injEq,Prod.mk.injEq] at hv
   obtain ⟨rfl,rfl⟩:=hv
   exact .inl ⟨says_mov (.inl hop) hy hO,rfl,rfl⟩
 | assign x =>
   obtain ⟨y,hy,rfl⟩:=map_some' hc
   simp only [aop,Option.some.injEq,Prod.mk.injEq] at hv
   obtain ⟨rfl,rfl⟩:=hv
   exact .inl ⟨says_mov (.inr hop) hy hO,rfl,rfl⟩
 | pick c x y =>
   simp only [cOp] at hc
   split at hc <;> (try (cases hc; done))
   rename_i c' x' y' h1 h2 h3
   cases hc
   simp only [aop] at hv
   split at hv <;> (try (cases hv; done))
   rename_i t ht
   simp only [Option.some.injEq,Prod.mk.injEq] at hv
   obtain ⟨rfl,rfl⟩:=hv
   exact .inl ⟨says_pick hop h1 h2 h3 ht hO,rfl,rfl⟩
 | alloc t =>
   obtain ⟨e,he,rfl⟩:=map_some' hc
   simp only [aop,Option.some.injEq,Prod.mk.injEq] at hv
   obtain ⟨rfl,rfl⟩:=hv
   exact .inr (.inl ⟨_,makes_alloc _ hop he,rfl,rfl⟩)
 | box t x =>
   simp only [cOp] at hc
   split at hc <;> (try (cases hc; done))
   rename_i e x' he hx
   cases hc
   simp only [aop] at hv
   split at hv <;> (try (cases hv; done))
   rename_i hok
   simp only [Option.some.injEq,Prod.mk.injEq] at hv
   obtain ⟨rfl,rfl⟩:=hv
   exact .inr (.inl ⟨_,makes_box _ hop he hx hok hO,rfl,rfl⟩)
 | build t ps =>
   simp only [cOp] at hc
   have hio:∃ zs l,io=.build zs l:=by
    have h2:=hc
    unfold cBuild at h2
    split at h2 <;> (try (cases h2; done))
    split at h2 <;> (try (cases h2; done))
    split at h2 <;> (try (cases h2; done))
    split at h2 <;> (try (cases h2; done))
    ·split at h2 <;> (try (cases h2; done))
     split at h2 <;> (try (cases h2; done))
     cases h2; exact ⟨_,_,rfl⟩
    ·split at h2 <;> (try (cases h2; done))
     split at h2 <;> (try (cases h2; done))
     cases h2; exact ⟨_,_,rfl⟩
   obtain ⟨zs,l,rfl⟩:=hio
   simp only [aop] at hv
   split at hv <;> (try (cases hv; done))
   rename_i cs hcs
   simp only [Option.some.injEq,Prod.mk.injEq] at hv
   obtain ⟨rfl,rfl⟩:=hv
   exact .inl ⟨says_build hop hc hcs hO,rfl,rfl⟩
 | buildSlice t n ps =>
   simp only [cOp] at hc
   split at hc <;> (try (cases hc; done))
   rename_i e hs
   split at hc <;> (try (cases hc; done))
   rename_i e' l he hl
   split at hc <;> (try (cases hc; done))
   rename_i hn
   cases hc
   simp only [aop] at hv
   split at hv <;> (try (cases hv; done))
   rename_i els hels
   simp only [Option.some.injEq,Prod.mk.injEq] at hv
   obtain ⟨rfl,rfl⟩:=hv
   exact .inr (.inl ⟨_,makes_mkrow _ hop hs he hl hn hels hO,rfl,rfl⟩)
 | load t x =>
   simp only [cOp] at hc
   split at hc <;> (try (cases hc; done))
   rename_i i ag x' hi ha hx
   cases hc
   simp only [aop] at hv
   split at hv <;> (try (cases hv; done))
   rename_i u hu
   simp only [Option.some.injEq,Prod.mk.injEq] at hv
   obtain ⟨rfl,rfl⟩:=hv
   exact .inl ⟨says_load hop hi ha hx hu hR hD (fun id u q he=>htc id (by simp [touch,he])) hdd hO,rfl,rfl⟩
 | store t x y =>
   simp only [cOp] at hc
   split at hc <;> (try (cases hc; done))
   rename_i i x' y' hi hx hy
   split at hc <;> (try (cases hc; done))
   rename_i hz
   cases hc
   simp only [aop] at hv
   split at hv <;> (try (cases hv; done))
   rename_i Hn hst
   simp only [Option.some.injEq,Prod.mk.injEq] at hv
   obtain ⟨rfl,rfl⟩:=hv
   have r1:=hO x (by simp [hop,Op.operands]) x' hx
   have r2:=hO y (by simp [hop,Op.operands]) y' hy
   obtain ⟨id,k,w',hk,hg,⟨k',rfl,e1,e2,hst2⟩,⟨u,q,he⟩,hrun⟩:=store_run (P:=P) hi hz hst hR (fun id u q he=>htc id (by simp [touch,he])) hdd r1 r2
   have hr:(execOp a.eval o).run P w=.ok .skip w':=by simp [execOp,hop,hrun]
   rw [he] at r1
   have hrn:ρ id ≠ .no:=by
    generalize a.eval x=V at r1
    cases r1 with
    | frz h=>cases h
    | ptr h=>simp [h]
    | ptrD b o' hd=>rw [hdd _ hd] at hg; cases hg
   exact .inr (.inr (.inl ⟨id,k,k',w',hk,hg,e1,e2,rfl,by simp [touch,he],rfl,rfl,hst2,hr,hrn⟩))
 | nilCheck x =>
   obtain ⟨y,hy,rfl⟩:=map_some' hc
   simp only [aop] at hv
   split at hv <;> (try (cases hv; done))
   all_goals
    rename_i he
    simp only [Option.some.injEq,Prod.mk.injEq] at hv
    obtain ⟨rfl,rfl⟩:=hv
    first
     | exact .inl ⟨says_nilck hop hy (.inl ⟨_,_,_,he⟩) he.symm hO,rfl,rfl⟩
     | exact .inl ⟨says_nilck hop hy (.inr (.inl ⟨_,_,he⟩)) he.symm hO,rfl,rfl⟩
     | exact .inl ⟨says_nilck hop hy (.inr (.inr ⟨_,_,_,he⟩)) he.symm hO,rfl,rfl⟩
 | binOp op t x y u =>
   simp only [cOp] at hc
   split at hc <;> (try (cases hc; done))
   rename_i d x' y' hd hx hy
   have bin:∀ op',io=.bin op' x' y'→op'=op→DrawnRes P w bad B ρ a o ev H G io v H':=by
    rintro op' rfl rfl
    simp only [aop] at hv
    split at hv <;> (try (cases hv; done))
    rename_i r hr
    simp only [Option.some.injEq,Prod.mk.injEq] at hv
    obtain ⟨rfl,rfl⟩:=hv
    exact .inl ⟨says_bin hop hx hy hr hO,rfl,rfl⟩
   have eqv:∀ neg k sh,io=.eqv neg k sh x' y'→eqKind P t=some (k,sh)→((op=.eql∧neg=false) ∨ (op=.neq∧neg=true))→DrawnRes P w bad B ρ a o ev H G io v H':=by
    rintro neg k sh rfl hk hopn
    simp only [aop] at hv
    split at hv <;> (try (cases hv; done))
    rename_i b hb
    simp only [Option.some.injEq,Prod.mk.injEq] at hv
    obtain ⟨rfl,rfl⟩:=hv
    exact .inl ⟨says_eqv hopn hop hk hx hy hb hO,rfl,rfl⟩
   split at hc
   ·split at hc
    ·cases hc; exact bin _ rfl rfl
    ·cases hc; exact bin _ rfl rfl
    ·split at hc <;> (try (cases hc; done))
     rename_i k sh hk
     cases hc
     exact eqv _ _ _ rfl hk (.inl ⟨rfl,rfl⟩)
   ·split at hc
    ·cases hc; exact bin _ rfl rfl
    ·cases hc; exact bin _ rfl rfl
    ·split at hc <;> (try (cases hc; done))
     rename_i k sh hk
     cases hc
     exact eqv _ _ _ rfl hk (.inr ⟨rfl,rfl⟩)
   ·cases hc; exact bin _ rfl rfl
 | unOp op t x =>
   obtain ⟨y,hy,rfl⟩:=map_some' hc
   simp only [aop] at hv
   split at hv <;> (try (cases hv; done))
   rename_i r hr
   simp only [Option.some.injEq,Prod.mk.injEq] at hv
   obtain ⟨rfl,rfl⟩:=hv
   exact .inl ⟨says_un hop hy hr hO,rfl,rfl⟩
 | convert sT dT x =>
   simp only [cOp] at hc
   by_cases hm:sT=dT∧bytesT P sT=true
   ·rw [if_pos hm] at hc
    obtain ⟨x',hx,rfl⟩:=map_some' hc
    simp [fullOp] at hnf
   rw [if_neg hm] at hc
   split at hc <;> (try (cases hc; done))
   ·rename_i k k' x' h1 h2 hx
    cases hc
    simp only [aop] at hv
    split at hv <;> (try (cases hv; done))
    rename_i k0 n he
    simp only [Option.some.injEq,Prod.mk.injEq] at hv
    obtain ⟨rfl,rfl⟩:=hv
    exact .inl ⟨says_conv hop h1 h2 hx he hO,rfl,rfl⟩
   ·rename_i x' h1 h2 hx
    cases hc
    simp only [aop] at hv
    split at hv <;> (try (cases hv; done))
    rename_i l he
    simp only [Option.some.injEq,Prod.mk.injEq] at hv
    obtain ⟨rfl,rfl⟩:=hv
    exact .inl ⟨says_cid hop h1 h2 hx he hO,rfl,rfl⟩
   ·rename_i e x' h1 h2 hx
    split at hc <;> (try (cases hc; done))
    rename_i e' h3 he
    split at hc <;> (try (cases hc; done))
    rename_i he1
    cases hc
    simp only [aop] at hv
    split at hv <;> (try (cases hv; done))
    rename_i l hl
    simp only [Option.some.injEq,Prod.mk.injEq] at hv
    obtain ⟨rfl,rfl⟩:=hv
    exact .inr (.inl ⟨_,makes_s2b _ hop h1 h2 h3 he he1 hx hl hO,rfl,rfl⟩)
   ·rename_i e x' h1 h2 hx
    split at hc <;> (try (cases hc; done))
    rename_i h3
    cases hc
    simp only [aop] at hv
    split at hv <;> (try (cases hv; done))
    rename_i hns
    split at hv <;> (try (cases hv; done))
    rename_i l hl
    split at hv <;> (try (cases hv; done))
    rename_i z hz
    simp only [Option.some.injEq,Prod.mk.injEq] at hv
    obtain ⟨rfl,rfl⟩:=hv
    exact .inl ⟨says_b2s hop h1 h3 h2 hx hl (fun s hs=>hns s hs) hz hR hD (fun id u q he=>htc id (by simp [touch,he])) hdd hO,rfl,rfl⟩
 | makeFunc fn p q =>
   cases fn <;> simp only [cOp] at hc <;> (try (cases hc; done))
   rename_i g
   split at hc <;> (try (cases hc; done))
   rename_i p' q' hp hq
   cases hc
   simp only [aop,Option.some.injEq,Prod.mk.injEq] at hv
   obtain ⟨rfl,rfl⟩:=hv
   exact .inl ⟨says_mkfn hop hp hq hO,rfl,rfl⟩
 | makeSlice t x y =>
   simp only [cOp] at hc
   split at hc <;> (try (cases hc; done))
   rename_i e hs
   split at hc <;> (try (cases hc; done))
   rename_i e' x' y' he hx hy
   cases hc
   simp only [aop] at hv
   split at hv <;> (try (cases hv; done))
   rename_i n c hn hm
   split at hv <;> (try (cases hv; done))
   rename_i hcnd
   obtain ⟨c1,c2,c3,c4⟩:=hcnd
   subst c2
   simp only [Option.some.injEq,Prod.mk.injEq] at hv
   obtain ⟨rfl,rfl⟩:=hv
   exact .inr (.inl ⟨_,makes_mkslice _ hop hs he hx hy hn hm c1 c3 c4 hO,rfl,rfl⟩)
 | slice t x lo hi mx =>
   simp only [cOp] at hc
   split at hc <;> (try (cases hc; done))
   ·rename_i x' lo' hi' hs hx h1 h2 h3
    cases hc
    have hmn:mx=none:=by
     cases mx with
     | none=>rfl
     | some z =>
       simp only [cOptOpd] at h3
       split at h3 <;> cases h3
    subst hmn
    simp only [aop] at hv
    split at hv <;> (try (cases hv; done))
    rename_i r hr
    simp only [Option.some.injEq,Prod.mk.injEq] at hv
    obtain ⟨rfl,rfl⟩:=hv
    exact .inl ⟨says_subS hop hs hx h1 h2 hr hO,rfl,rfl⟩
   ·rename_i e x' lo' hi' mx' hs hx h1 h2 h3
    split at hc <;> (try (cases hc; done))
    rename_i ie hie
    split at hc <;> (try (cases hc; done))
    rename_i hmh
    cases hc
    simp only [aop] at hv
    split at hv <;> (try (cases hv; done))
    rename_i r hr
    simp only [Option.some.injEq,Prod.mk.injEq] at hv
    obtain ⟨rfl,rfl⟩:=hv
    refine .inl ⟨says_subV hop hs hie hx h1 h2 h3 ?_ hr hR hD hsh hse hO,rfl,rfl⟩
    cases mx <;> cases hi <;> simp [cOptOpd] at h2 h3 hmh ⊢
    ·rename_i z
     cases hz:cOpd z <;> simp [hz] at h3
     subst h3; subst h2
     simp at hmh
 | fieldAddr sT x f =>
   simp only [cOp] at hc
   split at hc <;> (try (cases hc; done))
   rename_i off n t x' hf hx
   cases hc
   simp only [aop] at hv
   split at hv <;> (try (cases hv; done))
   rename_i r hr
   simp only [Option.some.injEq,Prod.mk.injEq] at hv
   obtain ⟨rfl,rfl⟩:=hv
   unfold cField at hf
   split at hf <;> (try (cases hf; done))
   rename_i fs hs
   split at hf <;> (try (cases hf; done))
   rename_i fd hfd
   split at hf <;> (try (cases hf; done))
   rename_i i hi
   split at hf <;> (try (cases hf; done))
   rename_i hz
   cases hf
   exact .inl ⟨says_fldA hop hs hfd hi hz hx hr hO,rfl,rfl⟩
 | field sT x f =>
   simp only [cOp] at hc
   split at hc <;> (try (cases hc; done))
   rename_i off n t x' hf hx
   split at hc <;> (try (cases hc; done))
   rename_i ag hag
   cases hc
   simp only [aop] at hv
   split at hv <;> (try (cases hv; done))
   rename_i cs he
   split at hv <;> (try (cases hv; done))
   rename_i r hr
   simp only [Option.some.injEq,Prod.mk.injEq] at hv
   obtain ⟨rfl,rfl⟩:=hv
   unfold cField at hf
   split at hf <;> (try (cases hf; done))
   rename_i fs hs
   split at hf <;> (try (cases hf; done))
   rename_i fd hfd
   split at hf <;> (try (cases hf; done))
   rename_i i hi
   split at hf <;> (try (cases hf; done))
   rename_i hz
   cases hf
   exact .inl ⟨says_fld hop hs hfd hi hag hx he hr hO,rfl,rfl⟩
 | indexAddr t x y =>
   simp only [cOp] at hc
   split at hc <;> (try (cases hc; done))
   ·rename_i e x' y' hs hx hy
    split at hc <;> (try (cases hc; done))
    rename_i ie hie
    split at hc <;> (try (cases hc; done))
    cases hc
    simp only [aop] at hv
    split at hv <;> (try (cases hv; done))
    rename_i q hq
    split at hv <;> (try (cases hv; done))
    rename_i r hr
    simp only [Option.some.injEq,Prod.mk.injEq] at hv
    obtain ⟨rfl,rfl⟩:=hv
    obtain ⟨k,hk⟩:∃ k,ev y'=.int k q:=by
     generalize ev y'=Y at hq
     cases Y <;> simp [aInt] at hq
     subst hq; exact ⟨_,rfl⟩
    exact .inl ⟨says_ixAS hop hs hie hx hy hk hr hR hD hsh hse hO,rfl,rfl⟩
   ·rename_i n e x' y' hs hx hy
    split at hc <;> (try (cases hc; done))
    rename_i ie hie
    cases hc
    simp only [aop] at hv
    split at hv <;> (try (cases hv; done))
    rename_i q hq
    split at hv <;> (try (cases hv; done))
    rename_i hb
    split at hv <;> (try (cases hv; done))
    rename_i r hr
    simp only [Option.some.injEq,Prod.mk.injEq] at hv
    obtain ⟨rfl,rfl⟩:=hv
    obtain ⟨k,hk⟩:∃ k,ev y'=.int k q:=by
     generalize ev y'=Y at hq
     cases Y <;> simp [aInt] at hq
     subst hq; exact ⟨_,rfl⟩
    exact .inl ⟨says_ixAA hop hs hie hx hy hk hb hr hO,rfl,rfl⟩
 | index t x y =>
   simp only [cOp] at hc
   split at hc <;> (try (cases hc; done))
   ·rename_i x' y' hs hx hy
    cases hc
    simp only [aop] at hv
    split at hv <;> (try (cases hv; done))
    rename_i l q hl hq
    split at hv <;> (try (cases hv; done))
    rename_i h0
    split at hv <;> (try (cases hv; done))
    rename_i b hb
    simp only [Option.some.injEq,Prod.mk.injEq] at hv
    obtain ⟨rfl,rfl⟩:=hv
    obtain ⟨k,hk⟩:∃ k,ev y'=.int k q:=by
     generalize ev y'=Y at hq
     cases Y <;> simp [aInt] at hq
     subst hq; exact ⟨_,rfl⟩
    exact .inl ⟨says_ixS hop hs hx hy hk hl h0 hb hO,rfl,rfl⟩
   ·rename_i n e x' y' hs hx hy
    split at hc <;> (try (cases hc; done))
    rename_i ie ag hie hag
    cases hc
    simp only [aop] at hv
    split at hv <;> (try (cases hv; done))
    rename_i cs q hcs hq
    split at hv <;> (try (cases hv; done))
    rename_i hb
    split at hv <;> (try (cases hv; done))
    rename_i r hr
    simp only [Option.some.injEq,Prod.mk.injEq] at hv
    obtain ⟨rfl,rfl⟩:=hv
    obtain ⟨k,hk⟩:∃ k,ev y'=.int k q:=by
     generalize ev y'=Y at hq
     cases Y <;> simp [aInt] at hq
     subst hq; exact ⟨_,rfl⟩
    exact .inl ⟨says_ixA hop hs hie hag hx hy hk hcs hb hr hO,rfl,rfl⟩
 | extract x i =>
   simp only [cOp] at hc
   split at hc <;> (try (cases hc; done))
   rename_i x' hx
   cases hc
   simp only [aop] at hv
   split at hv <;> (try (cases hv; done))
   rename_i vs he
   split at hv <;> (try (cases hv; done))
   rename_i r hr
   simp only [Option.some.injEq,Prod.mk.injEq] at hv
   obtain ⟨rfl,rfl⟩:=hv
   exact .inl ⟨says_extr hop hx he hr hO,rfl,rfl⟩
 | call c =>
   simp only [cOp,cCall] at hc
   split at hc <;> (try (cases hc; done))
   ·rename_i f hcc
    split at hc <;> (try (cases hc; done))
    rename_i f' ys hf hys
    cases hc
    simp only [aop] at hv
    split at hv <;> (try (cases hv; done))
    rename_i g p q he
    obtain ⟨vs,hrun,hl,hp⟩:=call_run (P:=P) hO hop hcc hf hys he
    obtain ⟨Z,rfl,h2⟩:=hcall g _ _ _ _ hv
    refine .inr (.inr (.inr ⟨rfl,rfl,Z,rfl,vs.toArray,g,hrun,fun G' hf=>h2 w bad ρ B vs G G' hR hB hbad ?_ hl hp hf⟩))
    by_cases hno:(p ++ ys.map ev ++ q).all (noId DEPTH)=true
    ·exact .inl hno
    ·refine .inr ⟨fun id b hb hn=>htc id ?_ b hb hn,hdd⟩
     simp only [touch,he,if_neg hno]
     simpa using (List.getElem?_eq_some_iff.mp (agree_of hb)).1
   ·rename_i hcc
    split at hc <;> (try (cases hc; done))
    rename_i x t hca hct
    split at hc <;> (try (cases hc; done))
    ·rename_i x' hs hx
     cases hc
     simp only [aop] at hv
     split at hv <;> (try (cases hv; done))
     rename_i l hl
     simp only [Option.some.injEq,Prod.mk.injEq] at hv
     obtain ⟨rfl,rfl⟩:=hv
     exact .inl ⟨says_lenS hop hcc hca hct hs hx hl hO,rfl,rfl⟩
    ·rename_i e x' hs hx
     cases hc
     simp only [aop] at hv
     split at hv <;> (try (cases hv; done))
     rename_i n hn
     simp only [Option.some.injEq,Prod.mk.injEq] at hv
     obtain ⟨rfl,rfl⟩:=hv
     exact .inl ⟨says_lenV hop hcc hca hct hs hx hn hD hsh hO,rfl,rfl⟩
    ·rename_i n e x' hs hx
     cases hc
     simp only [aop,hev,Option.some.injEq,Prod.mk.injEq] at hv
     obtain ⟨rfl,rfl⟩:=hv
     refine .inl ⟨⟨.int .i64 n,?_,.frz (.int _ _)⟩,rfl,rfl⟩
     obtain ⟨cal,args,tys⟩:=c
     obtain ⟨args⟩:=args
     obtain ⟨tys⟩:=tys
     simp only at hcc hca hct
     subst hcc; subst hca; subst hct
     simp [execOp,hop,resolve,invoke,builtin,Builtin.len_,run_underlying hs,goInt]
   ·rename_i hcc
    split at hc <;> (try (cases hc; done))
    rename_i ys hys
    cases hc
    simp only [aop] at hv
    split at hv <;> (try (cases hv; done))
    rename_i r hr
    simp only [Option.some.injEq,Prod.mk.injEq] at hv
    obtain ⟨rfl,rfl⟩:=hv
    exact .inl ⟨says_min hop hcc hys hr hO,rfl,rfl⟩
   ·rename_i hcc
    split at hc <;> (try (cases hc; done))
    rename_i ys hys
    cases hc
    simp only [aop] at hv
    split at hv <;> (try (cases hv; done))
    rename_i r hr
    simp only [Option.some.injEq,Prod.mk.injEq] at hv
    obtain ⟨rfl,rfl⟩:=hv
    exact .inl ⟨says_max hop hcc hys hr hO,rfl,rfl⟩
   ·rename_i hcc
    split at hc <;> (try (cases hc; done))
    rename_i sA xA t u hca hct
    split at hc <;> (try (cases hc; done))
    rename_i e du s' x' ht hu hs hx
    split at hc <;> (try (cases hc; done))
    ·split at hc <;> (try (cases hc; done))
     cases hc
     simp [fullOp] at hnf
    ·split at hc <;> (try (cases hc; done))
     cases hc
     simp [fullOp] at hnf
 | _=>simp [cOp] at hc
end
end Go.Proofs.Ytffiilnmfmkpmaa.AE

namespace Go.Proofs.Ytffiilnmfmkpmaa.AE
set_option linter.unusedVariables false
set_option linter.unusedSimpArgs false
set_option linter.constructorNameAsVariable false
open Go Go.RowKit

def TStep (call:CallF) (io:IOper) (s s':St):Prop :=
 (want s.env io.guard=some true∧∃ v H',aop call (evO s.env) s.H io.op=some (v,H')∧s'=⟨put s.env io.dst v,H'⟩) ∨
 (want s.env io.guard=some false∧s'=⟨put s.env io.dst (.tup []),s.H⟩)

def tchAt (s:St) (io:IOper):List Nat:=touch (evO s.env) s.H io.op

theorem trace {call callP:CallF}:∀ (l:List (IOper × List Nat)) (i:Nat) (log:List (Nat × Nat)) (s s':St),runOpsD call callP l i log s=some s' →
 ∃ f:Nat→St,f 0=s∧f l.length=s'∧∀ (k:Nat) (io:IOper) (chk:List Nat),l[k]?=some (io,chk)→TStep (bif isFull chk then call else callP) io (f k) (f (k+1)) ∧
   (want (f k).env io.guard=some true→(∀ p ∈ log,p.1 ∈ chk→p.2 ∉ tchAt (f k) io) ∧
     ∀ (m:Nat) (jo:IOper) (c2:List Nat),m < k→l[m]?=some (jo,c2)→want (f m).env jo.guard=some true→(i+m) ∈ chk→∀ id ∈ tchAt (f m) jo,id ∉ tchAt (f k) io)
 | [],i,log,s,s',h=>by
   simp only [runOpsD,Option.some.injEq] at h
   exact ⟨fun _=>s,rfl,h,by simp⟩
 | (o,chk0)::l,i,log,s,s',h=>by
   simp only [runOpsD] at h
   split at h
   ·rename_i hw
    split at h <;> (try (cases h; done))
    rename_i hlog
    split at h <;> (try (cases h; done))
    rename_i v H' hv
    obtain ⟨f,h0,h1,h2⟩:=trace l (i+1) _ _ s' h
    have hlog':∀ p ∈ log,p.1 ∈ chk0→p.2 ∉ tchAt s o:=by
     intro p hp hc hm
     have:=List.all_eq_true.mp hlog p hp
     simp [hc] at this
     exact this hm
    refine ⟨fun k=>match k with | 0=>s | k+1=>f k,rfl,h1,?_⟩
    intro k io chk hk
    cases k with
    | zero =>
      simp only [List.getElem?_cons_zero,Option.some.injEq,Prod.mk.injEq] at hk
      obtain ⟨rfl,rfl⟩:=hk
      exact ⟨.inl ⟨hw,v,H',hv,h0⟩,fun _=>⟨hlog',fun m _ _ hm=>absurd hm (by omega)⟩⟩
    | succ k =>
      simp only [List.getElem?_cons_succ] at hk
      obtain ⟨q1,q2⟩:=h2 k io chk hk
      refine ⟨q1,fun hwk=>?_⟩
      obtain ⟨q3,q4⟩:=q2 hwk
      refine ⟨fun p hp=>q3 p (by simp [hp]),fun m jo c2 hm hj hwm hc=>?_⟩
      cases m with
      | zero =>
        simp only [List.getElem?_cons_zero,Option.some.injEq,Prod.mk.injEq] at hj
        obtain ⟨rfl,rfl⟩:=hj
        intro id hid
        exact q3 (i,id) (by simp only [List.mem_append,List.mem_map]; exact .inr ⟨id,hid,rfl⟩) (by simpa using hc)
      | succ m =>
        simp only [List.getElem?_cons_succ] at hj
        exact q4 m jo c2 (by omega) hj hwm (by rwa [show i+1+m=i+(m+1) by omega])
   ·rename_i hw
    obtain ⟨f,h0,h1,h2⟩:=trace l (i+1) _ _ s' h
    refine ⟨fun k=>match k with | 0=>s | k+1=>f k,rfl,h1,?_⟩
    intro k io chk hk
    cases k with
    | zero =>
      simp only [List.getElem?_cons_zero,Option.some.injEq,Prod.mk.injEq] at hk
      obtain ⟨rfl,rfl⟩:=hk
      exact ⟨.inr ⟨hw,h0⟩,fun hw2=>by simp only [hw] at hw2; cases hw2⟩
    | succ k =>
      simp only [List.getElem?_cons_succ] at hk
      obtain ⟨q1,q2⟩:=h2 k io chk hk
      refine ⟨q1,fun hwk=>?_⟩
      obtain ⟨q3,q4⟩:=q2 hwk
      refine ⟨q3,fun m jo c2 hm hj hwm hc=>?_⟩
      cases m with
      | zero =>
        simp only [List.getElem?_cons_zero,Option.some.injEq,Prod.mk.injEq] at hj
        obtain ⟨rfl,rfl⟩:=hj
        simp only [hw] at hwm; cases hwm
      | succ m =>
        simp only [List.getElem?_cons_succ] at hj
        exact q4 m jo c2 (by omega) hj hwm (by rwa [show i+1+m=i+(m+1) by omega])
   ·cases h

theorem aop_shape {P:Program} {call:CallF} (hcall:PCallOK P call) {ev:Opd→AV} {H H':Heap} {io:IOp} {v:AV} (hnf:fullOp io=false) (h:aop call ev H io=some (v,H')) :
 (∃ Z,H'=H ++ Z) ∨ (∃ id k k',hget H id=some k∧k'.e=k.e∧k'.els.length=k.els.length∧H'=H.set id (some k')∧touch ev H io=[id]∧storeOp io=true):=by
 cases io with
 | app=>simp [fullOp] at hnf
 | call sh g args =>
   simp only [aop] at h
   split at h <;> (try (cases h; done))
   obtain ⟨Z,hz,_⟩:=hcall _ _ _ _ _ h
   exact .inl ⟨Z,hz⟩
 | bk b args =>
   cases b <;> simp only [aop] at h <;> (repeat' split at h) <;> cases h <;> exact .inl ⟨[],(List.append_nil _).symm⟩
 | store n a x =>
   simp only [aop] at h
   split at h <;> (try (cases h; done))
   rename_i Hn hst
   cases h
   generalize hA:ev a=A at hst
   cases A <;> simp only [aStore] at hst <;> (try (cases hst; done))
   rename_i id i j
   split at hst <;> (try (cases hst; done))
   rename_i k hk
   split at hst <;> (try (cases hst; done))
   split at hst <;> (try (cases hst; done))
   rename_i el'' _
   cases hst
   exact .inr ⟨id,k,{ k with els:=k.els.set i el'' },hk,rfl,by simp,rfl,by simp [touch,hA],rfl⟩
 | _ =>
   simp only [aop] at h
   repeat' split at h
   all_goals first
    | (cases h; done)
    | (cases h; exact .inl ⟨[],(List.append_nil _).symm⟩)
    | (cases h; exact .inl ⟨_,rfl⟩)

theorem touch_some {ev:Opd→AV} {H:Heap} {io:IOp} {id:Nat} (h:id ∈ touch ev H io):storeOp io=true ∨ readOp io=true:=by
 cases io <;> simp [touch,storeOp,readOp] at h ⊢

def Ord (ps:List Nat) (m k:Nat):Prop:=(m < k→(ps.getD k 0).testBit m=true)∧(k < m→(ps.getD m 0).testBit k=true)

def fullK (ios:List IOper) (ps:List Nat) (k:Nat) (io:IOper):Bool:=fullOp io.op || isFull (chkOf ios ps k io)

structure Glob (P:Program) (call callP:CallF) (ops:Array Oper) (ios:List IOper) (ps:List Nat) (f:Nat→St):Prop where
 at_:∀ k,k < ops.size→∃ o io,ops[k]?=some o∧ios[k]?=some io∧cOper P ops.toList o=some io∧TStep (bif isFull (chkOf ios ps k io) then call else callP) io (f k) (f (k+1))
 slots:∀ m k om ok t,m ≠ k→ops[m]?=some om→ops[k]?=some ok→om.dst=some t→(t ∈ ok.looksAt ops ∨ ok.dst=some t)→Ord ps m k
 mem:∀ m k im ik id,m ≠ k→ios[m]?=some im→ios[k]?=some ik→want (f m).env im.guard=some true→want (f k).env ik.guard=some true→storeOp im.op=true→id ∈ tchAt (f m) im→id ∈ tchAt (f k) ik→Ord ps m k
 full:∀ m k ik,m ≠ k→m < ops.size→ios[k]?=some ik→fullK ios ps k ik=true→Ord ps m k

theorem glob_of {P:Program} {call callP:CallF} {ops:Array Oper} {ios:List IOper} {ps:List Nat} {s s':St} (hc:optAll (cOper P ops.toList) ops.toList=some ios) (hd:drawOk ops ios ps=true)
 (hr:runOpsD call callP (ios.zipIdx.map fun p=>(p.1,chkOf ios ps p.2 p.1)) 0 [] s=some s'):∃ f:Nat→St,f 0=s∧f ops.size=s'∧Glob P call callP ops ios ps f:=by
 obtain ⟨f,h0,h1,h2⟩:=trace _ _ _ _ _ hr
 obtain ⟨hl,hat⟩:=optAll_spec hc
 have hlen:ios.length=ops.size:=by simpa using hl
 have hget:∀ k io,ios[k]?=some io→(ios.zipIdx.map fun p=>(p.1,chkOf ios ps p.2 p.1))[k]?=some (io,chkOf ios ps k io):=by
  intro k io h
  simp [List.getElem?_zipIdx,h]
 simp only [drawOk,Bool.and_eq_true,decide_eq_true_eq] at hd
 obtain ⟨hcap,hd⟩:=hd
 have hpair:∀ i j,i < j→j < ops.size→(ps.getD j 0).testBit i=true ∨ ∃ o p a b,ops[i]?=some o∧ops[j]?=some p∧ios[i]?=some a∧ios[j]?=some b∧pairOk ops o p a.op b.op=true:=by
  intro i j hij hj
  have:=List.all_eq_true.mp (List.all_eq_true.mp hd j (List.mem_range.mpr hj)) i (List.mem_range.mpr hij)
  simp only [Bool.or_eq_true] at this
  rcases this with h | h
  ·exact .inl h
  ·right
   split at h
   ·rename_i o p a b e1 e2 e3 e4
    exact ⟨o,p,a,b,e1,e2,e3,e4,h⟩
   ·cases h
 have lt_of:∀ k io,ios[k]?=some io→k < ops.size:=fun k io h=>by rw [← hlen]; exact (List.getElem?_eq_some_iff.mp h).1
 have lt_of2:∀ (k:Nat) (o:Oper),ops[k]?=some o→k < ops.size:=fun k o h=>(Array.getElem?_eq_some_iff.mp h).1
 refine ⟨f,h0,by rw [← h1]; simp [hlen],?_,?_,?_,?_⟩
 ·intro k hk
  obtain ⟨io,e1,e2⟩:=hat k ops[k] (by simp [hk])
  exact ⟨ops[k],io,by simp [hk],e1,e2,(h2 k io _ (hget k io e1)).1⟩
 ·intro m k om ok t hmk hm hk hdst hlook
  constructor
  ·intro hlt
   refine (hpair m k hlt (lt_of2 k ok hk)).resolve_right ?_
   rintro ⟨o,p,a,b,e1,e2,e3,e4,h⟩
   rw [hm] at e1; rw [hk] at e2; cases e1; cases e2
   simp only [pairOk,Bool.and_eq_true] at h
   obtain ⟨a1,a2,a3⟩:=Oper.apart_spec h.1.1.1
   rcases hlook with hl | hl
   ·exact a1 t hdst hl
   ·exact a2 t hdst hl
  ·intro hlt
   refine (hpair k m hlt (lt_of2 m om hm)).resolve_right ?_
   rintro ⟨o,p,a,b,e1,e2,e3,e4,h⟩
   rw [hk] at e1; rw [hm] at e2; cases e1; cases e2
   simp only [pairOk,Bool.and_eq_true] at h
   obtain ⟨a1,a2,a3⟩:=Oper.apart_spec h.1.1.1
   rcases hlook with hl | hl
   ·exact a3 t hdst hl
   ·exact a2 t hl hdst
 ·intro m k im ik id hmk hm hk hwm hwk hst htm htk
  constructor
  ·intro hlt
   rcases hpair m k hlt (lt_of k ik hk) with h | ⟨o,p,a,b,e1,e2,e3,e4,h⟩
   ·exact h
   ·cases hb:(ps.getD k 0).testBit m
    ·exfalso
     rw [hm] at e3; rw [hk] at e4; cases e3; cases e4
     simp only [pairOk,Bool.and_eq_true,Bool.not_eq_true',hst,Bool.true_and] at h
     have hrd:readOp ik.op=true:=(touch_some htk).resolve_left (by rw [h.1.1.2]; simp)
     refine ((h2 k ik _ (hget k ik hk)).2 hwk).2 m im _ hlt (hget m im hm) hwm ?_ id htm htk
     simp only [chkOf,List.mem_append,List.mem_filter,List.mem_range,Nat.zero_add,hlt,true_and,hm,hb,meets,hst,hrd]
     simp
    ·rfl
  ·intro hlt
   rcases hpair k m hlt (lt_of m im hm) with h | ⟨o,p,a,b,e1,e2,e3,e4,h⟩
   ·exact h
   ·cases hb:(ps.getD m 0).testBit k
    ·exfalso
     rw [hk] at e3; rw [hm] at e4; cases e3; cases e4
     simp only [pairOk,Bool.and_eq_true,Bool.not_eq_true',hst,Bool.and_true] at h
     have hrd:readOp ik.op=true:=(touch_some htk).resolve_left (by rw [h.1.1.2]; simp)
     refine ((h2 m im _ (hget m im hm)).2 hwm).2 k ik _ hlt (hget k ik hk) hwk ?_ id htk htm
     simp only [chkOf,List.mem_append,List.mem_filter,List.mem_range,Nat.zero_add,hlt,true_and,hk,hb,meets,hst,hrd]
     simp
    ·rfl
 ·intro m k ik hmk hm hk hfu
  simp only [fullK,Bool.or_eq_true] at hfu
  rcases hfu with hfu | hfu
  ·constructor
   ·intro hlt
    refine (hpair m k hlt (lt_of k ik hk)).resolve_right ?_
    rintro ⟨o,p,a,b,e1,e2,e3,e4,h⟩
    rw [hk] at e4; cases e4
    simp [pairOk,hfu] at h
   ·intro hlt
    refine (hpair k m hlt hm).resolve_right ?_
    rintro ⟨o,p,a,b,e1,e2,e3,e4,h⟩
    rw [hk] at e3; cases e3
    simp [pairOk,hfu] at h
  ·have hkl:=lt_of k ik hk
   have hfa:fullAt ios.length ps k ik.op=true:=by
    simp only [isFull,chkOf,List.contains_iff_mem,List.mem_append,List.mem_filter,List.mem_range] at hfu
    rcases hfu with ⟨h,_⟩ | h
    ·omega
    ·split at h
     ·assumption
     ·simp at h
   simp only [fullAt,Bool.and_eq_true,List.all_eq_true,List.mem_range] at hfa
   have:=hfa.2 m (by rw [hlen]; exact hm)
   simp only [Bool.or_eq_true,beq_iff_eq,hmk,false_or] at this
   constructor
   ·intro hlt; rw [if_pos hlt] at this; exact this
   ·intro hlt; rw [if_neg (by omega)] at this; exact this
end Go.Proofs.Ytffiilnmfmkpmaa.AE

namespace Go.Proofs.Ytffiilnmfmkpmaa.AE
set_option linter.unusedVariables false
set_option linter.unusedSimpArgs false
set_option linter.constructorNameAsVariable false
open Go Go.RowKit

theorem le_ind {m:Nat} {p:(n:Nat)→m≤n→Prop} (base:p m (Nat.le_refl m)) (succ:∀ n (h:m≤n),p n h→p (n+1) (Nat.le_succ_of_le h)):∀ n h,p n h:=by
 intro n h
 induction h with
 | refl=>exact base
 | step h ih=>exact succ _ h ih

def ShEq:Option (Option Blk)→Option (Option Blk)→Prop
 | none,none=>True
 | some none,some none=>True
 | some (some a),some (some b)=>a.e=b.e∧a.els.length=b.els.length
 | _,_=>False

theorem ShEq.refl:∀ x,ShEq x x
 | none=>trivial
 | some none=>trivial
 | some (some _)=>⟨rfl,rfl⟩
theorem ShEq.trans:∀ {x y z},ShEq x y→ShEq y z→ShEq x z
 | none,none,none,_,_=>trivial
 | some none,some none,some none,_,_=>trivial
 | some (some _),some (some _),some (some _),h,k=>⟨h.1.trans k.1,h.2.trans k.2⟩
 | none,none,some none,_,k=>k.elim
 | none,none,some (some _),_,k=>k.elim
 | some none,some none,none,_,k=>k.elim
 | some none,some none,some (some _),_,k=>k.elim
 | some (some _),some (some _),none,_,k=>k.elim
 | some (some _),some (some _),some none,_,k=>k.elim
 | none,some none,_,h,_=>h.elim
 | none,some (some _),_,h,_=>h.elim
 | some none,none,_,h,_=>h.elim
 | some none,some (some _),_,h,_=>h.elim
 | some (some _),none,_,h,_=>h.elim
 | some (some _),some none,_,h,_=>h.elim
theorem ShEq.symm {x y} (h:ShEq x y):ShEq y x:=by
 cases x with
 | none=>cases y with
   | none=>trivial
   | some y=>exact h.elim
 | some x=>cases y with
   | none=>cases x <;> exact h.elim
   | some y=>cases x with
     | none=>cases y with
       | none=>trivial
       | some y=>exact h.elim
     | some x=>cases y with
       | none=>exact h.elim
       | some y=>exact ⟨h.1.symm,h.2.symm⟩
theorem ShEq.dead {x y} (h:ShEq x y):x=some none ↔ y=some none:=by
 cases x with
 | none=>cases y with
   | none=>simp
   | some y=>exact h.elim
 | some x=>cases x with
   | none=>cases y with
     | none=>exact h.elim
     | some y=>cases y with
       | none=>simp
       | some y=>exact h.elim
   | some x=>cases y with
     | none=>exact h.elim
     | some y=>cases y with
       | none=>exact h.elim
       | some y=>simp
theorem ShEq.some_l {x:Option (Option Blk)} {b:Blk} (h:ShEq x (some (some b))):∃ a,x=some (some a)∧a.e=b.e∧a.els.length=b.els.length:=by
 cases x with
 | none=>exact h.elim
 | some x=>cases x with
   | none=>exact h.elim
   | some a=>exact ⟨a,rfl,h.1,h.2⟩
theorem ShEq.some_r {y:Option (Option Blk)} {a:Blk} (h:ShEq (some (some a)) y):∃ b,y=some (some b)∧a.e=b.e∧a.els.length=b.els.length:=by
 cases y with
 | none=>exact h.elim
 | some x=>cases x with
   | none=>exact h.elim
   | some b=>exact ⟨b,rfl,h.1,h.2⟩
theorem ShEq.none_iff {x y} (h:ShEq x y):x=none ↔ y=none:=by
 cases x with
 | none=>cases y with
   | none=>simp
   | some y=>exact h.elim
 | some x=>cases y with
   | none=>cases x <;> exact h.elim
   | some y=>simp

def Upd (ios:List IOper) (f:Nat→St) (m id:Nat):Prop:=∃ im,ios[m]?=some im∧want (f m).env im.guard=some true∧storeOp im.op=true∧id ∈ tchAt (f m) im

structure Stretch (ops:Array Oper) (ios:List IOper) (f:Nat→St) (b e:Nat):Prop where
 le:b≤e
 top:e≤ops.size
 env:∀ k,b≤k→k < e→∃ o v,ops[k]?=some o∧(f (k+1)).env=put (f k).env o.dst v
 heap:∀ k,b≤k→k < e→(∃ Z,(f (k+1)).H=(f k).H ++ Z) ∨ ∃ id z z',hget (f k).H id=some z∧z'.e=z.e∧z'.els.length=z.els.length∧(f (k+1)).H=(f k).H.set id (some z')∧Upd ios f k id
 upd:∀ m id,b≤m→m < e→Upd ios f m id→id < (f m).H.length

theorem hget_lt {H:Heap} {id:Nat} {z:Blk} (h:hget H id=some z):H[id]?=some (some z)∧id < H.length:=by
 have:H[id]?=some (some z):=by
  unfold hget at h
  split at h
  ·rename_i b hb; cases h; exact hb
  ·cases h
 exact ⟨this,(List.getElem?_eq_some_iff.mp this).1⟩

theorem put_getD_ne {env:List AV} {d:Option Nat} {v:AV} {t:Nat} (h:d ≠ some t):(put env d v).getD t .undef=env.getD t .undef:=by
 cases d with
 | none=>rfl
 | some d =>
   have:d ≠ t:=fun e=>h (e ▸ rfl)
   simp [put,List.getD_eq_getElem?_getD,List.getElem?_set_ne this]
theorem put_length {env:List AV} {d:Option Nat} {v:AV}:(put env d v).length=env.length:=by cases d <;> simp [put]

section
variable {P:Program} {call callP:CallF} {ops:Array Oper} {ios:List IOper} {ps:List Nat} {f:Nat→St} {b e:Nat}

theorem fullK_not {k:Nat} {io:IOper} (h:fullK ios ps k io=false):fullOp io.op=false∧isFull (chkOf ios ps k io)=false:=by
 unfold fullK at h
 cases h1:fullOp io.op <;> cases h2:isFull (chkOf ios ps k io) <;> simp [h1,h2] at h ⊢
theorem Glob.stretch (G:Glob P call callP ops ios ps f) (hcall:PCallOK P callP) (h1:b≤e) (h2:e≤ops.size) (hf:∀ k io,b≤k→k < e→ios[k]?=some io→fullK ios ps k io=false):Stretch ops ios f b e:=by
 refine ⟨h1,h2,?_,?_,?_⟩
 ·intro k hb he
  obtain ⟨o,io,e1,e2,e3,e4⟩:=G.at_ k (by omega)
  have hd:=(cOper_op e3).2
  rcases e4 with ⟨_,v,H',_,e5⟩ | ⟨_,e5⟩
  ·exact ⟨o,v,e1,by rw [e5,← hd]⟩
  ·exact ⟨o,_,e1,by rw [e5,← hd]⟩
 ·intro k hb he
  obtain ⟨o,io,e1,e2,e3,e4⟩:=G.at_ k (by omega)
  rcases e4 with ⟨hw,v,H',hv,e5⟩ | ⟨_,e5⟩
  ·obtain ⟨g1,g2⟩:=fullK_not (hf k io hb he e2)
   rw [g2,cond_false] at hv
   rcases aop_shape hcall g1 hv with ⟨Z,rfl⟩ | ⟨id,z,z',q1,q2,q3,rfl,q5,q6⟩
   ·exact .inl ⟨Z,by rw [e5]⟩
   ·exact .inr ⟨id,z,z',q1,q2,q3,by rw [e5],io,e2,hw,q6,by unfold tchAt; rw [q5]; simp⟩
  ·exact .inl ⟨[],by rw [e5]; simp⟩
 ·rintro m id hb he ⟨im,e2',hw',hst,hid⟩
  obtain ⟨o,io,e1,e2,e3,e4⟩:=G.at_ m (by omega)
  rw [e2] at e2'; cases e2'
  rcases e4 with ⟨hw,v,H',hv,e5⟩ | ⟨hw,e5⟩
  ·unfold tchAt at hid
   cases hop:im.op <;> rw [hop] at hst <;> simp [storeOp] at hst
   rw [hop] at hv hid
   rename_i n a x
   simp only [touch] at hid
   split at hid
   ·rename_i id' i j ha
    simp only [List.mem_singleton] at hid
    subst hid
    simp only [aop,ha,aStore] at hv
    cases hg:hget (f m).H id with
    | none=>simp [hg] at hv
    | some z=>exact (hget_lt hg).2
   ·simp at hid
  ·rw [hw] at hw'; cases hw'

theorem Stretch.keepE (S:Stretch ops ios f b e) {c k t:Nat} (hb:b≤c) (hck:c≤k) (hk:k≤e) (hn:∀ m o,c≤m→m < k→ops[m]?=some o→o.dst ≠ some t):(f k).env.getD t .undef=(f c).env.getD t .undef:=by
 induction k,hck using le_ind with
 | base=>rfl
 | succ k hck ih =>
   obtain ⟨o,v,h1,h2⟩:=S.env k (by omega) (by omega)
   rw [h2,put_getD_ne (hn k o hck (by omega) h1)]
   exact ih (by omega) (fun m o h3 h4=>hn m o h3 (by omega))

theorem Stretch.lenE (S:Stretch ops ios f b e) {k:Nat} (hb:b≤k) (hk:k≤e):(f k).env.length=(f b).env.length:=by
 induction k,hb using le_ind with
 | base=>rfl
 | succ k hck ih =>
   obtain ⟨o,v,h1,h2⟩:=S.env k (by omega) (by omega)
   rw [h2,put_length]
   exact ih (by omega)

theorem Stretch.mono (S:Stretch ops ios f b e) {c k:Nat} (hb:b≤c) (hck:c≤k) (hk:k≤e):(f c).H.length≤(f k).H.length:=by
 induction k,hck using le_ind with
 | base=>exact Nat.le_refl _
 | succ k hck ih =>
   have:=ih (by omega)
   rcases S.heap k (by omega) (by omega) with ⟨Z,h⟩ | ⟨id,z,z',_,_,_,h,_⟩ <;> rw [h] <;> simp <;> omega

theorem Stretch.shape (S:Stretch ops ios f b e) {c k id:Nat} (hb:b≤c) (hck:c≤k) (hk:k≤e) (hid:id < (f c).H.length):ShEq ((f c).H[id]?) ((f k).H[id]?):=by
 induction k,hck using le_ind with
 | base=>exact .refl _
 | succ k hck ih =>
   refine (ih (by omega)).trans ?_
   have hlt:=Nat.lt_of_lt_of_le hid (S.mono hb hck (by omega))
   rcases S.heap k (by omega) (by omega) with ⟨Z,h⟩ | ⟨id',z,z',h1,h2,h3,h,_⟩
   ·rw [h,List.getElem?_append_left hlt]; exact .refl _
   ·rw [h]
    by_cases hi:id'=id
    ·subst hi
     rw [List.getElem?_set_self hlt,(hget_lt h1).1]
     exact ⟨h2.symm,h3.symm⟩
    ·rw [List.getElem?_set_ne hi]; exact .refl _

theorem Stretch.keepH (S:Stretch ops ios f b e) {c k id:Nat} (hb:b≤c) (hck:c≤k) (hk:k≤e) (hid:id < (f c).H.length) (hn:∀ m,c≤m→m < k→¬ Upd ios f m id):(f k).H[id]?=(f c).H[id]?:=by
 induction k,hck using le_ind with
 | base=>rfl
 | succ k hck ih =>
   rw [← ih (by omega) (fun m h3 h4=>hn m h3 (by omega))]
   have hlt:=Nat.lt_of_lt_of_le hid (S.mono hb hck (by omega))
   rcases S.heap k (by omega) (by omega) with ⟨Z,h⟩ | ⟨id',z,z',h1,h2,h3,h,h4⟩
   ·rw [h,List.getElem?_append_left hlt]
   ·rw [h,List.getElem?_set_ne (fun hi:id'=id=>hn k hck (by omega) (hi ▸ h4))]

theorem Stretch.sameE (S:Stretch ops ios f b e) {c k t:Nat} (hc:b≤c) (hce:c≤e) (hk:b≤k) (hke:k≤e) (h:∀ m o,b≤m→m < e→ops[m]?=some o→o.dst=some t→(m < c ↔ m < k)):(f c).env.getD t .undef=(f k).env.getD t .undef:=by
 rcases Nat.le_total c k with hl | hl
 ·exact (S.keepE hc hl hke fun m o h1 h2 h3 h4=>absurd ((h m o (by omega) (by omega) h3 h4).mpr h2) (by omega)).symm
 ·exact S.keepE hk hl hce fun m o h1 h2 h3 h4=>absurd ((h m o (by omega) (by omega) h3 h4).mp h2) (by omega)

theorem Stretch.sameH (S:Stretch ops ios f b e) {c k id:Nat} (hc:b≤c) (hce:c≤e) (hk:b≤k) (hke:k≤e) (h1:id < (f c).H.length) (h2:id < (f k).H.length) (h:∀ m,b≤m→m < e→Upd ios f m id→(m < c ↔ m < k)):(f c).H[id]?=(f k).H[id]?:=by
 rcases Nat.le_total c k with hl | hl
 ·exact (S.keepH hc hl hke h1 fun m q1 q2 q3=>absurd ((h m (by omega) (by omega) q3).mpr q2) (by omega)).symm
 ·exact S.keepH hk hl hce h2 fun m q1 q2 q3=>absurd ((h m (by omega) (by omega) q3).mp q2) (by omega)

structure Mix (ops:Array Oper) (ios:List IOper) (f:Nat→St) (b e:Nat) (L:Nat→Prop) (ρ:Rho) (s:St):Prop where
 len:s.env.length=(f b).env.length
 shape:∀ id:Nat,ShEq s.H[id]? (f e).H[id]?
 made:∀ id,ρ id ≠ .no→id < (f b).H.length ∨ ∃ m,b≤m∧m < e∧L m∧(f m).H.length≤id∧id < (f (m+1)).H.length
 cutH:∀ id,ρ id ≠ .no→∃ c,b≤c∧c≤e∧id < (f c).H.length∧s.H[id]?=(f c).H[id]?∧∀ m,b≤m→m < e→Upd ios f m id→(m < c ↔ L m)
 cutE:∀ t,∃ c,b≤c∧c≤e∧s.env.getD t .undef=(f c).env.getD t .undef∧∀ m o,b≤m→m < e→ops[m]?=some o→o.dst=some t→(m < c ↔ L m)
 upds:∀ m id,b≤m→m < e→L m→Upd ios f m id→ρ id ≠ .no

theorem cutE_put {L:Nat→Prop} {ρ:Rho} {s:St} {k:Nat} {o:Oper} {v:AV} (S:Stretch ops ios f b e) (M:Mix ops ios f b e L ρ s) (hb:b≤k) (he:k < e) (ho:ops[k]?=some o) (hput:(f (k+1)).env=put (f k).env o.dst v)
 (hord:∀ m om t,m ≠ k→ops[m]?=some om→om.dst=some t→o.dst=some t→(m < k ↔ L m)) :
 ∀ t,∃ c,b≤c∧c≤e∧(put s.env o.dst v).getD t .undef=(f c).env.getD t .undef∧∀ m om,b≤m→m < e→ops[m]?=some om→om.dst=some t→(m < c ↔ (L m ∨ m=k)):=by
 intro t
 by_cases hd:o.dst=some t
 ·refine ⟨k+1,by omega,by omega,?_,fun m om h1 h2 h3 h4=>?_⟩
  ·rw [hput,hd]
   simp only [put,List.getD_eq_getElem?_getD]
   rcases Nat.lt_or_ge t s.env.length with hlt | hge
   ·rw [List.getElem?_set_self hlt,List.getElem?_set_self (by rw [S.lenE hb (by omega),← M.len]; exact hlt)]
   ·rw [List.getElem?_eq_none (by simpa using hge),List.getElem?_eq_none (by simp; rw [S.lenE hb (by omega),← M.len]; exact hge)]
  ·by_cases hmk:m=k
   ·subst hmk; simp
   ·have:=hord m om t hmk h3 h4 hd
    rw [← this]
    omega
 ·obtain ⟨c,h1,h2,h3,h4⟩:=M.cutE t
  refine ⟨c,h1,h2,by rw [put_getD_ne hd,h3],fun m om q1 q2 q3 q4=>?_⟩
  have hmk:m ≠ k:=by
   rintro rfl
   rw [ho] at q3; cases q3
   exact hd q4
  rw [h4 m om q1 q2 q3 q4]
  simp [hmk]

theorem Mix.same {L:Nat→Prop} {ρ:Rho} {s:St} {k:Nat} {o:Oper} {v:AV} (S:Stretch ops ios f b e) (M:Mix ops ios f b e L ρ s) (hb:b≤k) (he:k < e) (ho:ops[k]?=some o) (hput:(f (k+1)).env=put (f k).env o.dst v)
 (hord:∀ m om t,m ≠ k→ops[m]?=some om→om.dst=some t→o.dst=some t→(m < k ↔ L m)) (hno:∀ id,¬ Upd ios f k id):Mix ops ios f b e (fun m=>L m ∨ m=k) ρ ⟨put s.env o.dst v,s.H⟩:=by
 refine ⟨by simpa [put_length] using M.len,M.shape,fun id h=>(M.made id h).imp (fun x=>x) (fun ⟨m,h1,h2,h3,h4⟩=>⟨m,h1,h2,.inl h3,h4⟩),fun id h=>?_,cutE_put S M hb he ho hput hord,fun m id h1 h2 h3 h4=>?_⟩
 ·obtain ⟨c,h1,h2,h3,h4,h5⟩:=M.cutH id h
  refine ⟨c,h1,h2,h3,h4,fun m q1 q2 q3=>?_⟩
  have hmk:m ≠ k:=fun hh=>hno id (hh ▸ q3)
  rw [h5 m q1 q2 q3]; simp [hmk]
 ·rcases h3 with h3 | rfl
  ·exact M.upds m id h1 h2 h3 h4
  ·exact absurd h4 (hno id)

theorem Mix.makes {L:Nat→Prop} {ρ ρ':Rho} {s:St} {k:Nat} {o:Oper} {v:AV} {Z G':Heap} (S:Stretch ops ios f b e) (M:Mix ops ios f b e L ρ s) (hb:b≤k) (he:k < e) (ho:ops[k]?=some o) (hput:(f (k+1)).env=put (f k).env o.dst v) (hH:(f (k+1)).H=(f k).H ++ Z)
 (hord:∀ m om t,m ≠ k→ops[m]?=some om→om.dst=some t→o.dst=some t→(m < k ↔ L m)) (hno:∀ id,¬ Upd ios f k id) (hρ0:∀ i,(f k).H.length≤i→i < (f k).H.length+Z.length→ρ i=.no)
 (hG1:∀ (i:Nat) (z:Option Blk),Z[i]?=some z→G'[(f k).H.length+i]?=some z) (hG2:∀ i:Nat,¬ ((f k).H.length≤i∧i < (f k).H.length+Z.length)→G'[i]?=s.H[i]?) (hρ:∀ i,¬ ((f k).H.length≤i∧i < (f k).H.length+Z.length)→ρ' i=ρ i) :
 Mix ops ios f b e (fun m=>L m ∨ m=k) ρ' ⟨put s.env o.dst v,G'⟩:=by
 have hlen:(f (k+1)).H.length=(f k).H.length+Z.length:=by rw [hH]; simp
 have hnew:∀ i,(f k).H.length≤i→i < (f k).H.length+Z.length→G'[i]?=(f (k+1)).H[i]?:=by
  intro i h1 h2
  obtain ⟨z,hz⟩:∃ z,Z[i - (f k).H.length]?=some z:=⟨_,List.getElem?_eq_getElem (by omega)⟩
  have:=hG1 _ z hz
  rw [show (f k).H.length+(i - (f k).H.length)=i by omega] at this
  rw [this,hH,List.getElem?_append_right h1,hz]
 have keep:∀ i,ρ i ≠ .no→ρ' i=ρ i:=fun i hi=>hρ i fun h=>hi (hρ0 i h.1 h.2)
 refine ⟨by simpa [put_length] using M.len,fun id=>?_,fun id h=>?_,fun id h=>?_,cutE_put S M hb he ho hput hord,fun m id h1 h2 h3 h4=>?_⟩
 ·by_cases hi:(f k).H.length≤id∧id < (f k).H.length+Z.length
  ·simp only [hnew id hi.1 hi.2]
   exact S.shape (c:=k+1) (k:=e) (by omega) (by omega) (Nat.le_refl _) (by omega)
  ·simp only [hG2 id hi]
   exact M.shape id
 ·by_cases hi:(f k).H.length≤id∧id < (f k).H.length+Z.length
  ·exact .inr ⟨k,hb,he,.inr rfl,hi.1,by omega⟩
  ·rw [hρ id hi] at h
   exact (M.made id h).imp (fun x=>x) (fun ⟨m,h1,h2,h3,h4⟩=>⟨m,h1,h2,.inl h3,h4⟩)
 ·by_cases hi:(f k).H.length≤id∧id < (f k).H.length+Z.length
  ·refine ⟨k+1,by omega,by omega,by omega,hnew id hi.1 hi.2,fun m q1 q2 q3=>?_⟩
   have hmk:m ≠ k:=fun hh=>hno _ (hh ▸ q3)
   have hge:¬ m < k:=fun hm=>by
    have r1:=S.upd m _ q1 q2 q3
    have r2:=S.mono (c:=m) (k:=k) q1 (by omega) (by omega)
    omega
   have hnl:¬ L m:=fun hl=>M.upds m _ q1 q2 hl q3 (hρ0 id hi.1 hi.2)
   constructor
   ·intro h; omega
   ·rintro (h | h)
    ·exact absurd h hnl
    ·exact absurd h hmk
  ·rw [hρ id hi] at h
   obtain ⟨c,h1,h2,h3,h4,h5⟩:=M.cutH id h
   refine ⟨c,h1,h2,h3,by simp only [hG2 id hi]; exact h4,fun m q1 q2 q3=>?_⟩
   have hmk:m ≠ k:=fun hh=>hno id (hh ▸ q3)
   rw [h5 m q1 q2 q3]; simp [hmk]
 ·rcases h3 with h3 | rfl
  ·have:=M.upds m id h1 h2 h3 h4
   rw [keep id this]; exact this
  ·exact absurd h4 (hno id)

theorem Mix.stores {L:Nat→Prop} {ρ:Rho} {s:St} {k id:Nat} {o:Oper} {v:AV} {z z0:Blk} (S:Stretch ops ios f b e) (M:Mix ops ios f b e L ρ s) (hb:b≤k) (he:k < e) (ho:ops[k]?=some o) (hput:(f (k+1)).env=put (f k).env o.dst v) (hH:(f (k+1)).H=(f k).H.set id (some z)) (hlt:id < (f k).H.length)
 (hord:∀ m om t,m ≠ k→ops[m]?=some om→om.dst=some t→o.dst=some t→(m < k ↔ L m)) (hup:∀ id',Upd ios f k id'→id'=id) (hord2:∀ m,m ≠ k→Upd ios f m id→(m < k ↔ L m)) (hs:s.H[id]?=some (some z0)) (he0:z.e=z0.e) (hl0:z.els.length=z0.els.length) (hρ:ρ id ≠ .no) :
 Mix ops ios f b e (fun m=>L m ∨ m=k) ρ ⟨put s.env o.dst v,s.H.set id (some z)⟩:=by
 have hlts:id < s.H.length:=(List.getElem?_eq_some_iff.mp hs).1
 refine ⟨by simpa [put_length] using M.len,fun id'=>?_,fun id' h=>(M.made id' h).imp (fun x=>x) (fun ⟨m,h1,h2,h3,h4⟩=>⟨m,h1,h2,.inl h3,h4⟩),fun id' h=>?_,cutE_put S M hb he ho hput hord,fun m id' h1 h2 h3 h4=>?_⟩
 ·by_cases hi:id=id'
  ·subst hi
   simp only [List.getElem?_set_self hlts]
   have:=M.shape id
   rw [hs] at this
   obtain ⟨y,q1,q2,q3⟩:=this.some_r
   rw [q1]
   exact ⟨he0.trans q2,hl0.trans q3⟩
  ·simp only [List.getElem?_set_ne hi]
   exact M.shape id'
 ·by_cases hi:id=id'
  ·subst hi
   refine ⟨k+1,by omega,by omega,by rw [hH]; simpa using hlt,by rw [hH]; simp only [List.getElem?_set_self hlts,List.getElem?_set_self hlt],fun m q1 q2 q3=>?_⟩
   by_cases hmk:m=k
   ·subst hmk; simp
   ·have:=hord2 m hmk q3
    rw [← this]; omega
  ·obtain ⟨c,h1,h2,h3,h4,h5⟩:=M.cutH id' h
   refine ⟨c,h1,h2,h3,by simp only [List.getElem?_set_ne hi]; exact h4,fun m q1 q2 q3=>?_⟩
   have hmk:m ≠ k:=fun hh=>hi (hup id' (hh ▸ q3)).symm
   rw [h5 m q1 q2 q3]; simp [hmk]
 ·rcases h3 with h3 | rfl
  ·exact M.upds m id' h1 h2 h3 h4
  ·rw [hup id' h4]; exact hρ
end
end Go.Proofs.Ytffiilnmfmkpmaa.AE

namespace Go.Proofs.Ytffiilnmfmkpmaa.AE
set_option linter.unusedVariables false
set_option linter.unusedSimpArgs false
set_option linter.constructorNameAsVariable false
open Go Go.RowKit

section
variable {P:Program} {call callP:CallF} {ops:Array Oper} {ios:List IOper} {ps:List Nat} {f:Nat→St} {b e:Nat}
variable {w w0:World} {bad D0:Nat→Prop} {ρ ρ0:Rho} {a:Act} {B:Nat} {s:St} {Q:Exit→Act→World→Prop}

theorem dead_congr {H G:Heap} (h:∀ id:Nat,ShEq H[id]? G[id]?):dead H=dead G:=by
 funext id
 exact propext (h id).dead

theorem start_mix (S:Stretch ops ios f b e) (h:Sim w0 D0 ρ0 bad B ρ (f b) a w) {L:Nat→Prop} (hL:∀ m,b≤m→m < e→¬ L m) :
 ∃ s,Sim w0 D0 ρ0 bad B ρ s a w∧Mix ops ios f b e L ρ s:=by
 have hsh:∀ id:Nat,ShEq ((f b).H ++ (f e).H.drop (f b).H.length)[id]? (f e).H[id]?:=by
  intro id
  rw [List.getElem?_append]
  split
  ·rename_i hlt
   exact S.shape (Nat.le_refl _) S.le (Nat.le_refl _) hlt
  ·rename_i hge
   rw [List.getElem?_drop,show (f b).H.length+(id - (f b).H.length)=id by omega]
   exact .refl _
 have hmono:∀ i,dead (f b).H i→dead ((f b).H ++ (f e).H.drop (f b).H.length) i:=by
  intro i hd
  simp only [dead] at *
  rw [List.getElem?_append_left (List.getElem?_eq_some_iff.mp hd).1]; exact hd
 have st:Step w w (dead (f b).H) (dead ((f b).H ++ (f e).H.drop (f b).H.length)) ρ ρ:=⟨Grow.refl _ _,RLe.refl _ _,hmono,fun _ _=>.inl rfl⟩
 have hR:=h.heap
 refine ⟨⟨(f b).env,(f b).H ++ (f e).H.drop (f b).H.length⟩,⟨h.defers,h.size,fun t ht=>(h.env t ht).step st,⟨fun id bb es cap hid=>?_,fun id hid=>?_,hR.inj,fun id hid=>let ⟨k,hk,hb⟩:=hR.res id hid; ⟨k,by rw [List.getElem?_append_left (lt_of_no hR (by simp [hid]))]; exact hk,hb⟩⟩,h.low,h.st.trans st⟩,rfl,hsh,fun id hid=>.inl (lt_of_no hR hid),fun id hid=>?_,fun t=>?_,fun m id h1 h2 h3=>absurd h3 (hL m h1 h2)⟩
 ·obtain ⟨k,hk,hb⟩:=hR.real id bb es cap hid
  exact ⟨k,by rw [List.getElem?_append_left (lt_of_no hR (by simp [hid]))]; exact hk,hb.step st rfl⟩
 ·obtain ⟨k,hk,hb⟩:=hR.virt id hid
  exact ⟨k,by rw [List.getElem?_append_left (lt_of_no hR (by simp [hid]))]; exact hk,hb⟩
 ·have hlt:=lt_of_no hR hid
  refine ⟨b,Nat.le_refl _,S.le,hlt,List.getElem?_append_left hlt,fun m h1 h2 _=>?_⟩
  have:=hL m h1 h2
  constructor
  ·intro h; omega
  ·intro h; exact absurd h this
 ·refine ⟨b,Nat.le_refl _,S.le,rfl,fun m o h1 h2 _ _=>?_⟩
  have:=hL m h1 h2
  constructor
  ·intro h; omega
  ·intro h; exact absurd h this

theorem end_mix (S:Stretch ops ios f b e) {L:Nat→Prop} (M:Mix ops ios f b e L ρ s) (h:Sim w0 D0 ρ0 bad B ρ s a w) (hL:∀ m,b≤m→m < e→L m):Sim w0 D0 ρ0 bad B ρ (f e) a w:=by
 have hdead:dead s.H=dead (f e).H:=dead_congr M.shape
 have henv:∀ t,s.env.getD t .undef=(f e).env.getD t .undef:=by
  intro t
  obtain ⟨c,h1,h2,h3,h4⟩:=M.cutE t
  rw [h3]
  refine S.sameE h1 h2 S.le (Nat.le_refl _) fun m o q1 q2 q3 q4=>?_
  rw [h4 m o q1 q2 q3 q4]
  exact ⟨fun _=>q2,fun _=>hL m q1 q2⟩
 have hheap:∀ id,ρ id ≠ .no→s.H[id]?=(f e).H[id]?:=by
  intro id hid
  obtain ⟨c,h1,h2,h3,h4,h5⟩:=M.cutH id hid
  rw [h4]
  refine S.sameH h1 h2 S.le (Nat.le_refl _) h3 (Nat.lt_of_lt_of_le h3 (S.mono h1 h2 (Nat.le_refl _))) fun m q1 q2 q3=>?_
  rw [h5 m q1 q2 q3]
  exact ⟨fun _=>q2,fun _=>hL m q1 q2⟩
 have hlen:s.env.length=(f e).env.length:=by rw [M.len,S.lenE S.le (Nat.le_refl _)]
 refine ⟨h.defers,h.size.trans hlen,fun t ht=>?_,⟨fun id bb es cap hid=>?_,fun id hid=>?_,h.heap.inj,fun id hid=>let ⟨k,hk,hb⟩:=h.heap.res id hid; ⟨k,(hheap id (by simp [hid])) ▸ hk,hb⟩⟩,h.low,by rw [← hdead]; exact h.st⟩
 ·rw [← hdead,← henv t]; exact h.env t (hlen ▸ ht)
 ·obtain ⟨k,hk,hb⟩:=h.heap.real id bb es cap hid
  refine ⟨k,(hheap id (by simp [hid])) ▸ hk,?_⟩
  have h2:BlkRel w bad (dead (f e).H) ρ B k bb es cap:=by rw [← hdead]; exact hb
  exact h2
 ·obtain ⟨k,hk,hb⟩:=h.heap.virt id hid
  exact ⟨k,(hheap id (by simp [hid])) ▸ hk,hb⟩

theorem want_congr {env env':List AV} {ops:Array Oper} {o:Oper} {io:IOper} (hc:cOper P ops.toList o=some io) (h:∀ t,t ∈ o.looksAt ops→env.getD t .undef=env'.getD t .undef):want env io.guard=want env' io.guard:=by
 unfold cOper at hc
 split at hc <;> (try (cases hc; done))
 cases hc
 cases hg:o.guard with
 | none=>rfl
 | some p =>
   obtain ⟨g,q⟩:=p
   simp only
   cases hd:(ops.toList[g]?).bind (·.dst) with
   | none=>rfl
   | some t =>
     have ht:t ∈ o.looksAt ops:=by
      simp only [Oper.looksAt,hg,List.mem_append]
      right
      have:ops.toList[g]?=ops[g]?:=by simp
      rw [this] at hd
      simp [hd]
     simp only [want,h t ht]

theorem seg_step (G:Glob P call callP ops ios ps f) (S:Stretch ops ios f b e) (hcall:PCallOK P callP) (hbad:∀ b,bad b→b < B) {L:Nat→Prop} {k:Nat} (hb:b≤k) (he:k < e) (hnf:∀ io,ios[k]?=some io→fullK ios ps k io=false) (hk:¬ L k) (hready:∀ m,(ps.getD k 0).testBit m=true→L m)
 (hclosed:∀ m,L m→∀ i,(ps.getD m 0).testBit i=true→L i) (h:Sim w0 D0 ρ0 bad B ρ s a w) (M:Mix ops ios f b e L ρ s) {K:Act→World→Prop}
 (hK:∀ a' w' ρ' s',Sim w0 D0 ρ0 bad B ρ' s' a' w'→Mix ops ios f b e (fun m=>L m ∨ m=k) ρ' s'→K a' w'):wpOp P ops Q k K a w:=by
 obtain ⟨o,io,e1,e2,e3,e4⟩:=G.at_ k (Nat.lt_of_lt_of_le he S.top)
 obtain ⟨hop,hdst⟩:=cOper_op e3
 have ordL:∀ m,m ≠ k→Ord ps m k→(m < k ↔ L m):=by
  intro m hmk ho
  constructor
  ·intro hlt; exact hready m (ho.1 hlt)
  ·intro hl
   rcases Nat.lt_or_ge m k with hlt | hge
   ·exact hlt
   ·exact absurd (hclosed m hl k (ho.2 (by omega))) hk
 have hord:∀ m om t,m ≠ k→ops[m]?=some om→om.dst=some t→o.dst=some t→(m < k ↔ L m):=fun m om t h1 h2 h3 h4=>ordL m h1 (G.slots m k om o t h1 h2 e1 h3 (.inr h4))
 have hslot:∀ t,t ∈ o.looksAt ops→s.env.getD t .undef=(f k).env.getD t .undef:=by
  intro t ht
  obtain ⟨c,h1,h2,h3,h4⟩:=M.cutE t
  rw [h3]
  refine S.sameE h1 h2 hb (by omega) fun m om q1 q2 q3 q4=>?_
  rw [h4 m om q1 q2 q3 q4]
  by_cases hmk:m=k
  ·subst hmk; simp [hk]
  ·exact (ordL m hmk (G.slots m k om o t hmk q3 e1 q4 (.inl ht))).symm
 have hwant:want s.env io.guard=want (f k).env io.guard:=want_congr e3 hslot
 unfold wpOp
 rw [e1]
 simp only
 rcases e4 with ⟨hw,v,H',hv,e5⟩ | ⟨hw,e5⟩
 ·rw [want_spec e3 h (hwant.trans hw),if_pos rfl]
  refine .inl ?_
  have hput:(f (k+1)).env=put (f k).env o.dst v:=by rw [e5,← hdst]
  have hHk:(f (k+1)).H=H':=by rw [e5]
  have hshk:∀ id z,hget (f k).H id=some z→∃ z',s.H[id]?=some (some z')∧z'.e=z.e∧z'.els.length=z.els.length:=by
   intro id z hz
   obtain ⟨q1,q2⟩:=hget_lt hz
   have r1:=S.shape hb (Nat.le_of_lt he) (Nat.le_refl _) q2
   rw [q1] at r1
   obtain ⟨y,r2,r3,r4⟩:=r1.some_r
   have r5:=M.shape id
   rw [r2] at r5
   obtain ⟨x,r6,r7,r8⟩:=r5.some_l
   exact ⟨x,r6,r7.trans r3.symm,r8.trans r4.symm⟩
  have hgets:∀ {H:Heap} {id:Nat} {z:Blk},H[id]?=some (some z)→hget H id=some z:=by
   intro H id z hz; simp [hget,hz]
  have hO:OpsOk w bad (dead s.H) ρ a (evO (f k).env) o.op.operands.toList:=by
   intro x hx y hy
   have h1:=evO_rep h o.op.operands.toList x hx y hy
   have:evO (f k).env y=evO s.env y:=by
    cases y with
    | v _=>rfl
    | t t =>
      have hxt:x=.tmp t:=by
       cases x with
       | tmp t'=>simp [cOpd] at hy; rw [hy]
       | const u=>cases hu:cv u <;> simp [cOpd,hu] at hy
       | global g=>simp [cOpd] at hy
       | func g=>simp [cOpd] at hy
      subst hxt
      exact (hslot t (by simp only [Oper.looksAt,List.mem_append,List.mem_filterMap]; exact .inl ⟨.tmp t,hx,rfl⟩)).symm
   rw [this]; exact h1
  have htc:∀ id ∈ touch (evO (f k).env) (f k).H io.op,∀ z,hget (f k).H id=some z→ρ id ≠ .no→hget s.H id=some z:=by
   intro id hid z hz hn
   obtain ⟨q1,q2⟩:=hget_lt hz
   obtain ⟨c,h1,h2,h3,h4,h5⟩:=M.cutH id hn
   have:(f c).H[id]?=(f k).H[id]?:=by
    refine S.sameH h1 h2 hb (by omega) h3 q2 fun m r1 r2 r3=>?_
    rw [h5 m r1 r2 r3]
    by_cases hmk:m=k
    ·subst hmk; simp [hk]
    ·obtain ⟨im,t1,t2,t3,t4⟩:=r3
     exact (ordL m hmk (G.mem m k im io id hmk t1 e2 t2 hw t3 t4 hid)).symm
   exact hgets (h4.trans (this.trans q1))
  have hdd:∀ id,dead s.H id→hget (f k).H id=none:=by
   intro id hd
   cases hz:hget (f k).H id with
   | none=>rfl
   | some z =>
     obtain ⟨z',q,_⟩:=hshk id z hz
     simp only [dead] at hd
     rw [hd] at q; cases q
  have hupd:storeOp io.op=false→∀ id,¬ Upd ios f k id:=by
   rintro hs id ⟨im,t1,t2,t3,t4⟩
   rw [e2] at t1; cases t1
   rw [hs] at t3; cases t3
  obtain ⟨g1,g2⟩:=fullK_not (hnf io e2)
  rw [g2,cond_false] at hv
  have hfin:=op_drawn (ev:=evO (f k).env) hop hcall g1 hbad h.heap h.low hO (fun id z hz=>let ⟨z',q1,q2,q3⟩:=hshk id z hz; ⟨z',hgets q1,q3⟩) (fun id z hz=>let ⟨z',q1,q2,q3⟩:=hshk id z hz; ⟨z',hgets q1,q2⟩) htc hdd (fun _=>rfl) hv
  have hnoR:∀ Z:Heap,(f (k+1)).H=(f k).H ++ Z→∀ i,(f k).H.length≤i→i < (f k).H.length+Z.length→ρ i=.no:=by
   intro Z hZ i i1 i2
   have hlz:(f (k+1)).H.length=(f k).H.length+Z.length:=by rw [hZ]; simp
   cases hx:ρ i with
   | no=>rfl
   | _ =>
     exfalso
     rcases M.made i (by simp [hx]) with h' | ⟨m,r1,r2,r3,r4,r5⟩
     ·have:=S.mono (Nat.le_refl b) hb (by omega); omega
     ·have hmk:m ≠ k:=fun hh=>hk (hh ▸ r3)
      rcases Nat.lt_or_ge m k with hlt | hge
      ·have:=S.mono (c:=m+1) (k:=k) (by omega) (by omega) (by omega); omega
      ·have:=S.mono (c:=k+1) (k:=m) (by omega) (by omega) (by omega); omega
  have hshZ:∀ Z:Heap,(f (k+1)).H=(f k).H ++ Z→∀ i,(f k).H.length≤i→i < (f k).H.length+Z.length→ShEq s.H[i]? (Z[i - (f k).H.length]?):=by
   intro Z hZ i i1 i2
   have hlz:(f (k+1)).H.length=(f k).H.length+Z.length:=by rw [hZ]; simp
   have hsx:=S.shape (c:=k+1) (k:=e) (id:=i) (by omega) (by omega) (Nat.le_refl _) (by omega)
   rw [hZ,List.getElem?_append_right i1] at hsx
   exact (M.shape i).trans hsx.symm
  rcases hfin with ⟨⟨cv,hr,hrep⟩,hH,hst⟩ | ⟨z,hm,hH,hst⟩ | ⟨id,z,z',w',q1,q2,q3,q4,hH,q5,q6,q7,q8,q9,q10⟩ | ⟨hst,_,Z,hH,vs,g,hr,hres⟩
  ·unfold Oper.wp
   rw [hr]
   exact hK _ _ ρ _ (put_sim o.dst h (Step.refl _ _ _) h.heap hrep) (M.same S hb he e1 hput hord (hupd hst))
  ·obtain ⟨cv,w',cur,fz,cap,hr,h1,h2,h3,⟨h4,h5,h6⟩,h7,h8,h9,h10,h11,h12,h13⟩:=hm
   have hHH:(f (k+1)).H=(f k).H ++ [some z]:=hHk.trans hH
   have hno:ρ (f k).H.length=.no:=hnoR _ hHH _ (Nat.le_refl _) (by simp)
   have hsn:=hshZ _ hHH _ (Nat.le_refl _) (by simp)
   simp only [Nat.sub_self,List.getElem?_cons_zero] at hsn
   obtain ⟨y2,hy2,_,_⟩:=hsn.some_l
   have hlts:(f k).H.length < s.H.length:=(List.getElem?_eq_some_iff.mp hy2).1
   obtain ⟨ρ',hρ',st,hR⟩:=alloc_upd (H':=s.H.set (f k).H.length (some z)) h.heap h.low hno (List.getElem?_set_self hlts) (fun i hi _=>List.getElem?_set_ne (Ne.symm hi)) (fun i hi=>by
    have:i ≠ (f k).H.length:=by rintro rfl; rw [hy2] at hi; cases hi
    rw [List.getElem?_set_ne (Ne.symm this)]; exact hi) h1 h2 h3 h4 h5 h6 h7 h8 h9 h10 h11 h12
   have hM':Mix ops ios f b e (fun m=>L m ∨ m=k) ρ' ⟨put s.env o.dst v,s.H.set (f k).H.length (some z)⟩:=by
    refine M.makes S hb he e1 hput hHH hord (hupd hst) (hnoR _ hHH) (fun i z' hz=>?_) (fun i hi=>?_) (fun i hi=>?_)
    ·cases i with
     | zero=>simp only [List.getElem?_cons_zero,Option.some.injEq] at hz; subst hz; exact List.getElem?_set_self hlts
     | succ i=>simp at hz
    ·exact List.getElem?_set_ne (by simp at hi; omega)
    ·subst hρ'
     have:i ≠ (f k).H.length:=by simp at hi; omega
     simp [this]
   unfold Oper.wp
   rw [hr]
   refine hK _ _ ρ' _ (put_sim (v:=v) o.dst h st hR ?_) hM'
   rcases h13 with ⟨rfl,rfl⟩ | ⟨n,c,rfl,q1,q2,rfl⟩
   ·have:=Rep.ptr (w:=w') (bad:=bad) (D:=dead (s.H.set (f k).H.length (some z))) (ρ:=ρ') (id:=(f k).H.length) (i:=0) (j:=0) (b:=w.heap.size) (es:=z.e.es) (cap:=cap) (by subst hρ'; simp)
    simpa using this
   ·have:=Rep.slc (w:=w') (bad:=bad) (D:=dead (s.H.set (f k).H.length (some z))) (ρ:=ρ') (id:=(f k).H.length) (o:=0) (n:=n) (c:=c) (b:=w.heap.size) (es:=z.e.es) (cap:=cap) (by subst hρ'; simp) (by omega) q1
    simpa using this
  ·obtain ⟨st,hR⟩:=q8 _ rfl
   unfold Oper.wp
   rw [q9]
   subst q7
   refine hK _ _ ρ _ (put_sim (v:=.undef) o.dst h st hR (.frz (.undef _))) (M.stores S hb he e1 hput (hHk.trans hH) (hget_lt q2).2 hord ?_ ?_ q1 q3 q4 q10)
   ·rintro id' ⟨im,t1,t2,t3,t4⟩
    rw [e2] at t1; cases t1
    unfold tchAt at t4
    rw [q5] at t4
    simpa using t4
   ·rintro m hmk ⟨im,t1,t2,t3,t4⟩
    exact ordL m hmk (G.mem m k im io id hmk t1 e2 t2 hw t3 t4 (by unfold tchAt; rw [q5]; simp))
  ·have hHH:(f (k+1)).H=(f k).H ++ Z:=hHk.trans hH
   have hno:=hnoR _ hHH
   have hsh:=hshZ _ hHH
   generalize hn:(f k).H.length=n at *
   have hlen:0 < Z.length→n+Z.length≤s.H.length:=by
    intro h0
    have:=hsh (n+Z.length - 1) (by omega) (by omega)
    rcases Nat.lt_or_ge (n+Z.length - 1) s.H.length with h' | h'
    ·omega
    ·have h2:=this.none_iff.mp (List.getElem?_eq_none h')
     rw [List.getElem?_eq_none_iff] at h2
     omega
   obtain ⟨G',hG1,hG2⟩:∃ G':Heap,(∀ (i:Nat) (z:Option Blk),Z[i]?=some z→G'[n+i]?=some z)∧(∀ i:Nat,¬ (n≤i∧i < n+Z.length)→G'[i]?=s.H[i]?):=by
    rcases Nat.eq_zero_or_pos Z.length with h0 | h0
    ·have:Z=[]:=List.eq_nil_of_length_eq_zero h0
     subst this
     exact ⟨s.H,fun i z hz=>by simp at hz,fun i _=>rfl⟩
    ·have hl:=hlen h0
     refine ⟨s.H.take n ++ (Z ++ s.H.drop (n+Z.length)),fun i z hz=>?_,fun i hi=>?_⟩
     ·have hi:=(List.getElem?_eq_some_iff.mp hz).1
      rw [List.getElem?_append_right (by simp; omega),List.length_take,show n+i - min n s.H.length=i by omega,List.getElem?_append_left hi]; exact hz
     ·rcases Nat.lt_or_ge i n with h' | h'
      ·rw [List.getElem?_append_left (by simp; omega),List.getElem?_take,if_pos h']
      ·rw [List.getElem?_append_right (by simp; omega),List.length_take,List.getElem?_append_right (by omega),List.getElem?_drop]
       congr 1; omega
   have hfit:Fits n Z ρ s.H G':=by
    refine ⟨hno,hG1,fun i hi _=>hG2 i hi,fun i hd=>?_⟩
    by_cases hi:n≤i∧i < n+Z.length
    ·have:=hsh i hi.1 hi.2
     simp only [dead] at *
     rw [hd] at this
     have hz:=this.dead.mp rfl
     have:=hG1 _ _ hz
     rwa [show n+(i - n)=i by omega] at this
    ·simp only [dead] at *
     rw [hG2 i hi]; exact hd
   unfold Oper.wp
   rw [hr]
   have fin:∀ cv w' (ρ':Rho),(∀ i,¬ (n≤i∧i < n+Z.length)→ρ' i=ρ i)→Step w w' (dead s.H) (dead G') ρ ρ'→HRel w' bad ρ' B G'→Rep w' bad (dead G') ρ' v cv→K (a.put o.dst cv) w':=by
    intro cv w' ρ' h1 st hR hrep
    refine hK _ _ ρ' ⟨put s.env o.dst v,G'⟩ (put_sim o.dst h st hR hrep) ?_
    subst hn
    exact M.makes S hb he e1 hput hHH hord (hupd hst) hno hG1 hG2 h1
   rcases hres G' hfit with ⟨cv,w',h1,ρ',h2,st,hR,hrep⟩ | ⟨h1,h2⟩
   ·rw [h1]
    exact fin cv w' ρ' h2 st hR hrep
   ·rw [h1]
    refine h2.mono ?_
    rintro ex w' ⟨cv,rfl,ρ',h2,st,hR,hrep⟩
    exact fin cv w' ρ' h2 st hR hrep
 ·rw [want_spec e3 h (hwant.trans hw),if_neg (by simp)]
  have hput:(f (k+1)).env=put (f k).env o.dst (.tup []):=by rw [e5,← hdst]
  refine hK _ _ ρ _ (skip_sim o.dst h) (M.same S hb he e1 hput hord ?_)
  rintro id ⟨im,t1,t2,t3,t4⟩
  rw [e2] at t1; cases t1
  rw [hw] at t2; cases t2
end
end Go.Proofs.Ytffiilnmfmkpmaa.AE

namespace Go.Proofs.Ytffiilnmfmkpmaa.AE
set_option linter.unusedVariables false
set_option linter.unusedSimpArgs false
set_option linter.constructorNameAsVariable false
open Go Go.RowKit

theorem predsOf_len:∀ (l:List Oper) (acc:List Nat),(predsOf l acc).length=acc.length+l.length
 | [],acc=>by simp [predsOf]
 | o::l,acc=>by
   rw [predsOf,predsOf_len l]
   simp; omega
theorem predsOf_old:∀ (l:List Oper) (acc:List Nat) (k:Nat),k < acc.length→(predsOf l acc).getD k 0=acc.getD k 0
 | [],acc,k,_=>by simp [predsOf]
 | o::l,acc,k,h=>by
   rw [predsOf,predsOf_old l _ k (by simp; omega)]
   simp only [List.getD_eq_getElem?_getD,List.getElem?_append_left h]

theorem fold_bits (g:Nat→Nat):∀ (l:List _) (m i:Nat),(l.foldl (fun m (e:Edge)=>if Region.binds .any e then m ||| 2 ^ e.on ||| g e.on else m) m).testBit i=true →
 m.testBit i=true ∨ ∃ e ∈ l,Region.binds .any e=true∧(i=e.on ∨ (g e.on).testBit i=true)
 | [],m,i,h=>.inl h
 | e::l,m,i,h=>by
   simp only [List.foldl_cons] at h
   rcases fold_bits g l _ i h with h | ⟨e',h1,h2⟩
   ·split at h
    ·rename_i hb
     simp only [Nat.testBit_or,Bool.or_eq_true,Nat.testBit_two_pow,decide_eq_true_eq] at h
     rcases h with (h | h) | h
     ·exact .inl h
     ·exact .inr ⟨e,by simp,hb,.inl h.symm⟩
     ·exact .inr ⟨e,by simp,hb,.inr h⟩
    ·exact .inl h
   ·exact .inr ⟨e',by simp [h1],h2⟩

theorem predsOf_bits:∀ (l:List Oper) (acc:List Nat) (k i:Nat) (o:Oper),l[k]?=some o→((predsOf l acc).getD (acc.length+k) 0).testBit i=true→∃ e ∈ o.after.toList,Region.binds .any e=true∧(i=e.on ∨ (((predsOf l acc).getD e.on 0).testBit i=true))
 | [],acc,k,i,o,h,_=>by simp at h
 | p::l,acc,k,i,o,h,hb=>by
   rw [predsOf] at hb ⊢
   generalize hx:p.after.toList.foldl (fun m e=>if Region.binds .any e then m ||| 2 ^ e.on ||| acc.getD e.on 0 else m) 0=x at hb
   cases k with
   | zero =>
     simp only [List.getElem?_cons_zero,Option.some.injEq] at h
     subst h
     rw [predsOf_old l _ _ (by simp)] at hb
     have:(acc ++ [x]).getD (acc.length+0) 0=x:=by simp [List.getD_eq_getElem?_getD]
     rw [this,← hx] at hb
     rcases fold_bits (fun n=>acc.getD n 0) _ _ _ hb with h | ⟨e,h1,h2,h3⟩
     ·simp at h
     ·refine ⟨e,h1,h2,h3.imp (fun x=>x) fun h3=>?_⟩
      have hlt:e.on < acc.length:=by
       rcases Nat.lt_or_ge e.on acc.length with h' | h'
       ·exact h'
       ·simp [List.getD_eq_getElem?_getD,List.getElem?_eq_none h'] at h3
      rw [predsOf_old l _ _ (by simp; omega)]
      simp only [List.getD_eq_getElem?_getD,List.getElem?_append_left hlt] at h3 ⊢
      exact h3
   | succ k =>
     simp only [List.getElem?_cons_succ] at h
     have:=predsOf_bits l (acc ++ [x]) k i o h (by rw [show (acc ++ [x]).length+k=acc.length+(k+1) by simp; omega]; exact hb)
     exact this

theorem next_full (ios:List IOper) (ps:List Nat) (n:Nat):∀ d b:Nat,n - b=d→b≤n→∃ e,b≤e∧e≤n∧(∀ k io,b≤k→k < e→ios[k]?=some io→fullK ios ps k io=false)∧(e=n ∨ ∃ io,ios[e]?=some io∧fullK ios ps e io=true)
 | 0,b,h,hb=>⟨b,Nat.le_refl _,hb,fun k io h1 h2=>by omega,.inl (by omega)⟩
 | d+1,b,h,hb=>by
   by_cases hf:∃ io,ios[b]?=some io∧fullK ios ps b io=true
   ·exact ⟨b,Nat.le_refl _,hb,fun k io h1 h2=>by omega,.inr hf⟩
   ·obtain ⟨e,h1,h2,h3,h4⟩:=next_full ios ps n d (b+1) (by omega) (by omega)
    refine ⟨e,by omega,h2,fun k io q1 q2 q3=>?_,h4⟩
    by_cases hk:k=b
    ·subst hk
     cases hx:fullK ios ps k io
     ·rfl
     ·exact absurd ⟨io,q3,hx⟩ hf
    ·exact h3 k io (by omega) q2 q3

def open_ (listed:Array Bool):Nat:=listed.toList.countP (·=false)

theorem open_set {listed:Array Bool} {i:Nat} (h:listed.getD i true=false):open_ (listed.setIfInBounds i true)+1=open_ listed:=by
 have hlt:i < listed.size:=by
  rcases Nat.lt_or_ge i listed.size with h' | h'
  ·exact h'
  ·simp [Array.getElem?_eq_none h'] at h
 have hv:listed.toList[i]=false:=by
  have:listed[i]=false:=by simpa [hlt] using h
  simpa using this
 unfold open_
 rw [Array.toList_setIfInBounds,List.countP_set (h:=by simpa using hlt)]
 have hpos:0 < listed.toList.countP (fun x=>decide (x=false)):=List.countP_pos_iff.mpr ⟨false,by rw [← hv]; exact List.getElem_mem _,by simp⟩
 have h1:(if (decide (listed.toList[i]=false))=true then 1 else 0)=1:=by rw [hv]; rfl
 have h2:(if (decide (true=false))=true then 1 else 0)=0:=rfl
 simp only [h1,h2]
 omega

theorem open_zero {listed:Array Bool} (h:open_ listed=0) (i:Nat):listed.getD i true=true:=by
 unfold open_ at h
 rw [List.countP_eq_zero] at h
 rcases Nat.lt_or_ge i listed.size with hlt | hge
 ·have:=h listed[i] (by simp)
  simp [hlt]
  simpa using this
 ·simp [Array.getElem?_eq_none hge]

section
variable {P:Program} {call callP:CallF} {ops:Array Oper} {ios:List IOper} {ps:List Nat} {f:Nat→St} {b e:Nat}
variable {w w0:World} {bad D0:Nat→Prop} {ρ ρ0:Rho} {a:Act} {B:Nat} {s:St} {Q:Exit→Act→World→Prop}

theorem getD_set {listed:Array Bool} {i m:Nat} (hi:i < listed.size):(listed.setIfInBounds i true).getD m false=true ↔ (listed.getD m false=true ∨ m=i):=by
 by_cases h:m=i
 ·subst h; simp [hi]
 ·simp [Array.getElem?_setIfInBounds_ne (Ne.symm h),h]

theorem drawn_main (G:Glob P call callP ops ios (predsOf ops.toList []) f) (hcall1:CallOK P call) (hcall:PCallOK P callP) (hbad:∀ b,bad b→b < B) (hed:edgesOk ops=true) (hsz:ios.length=ops.size) (hQ:∀ a w ρ,Sim w0 D0 ρ0 bad B ρ (f ops.size) a w→Q .normal a w) :
 ∀ (fuel:Nat) (b e:Nat) (listed:Array Bool) (ρ:Rho) (s:St) (a:Act) (w:World),listed.size=ops.size→open_ listed≤fuel→b≤e→e≤ops.size→(∀ k io,b≤k→k < e→ios[k]?=some io→fullK ios (predsOf ops.toList []) k io=false)→(e=ops.size ∨ ∃ io,ios[e]?=some io∧fullK ios (predsOf ops.toList []) e io=true) →
   (∀ k,k < b→listed.getD k false=true)→(∀ k,e≤k→listed.getD k false=false)→(∀ m,listed.getD m false=true→∀ i,((predsOf ops.toList []).getD m 0).testBit i=true→listed.getD i false=true) →
   Sim w0 D0 ρ0 bad B ρ s a w→Mix ops ios f b e (fun m=>listed.getD m false=true) ρ s→wpAny P .any ops Q fuel listed a w:=by
 intro fuel
 induction fuel with
 | zero =>
   intro b e listed ρ s a w hls hop hbe hen hnf hfe hlo hhi hcl h M
   have hall:=open_zero (Nat.le_zero.mp hop)
   have hall2:∀ k,k < ops.size→listed.getD k false=true:=by
    intro k hk
    have:=hall k
    simpa [hls ▸ hk] using this
   have heq:e=ops.size:=by
    rcases hfe with h' | ⟨io,h1,_⟩
    ·exact h'
    ·have hlt:e < ops.size:=by rw [← hsz]; exact (List.getElem?_eq_some_iff.mp h1).1
     have:=hall2 e hlt
     rw [hhi e (Nat.le_refl _)] at this; cases this
   refine ⟨?_,?_⟩
   ·cases hr:Region.ready .any ops listed with
    | nil=>rfl
    | cons j l =>
      have hj:j ∈ Region.ready .any ops listed:=by rw [hr]; simp
      have:=(mem_ready.1 hj).1
      rw [hall j] at this; cases this
   ·have S:=G.stretch hcall hbe hen hnf
    have:=end_mix S M h (fun m _ h2=>hall2 m (by omega))
    rw [heq] at this
    exact hQ _ _ _ this
 | succ fuel ih =>
   intro b e listed ρ s a w hls hop hbe hen hnf hfe hlo hhi hcl h M
   have S:=G.stretch hcall hbe hen hnf
   have hedge:∀ (k:Nat) (o:Oper),ops[k]?=some o→∀ x ∈ o.after,Region.binds .any x=true→x.on < k:=by
    intro k o ho x hx hb
    have:=List.all_eq_true.mp hed (o,k) (by rw [List.mem_zipIdx_iff_getElem?]; simpa using ho)
    have:=List.all_eq_true.mp this x (by simpa using hx)
    simpa [hb] using this
   refine ⟨fun hnil=>?_,fun i hi=>?_⟩
   ·have hall2:∀ k,k < ops.size→listed.getD k false=true:=by
     intro k
     induction k using Nat.strongRecOn with
     | _ k ihk =>
       intro hk
       cases hx:listed.getD k false with
       | true=>rfl
       | false =>
         exfalso
         have:k ∈ Region.ready .any ops listed:=mem_ready.2 ⟨by simpa [hls ▸ hk] using hx,ops[k],by simp [hk],fun x hx hb=>by
          have hlt:=hedge k ops[k] (by simp [hk]) x hx hb
          exact ihk x.on hlt (by omega)⟩
         rw [hnil] at this
         simp at this
    have heq:e=ops.size:=by
     rcases hfe with h' | ⟨io,h1,_⟩
     ·exact h'
     ·have hlt:e < ops.size:=by rw [← hsz]; exact (List.getElem?_eq_some_iff.mp h1).1
      have:=hall2 e hlt
      rw [hhi e (Nat.le_refl _)] at this; cases this
    have:=end_mix S M h (fun m _ h2=>hall2 m (by omega))
    rw [heq] at this
    exact hQ _ _ _ this
   ·obtain ⟨hi0,o,ho,haft⟩:=mem_ready.1 hi
    have hlt:i < ops.size:=(Array.getElem?_eq_some_iff.1 ho).1
    have hlt':i < listed.size:=hls ▸ hlt
    have hi1:listed.getD i false=false:=by simpa [hlt'] using hi0
    have hb:b≤i:=by
     rcases Nat.lt_or_ge i b with h' | h'
     ·rw [hlo i h'] at hi1; cases hi1
     ·exact h'
    have hready:∀ m,((predsOf ops.toList []).getD i 0).testBit m=true→listed.getD m false=true:=by
     intro m hm
     obtain ⟨x,h1,h2,h3⟩:=predsOf_bits ops.toList [] i m o (by simpa using ho) (by simpa using hm)
     have hl:=haft x (by simpa using h1) h2
     rcases h3 with rfl | h3
     ·exact hl
     ·exact hcl x.on hl m h3
    have hop':open_ (listed.setIfInBounds i true)≤fuel:=by have:=open_set hi0; omega
    have hcl':∀ m,(listed.setIfInBounds i true).getD m false=true→∀ j,((predsOf ops.toList []).getD m 0).testBit j=true→(listed.setIfInBounds i true).getD j false=true:=by
     intro m hm j hj
     rw [getD_set hlt'] at hm ⊢
     rcases hm with hm | rfl
     ·exact .inl (hcl m hm j hj)
     ·exact .inl (hready j hj)
    have hfun:(fun m=>listed.getD m false=true ∨ m=i)=fun m=>(listed.setIfInBounds i true).getD m false=true:=by
     funext m
     exact propext (getD_set hlt').symm
    rcases Nat.lt_or_ge i e with hie | hie
    ·refine seg_step G S hcall hbad hb hie (fun io hio=>hnf i io hb hie hio) (by simp [hi1]) hready hcl h M fun a' w' ρ' s' h' M'=>?_
     rw [hfun] at M'
     refine ih b e _ ρ' s' a' w' (by simpa using hls) hop' hbe hen hnf hfe (fun k hk=>(getD_set hlt').mpr (.inl (hlo k hk))) (fun k hk=>?_) hcl' h' M'
     cases hx:(listed.setIfInBounds i true).getD k false with
     | false=>rfl
     | true =>
       rcases (getD_set hlt').mp hx with h1 | h1
       ·rw [hhi k hk] at h1; cases h1
       ·omega
    ·obtain ⟨fio,hf1,hf2⟩:=hfe.resolve_left (by omega)
     have hei:e=i:=by
      rcases Nat.lt_or_ge e i with h' | h'
      ·have hor:=G.full i e fio (by omega) hlt hf1 hf2
       have:=hready e (hor.2 h')
       rw [hhi e (Nat.le_refl _)] at this; cases this
      ·omega
     subst hei
     have hsim:=end_mix S M h fun m h1 h2=>hready m ((G.full m e fio (by omega) (by omega) hf1 hf2).1 h2)
     obtain ⟨o',io,e1,e2,e3,e4⟩:=G.at_ e hlt
     rw [ho] at e1; cases e1
     obtain ⟨hopp,hdst⟩:=cOper_op e3
     have next:∀ a' w' ρ',Sim w0 D0 ρ0 bad B ρ' (f (e+1)) a' w'→wpAny P .any ops Q fuel (listed.setIfInBounds e true) a' w':=by
      intro a' w' ρ' h'
      obtain ⟨e',q1,q2,q3,q4⟩:=next_full ios (predsOf ops.toList []) ops.size _ (e+1) rfl hlt
      have S':=G.stretch hcall q1 q2 q3
      have hoff:∀ k,e+1≤k→(listed.setIfInBounds e true).getD k false=false:=by
       intro k hk
       cases hx:(listed.setIfInBounds e true).getD k false with
       | false=>rfl
       | true =>
         rcases (getD_set hlt').mp hx with h1 | h1
         ·rw [hhi k (by omega)] at h1; cases h1
         ·omega
      obtain ⟨s',h2,M'⟩:=start_mix S' h' (L:=fun m=>(listed.setIfInBounds e true).getD m false=true) (fun m h1 _ h3=>by rw [hoff m h1] at h3; cases h3)
      refine ih (e+1) e' _ ρ' s' a' w' (by simpa using hls) hop' q1 q2 q3 q4 (fun k hk=>(getD_set hlt').mpr ?_) (fun k hk=>hoff k (by omega)) hcl' h2 M'
      by_cases hke:k=e
      ·exact .inr hke
      ·exact .inl (hready k ((G.full k e fio hke (by omega) hf1 hf2).1 (by omega)))
     unfold wpOp
     rw [ho]
     simp only
     rcases e4 with ⟨hw,v,H',hv,e5⟩ | ⟨hw,e5⟩
     ·rw [want_spec e3 hsim hw,if_pos rfl]
      have hc2:CallOK P (bif isFull (chkOf ios (predsOf ops.toList []) e io) then call else callP):=by
       cases isFull (chkOf ios (predsOf ops.toList []) e io)
       ·exact hcall.call
       ·exact hcall1
      refine .inl (op_step hopp hc2 hbad hsim hv fun a' w' ρ' h'=>next _ _ ρ' ?_)
      rw [e5,hdst]; exact h'
     ·rw [want_spec e3 hsim hw,if_neg (by simp)]
      refine next _ _ ρ ?_
      rw [e5,hdst]
      exact skip_sim o.dst hsim

theorem Sim.draw (h:Sim w0 D0 ρ0 bad B ρ s a w):Sim w0 D0 ρ0 bad B ρ s a { w with drawn:=w.drawn+1 }:=by
 have st:Step w { w with drawn:=w.drawn+1 } (dead s.H) (dead s.H) ρ ρ:=⟨⟨rfl,rfl,rfl,Nat.le_refl _,fun _ _ _=>rfl⟩,RLe.refl _ _,fun _ h=>h,fun _ _=>.inl rfl⟩
 refine ⟨h.defers,h.size,fun t ht=>(h.env t ht).step st,⟨fun id b es cap hid=>?_,h.heap.virt,h.heap.inj,h.heap.res⟩,h.low,h.st.trans st⟩
 obtain ⟨k,hk,hb⟩:=h.heap.real id b es cap hid
 exact ⟨k,hk,hb.step st rfl⟩
end

theorem draw_lawD {P:Program} {call callP:CallF} (hcall1:CallOK P call) (hcall:PCallOK P callP):DrawD P call callP:=by
 intro ops ios id hc hd he hns hmo w w0 bad D0 ρ ρ0 a B s s' Q hbad h hr hq
 obtain ⟨f,h0,h1,G⟩:=glob_of hc hd hr
 have hsz:ios.length=ops.size:=by simpa using (optAll_spec hc).1
 refine wp_region_any hmo ?_
 obtain ⟨e,q1,q2,q3,q4⟩:=next_full ios (predsOf ops.toList []) ops.size _ 0 rfl (Nat.zero_le _)
 have hoff:∀ k,(Array.replicate ops.size false).getD k false=false:=by
  intro k
  rcases Nat.lt_or_ge k ops.size with h | h
  ·simp [h]
  ·simp [Array.getElem?_eq_none (xs:=Array.replicate ops.size false) (by simpa using h)]
 have S:=G.stretch hcall q1 q2 q3
 obtain ⟨s1,h2,M⟩:=start_mix S (h0 ▸ h.draw) (L:=fun m=>(Array.replicate ops.size false).getD m false=true) (fun m _ _ h3=>by rw [hoff m] at h3; cases h3)
 refine drawn_main G hcall1 hcall hbad he hsz (fun a w ρ hs=>hq _ _ ρ (h1 ▸ hs)) ops.size 0 e _ ρ s1 a _ (by simp) ?_ q1 q2 q3 q4 (fun k hk=>by omega) (fun k _=>hoff k) (fun m hm=>by rw [hoff m] at hm; cases hm) h2 M
 unfold open_
 exact Nat.le_trans List.countP_le_length (by simp)

end Go.Proofs.Ytffiilnmfmkpmaa.AE

namespace Go.Proofs.Ytffiilnmfmkpmaa.AE
set_option linter.unusedVariables false
set_option linter.unusedSimpArgs false
set_option linter.constructorNameAsVariable false
open Go Go.RowKit

mutual
theorem eqAV_ok:∀ (a b:AV),eqAV a b=true→a=b
 | .int k n,b,h=>by cases b <;> simp [eqAV] at h ⊢; exact h
 | .bool x,b,h=>by cases b <;> simp [eqAV] at h ⊢; exact h
 | .str x,b,h=>by cases b <;> simp [eqAV] at h ⊢; exact h
 | .nilp,b,h=>by cases b <;> simp [eqAV] at h ⊢
 | .zsl x,b,h=>by cases b <;> simp [eqAV] at h ⊢; exact h
 | .ptr i j k,b,h=>by cases b <;> simp [eqAV] at h ⊢; exact ⟨h.1.1,h.1.2,h.2⟩
 | .slc i j k,b,h=>by cases b <;> simp [eqAV] at h ⊢; exact ⟨h.1.1,h.1.2,h.2⟩
 | .lst l,b,h=>by cases b <;> simp [eqAV] at h ⊢; exact eqAVs_ok _ _ h
 | .fptr v j,b,h=>by cases b <;> simp [eqAV] at h ⊢; exact ⟨eqAV_ok _ _ h.1,h.2⟩
 | .agg l,b,h=>by cases b <;> simp [eqAV] at h ⊢; exact eqAVs_ok _ _ h
 | .tup l,b,h=>by cases b <;> simp [eqAV] at h ⊢; exact eqAVs_ok _ _ h
 | .fn g x y,b,h=>by cases b <;> simp [eqAV] at h ⊢; exact ⟨h.1.1,eqAVs_ok _ _ h.1.2,eqAVs_ok _ _ h.2⟩
 | .nilf,b,h=>by cases b <;> simp [eqAV] at h ⊢
 | .undef,b,h=>by cases b <;> simp [eqAV] at h ⊢
 | .emp,b,h=>by cases b <;> simp [eqAV] at h ⊢
 | .slk i j k,b,h=>by cases b <;> simp [eqAV] at h ⊢; exact ⟨h.1.1,h.1.2,h.2⟩
theorem eqAVs_ok:∀ (a b:List AV),eqAVs a b=true→a=b
 | [],b,h=>by cases b <;> simp [eqAVs] at h ⊢
 | x::l,b,h=>by
   cases b with
   | nil=>simp [eqAVs] at h
   | cons y m =>
     simp only [eqAVs,Bool.and_eq_true] at h
     rw [eqAV_ok _ _ h.1,eqAVs_ok _ _ h.2]
end
mutual
theorem eqAV_r:∀ a:AV,eqAV a a=true
 | .int k n=>by simp [eqAV]
 | .bool x=>by simp [eqAV]
 | .str x=>by simp [eqAV]
 | .nilp=>by simp [eqAV]
 | .zsl x=>by simp [eqAV]
 | .ptr i j k=>by simp [eqAV]
 | .slc i j k=>by simp [eqAV]
 | .lst l=>by simp [eqAV,eqAVs_r l]
 | .fptr v j=>by simp [eqAV,eqAV_r v]
 | .agg l=>by simp [eqAV,eqAVs_r l]
 | .tup l=>by simp [eqAV,eqAVs_r l]
 | .fn g x y=>by simp [eqAV,eqAVs_r x,eqAVs_r y]
 | .nilf=>by simp [eqAV]
 | .undef=>by simp [eqAV]
 | .emp=>by simp [eqAV]
 | .slk i j k=>by simp [eqAV]
theorem eqAVs_r:∀ a:List AV,eqAVs a a=true
 | []=>by simp [eqAVs]
 | x::l=>by simp [eqAVs,eqAV_r x,eqAVs_r l]
end
theorem eqBlk_ok {a b:Blk} (h:eqBlk a b=true):a=b:=by
 obtain ⟨⟨t,e,g,by',z⟩,l⟩:=a
 obtain ⟨⟨t',e',g',by'',z'⟩,l'⟩:=b
 simp only [eqBlk,Bool.and_eq_true,decide_eq_true_eq] at h
 obtain ⟨⟨⟨⟨⟨h1,h2⟩,h3⟩,h4⟩,h5⟩,h6⟩:=h
 rw [h1,h2,h3,h4,eqAV_ok _ _ h5,eqAVs_ok _ _ h6]
theorem eqBlk_r (a:Blk):eqBlk a a=true:=by simp [eqBlk,eqAV_r,eqAVs_r]
theorem keepB_ok {H H':Heap} {id:Nat} (h:keepB H H' id=true):H[id]?=H'[id]?:=by
 unfold keepB at h
 split at h
 ·rename_i a b h1 h2; rw [h1,h2,eqBlk_ok h]
 ·rename_i h1 h2; rw [h1,h2]
 ·rename_i h1 h2; rw [h1,h2]
 ·cases h
theorem keepB_of {H H':Heap} {id:Nat} (h:H[id]?=H'[id]?):keepB H H' id=true:=by
 unfold keepB
 rw [← h]
 cases H[id]? with
 | none=>rfl
 | some x=>cases x with
   | none=>rfl
   | some b=>exact eqBlk_r b
theorem keepL_ok {H H':Heap} {l:List AV} (h:keepL H H' l=true) {v:AV} (hv:v ∈ l) {id:Nat} (hi:id ∈ idsOf v):H[id]?=H'[id]? :=
 keepB_ok (List.all_eq_true.mp (List.all_eq_true.mp h v hv) id hi)

structure TS (call:CallF) (base:Nat) (l:List SOp) (f:Nat→St):Prop where
 step:∀ (k:Nat) (o:SOp),l[k]?=some o→(want (f k).env o.op.guard=some true∧∃ v H',stepS call base o (f k)=some (v,H')∧f (k+1)=⟨put (f k).env o.op.dst v,H'⟩) ∨
  (want (f k).env o.op.guard=some false∧f (k+1)=⟨put (f k).env o.op.dst (.tup []),(f k).H⟩)
 log:∀ (i k:Nat) (a b:SOp),i < k→l[i]?=some a→l[k]?=some b→want (f i).env a.op.guard=some true→want (f k).env b.op.guard=some true→b.chk.contains i=true →
  logC (entS i a (evO (f i).env) (f i).H (f (i+1)).H) b (evO (f k).env) (f k).H (f (k+1)).H=true
 kp:∀ (k:Nat) (o:SOp) (j:Nat),l[k]?=some o→want (f k).env o.op.guard=some true→o.kp.contains j=true→(f k).H[base+j]?=(f (k+1)).H[base+j]?

theorem traceS {call:CallF} {base:Nat}:∀ (l:List SOp) (i:Nat) (log:List LogE) (s s':St),runOpsS call base l i log s=some s' →
 ∃ f:Nat→St,f 0=s∧f l.length=s' ∧
   (∀ (k:Nat) (o:SOp),l[k]?=some o→(want (f k).env o.op.guard=some true∧∃ v H',stepS call base o (f k)=some (v,H')∧f (k+1)=⟨put (f k).env o.op.dst v,H'⟩) ∨
     (want (f k).env o.op.guard=some false∧f (k+1)=⟨put (f k).env o.op.dst (.tup []),(f k).H⟩)) ∧
   (∀ (k:Nat) (b:SOp),l[k]?=some b→want (f k).env b.op.guard=some true →
     (∀ e ∈ log,b.chk.contains e.idx=true→logC e b (evO (f k).env) (f k).H (f (k+1)).H=true) ∧
     (∀ (m:Nat) (a:SOp),m < k→l[m]?=some a→want (f m).env a.op.guard=some true→b.chk.contains (i+m)=true→logC (entS (i+m) a (evO (f m).env) (f m).H (f (m+1)).H) b (evO (f k).env) (f k).H (f (k+1)).H=true) ∧
     ∀ j,b.kp.contains j=true→(f k).H[base+j]?=(f (k+1)).H[base+j]?)
 | [],i,log,s,s',h=>by
   simp only [runOpsS,Option.some.injEq] at h
   exact ⟨fun _=>s,rfl,h,by simp,by simp⟩
 | o::l,i,log,s,s',h=>by
   simp only [runOpsS] at h
   split at h
   ·rename_i hw
    split at h <;> (try (cases h; done))
    rename_i v H' hv
    split at h <;> (try (cases h; done))
    rename_i hok
    simp only [Bool.and_eq_true,List.all_eq_true] at hok
    obtain ⟨hlog,hkp⟩:=hok
    obtain ⟨f,h0,h1,h2,h3⟩:=traceS l (i+1) _ _ s' h
    refine ⟨fun k=>match k with | 0=>s | k+1=>f k,rfl,h1,?_,?_⟩
    ·intro k b hk
     cases k with
     | zero =>
       simp only [List.getElem?_cons_zero,Option.some.injEq] at hk
       subst hk
       exact .inl ⟨hw,v,H',hv,h0⟩
     | succ k =>
       simp only [List.getElem?_cons_succ] at hk
       exact h2 k b hk
    ·intro k b hk hwk
     cases k with
     | zero =>
       simp only [List.getElem?_cons_zero,Option.some.injEq] at hk
       subst hk
       have hH:(f 0).H=H':=by rw [h0]
       refine ⟨fun e he hc=>?_,fun m _ hm=>absurd hm (by omega),fun j hj=>?_⟩
       ·have:=hlog e he
        rw [hc] at this
        simp only [hH]
        simpa using this
       ·simp only [hH]
        exact keepB_ok (hkp j (by simpa using hj))
     | succ k =>
       simp only [List.getElem?_cons_succ] at hk
       obtain ⟨q1,q2,q3⟩:=h3 k b hk hwk
       refine ⟨fun e he=>q1 e (by simp [he]),fun m a hm ha hwm hc=>?_,q3⟩
       cases m with
       | zero =>
         simp only [List.getElem?_cons_zero,Option.some.injEq] at ha
         subst ha
         have hH:(f 0).H=H':=by rw [h0]
         have:=q1 (entS i o (evO s.env) s.H H') (by simp) (by simpa [entS] using hc)
         simp only [hH,Nat.add_zero]
         exact this
       | succ m =>
         simp only [List.getElem?_cons_succ] at ha
         have:=q2 m a (by omega) ha hwm (by rwa [show i+1+m=i+(m+1) by omega])
         rwa [show i+1+m=i+(m+1) by omega] at this
   ·rename_i hw
    obtain ⟨f,h0,h1,h2,h3⟩:=traceS l (i+1) _ _ s' h
    refine ⟨fun k=>match k with | 0=>s | k+1=>f k,rfl,h1,?_,?_⟩
    ·intro k b hk
     cases k with
     | zero =>
       simp only [List.getElem?_cons_zero,Option.some.injEq] at hk
       subst hk
       exact .inr ⟨hw,h0⟩
     | succ k =>
       simp only [List.getElem?_cons_succ] at hk
       exact h2 k b hk
    ·intro k b hk hwk
     cases k with
     | zero =>
       simp only [List.getElem?_cons_zero,Option.some.injEq] at hk
       subst hk
       simp only [hw] at hwk
       cases hwk
     | succ k =>
       simp only [List.getElem?_cons_succ] at hk
       obtain ⟨q1,q2,q3⟩:=h3 k b hk hwk
       refine ⟨fun e he=>q1 e he,fun m a hm ha hwm hc=>?_,q3⟩
       cases m with
       | zero =>
         simp only [List.getElem?_cons_zero,Option.some.injEq] at ha
         subst ha
         simp only [hw] at hwm
         cases hwm
       | succ m =>
         simp only [List.getElem?_cons_succ] at ha
         have:=q2 m a (by omega) ha hwm (by rwa [show i+1+m=i+(m+1) by omega])
         rwa [show i+1+m=i+(m+1) by omega] at this
   ·cases h

theorem ts_of {call:CallF} {base:Nat} {l:List SOp} {s s':St} (h:runOpsS call base l 0 [] s=some s'):∃ f:Nat→St,f 0=s∧f l.length=s'∧TS call base l f:=by
 obtain ⟨f,h0,h1,h2,h3⟩:=traceS l 0 [] s s' h
 refine ⟨f,h0,h1,h2,fun i k a b hik ha hb hwa hwb hc=>?_,fun k o j hk hw hj=>(h3 k o hk hw).2.2 j hj⟩
 have:=(h3 k b hb hwb).2.1 i a hik ha hwa (by simpa using hc)
 simpa using this

/-! One operation, told over memory that agrees where it looks -/
theorem hget_eq {H G:Heap} {id:Nat} (h:H[id]?=G[id]?):hget H id=hget G id:=by unfold hget; rw [h]
theorem lenOf_eq {H G:Heap} {x:AV} (h:∀ id ∈ idsOf x,H[id]?=G[id]?):lenOf H x=lenOf G x:=by
 cases x <;> try rfl
 all_goals
  rename_i id o n
  simp only [lenOf,hget_eq (h id (by simp [idsOf]))]
theorem elsOf_eq {H G:Heap} {x:AV} (h:∀ id ∈ idsOf x,H[id]?=G[id]?):elsOf H x=elsOf G x:=by
 cases x <;> try rfl
 rename_i id o n
 simp only [elsOf,hget_eq (h id (by simp [idsOf]))]
theorem light_op {call:CallF} {ev:Opd→AV} {H H':Heap} {io:IOp} {v:AV} (hl:lightOp io=true) (h:aop call ev H io=some (v,H')) :
 H'=H∧∀ G:Heap,(∀ x ∈ namesOf ev io,∀ id ∈ idsOf x,H[id]?=G[id]?)→aop call ev G io=some (v,G):=by
 cases io <;> simp only [lightOp,Bool.false_eq_true] at hl
 case load ag n a =>
  simp only [aop] at h
  cases hx:aLoad H ag n (ev a) with
  | none=>rw [hx] at h; cases h
  | some y =>
    rw [hx] at h
    simp only [Option.some.injEq,Prod.mk.injEq] at h
    obtain ⟨rfl,rfl⟩:=h
    refine ⟨rfl,fun G hG=>?_⟩
    have:aLoad H ag n (ev a)=aLoad G ag n (ev a):=by
     cases he:ev a <;> try rfl
     rename_i id i j
     have:=hG (ev a) (by simp [namesOf]) id (by simp [he,idsOf])
     simp only [aLoad,hget_eq this]
    simp only [aop,← this,hx]
 case mark x =>
  simp only [aop] at h
  split at h <;> (try (cases h; done))
  rename_i id q n hxv
  split at h <;> (try (cases h; done))
  rename_i k hg
  split at h <;> (try (cases h; done))
  rename_i hne
  simp only [Option.some.injEq,Prod.mk.injEq] at h
  obtain ⟨rfl,rfl⟩:=h
  refine ⟨rfl,fun G hG=>?_⟩
  have:=hget_eq (hG (ev x) (by simp [namesOf]) id (by simp [hxv,idsOf]))
  simp only [aop,hxv,← this,hg,hne]
 case b2s x =>
  have key:∀ G:Heap,(∀ s,ev x ≠ .str s)→aop call ev G (.b2s x)=(match elsOf G (ev x) with
   | some l=>(match b2sL l with
     | some s=>some (.str s,G)
     | none=>none)
   | none=>none):=by
   intro G hn
   simp only [aop]
   generalize ev x=X at hn ⊢
   cases X <;> first | rfl | exact absurd rfl (hn _)
  have hn:∀ s,ev x ≠ .str s:=by
   intro s hs
   simp [aop,hs] at h
  rw [key H hn] at h
  split at h <;> (try (cases h; done))
  rename_i l hl'
  split at h <;> (try (cases h; done))
  rename_i q hq
  simp only [Option.some.injEq,Prod.mk.injEq] at h
  obtain ⟨rfl,rfl⟩:=h
  refine ⟨rfl,fun G hG=>?_⟩
  rw [key G hn,← elsOf_eq (hG (ev x) (by simp [namesOf])),hl']
  simp only [hq]
 case subV es x lo hi mx =>
  simp only [aop] at h
  split at h <;> (try (cases h; done))
  rename_i y hy
  simp only [Option.some.injEq,Prod.mk.injEq] at h
  obtain ⟨rfl,rfl⟩:=h
  refine ⟨rfl,fun G hG=>?_⟩
  have hn:=hG (ev x) (by simp [namesOf])
  have:aSubV H es (ev x) (lo.map ev) (hi.map ev) (mx.map ev)=aSubV G es (ev x) (lo.map ev) (hi.map ev) (mx.map ev):=by
   have hle:=lenOf_eq hn
   generalize ev x=X at hn hle
   unfold aSubV
   rw [← hle]
   cases X <;> try rfl
   rename_i id o n
   have:=hget_eq (hn id (by simp [idsOf]))
   simp only [this]
  simp only [aop,← this,hy]
 case ixAS sh es x i =>
  simp only [aop] at h
  split at h <;> (try (cases h; done))
  rename_i q hq
  split at h <;> (try (cases h; done))
  rename_i y hy
  simp only [Option.some.injEq,Prod.mk.injEq] at h
  obtain ⟨rfl,rfl⟩:=h
  refine ⟨rfl,fun G hG=>?_⟩
  have hn:=hG (ev x) (by simp [namesOf])
  have:aIx H es (ev x) q=aIx G es (ev x) q:=by
   generalize ev x=X at hn
   cases X <;> try rfl
   rename_i id o n
   have:=hget_eq (hn id (by simp [idsOf]))
   simp only [aIx,this]
  simp only [aop,hq,← this,hy]
 case bk b args =>
  cases b
  case lenV =>
   simp only [aop] at h
   split at h <;> (try (cases h; done))
   rename_i x
   split at h <;> (try (cases h; done))
   rename_i n hn
   simp only [Option.some.injEq,Prod.mk.injEq] at h
   obtain ⟨rfl,rfl⟩:=h
   refine ⟨rfl,fun G hG=>?_⟩
   have:=lenOf_eq (hG (ev x) (by simp [namesOf]))
   simp only [aop,← this,hn]
  all_goals
   simp only [aop] at h ⊢
   repeat' (split at h <;> (try (cases h; done)))
   all_goals
    simp only [Option.some.injEq,Prod.mk.injEq] at h
    obtain ⟨rfl,rfl⟩:=h
    refine ⟨rfl,fun G _=>?_⟩
    simp_all
 all_goals
  simp only [aop] at h ⊢
  first
  | (simp only [Option.some.injEq,Prod.mk.injEq] at h
     obtain ⟨rfl,rfl⟩:=h
     exact ⟨rfl,fun G _=>rfl⟩)
  | (repeat' (split at h <;> (try (cases h; done)))
     all_goals
      simp only [Option.some.injEq,Prod.mk.injEq] at h
      obtain ⟨rfl,rfl⟩:=h
      refine ⟨rfl,fun G _=>?_⟩
      simp_all)
end Go.Proofs.Ytffiilnmfmkpmaa.AE

namespace Go.Proofs.Ytffiilnmfmkpmaa.AE
set_option linter.unusedVariables false
set_option linter.unusedSimpArgs false
set_option linter.constructorNameAsVariable false
open Go Go.RowKit

theorem sops_at {ios:List IOper} {ps:List Nat} {k:Nat} {o:SOp} (h:(sopsOf ios ps)[k]?=some o):ios[k]?=some o.op:=by
 simp only [sopsOf,List.getElem?_map,List.getElem?_zipIdx,Nat.zero_add,Option.map_map,Option.map_eq_some_iff] at h
 obtain ⟨a,ha,rfl⟩:=h
 exact ha
theorem sops_len (ios:List IOper) (ps:List Nat):(sopsOf ios ps).length=ios.length:=by simp [sopsOf]

def preB (o:SOp):Blk:=match o.op.op with
 | .alloc e=>⟨e,[e.zero]⟩
 | _=>rjunk
def kindOk (o:SOp):Prop:=(∃ e,o.op.op=.alloc e∧e.es ≠ 0) ∨ (∃ e x,o.op.op=.box e x∧e.bytes ≠ 0) ∨ ∃ e n q,o.op.op=.mkrow e n q∧e.bytes ≠ 0
theorem slots_spec:∀ (l:List SOp) (c:Nat),slotsOk l c=true→∀ (m:Nat) (a:SOp) (j:Nat),l[m]?=some a→a.slot=some j →
 c≤j∧a.op.guard=none∧kindOk a∧(preH l)[j - c]?=some (some (preB a))∧∀ (m':Nat) (a':SOp) (j':Nat),m < m'→l[m']?=some a'→a'.slot=some j'→j < j'
 | [],c,h,m,a,j,hm,_=>by simp at hm
 | o::l,c,h,m,a,j,hm,hj=>by
   simp only [slotsOk] at h
   cases hs:o.slot with
   | none =>
     rw [hs] at h
     cases m with
     | zero =>
       simp only [List.getElem?_cons_zero,Option.some.injEq] at hm
       subst hm; rw [hs] at hj; cases hj
     | succ m =>
       simp only [List.getElem?_cons_succ] at hm
       obtain ⟨q1,q2,q3,q4,q5⟩:=slots_spec l c h m a j hm hj
       refine ⟨q1,q2,q3,by simp only [preH,hs]; exact q4,fun m' a' j' hlt ha' hj'=>?_⟩
       cases m' with
       | zero=>omega
       | succ m'=>exact q5 m' a' j' (by omega) (by simpa using ha') hj'
   | some s =>
     rw [hs] at h
     simp only [Bool.and_eq_true,beq_iff_eq] at h
     obtain ⟨⟨⟨h1,h2⟩,h3⟩,h4⟩:=h
     subst h1
     cases m with
     | zero =>
       simp only [List.getElem?_cons_zero,Option.some.injEq] at hm
       subst hm
       rw [hs] at hj; cases hj
       refine ⟨Nat.le_refl _,by simpa using h2,?_,?_,fun m' a' j' hlt ha' hj'=>?_⟩
       ·split at h3
        ·rename_i e he; exact .inl ⟨e,he,by simpa using h3⟩
        ·rename_i e x he; exact .inr (.inl ⟨e,x,he,by simpa using h3⟩)
        ·rename_i e n q he; exact .inr (.inr ⟨e,n,q,he,by simpa using h3⟩)
        ·cases h3
       ·simp only [preH,hs,Nat.sub_self,List.getElem?_cons_zero]
        unfold preB
        cases o.op.op <;> rfl
       ·cases m' with
        | zero=>omega
        | succ m' =>
          have:=(slots_spec l _ h4 m' a' j' (by simpa using ha') hj').1
          omega
     | succ m =>
       simp only [List.getElem?_cons_succ] at hm
       obtain ⟨q1,q2,q3,q4,q5⟩:=slots_spec l _ h4 m a j hm hj
       refine ⟨by omega,q2,q3,?_,fun m' a' j' hlt ha' hj'=>?_⟩
       ·simp only [preH,hs]
        rw [show j - s=(j - (s+1))+1 by omega,List.getElem?_cons_succ]; exact q4
       ·cases m' with
        | zero=>omega
        | succ m'=>exact q5 m' a' j' (by omega) (by simpa using ha') hj'

def hv (o:SOp):Prop:=chgS o=true∧o.slot=none
def mkF (o:SOp):Prop:=o.slot ≠ none∧allocOp o.op.op=false

structure GS (P:Program) (call:CallF) (base:Nat) (ops:Array Oper) (l:List SOp) (ps:List Nat) (f:Nat→St):Prop where
 size:l.length=ops.size
 ts:TS call base l f
 at_:∀ k,k < ops.size→∃ (o:Oper) (so:SOp),ops[k]?=some o∧l[k]?=some so∧cOper P ops.toList o=some so.op
 slots:∀ (m k:Nat) (om ok:Oper) (t:Nat),m ≠ k→ops[m]?=some om→ops[k]?=some ok→om.dst=some t→(t ∈ ok.looksAt ops ∨ ok.dst=some t)→Ord ps m k
 heavy:∀ (m k:Nat) (a b:SOp),m ≠ k→l[m]?=some a→l[k]?=some b→hv a→hv b→Ord ps m k
 mkcall:∀ (m k:Nat) (a b:SOp),m ≠ k→l[m]?=some a→l[k]?=some b→mkF a→hv b→stApp b.op.op=false→Ord ps m k
 chk:∀ (i k:Nat) (a b:SOp),i < k→l[i]?=some a→l[k]?=some b→meetsS a b=true→Ord ps i k ∨ b.chk.contains i=true
 kp:∀ (m k:Nat) (a b:SOp) (s:Nat),l[m]?=some a→l[k]?=some b→a.slot=some s→hv b→(ps.getD k 0).testBit m=true ∨ b.kp.contains s=true
 slot:∀ (m:Nat) (a:SOp) (j:Nat),l[m]?=some a→a.slot=some j→a.op.guard=none∧kindOk a∧(preH l)[j]?=some (some (preB a))
 inj:∀ (m m':Nat) (a a':SOp) (j:Nat),l[m]?=some a→l[m']?=some a'→a.slot=some j→a'.slot=some j→m=m'
 low:∀ (m i:Nat),(ps.getD m 0).testBit i=true→i < m
 trans:∀ (m h k:Nat),k < ops.size→(ps.getD k 0).testBit h=true→(ps.getD h 0).testBit m=true→(ps.getD k 0).testBit m=true

theorem predsOf_low {ops:Array Oper} (hed:edgesOk ops=true):∀ m i,((predsOf ops.toList []).getD m 0).testBit i=true→i < m:=by
 intro m
 induction m using Nat.strongRecOn with
 | _ m ih =>
   intro i hi
   rcases Nat.lt_or_ge m ops.size with hlt | hge
   ·have ho:ops.toList[m]?=some ops[m]:=by simp [hlt]
    obtain ⟨x,h1,h2,h3⟩:=predsOf_bits ops.toList [] m i ops[m] ho (by simpa using hi)
    have:=List.all_eq_true.mp hed (ops[m],m) (by rw [List.mem_zipIdx_iff_getElem?]; simp [hlt])
    have:=List.all_eq_true.mp this x (by simpa using h1)
    have hx:x.on < m:=by simpa [h2] using this
    rcases h3 with rfl | h3
    ·exact hx
    ·have:=ih x.on hx i h3; omega
   ·have hl:=predsOf_len ops.toList []
    rw [List.getD_eq_getElem?_getD,List.getElem?_eq_none (by simp at hl; omega)] at hi
    simp at hi

theorem gs_of {P:Program} {call:CallF} {base:Nat} {ops:Array Oper} {ios:List IOper} {f:Nat→St} (hc:optAll (cOper P ops.toList) ops.toList=some ios)
 (hd:drawSOk ops (sopsOf ios (predsOf ops.toList [])) (predsOf ops.toList [])=true) (hed:edgesOk ops=true) (ht:TS call base (sopsOf ios (predsOf ops.toList [])) f) :
 GS P call base ops (sopsOf ios (predsOf ops.toList [])) (predsOf ops.toList []) f:=by
 have hlow:=predsOf_low hed
 generalize hps:predsOf ops.toList []=ps at *
 obtain ⟨hl,hat⟩:=optAll_spec hc
 have hlen:ios.length=ops.size:=by simpa using hl
 have hsz:(sopsOf ios ps).length=ops.size:=by rw [sops_len,hlen]
 have hop:∀ (k:Nat) (so:SOp),(sopsOf ios ps)[k]?=some so→ios[k]?=some so.op:=fun k so h=>sops_at h
 generalize sopsOf ios ps=l at *
 simp only [drawSOk,Bool.and_eq_true] at hd
 obtain ⟨⟨⟨htr,hs⟩,hd⟩,hk⟩:=hd
 have lt_of:∀ (k:Nat) (so:SOp),l[k]?=some so→k < ops.size:=fun k so h=>by rw [← hsz]; exact (List.getElem?_eq_some_iff.mp h).1
 have lt_of2:∀ (k:Nat) (o:Oper),ops[k]?=some o→k < ops.size:=fun k o h=>(Array.getElem?_eq_some_iff.mp h).1
 have hat':∀ k,k < ops.size→∃ (o:Oper) (so:SOp),ops[k]?=some o∧l[k]?=some so∧cOper P ops.toList o=some so.op:=by
  intro k hk
  obtain ⟨io,e1,e2⟩:=hat k ops[k] (by simp [hk])
  have h1:l[k]?=some l[k]:=List.getElem?_eq_getElem (by omega)
  have h2:=hop k _ h1
  rw [e1] at h2
  injection h2 with h2
  exact ⟨ops[k],l[k],by simp [hk],h1,by rw [← h2]; exact e2⟩
 have hpair:∀ (i j:Nat) (o p:Oper) (a b:SOp),i < j→ops[i]?=some o→ops[j]?=some p→l[i]?=some a→l[j]?=some b→(ps.getD j 0).testBit i=true ∨ pairS ops o p a b i=true:=by
  intro i j o p a b hij ho hp ha hb
  have:=List.all_eq_true.mp (List.all_eq_true.mp hd j (List.mem_range.mpr (lt_of j b hb))) i (List.mem_range.mpr hij)
  simp only [Bool.or_eq_true,ho,hp,ha,hb] at this
  exact this
 have ordOf:∀ m k,m ≠ k→((m < k→(ps.getD k 0).testBit m=true)∧(k < m→(ps.getD m 0).testBit k=true))→Ord ps m k:=fun m k _ h=>h
 have two:∀ (m k:Nat) (om ok:Oper) (a b:SOp),m ≠ k→ops[m]?=some om→ops[k]?=some ok→l[m]?=some a→l[k]?=some b→(∀ o p x y i,pairS ops o p x y i=true→(o=om∧p=ok∧x=a∧y=b ∨ o=ok∧p=om∧x=b∧y=a)→False)→Ord ps m k:=by
  intro m k om ok a b hmk hm hk ha hb hno
  constructor
  ·intro hlt
   exact (hpair m k om ok a b hlt hm hk ha hb).resolve_right fun h=>hno _ _ _ _ _ h (.inl ⟨rfl,rfl,rfl,rfl⟩)
  ·intro hlt
   exact (hpair k m ok om b a hlt hk hm hb ha).resolve_right fun h=>hno _ _ _ _ _ h (.inr ⟨rfl,rfl,rfl,rfl⟩)
 have opsAt:∀ (k:Nat) (so:SOp),l[k]?=some so→∃ o,ops[k]?=some o:=fun k so h=>⟨ops[k]'(lt_of k so h),by simp [lt_of k so h]⟩
 have lAt:∀ (k:Nat) (o:Oper),ops[k]?=some o→∃ so,l[k]?=some so:=fun k o h=>⟨l[k]'(by have:=lt_of2 k o h; omega),List.getElem?_eq_getElem _⟩
 have hvl:∀ a:SOp,hv a→lightOp a.op.op=false:=by
  rintro a ⟨h1,h2⟩
  simp only [chgS,h2,Option.isSome_none,Bool.false_and,Bool.not_false,Bool.and_true,Bool.not_eq_true'] at h1
  exact h1
 have hsp:=slots_spec l 0 hs
 have mkl:∀ (m:Nat) (a:SOp),l[m]?=some a→a.slot ≠ none→lightOp a.op.op=false:=by
  intro m a ha hn
  cases hsl:a.slot with
  | none=>exact absurd hsl hn
  | some j =>
    obtain ⟨_,_,hkd,_⟩:=hsp m a j ha hsl
    rcases hkd with ⟨e,he,_⟩ | ⟨e,x,he,_⟩ | ⟨e,n,q,he,_⟩ <;> rw [he] <;> rfl
 refine ⟨hsz,ht,hat',?_,?_,?_,?_,?_,?_,?_,hlow,?_⟩
 rotate_right
 ·intro m h k hk h1 h2
  have:=List.all_eq_true.mp (List.all_eq_true.mp htr k (List.mem_range.mpr hk)) h (List.mem_range.mpr (hlow k h h1))
  simp only [h1,Bool.not_true,Bool.false_or,beq_iff_eq] at this
  have:=congrArg (fun z=>z.testBit m) this
  simp only [Nat.testBit_and,h2,Bool.true_and] at this
  exact this
 ·intro m k om ok t hmk hm hk hdst hlook
  obtain ⟨a,ha⟩:=lAt m om hm
  obtain ⟨b,hb⟩:=lAt k ok hk
  refine two m k om ok a b hmk hm hk ha hb fun o p x y i h hh=>?_
  simp only [pairS,Bool.and_eq_true] at h
  obtain ⟨a1,a2,a3⟩:=Oper.apart_spec h.1.1
  rcases hh with ⟨rfl,rfl,_,_⟩ | ⟨rfl,rfl,_,_⟩
  ·rcases hlook with hl | hl
   ·exact a1 t hdst hl
   ·exact a2 t hdst hl
  ·rcases hlook with hl | hl
   ·exact a3 t hdst hl
   ·exact a2 t hl hdst
 ·intro m k a b hmk ha hb hva hvb
  obtain ⟨om,hm⟩:=opsAt m a ha
  obtain ⟨ok,hk⟩:=opsAt k b hb
  refine two m k om ok a b hmk hm hk ha hb fun o p x y i h hh=>?_
  simp only [pairS,Bool.and_eq_true] at h
  have h:=h.1.2
  have e1:=hvl a hva
  have e2:=hvl b hvb
  rcases hh with ⟨_,_,rfl,rfl⟩ | ⟨_,_,rfl,rfl⟩ <;> simp [e1,e2,hva.2,hvb.2] at h
 ·intro m k a b hmk ha hb hma hvb hns
  obtain ⟨om,hm⟩:=opsAt m a ha
  obtain ⟨ok,hk⟩:=opsAt k b hb
  refine two m k om ok a b hmk hm hk ha hb fun o p x y i h hh=>?_
  simp only [pairS,Bool.and_eq_true] at h
  have h:=h.1.2
  have e1:=mkl m a ha hma.1
  have e2:=hvl b hvb
  rcases hh with ⟨_,_,rfl,rfl⟩ | ⟨_,_,rfl,rfl⟩ <;> simp [e1,e2,hvb.2,hns,hma.2] at h
 ·intro i k a b hik ha hb hme
  obtain ⟨oi,hi⟩:=opsAt i a ha
  obtain ⟨ok,hk⟩:=opsAt k b hb
  rcases hpair i k oi ok a b hik hi hk ha hb with h | h
  ·exact .inl ⟨fun _=>h,fun h'=>by omega⟩
  ·right
   simp only [pairS,Bool.and_eq_true,hme,Bool.not_true,Bool.false_or] at h
   exact h.2
 ·intro m k a b s ha hb hsl hvb
  have:=List.all_eq_true.mp (List.all_eq_true.mp hk k (List.mem_range.mpr (lt_of k b hb))) m (List.mem_range.mpr (lt_of m a ha))
  simp only [ha,hb,hsl,hvb.1,hvb.2,Option.isNone_none,Bool.and_self,Bool.not_true,Bool.or_false,Bool.or_eq_true] at this
  exact this
 ·intro m a j ha hj
  obtain ⟨_,q2,q3,q4,_⟩:=hsp m a j ha hj
  exact ⟨q2,q3,by simpa using q4⟩
 ·intro m m' a a' j ha ha' hj hj'
  rcases Nat.lt_trichotomy m m' with h | h | h
  ·have:=(hsp m a j ha hj).2.2.2.2 m' a' j h ha' hj'; omega
  ·exact h
  ·have:=(hsp m' a' j ha' hj').2.2.2.2 m a j h ha hj; omega
end Go.Proofs.Ytffiilnmfmkpmaa.AE

namespace Go.Proofs.Ytffiilnmfmkpmaa.AE
set_option linter.unusedVariables false
set_option linter.unusedSimpArgs false
set_option linter.constructorNameAsVariable false
open Go Go.RowKit

theorem names_has {ev:Opd→AV} {io:IOp} {x:AV} (h:x ∈ namesOf ev io):hasNames io=true:=by
 cases io <;> simp [namesOf,hasNames] at h ⊢
 case bk b args=>cases b <;> simp [namesOf,hasNames] at h ⊢
theorem kind_not {a:SOp} (h:kindOk a):lightOp a.op.op=false:=by
 rcases h with ⟨e,he,_⟩ | ⟨e,x,he,_⟩ | ⟨e,n,q,he,_⟩ <;> rw [he] <;> rfl
theorem make_not {ev:Opd→AV} {id:Nat} {a:SOp} {v:AV} {k:Blk} (h:kindOk a) (hm:makeAt ev id a.op.op=some (v,k)):k ≠ rjunk:=by
 rcases h with ⟨e,he,_⟩ | ⟨e,x,he,hb⟩ | ⟨e,n,q,he,hb⟩ <;> rw [he] at hm <;> simp only [makeAt] at hm
 ·cases hm
 ·split at hm <;> cases hm
  intro hk
  have:=congrArg (fun b:Blk=>b.e.bytes) hk
  exact hb this
 ·split at hm <;> cases hm
  intro hk
  have:=congrArg (fun b:Blk=>b.e.bytes) hk
  exact hb this

section
variable {P:Program} {call:CallF} {base:Nat} {ops:Array Oper} {l:List SOp} {ps:List Nat} {f:Nat→St}

theorem GS.lt (G:GS P call base ops l ps f) {k:Nat} {o:SOp} (h:l[k]?=some o):k < ops.size:=by rw [← G.size]; exact (List.getElem?_eq_some_iff.mp h).1
theorem GS.get (G:GS P call base ops l ps f) {k:Nat} (h:k < ops.size):∃ o:SOp,l[k]?=some o:=⟨l[k]'(by rw [G.size]; exact h),List.getElem?_eq_getElem _⟩
theorem mkF_chg {a:SOp} (h:mkF a) (hk:kindOk a):chgS a=true:=by simp [chgS,h.2,kind_not hk]

theorem GS.soft (G:GS P call base ops l ps f) {k:Nat} {o:SOp} (h:l[k]?=some o) (hn:¬ hv o):(f (k+1)).H.length=(f k).H.length∧∀ id,(∀ j,o.slot=some j→mkF o→id ≠ base+j)→(f k).H[id]?=(f (k+1)).H[id]?:=by
 rcases G.ts.step k o h with ⟨hw,v,H',hs,he⟩ | ⟨hw,he⟩
 ·rw [he]
  simp only
  cases hsl:o.slot with
  | none =>
    simp only [stepS,hsl] at hs
    have hlt:lightOp o.op.op=true:=by
     cases hl:lightOp o.op.op with
     | true=>rfl
     | false=>exact absurd ⟨by simp [chgS,hsl,hl],hsl⟩ hn
    obtain ⟨rfl,_⟩:=light_op hlt hs
    exact ⟨rfl,fun _ _=>rfl⟩
  | some j =>
    simp only [stepS,hsl] at hs
    split at hs
    ·cases hs; exact ⟨rfl,fun _ _=>rfl⟩
    ·rename_i hal
     split at hs <;> (try (cases hs; done))
     cases hs
     refine ⟨by simp,fun id hid=>?_⟩
     rw [List.getElem?_set_ne (Ne.symm (hid j rfl ⟨by simp [hsl],hal⟩))]
 ·rw [he]; exact ⟨rfl,fun _ _=>rfl⟩
theorem GS.keeps (G:GS P call base ops l ps f) {k m:Nat} {o a:SOp} {j:Nat} (h:l[k]?=some o) (hh:hv o) (ha:l[m]?=some a) (hj:a.slot=some j) (hb:(ps.getD k 0).testBit m=false):(f k).H[base+j]?=(f (k+1)).H[base+j]?:=by
 rcases G.kp m k a o j ha h hj hh with h1 | h1
 ·rw [hb] at h1; cases h1
 ·rcases G.ts.step k o h with ⟨hw,_⟩ | ⟨hw,he⟩
  ·exact G.ts.kp k o j h hw h1
  ·rw [he]
theorem path {id y z:Nat} (h:∀ m,y≤m→m < z→(f m).H[id]?=(f (m+1)).H[id]?) (hyz:y≤z):(f y).H[id]?=(f z).H[id]?:=by
 induction z,hyz using le_ind with
 | base=>rfl
 | succ z hz ih=>rw [ih fun m h1 h2=>h m h1 (by omega)]; exact h z hz (by omega)
theorem path2 {id y z:Nat} (h:∀ m,(y≤m∧m < z ∨ z≤m∧m < y)→(f m).H[id]?=(f (m+1)).H[id]?):(f y).H[id]?=(f z).H[id]?:=by
 rcases Nat.le_total y z with hl | hl
 ·exact path (fun m h1 h2=>h m (.inl ⟨h1,h2⟩)) hl
 ·exact (path (fun m h1 h2=>h m (.inr ⟨h1,h2⟩)) hl).symm
theorem lens {y z:Nat} (h:∀ m,(y≤m∧m < z ∨ z≤m∧m < y)→(f (m+1)).H.length=(f m).H.length):(f y).H.length=(f z).H.length:=by
 have go:∀ y z:Nat,y≤z→(∀ m,y≤m→m < z→(f (m+1)).H.length=(f m).H.length)→(f y).H.length=(f z).H.length:=by
  intro y z hyz
  induction z,hyz using le_ind with
  | base=>intro _; rfl
  | succ z hz ih=>intro h; rw [ih fun m h1 h2=>h m h1 (by omega)]; exact (h z hz (by omega)).symm
 rcases Nat.le_total y z with hl | hl
 ·exact go y z hl fun m h1 h2=>h m (.inl ⟨h1,h2⟩)
 ·exact (go z y hl fun m h1 h2=>h m (.inr ⟨h1,h2⟩)).symm
theorem GS.pre (G:GS P call base ops l ps f) {H0:Heap} (h0:(f 0).H=H0 ++ preH l) (hb:base=H0.length) {m:Nat} {a:SOp} {j:Nat} (ha:l[m]?=some a) (hj:a.slot=some j):∀ k,k≤m→(f k).H[base+j]?=some (some (preB a)):=by
 intro k
 induction k with
 | zero =>
   intro _
   rw [h0,hb,List.getElem?_append_right (by omega),show H0.length+j - H0.length=j by omega]
   exact (G.slot m a j ha hj).2.2
 | succ k ih =>
   intro hk
   rw [← ih (by omega)]
   obtain ⟨o,ho⟩:=G.get (k:=k) (by have:=G.lt ha; omega)
   by_cases hh:hv o
   ·refine (G.keeps ho hh ha hj ?_).symm
    cases hx:(ps.getD k 0).testBit m with
    | false=>rfl
    | true=>have:=G.low k m hx; omega
   ·refine ((G.soft ho hh).2 _ fun j' hj' hm e=>?_).symm
    have:j'=j:=by omega
    subst this
    have:=G.inj k m o a _ ho ha hj' hj
    omega
theorem GS.made (G:GS P call base ops l ps f) {m:Nat} {a:SOp} {j:Nat} (ha:l[m]?=some a) (hj:a.slot=some j) {y:Nat} (hy:m < y) (hyn:y≤ops.size) (hno:∀ (h:Nat) (b:SOp),m < h→h < y→l[h]?=some b→hv b→(ps.getD h 0).testBit m=false) :
 (f (m+1)).H[base+j]?=(f y).H[base+j]?:=by
 refine path (fun h h1 h2=>?_) hy
 obtain ⟨b,hb⟩:=G.get (k:=h) (by omega)
 by_cases hh:hv b
 ·exact G.keeps hb hh ha hj (hno h b (by omega) h2 hb hh)
 ·refine (G.soft hb hh).2 _ fun j' hj' _ e=>?_
  have:j'=j:=by omega
  subst this
  have:=G.inj h m b a _ hb ha hj' hj
  omega
theorem GS.names (G:GS P call base ops l ps f) {k m:Nat} {o a:SOp} (h:l[k]?=some o) (hw:want (f k).env o.op.guard=some true) (ha:l[m]?=some a) (hc:chgS a=true) (hmk:m ≠ k) (hno:¬ Ord ps m k)
 {x:AV} (hx:x ∈ namesOf (evO (f k).env) o.op.op) {id:Nat} (hi:id ∈ idsOf x):(f m).H[id]?=(f (m+1)).H[id]?:=by
 rcases G.ts.step m a ha with ⟨hwm,_⟩ | ⟨_,he⟩
 ·have hn:=names_has hx
  rcases Nat.lt_or_ge m k with hlt | hge
  ·rcases G.chk m k a o hlt ha h (by simp [meetsS,hc,hn]) with h1 | h1
   ·exact absurd h1 hno
   ·have:=G.ts.log m k a o hlt ha h hwm hw h1
    simp only [logC,entS,hc,Bool.and_eq_true] at this
    exact keepL_ok this.1 hx hi
  ·rcases G.chk k m o a (by omega) h ha (by simp [meetsS,hc,hn]) with h1 | h1
   ·exact absurd ⟨h1.2,h1.1⟩ hno
   ·have:=G.ts.log k m o a (by omega) h ha hw hwm h1
    simp only [logC,entS,hc,Bool.and_eq_true] at this
    exact keepL_ok this.2 hx hi
 ·rw [he]

structure InvX (G:GS P call base ops l ps f) (L:Nat→Prop) (ρ0 ρ:Rho) (s:St) (x:Nat):Prop where
 len:s.env.length=(f 0).env.length
 env:∀ t,∃ c,c≤ops.size∧s.env.getD t .undef=(f c).env.getD t .undef∧∀ (m:Nat) (o:Oper),ops[m]?=some o→o.dst=some t→(m < c ↔ L m)
 xle:x≤ops.size
 hx:∀ (m:Nat) (a:SOp),l[m]?=some a→hv a→(m < x ↔ L m)
 hlen:s.H.length=(f x).H.length
 a:∀ id,(∀ (m:Nat) (o:SOp) (j:Nat),l[m]?=some o→o.slot=some j→mkF o→id ≠ base+j)→s.H[id]?=(f x).H[id]?
 b:∀ (m:Nat) (o:SOp) (j:Nat),l[m]?=some o→o.slot=some j→mkF o→(L m→s.H[base+j]?=(f (max x (m+1))).H[base+j]?)∧(¬ L m→s.H[base+j]?=some (some rjunk))
 c:∀ (m:Nat) (o:SOp) (j:Nat),l[m]?=some o→o.slot=some j→¬ L m→ρ (base+j)=.res
 d:∀ (m:Nat) (o:SOp) (j:Nat),l[m]?=some o→o.slot=some j→ρ0 (base+j)=.no

theorem InvX.to {G:GS P call base ops l ps f} {L:Nat→Prop} {ρ0 ρ:Rho} {s:St} {x:Nat} (I:InvX G L ρ0 ρ s x) {y:Nat} (hy:y≤ops.size) (hx:∀ (m:Nat) (a:SOp),l[m]?=some a→hv a→(m < y ↔ L m)):InvX G L ρ0 ρ s y:=by
 have soft:∀ (m:Nat) (o:SOp),l[m]?=some o→(x≤m∧m < y ∨ y≤m∧m < x)→¬ hv o:=by
  intro m o ho hm hh
  have h1:=I.hx m o ho hh
  have h2:=hx m o ho hh
  rcases hm with ⟨q1,q2⟩ | ⟨q1,q2⟩
  ·have:=h1.mpr (h2.mp q2); omega
  ·have:=h2.mpr (h1.mp q2); omega
 have xl:=I.xle
 refine ⟨I.len,I.env,hy,hx,?_,fun id hid=>?_,fun m o j ho hj hm=>⟨fun hl=>?_,(I.b m o j ho hj hm).2⟩,I.c,I.d⟩
 ·rw [I.hlen]
  refine lens fun m hm=>?_
  obtain ⟨o,ho⟩:=G.get (k:=m) (by omega)
  exact (G.soft ho (soft m o ho hm)).1
 ·rw [I.a id hid]
  refine path2 fun m hm=>?_
  obtain ⟨o,ho⟩:=G.get (k:=m) (by omega)
  exact (G.soft ho (soft m o ho hm)).2 id fun j hj hmk=>hid m o j ho hj hmk
 ·rw [(I.b m o j ho hj hm).1 hl]
  refine path2 fun m' hm'=>?_
  have hlt:m < ops.size:=G.lt ho
  obtain ⟨o',ho'⟩:=G.get (k:=m') (by omega)
  refine (G.soft ho' (soft m' o' ho' (by omega))).2 _ fun j' hj' hmk e=>?_
  have:j'=j:=by omega
  subst this
  have:=G.inj m' m o' o _ ho' ho hj' hj
  omega
end
end Go.Proofs.Ytffiilnmfmkpmaa.AE

namespace Go.Proofs.Ytffiilnmfmkpmaa.AE
set_option linter.unusedVariables false
set_option linter.unusedSimpArgs false
set_option linter.constructorNameAsVariable false
open Go Go.RowKit

def updH (G:Heap):Option (Nat × Option Blk)→Heap
 | some (id,x)=>G.set id x
 | none=>G
theorem updH_len (G:Heap) (u:Option (Nat × Option Blk)):(updH G u).length=G.length:=by cases u <;> simp [updH]
theorem updH_at {G:Heap} {u:Option (Nat × Option Blk)} {id:Nat} (h:∀ x,u ≠ some (id,x)):(updH G u)[id]?=G[id]?:=by
 cases u with
 | none=>rfl
 | some p =>
   obtain ⟨i,x⟩:=p
   have:i ≠ id:=fun e=>h x (by rw [e])
   simp only [updH,List.getElem?_set_ne this]
theorem updH_hit {G G':Heap} {id:Nat} {x:Option Blk} (h:G.length=G'.length):(updH G (some (id,x)))[id]?=(updH G' (some (id,x)))[id]?:=by
 simp only [updH,List.getElem?_set,h,if_true]
theorem stApp_op {call:CallF} {ev:Opd→AV} {H H':Heap} {io:IOp} {v:AV} (hl:stApp io=true) (h:aop call ev H io=some (v,H')) :
 ∃ (u:Option (Nat × Option Blk)) (Z:Heap),H'=updH H u ++ Z∧(∀ id y,u=some (id,y)→∃ x ∈ namesOf ev io,id ∈ idsOf x) ∧
   ∀ G:Heap,G.length=H.length→(∀ x ∈ namesOf ev io,∀ id ∈ idsOf x,H[id]?=G[id]?)→aop call ev G io=some (v,updH G u ++ Z):=by
 cases io <;> simp only [stApp,Bool.false_eq_true] at hl
 case store n a x =>
  simp only [aop] at h
  cases hp:aStore H n (ev x) (ev a) with
  | none=>rw [hp] at h; cases h
  | some Hn =>
    rw [hp] at h
    simp only [Option.some.injEq,Prod.mk.injEq] at h
    obtain ⟨rfl,rfl⟩:=h
    cases he:ev a <;> rw [he] at hp <;> simp only [aStore] at hp <;> (try (cases hp; done))
    rename_i id i j
    cases hg:hget H id with
    | none=>rw [hg] at hp; cases hp
    | some b =>
      rw [hg] at hp
      simp only at hp
      split at hp <;> (try (cases hp; done))
      rename_i el hel
      split at hp <;> (try (cases hp; done))
      rename_i el' hel'
      simp only [Option.some.injEq] at hp
      subst hp
      refine ⟨some (id,some { b with els:=b.els.set i el' }),[],by simp [updH],fun id' y hu=>?_,fun G hG hn=>?_⟩
      ·simp only [Option.some.injEq,Prod.mk.injEq] at hu
       exact ⟨ev a,by simp [namesOf],by simp [he,idsOf,hu.1]⟩
      ·have:=hn (ev a) (by simp [namesOf]) id (by simp [he,idsOf])
       rw [hget_eq this] at hg
       simp only [aop,he,aStore,hg,hel,hel',updH,List.append_nil]
 case app e sv x =>
  simp only [aop] at h
  cases hx:elsOf H (ev x) with
  | none=>rw [hx] at h; cases h
  | some xs =>
    rw [hx] at h
    simp only at h
    cases he:ev sv <;> rw [he] at h <;> simp only [aApp] at h <;> (try (cases h; done))
    ·split at h <;> (try (cases h; done))
     rename_i hc
     simp only [Option.some.injEq,Prod.mk.injEq] at h
     obtain ⟨rfl,rfl⟩:=h
     refine ⟨none,_,rfl,by simp,fun G hG hn=>?_⟩
     have e1:=elsOf_eq (hn (ev x) (by simp [namesOf]))
     simp only [aop,← e1,hx,he,aApp,if_pos hc,updH,hG]
    ·rename_i id o n
     cases o with
     | succ o=>simp only [aApp] at h; cases h
     | zero =>
       simp only [aApp] at h
       cases hg:hget H id with
       | none=>rw [hg] at h; cases h
       | some b =>
         rw [hg] at h
         simp only at h
         split at h <;> (try (cases h; done))
         rename_i hc
         simp only [Option.some.injEq,Prod.mk.injEq] at h
         obtain ⟨rfl,rfl⟩:=h
         refine ⟨some (id,none),_,rfl,fun id' y hu=>?_,fun G hG hn=>?_⟩
         ·simp only [Option.some.injEq,Prod.mk.injEq] at hu
          exact ⟨ev sv,by simp [namesOf],by simp [he,idsOf,hu.1]⟩
         ·have e1:=elsOf_eq (hn (ev x) (by simp [namesOf]))
          have e2:=hn (ev sv) (by simp [namesOf]) id (by simp [he,idsOf])
          rw [hget_eq e2] at hg
          simp only [aop,← e1,hx,he,aApp,hg,if_pos hc,updH,hG]
    ·rename_i id o n
     cases hg:hget H id with
     | none=>rw [hg] at h; cases h
     | some b =>
       rw [hg] at h
       simp only at h
       cases hxe:xs.isEmpty
       ·rw [hxe] at h
        simp only at h
        split at h <;> (try (cases h; done))
        rename_i hc
        simp only [Option.some.injEq,Prod.mk.injEq] at h
        obtain ⟨rfl,rfl⟩:=h
        refine ⟨none,_,rfl,by simp,fun G hG hn=>?_⟩
        have e1:=elsOf_eq (hn (ev x) (by simp [namesOf]))
        have e2:=hn (ev sv) (by simp [namesOf]) id (by simp [he,idsOf])
        rw [hget_eq e2] at hg
        simp only [aop,← e1,hx,he,aApp,hg,hxe,if_pos hc,updH,hG]
       ·rw [hxe] at h
        simp only [Option.some.injEq,Prod.mk.injEq] at h
        obtain ⟨rfl,rfl⟩:=h
        refine ⟨none,[],by simp [updH],by simp,fun G hG hn=>?_⟩
        have e1:=elsOf_eq (hn (ev x) (by simp [namesOf]))
        have e2:=hn (ev sv) (by simp [namesOf]) id (by simp [he,idsOf])
        rw [hget_eq e2] at hg
        simp only [aop,← e1,hx,he,aApp,hg,hxe,updH,List.append_nil]

theorem Rep.drop {w:World} {bad D:Nat→Prop} {ρ:Rho} {id:Nat} (hr:ρ id=.res) {v:AV} {c:Value} (h:Rep w bad D ρ v c):Rep w bad D (fun i=>if i=id then .no else ρ i) v c:=by
 have ne:∀ {i:Nat} {x:RB},ρ i=x→x ≠ .res→i ≠ id:=by rintro i x h1 h2 rfl; exact h2 (h1.symm.trans hr)
 induction h with
 | frz h=>exact .frz (h.mono (Nat.le_refl _) (fun _ _ _=>rfl) (fun b _ hb=>hb.elim .inl (fun ⟨i,es,cap,x⟩=>.inr (by
    simp only at x
    split at x
    ·cases x
    ·exact ⟨i,es,cap,x⟩))))
 | ptr h=>exact .ptr (by simp only [ne h (by simp),if_false]; exact h)
 | ptrD b o h=>exact .ptrD b o h
 | slc h hc hn=>exact .slc (by simp only [ne h (by simp),if_false]; exact h) hc hn
 | slcV a h=>exact .slcV a (by simp only [ne h (by simp),if_false]; exact h)
 | slk h hc=>exact .slk (by simp only [ne h (by simp),if_false]; exact h) hc
 | slkD a h ha=>exact .slkD a h ha
 | slcD a c h hn ha=>exact .slcD a c h hn ha
 | agg cs vs hl h ih=>exact .agg cs vs hl fun i c v hc hv=>ih i c v hc hv
 | tup cs vs hl h ih=>exact .tup cs vs hl fun i c v hc hv=>ih i c v hc hv
 | fn g a b va vb hla hlb ha hb iha ihb=>exact .fn g a b va vb hla hlb (fun i c v hc hv=>iha i c v hc hv) (fun i c v hc hv=>ihb i c v hc hv)
theorem HRel.drop {w:World} {bad:Nat→Prop} {ρ:Rho} {B:Nat} {H:Heap} {id:Nat} (hr:ρ id=.res) (h:HRel w bad ρ B H):HRel w bad (fun i=>if i=id then .no else ρ i) B H:=by
 refine ⟨fun i b es cap hi=>?_,fun i hi=>?_,fun i i' b es cap es' cap' hi hi'=>?_,fun i hi=>?_⟩
 ·try simp only at hi
  split at hi
  ·cases hi
  ·obtain ⟨k,hk,hb⟩:=h.real i b es cap hi
   obtain ⟨cur,fz,q1,q2,q3,q4⟩:=hb.mem
   exact ⟨k,hk,hb.hes,hb.pos,hb.low,hb.len,hb.ok,cur,fz,q1,q2,q3,fun i el j c hel hj=>let ⟨u,hu,hp⟩:=q4 i el j c hel hj; ⟨u,hu,hp.drop hr⟩⟩
 ·try simp only at hi
  split at hi
  ·cases hi
  ·exact h.virt i hi
 ·try simp only at hi hi'
  split at hi
  ·cases hi
  ·split at hi'
   ·cases hi'
   ·exact h.inj _ _ _ _ _ _ _ hi hi'
 ·try simp only at hi
  split at hi
  ·cases hi
  ·exact h.res i hi

section
variable {P:Program} {call:CallF} {base:Nat} {ops:Array Oper} {l:List SOp} {ps:List Nat} {f:Nat→St}
variable {w w0:World} {bad D0:Nat→Prop} {ρ ρ0:Rho} {a:Act} {B:Nat} {s:St} {Q:Exit→Act→World→Prop}

theorem Sim.drop {id:Nat} (hr:ρ id=.res) (h0:ρ0 id=.no) (h:Sim w0 D0 ρ0 bad B ρ s a w):Sim w0 D0 ρ0 bad B (fun i=>if i=id then .no else ρ i) s a w:=by
 refine ⟨h.defers,h.size,fun t ht=>(h.env t ht).drop hr,h.heap.drop hr,h.low,h.st.grow,⟨fun b hb=>?_⟩,h.st.dead,fun i hi=>?_⟩
 ·obtain ⟨i,es,cap,x⟩:=hb
  simp only at x
  split at x
  ·cases x
  ·exact h.st.rle.keep b ⟨i,es,cap,x⟩
 ·have:i ≠ id:=by rintro rfl; exact hi h0
  simp only [this,if_false]
  exact h.st.keep i hi
theorem Sim.rebase (h:Sim w0 D0 ρ0 bad B ρ s a w):Sim w (dead s.H) ρ bad B ρ s a w:=⟨h.defers,h.size,h.env,h.heap,h.low,Step.refl _ _ _⟩
theorem Sim.back {w':World} {ρ':Rho} {s':St} {a':Act} (h:Sim w0 D0 ρ0 bad B ρ s a w) (h':Sim w (dead s.H) ρ bad B ρ' s' a' w'):Sim w0 D0 ρ0 bad B ρ' s' a' w':=⟨h'.defers,h'.size,h'.env,h'.heap,h'.low,h.st.trans h'.st⟩

theorem GS.lenE (G:GS P call base ops l ps f) {k:Nat} (h:k≤ops.size):(f k).env.length=(f 0).env.length:=by
 induction k with
 | zero=>rfl
 | succ k ih =>
   obtain ⟨o,ho⟩:=G.get (k:=k) (by omega)
   rcases G.ts.step k o ho with ⟨_,v,H',_,he⟩ | ⟨_,he⟩ <;> rw [he] <;> simp only [put_length] <;> exact ih (by omega)
theorem env_put {G:GS P call base ops l ps f} {L:Nat→Prop} {x:Nat} (I:InvX G L ρ0 ρ s x) {k:Nat} {o:Oper} {v:AV} (he:k < ops.size) (ho:ops[k]?=some o) (hput:(f (k+1)).env=put (f k).env o.dst v)
 (hord:∀ (m:Nat) (om:Oper) (t:Nat),m ≠ k→ops[m]?=some om→om.dst=some t→o.dst=some t→(m < k ↔ L m)) :
 ∀ t,∃ c,c≤ops.size∧(put s.env o.dst v).getD t .undef=(f c).env.getD t .undef∧∀ (m:Nat) (om:Oper),ops[m]?=some om→om.dst=some t→(m < c ↔ (L m ∨ m=k)):=by
 intro t
 by_cases hd:o.dst=some t
 ·refine ⟨k+1,by omega,?_,fun m om h3 h4=>?_⟩
  ·rw [hput,hd]
   simp only [put,List.getD_eq_getElem?_getD]
   rcases Nat.lt_or_ge t s.env.length with hlt | hge
   ·rw [List.getElem?_set_self hlt,List.getElem?_set_self (by rw [G.lenE (by omega),← I.len]; exact hlt)]
   ·rw [List.getElem?_eq_none (by simpa using hge),List.getElem?_eq_none (by simp; rw [G.lenE (by omega),← I.len]; exact hge)]
  ·by_cases hmk:m=k
   ·subst hmk; simp
   ·have:=hord m om t hmk h3 h4 hd
    rw [← this]
    omega
 ·obtain ⟨c,h2,h3,h4⟩:=I.env t
  refine ⟨c,h2,by rw [put_getD_ne hd,h3],fun m om q3 q4=>?_⟩
  have hmk:m ≠ k:=by
   rintro rfl
   rw [ho] at q3; cases q3
   exact hd q4
  rw [h4 m om q3 q4]
  simp [hmk]
theorem res_stays {w':World} {ρ':Rho} {s':St} {a':Act} {D:Nat→Prop} {id:Nat} (h':Sim w D ρ bad B ρ' s' a' w') (hr:ρ id=.res) (hd:s'.H[id]? ≠ some none):ρ' id=.res:=by
 rcases h'.st.keep id (by rw [hr]; simp) with h1 | h1
 ·rw [h1,hr]
 ·exact absurd h1 hd
theorem res_alive (h:Sim w0 D0 ρ0 bad B ρ s a w) {id:Nat} (hr:ρ id=.res):s.H[id]? ≠ some none:=by
 obtain ⟨k,hk,_⟩:=h.heap.res id hr
 rw [hk]; simp
end
end Go.Proofs.Ytffiilnmfmkpmaa.AE
