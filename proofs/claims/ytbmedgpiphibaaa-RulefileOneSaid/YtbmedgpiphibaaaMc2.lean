/- The texts that the seat's laws need, part 2. No conditions. -/
import Derived.Test.YtbmedgpiphibaaaMc1
namespace Go.Proofs.Ytbmedgpiphibaaa.AE
set_option linter.unusedVariables false
set_option linter.unusedSimpArgs false
set_option linter.constructorNameAsVariable false
open Go Go.RowKit

section
variable {P:Program} {call:CallF} {base:Nat} {ops:Array Oper} {l:List SOp} {ps:List Nat} {f:Nat→St}
variable {w w0:World} {bad D0:Nat→Prop} {ρ ρ0:Rho} {a:Act} {B:Nat} {s:St} {Q:Exit→Act→World→Prop}

def noCallS:CallF:=fun _ _ _=>none
theorem float_makes {o:Oper} {io:IOp} {ev:Opd→AV} {G:Heap} {id:Nat} {v:AV} {k:Blk} (hc:cOp P o.type o.op=some io) (hbad:∀ b,bad b→b < B) (hR:HRel w bad ρ B G) (hB:B≤w.heap.size)
 (hO:OpsOk w bad (dead G) ρ a ev o.op.operands.toList) (hev:∀ x,ev (.v x)=x) (hmk:mkOp io=true) (hv:aop noCallS ev (List.replicate id none) io=some (v,List.replicate id none ++ [some k])):Makes P w bad (dead G) ρ a o v id k:=by
 have hn:∀ i b,hget (List.replicate id (none:Option Blk)) i ≠ some b:=by
  intro i b h
  have:=(hget_lt h).1
  rw [List.getElem?_replicate] at this
  split at this <;> cases this
 have hcall:PCallOK P noCallS:=by intro g args H v H' h; cases h
 have h1:fullOp io=false:=by cases io <;> first | rfl | (cases hmk; done)
 have h2:storeOp io=false:=by cases io <;> first | rfl | (cases hmk; done)
 have h3:isCall io=false:=by cases io <;> first | rfl | (cases hmk; done)
 rcases op_drawn (ev:=ev) hc hcall h1 hbad hR hB hO (fun i b h=>absurd h (hn i b)) (fun i b h=>absurd h (hn i b)) (fun i _ b h _=>absurd h (hn i b)) (fun i _=>by
  cases h:hget (List.replicate id (none:Option Blk)) i with
  | none=>rfl
  | some b=>exact absurd h (hn i b)) hev hv with ⟨_,h,_⟩ | ⟨z,hm,hH,_⟩ | ⟨_,_,_,_,_,_,_,_,_,_,hs,_⟩ | ⟨_,hca,_⟩
 ·have:=congrArg List.length h; simp at this
 ·have:=List.append_cancel_left hH
  simp only [List.cons.injEq,Option.some.injEq,and_true] at this
  subst this
  simpa using hm
 ·rw [h2] at hs; cases hs
 ·rw [h3] at hca; cases hca
theorem make_aop {io:IOp} {ev:Opd→AV} {id:Nat} {v:AV} {k:Blk} (h:makeAt ev id io=some (v,k)):mkOp io=true∧aop noCallS ev (List.replicate id none) io=some (v,List.replicate id none ++ [some k]):=by
 cases io <;> simp only [makeAt] at h <;> (try (cases h; done))
 ·split at h <;> (try (cases h; done))
  rename_i ho
  cases h
  simp [aop,ho,mkOp]
 ·split at h <;> (try (cases h; done))
  rename_i els he
  cases h
  simp [aop,he,mkOp]

theorem s_step (G:GS P call base ops l ps f) {H0:Heap} (h00:(f 0).H=H0 ++ preH l) (hb0:base=H0.length) (hcall:CallOK P call) (hbad:∀ b,bad b→b < B) {L:Nat→Prop} {k x:Nat} (he:k < ops.size) (hk:¬ L k) (hready:∀ m,(ps.getD k 0).testBit m=true→L m)
 (hclosed:∀ m,L m→∀ i,(ps.getD m 0).testBit i=true→L i) (h:Sim w0 D0 ρ0 bad B ρ s a w) (I:InvX G L ρ0 ρ s x) {K:Act→World→Prop}
 (hK:∀ a' w' ρ' s' x',Sim w0 D0 ρ0 bad B ρ' s' a' w'→InvX G (fun m=>L m ∨ m=k) ρ0 ρ' s' x'→K a' w'):wpOp P ops Q k K a w:=by
 obtain ⟨o,so,e1,e2,e3⟩:=G.at_ k he
 obtain ⟨hop,hdst⟩:=cOper_op e3
 have ordL:∀ m,m ≠ k→Ord ps m k→(m < k ↔ L m):=by
  intro m hmk ho
  constructor
  ·intro hlt; exact hready m (ho.1 hlt)
  ·intro hl
   rcases Nat.lt_or_ge m k with hlt | hge
   ·exact hlt
   ·exact absurd (hclosed m hl k (ho.2 (by omega))) hk
 have hord:∀ (m:Nat) (om:Oper) (t:Nat),m ≠ k→ops[m]?=some om→om.dst=some t→o.dst=some t→(m < k ↔ L m):=fun m om t h1 h2 h3 h4=>ordL m h1 (G.slots m k om o t h1 h2 e1 h3 (.inr h4))
 have hslot:∀ t,t ∈ o.looksAt ops→s.env.getD t .undef=(f k).env.getD t .undef:=by
  intro t ht
  obtain ⟨c,h2,h3,h4⟩:=I.env t
  rw [h3]
  have keep:∀ y z:Nat,(∀ m,(y≤m∧m < z)→m < ops.size∧∀ om,ops[m]?=some om→om.dst ≠ some t)→y≤z→(f y).env.getD t .undef=(f z).env.getD t .undef:=by
   intro y z hno hyz
   induction z,hyz using le_ind with
   | base=>rfl
   | succ z hz ih =>
     rw [ih fun m hm=>hno m (by omega)]
     obtain ⟨hzs,hno'⟩:=hno z (by omega)
     obtain ⟨oz,soz,q1,q2,q3⟩:=G.at_ z hzs
     have hd:=(cOper_op q3).2
     rcases G.ts.step z soz q2 with ⟨_,v,H',_,he'⟩ | ⟨_,he'⟩ <;> rw [he'] <;> simp only <;> rw [put_getD_ne (by rw [hd]; exact hno' oz q1)]
  have bad:∀ m,(c≤m∧m < k ∨ k≤m∧m < c)→m < ops.size∧∀ om,ops[m]?=some om→om.dst ≠ some t:=by
   intro m hm
   refine ⟨by omega,fun om hom hd=>?_⟩
   have h5:=h4 m om hom hd
   by_cases hmk:m=k
   ·subst hmk
    rcases hm with ⟨q1,q2⟩ | ⟨q1,q2⟩
    ·omega
    ·exact hk (h5.mp q2)
   ·have h6:=ordL m hmk (G.slots m k om o t hmk hom e1 hd (.inl ht))
    rcases hm with ⟨q1,q2⟩ | ⟨q1,q2⟩
    ·have:=h5.mpr (h6.mp q2); omega
    ·have:=h6.mpr (h5.mp q2); omega
  rcases Nat.le_total c k with hl | hl
  ·exact keep c k (fun m hm=>bad m (.inl hm)) hl
  ·exact (keep k c (fun m hm=>bad m (.inr hm)) hl).symm
 have hwant:want s.env so.op.guard=want (f k).env so.op.guard:=want_congr e3 hslot
 have hOf:∀ {w1:World} {D1:Nat→Prop} {r0 r1:Rho},Sim w1 D1 r0 bad B r1 s a w→OpsOk w bad (dead s.H) r1 a (evO (f k).env) o.op.operands.toList:=by
  intro w1 D1 r0 r1 h y hy z hz
  have h1:=evO_rep h o.op.operands.toList y hy z hz
  have:evO (f k).env z=evO s.env z:=by
   cases z with
   | v _=>rfl
   | t t =>
     have hxt:y=.tmp t:=by
      cases y with
      | tmp t'=>simp [cOpd] at hz; rw [hz]
      | const u=>cases hu:cv u <;> simp [cOpd,hu] at hz
      | global g=>simp [cOpd] at hz
      | func g=>simp [cOpd] at hz
     subst hxt
     exact (hslot t (by simp only [Oper.looksAt,List.mem_append,List.mem_filterMap]; exact .inl ⟨.tmp t,hy,rfl⟩)).symm
  rw [this]; exact h1
 have hO:=hOf h
 -- an order that is heavy comes when all that is heavy ahead of it is done
 have hcut:hv so→∀ (m:Nat) (b:SOp),l[m]?=some b→hv b→(m < k ↔ L m):=by
  intro hh m b hb hhb
  by_cases hmk:m=k
  ·subst hmk; simp [hk]
  ·exact ordL m hmk (G.heavy m k b so hmk hb e2 hhb hh)
 have hcut':hv so→∀ (m:Nat) (b:SOp),l[m]?=some b→hv b→(m < k+1 ↔ (L m ∨ m=k)):=by
  intro hh m b hb hhb
  rw [← hcut hh m b hb hhb]; omega
 have hpre:=fun (m:Nat) (b:SOp) (j:Nat) (hb:l[m]?=some b) (hj:b.slot=some j)=>G.pre h00 hb0 hb hj
 have hmkpre:∀ (b:SOp),kindOk b→mkF b→preB b=rjunk:=by
  rintro b hkd ⟨_,hal⟩
  rcases hkd with ⟨e,he',_⟩ | ⟨e,y,he',_⟩ | ⟨e,n,q,he',_⟩
  ·rw [he'] at hal; cases hal
  ·unfold preB; rw [he']
  ·unfold preB; rw [he']
 unfold wpOp
 rw [e1]
 simp only
 rcases G.ts.step k so e2 with ⟨hw,v,H',hvv,e5⟩ | ⟨hw,e5⟩
 ·rw [want_spec e3 h (hwant.trans hw),if_pos rfl]
  have hput:(f (k+1)).env=put (f k).env o.dst v:=by rw [e5,← hdst]
  have hHk:(f (k+1)).H=H':=by rw [e5]
  have henv:=env_put I he e1 hput hord
  have hlenE:(put s.env o.dst v).length=(f 0).env.length:=by rw [put_length]; exact I.len
  have made1:∀ (m:Nat) (b:SOp) (j:Nat),l[m]?=some b→b.slot=some j→mkF b→∃ kk,(f (m+1)).H[base+j]?=some (some kk)∧kk ≠ rjunk∧∃ vk,makeAt (evO (f m).env) (base+j) b.op.op=some (vk,kk):=by
   intro m b j hb hj hmk
   have h2:=hpre m b j hb hj m (Nat.le_refl _)
   rcases G.ts.step m b hb with ⟨_,v',H'',hs',he'⟩ | ⟨hw',_⟩
   ·simp only [stepS,hj,hmk.2] at hs'
    split at hs' <;> (try (cases hs'; done))
    rename_i vk kk hmke
    cases hs'
    have hlt:base+j < (f m).H.length:=(List.getElem?_eq_some_iff.mp h2).1
    exact ⟨kk,by rw [he']; simp only [List.getElem?_set_self hlt],make_not (G.slot m b j hb hj).2.1 hmke,_,hmke⟩
   ·rw [(G.slot m b j hb hj).1] at hw'; cases hw'
  -- names of an operation in no order with a block's making
  have nameNo:∀ (m:Nat) (b:SOp) (j:Nat),l[m]?=some b→b.slot=some j→mkF b→m ≠ k→¬ Ord ps m k→∀ y ∈ namesOf (evO (f k).env) so.op.op,∀ id ∈ idsOf y,id ≠ base+j:=by
   rintro m b j hb hj hmk hne hno y hy id hid rfl
   have h1:=G.names e2 hw hb (mkF_chg hmk (G.slot m b j hb hj).2.1) hne hno hy hid
   have h2:=hpre m b j hb hj m (Nat.le_refl _)
   rw [hmkpre b (G.slot m b j hb hj).2.1 hmk] at h2
   obtain ⟨kk,q1,q2,_⟩:=made1 m b j hb hj hmk
   rw [h2,q1] at h1
   simp only [Option.some.injEq] at h1
   exact q2 h1.symm
  by_cases hh:hv so
  ·-- heavy
   have J:=I.to (y:=k) (by omega) (hcut hh)
   simp only [stepS,hh.2] at hvv
   -- memory agrees but where blocks are made in no order with it
   have agree:∀ id,(∀ (m:Nat) (b:SOp) (j:Nat),l[m]?=some b→b.slot=some j→mkF b→¬ Ord ps m k→m ≠ k→id ≠ base+j)→s.H[id]?=(f k).H[id]?:=by
    intro id hid
    by_cases hex:∃ (m:Nat) (b:SOp) (j:Nat),l[m]?=some b∧b.slot=some j∧mkF b∧id=base+j
    ·obtain ⟨m,b,j,hb,hj,hmk,rfl⟩:=hex
     have hmk':m ≠ k:=by rintro rfl; rw [e2] at hb; cases hb; rw [hh.2] at hj; cases hj
     have hor:Ord ps m k:=Classical.byContradiction fun hn=>hid m b j hb hj hmk hn hmk' rfl
     have hml:=ordL m hmk' hor
     by_cases hl:L m
     ·rw [(J.b m b j hb hj hmk).1 hl,show max k (m+1)=k by have:=hml.mpr hl; omega]
     ·rw [(J.b m b j hb hj hmk).2 hl,hpre m b j hb hj k (by have:=mt hml.mp hl; omega),hmkpre b (G.slot m b j hb hj).2.1 hmk]
    ·exact J.a id fun m b j hb hj hmk e=>hex ⟨m,b,j,hb,hj,hmk,e⟩
   -- it steps over memory as_ it is
   obtain ⟨H2,hv2,hlen2,hsame,hunord⟩:∃ H2,aop call (evO (f k).env) s.H so.op.op=some (v,H2)∧H2.length=H'.length∧(∀ id,s.H[id]?=(f k).H[id]?→H2[id]?=H'[id]?) ∧
    ∀ (m:Nat) (b:SOp) (j:Nat),l[m]?=some b→b.slot=some j→mkF b→m ≠ k→¬ Ord ps m k→H2[base+j]?=s.H[base+j]?∧H'[base+j]?=(f k).H[base+j]?:=by
    cases hsa:stApp so.op.op with
    | false =>
      have:s.H=(f k).H:=List.ext_getElem? fun id=>agree id fun m b j hb hj hmk hno hmk'=>absurd (G.mkcall m k b so hmk' hb e2 hmk hh hsa) hno
      refine ⟨H',by rw [this]; exact hvv,rfl,fun _ _=>rfl,fun m b j hb hj hmk hmk' hno=>absurd (G.mkcall m k b so hmk' hb e2 hmk hh hsa) hno⟩
    | true =>
      obtain ⟨u,Z,q1,q2,q3⟩:=stApp_op hsa hvv
      have hln:s.H.length=(f k).H.length:=J.hlen
      have hn:∀ y ∈ namesOf (evO (f k).env) so.op.op,∀ id ∈ idsOf y,(f k).H[id]?=s.H[id]?:=fun y hy id hid=>(agree id fun m b j hb hj hmk hno hmk'=>nameNo m b j hb hj hmk hmk' hno y hy id hid).symm
      refine ⟨updH s.H u ++ Z,q3 s.H hln hn,by rw [q1]; simp [updH_len,hln],fun id hid=>?_,fun m b j hb hj hmk hmk' hno=>?_⟩
      ·rw [q1]
       rcases Nat.lt_or_ge id (f k).H.length with hlt | hge
       ·rw [List.getElem?_append_left (by rw [updH_len,hln]; exact hlt),List.getElem?_append_left (by rw [updH_len]; exact hlt)]
        by_cases hu:∃ x,u=some (id,x)
        ·obtain ⟨x',rfl⟩:=hu
         exact updH_hit hln
        ·rw [updH_at fun x' e=>hu ⟨x',e⟩,updH_at fun x' e=>hu ⟨x',e⟩]; exact hid
       ·rw [List.getElem?_append_right (by rw [updH_len,hln]; exact hge),List.getElem?_append_right (by rw [updH_len]; exact hge),updH_len,updH_len,hln]
      ·have hu:∀ x',u ≠ some (base+j,x'):=by
        rintro x' rfl
        obtain ⟨y,hy,hid⟩:=q2 _ _ rfl
        exact nameNo m b j hb hj hmk hmk' hno y hy _ hid rfl
       have hlt:base+j < (f k).H.length:=by
        rcases Nat.lt_or_ge k m with hlt | hge
        ·exact (List.getElem?_eq_some_iff.mp (hpre m b j hb hj k (by omega))).1
        ·obtain ⟨kk,hkk,_⟩:=made1 m b j hb hj hmk
         have h1:=G.made hb hj (y:=k) (by omega) (by omega) fun g c q1 q2 hc hhc=>by
          cases hx:(ps.getD g 0).testBit m with
          | false=>rfl
          | true =>
            have hor:=G.heavy g k c so (by omega) hc e2 hhc hh
            exact absurd ⟨fun _=>G.trans m g k he (hor.1 q2) hx,fun h'=>by omega⟩ hno
         rw [hkk] at h1
         exact (List.getElem?_eq_some_iff.mp h1.symm).1
       rw [q1]
       rw [List.getElem?_append_left (by rw [updH_len,hln]; exact hlt),List.getElem?_append_left (by rw [updH_len]; exact hlt),updH_at hu,updH_at hu]
       exact ⟨rfl,rfl⟩
   refine .inl (op_stepE (fun _=>rfl) hO hop hcall hbad h.rebase hv2 fun a' w' ρ' h'=>hK a' w' ρ' ⟨put s.env o.dst v,H2⟩ (k+1) (h.back h') ?_)
   have hb2:∀ (m:Nat) (b:SOp) (j:Nat),l[m]?=some b→b.slot=some j→mkF b→((L m ∨ m=k)→H2[base+j]?=(f (max (k+1) (m+1))).H[base+j]?)∧(¬ (L m ∨ m=k)→H2[base+j]?=some (some rjunk)):=by
    intro m b j hb hj hmk
    have hmk':m ≠ k:=by rintro rfl; rw [e2] at hb; cases hb; rw [hh.2] at hj; cases hj
    by_cases hor:Ord ps m k
    ·have hml:=ordL m hmk' hor
     have hag:s.H[base+j]?=(f k).H[base+j]?:=agree _ fun m' b' j' hb' hj' _ hno _ e=>by
      have:j=j':=by omega
      subst this
      have:=G.inj m m' b b' _ hb hb' hj hj'
      subst this
      exact hno hor
     have h1:=hsame _ hag
     rw [← hHk] at h1
     refine ⟨fun hl=>?_,fun hl=>?_⟩
     ·have:=hml.mpr (hl.resolve_right hmk')
      rw [h1,show max (k+1) (m+1)=k+1 by omega]
     ·have:k < m:=by
       rcases Nat.lt_or_ge m k with h' | h'
       ·exact absurd (.inl (hml.mp h')) hl
       ·omega
      rw [h1,hpre m b j hb hj (k+1) (by omega),hmkpre b (G.slot m b j hb hj).2.1 hmk]
    ·obtain ⟨h1,h2⟩:=hunord m b j hb hj hmk hmk' hor
     refine ⟨fun hl=>?_,fun hl=>?_⟩
     ·have hl:=hl.resolve_right hmk'
      rw [h1,(J.b m b j hb hj hmk).1 hl]
      rcases Nat.lt_or_ge m k with h' | h'
      ·rw [show max k (m+1)=k by omega,show max (k+1) (m+1)=k+1 by omega,hHk,h2]
      ·rw [show max k (m+1)=m+1 by omega,show max (k+1) (m+1)=m+1 by omega]
     ·rw [h1]; exact (J.b m b j hb hj hmk).2 fun hl'=>hl (.inl hl')
   refine ⟨hlenE,henv,by omega,hcut' hh,by rw [hHk]; exact hlen2,fun id hid=>by rw [hHk]; exact hsame id (J.a id hid),hb2,fun m b j hb hj hl=>?_,I.d⟩
   have hnl:¬ L m:=fun hl'=>hl (.inl hl')
   have hmk':m ≠ k:=fun e=>hl (.inr e)
   refine res_stays h' (I.c m b j hb hj hnl) ?_
   simp only
   by_cases hmk:mkF b
   ·rw [(hb2 m b j hb hj hmk).2 hl]; simp
   ·have hag:s.H[base+j]?=(f k).H[base+j]?:=J.a _ fun m' b' j' hb' hj' hm' e=>by
     have:j=j':=by omega
     subst this
     have:=G.inj m m' b b' _ hb hb' hj hj'
     subst this
     rw [hb] at hb'; cases hb'
     exact hmk hm'
    rw [hsame _ hag,← hHk,← G.keeps e2 hh hb hj (by
     cases hx:(ps.getD k 0).testBit m with
     | false=>rfl
     | true=>exact absurd (hready m hx) hnl),← hag]
    exact res_alive h (I.c m b j hb hj hnl)
  ·cases hsl:so.slot with
   | none =>
     -- light
     simp only [stepS,hsl] at hvv
     have hlt:lightOp so.op.op=true:=by
      cases hl:lightOp so.op.op with
      | true=>rfl
      | false=>exact absurd ⟨by simp [chgS,hsl,hl],hsl⟩ hh
     obtain ⟨rfl,hG⟩:=light_op hlt hvv
     have between:∀ (y:Nat) (id:Nat),(∃ z ∈ namesOf (evO (f k).env) so.op.op,id ∈ idsOf z)→(∀ g,(y≤g∧g < k)→x≤g)→(∀ g,(k≤g∧g < y)→g < x)→y≤ops.size →
      (∀ (g:Nat) (c:SOp) (j':Nat),(y≤g∧g < k ∨ k≤g∧g < y)→l[g]?=some c→c.slot=some j'→mkF c→id ≠ base+j')→(f y).H[id]?=(f k).H[id]?:=by
      rintro y id ⟨z,hz,hid⟩ hlo hhi hyn hno
      refine path2 fun g hg=>?_
      obtain ⟨c,hc⟩:=G.get (k:=g) (by omega)
      by_cases hhc:hv c
      ·have hgk:g ≠ k:=by rintro rfl; rw [e2] at hc; cases hc; exact hh hhc
       have hxg:=I.hx g c hc hhc
       have hnor:¬ Ord ps g k:=by
        intro hor
        have:=ordL g hgk hor
        rcases hg with hg | hg
        ·have h1:=hlo g hg
         have:=hxg.mpr (this.mp hg.2); omega
        ·have h1:=hhi g hg
         have:=this.mpr (hxg.mp h1); omega
       exact G.names e2 hw hc hhc.1 hgk hnor hz hid
      ·exact (G.soft hc hhc).2 _ fun j' hj' hm'=>hno g c j' hg hc hj' hm'
     have hn:∀ y ∈ namesOf (evO (f k).env) so.op.op,∀ id ∈ idsOf y,(f k).H[id]?=s.H[id]?:=by
      intro y hy id hid
      by_cases hex:∃ (m:Nat) (b:SOp) (j:Nat),l[m]?=some b∧b.slot=some j∧mkF b∧id=base+j
      ·obtain ⟨m,b,j,hb,hj,hmk,rfl⟩:=hex
       have hmk':m ≠ k:=by rintro rfl; rw [e2] at hb; cases hb; rw [hsl] at hj; cases hj
       have hor:Ord ps m k:=Classical.byContradiction fun hno=>nameNo m b j hb hj hmk hmk' hno y hy _ hid rfl
       have hml:=ordL m hmk' hor
       by_cases hl:L m
       ·have hmk2:=hml.mpr hl
        rw [(I.b m b j hb hj hmk).1 hl]
        have xl:=I.xle
        refine (between _ _ ⟨y,hy,hid⟩ (fun g hg=>by omega) (fun g hg=>by omega) (by omega) fun g c j' hg hc hj' _ e=>?_).symm
        have:j=j':=by omega
        subst this
        have:=G.inj m g b c _ hb hc hj hj'
        omega
       ·rw [(I.b m b j hb hj hmk).2 hl,hpre m b j hb hj k (by have:=mt hml.mp hl; omega),hmkpre b (G.slot m b j hb hj).2.1 hmk]
      ·rw [I.a id fun m b j hb hj hmk e=>hex ⟨m,b,j,hb,hj,hmk,e⟩]
       exact (between x id ⟨y,hy,hid⟩ (fun g hg=>hg.1) (fun g hg=>hg.2) I.xle fun g c j' _ hc hj' hm' e=>hex ⟨g,c,j',hc,hj',hm',e⟩).symm
     refine .inl (op_stepE (fun _=>rfl) hO hop hcall hbad h.rebase (hG s.H hn) fun a' w' ρ' h'=>hK a' w' ρ' ⟨put s.env o.dst v,s.H⟩ x (h.back h') ?_)
     have nek:∀ (m:Nat) (b:SOp) (j:Nat),l[m]?=some b→b.slot=some j→m ≠ k:=by rintro m b j hb hj rfl; rw [e2] at hb; cases hb; rw [hsl] at hj; cases hj
     refine ⟨hlenE,henv,I.xle,fun m b hb hhb=>?_,I.hlen,I.a,fun m b j hb hj hmk=>?_,fun m b j hb hj hl=>?_,I.d⟩
     ·rw [I.hx m b hb hhb]
      have:m ≠ k:=by rintro rfl; rw [e2] at hb; cases hb; exact hh hhb
      simp [this]
     ·have:=nek m b j hb hj
      refine ⟨fun hl=>(I.b m b j hb hj hmk).1 (hl.resolve_right this),fun hl=>(I.b m b j hb hj hmk).2 fun hl'=>hl (.inl hl')⟩
     ·have hr:=I.c m b j hb hj fun hl'=>hl (.inl hl')
      exact res_stays h' hr (res_alive h hr)
   | some j =>
     have hkd:=(G.slot k so j e2 hsl).2.1
     have hres:=I.c k so j e2 hsl hk
     have hno0:=I.d k so j e2 hsl
     have hs1:=h.drop hres hno0
     obtain ⟨zz,hzz,_⟩:=h.heap.res _ hres
     have hlts:base+j < s.H.length:=(List.getElem?_eq_some_iff.mp hzz).1
     have nej:∀ (m:Nat) (b:SOp) (j':Nat),m ≠ k→l[m]?=some b→b.slot=some j'→base+j ≠ base+j':=by
      intro m b j' hmk hb hj' e
      have:j=j':=by omega
      subst this
      exact hmk (G.inj m k b so _ hb e2 hj' hsl)
     have fin:∀ z:Blk,Makes P w bad (dead s.H) (fun i=>if i=base+j then .no else ρ i) a o v (base+j) z→(mkF so→some (some z)=(f (max x (k+1))).H[base+j]?)→(¬ mkF so→s.H[base+j]?=some (some z))→o.wp P a w K Q:=by
      intro z hm hzk hzs
      obtain ⟨cv,w',cur,fz,cap,hr,h1,h2,h3,⟨h4,h5,h6⟩,h7,h8,h9,h10,h11,h12,h13⟩:=hm
      obtain ⟨ρ',hρ',st,hR⟩:=alloc_upd (H':=s.H.set (base+j) (some z)) hs1.heap hs1.low (by simp) (List.getElem?_set_self hlts) (fun i hi _=>List.getElem?_set_ne (Ne.symm hi)) (fun i hi=>by
       have:i ≠ base+j:=by rintro rfl; rw [hzz] at hi; cases hi
       rw [List.getElem?_set_ne (Ne.symm this)]; exact hi) h1 h2 h3 h4 h5 h6 h7 h8 h9 h10 h11 h12
      unfold Oper.wp
      rw [hr]
      refine hK _ _ ρ' ⟨put s.env o.dst v,s.H.set (base+j) (some z)⟩ x (put_sim (v:=v) o.dst hs1 st hR ?_) ⟨hlenE,henv,I.xle,fun m b hb hhb=>?_,?_,fun id hid=>?_,fun m b j' hb hj' hmk=>?_,fun m b j' hb hj' hl=>?_,I.d⟩
      ·rcases h13 with ⟨rfl,rfl⟩ | ⟨n,c,rfl,q1,q2,rfl⟩
       ·have:=Rep.ptr (w:=w') (bad:=bad) (D:=dead (s.H.set (base+j) (some z))) (ρ:=ρ') (id:=base+j) (i:=0) (j:=0) (b:=w.heap.size) (es:=z.e.es) (cap:=cap) (by subst hρ'; simp)
        simpa using this
       ·have:=Rep.slc (w:=w') (bad:=bad) (D:=dead (s.H.set (base+j) (some z))) (ρ:=ρ') (id:=base+j) (o:=0) (n:=n) (c:=c) (b:=w.heap.size) (es:=z.e.es) (cap:=cap) (by subst hρ'; simp) (by omega) q1
        simpa using this
      ·rw [I.hx m b hb hhb]
       have:m ≠ k:=by rintro rfl; rw [e2] at hb; cases hb; exact hh hhb
       simp [this]
      ·simp only [List.length_set]; exact I.hlen
      ·simp only
       by_cases hmk:mkF so
       ·rw [List.getElem?_set_ne (Ne.symm (hid k so j e2 hsl hmk))]; exact I.a id hid
       ·by_cases hi:base+j=id
        ·subst hi
         rw [List.getElem?_set_self hlts,← I.a _ hid,hzs hmk]
        ·rw [List.getElem?_set_ne hi]; exact I.a id hid
      ·simp only
       by_cases hmk':m=k
       ·subst hmk'
        rw [e2] at hb; cases hb
        rw [hsl] at hj'; cases hj'
        refine ⟨fun _=>by rw [List.getElem?_set_self hlts]; exact hzk hmk,fun hl=>absurd (.inr rfl) hl⟩
       ·rw [List.getElem?_set_ne (nej m b j' hmk' hb hj')]
        exact ⟨fun hl=>(I.b m b j' hb hj' hmk).1 (hl.resolve_right hmk'),fun hl=>(I.b m b j' hb hj' hmk).2 fun hl'=>hl (.inl hl')⟩
      ·have hmk':m ≠ k:=fun e=>hl (.inr e)
       have hne:=Ne.symm (nej m b j' hmk' hb hj')
       subst hρ'
       simp only [hne,if_false]
       exact I.c m b j' hb hj' fun hl'=>hl (.inl hl')
     have noP:∀ (g:Nat) (c:SOp),g < x→l[g]?=some c→hv c→(ps.getD g 0).testBit k=false:=by
      intro g c hg hc hhc
      cases hx:(ps.getD g 0).testBit k with
      | false=>rfl
      | true=>exact absurd (hclosed g ((I.hx g c hc hhc).mp hg) k hx) hk
     simp only [stepS,hsl] at hvv
     split at hvv
     ·rename_i hal
      obtain ⟨rfl,rfl⟩:_=v∧_=H':=by simpa using hvv
      obtain ⟨e,hee,hes⟩:∃ e,so.op.op=.alloc e∧e.es ≠ 0:=by
       rcases hkd with hx | ⟨e,y,he',_⟩ | ⟨e,n,q,he',_⟩
       ·exact hx
       ·rw [he'] at hal; cases hal
       ·rw [he'] at hal; cases hal
      refine .inl (fin ⟨e,[e.zero]⟩ (float_makes hop hbad hs1.heap hs1.low (hOf hs1) (fun _=>rfl) (by rw [hee]; rfl) (by rw [hee]; simp [aop])) (fun hm=>by rw [hm.2] at hal; cases hal) fun hnm=>?_)
      have hpb:preB so=⟨e,[e.zero]⟩:=by unfold preB; rw [hee]
      rw [I.a _ fun m b j' hb hj' hm' e'=>hnm (by
       have:j=j':=by omega
       subst this
       have:=G.inj k m so b _ e2 hb hsl hj'
       subst this
       rw [e2] at hb; cases hb
       exact hm'),← hpb]
      rcases Nat.lt_or_ge k x with hlt | hge
      ·have h1:=path (f:=f) (id:=base+j) (y:=k) (z:=x) (fun g hg1 hg2=>by
        obtain ⟨c,hc⟩:=G.get (k:=g) (by have:=I.xle; omega)
        by_cases hhc:hv c
        ·exact G.keeps hc hhc e2 hsl (noP g c hg2 hc hhc)
        ·refine (G.soft hc hhc).2 _ fun j' hj' hm' e'=>?_
         have:j=j':=by omega
         subst this
         have:=G.inj k g so c _ e2 hc hsl hj'
         subst this
         rw [e2] at hc; cases hc
         exact hnm hm') (by omega)
       rw [← h1]
       exact hpre k so j e2 hsl k (Nat.le_refl _)
      ·exact hpre k so j e2 hsl x hge
     ·rename_i hal
      split at hvv <;> (try (cases hvv; done))
      rename_i vk kk hmke
      obtain ⟨rfl,rfl⟩:_=v∧_=H':=by simpa using hvv
      obtain ⟨hm1,hm2⟩:=make_aop hmke
      have hmkF:mkF so:=⟨by rw [hsl]; simp,hal⟩
      refine .inl (fin kk (float_makes hop hbad hs1.heap hs1.low (hOf hs1) (fun _=>rfl) hm1 hm2) (fun _=>?_) fun hnm=>absurd hmkF hnm)
      have hlt:base+j < (f k).H.length:=(List.getElem?_eq_some_iff.mp (hpre k so j e2 hsl k (Nat.le_refl _))).1
      have h1:(f (k+1)).H[base+j]?=some (some kk):=by rw [hHk,List.getElem?_set_self hlt]
      rw [← h1]
      rcases Nat.lt_or_ge (k+1) x with hlt' | hge
      ·rw [show max x (k+1)=x by omega]
       exact G.made e2 hsl (by omega) I.xle fun g c _ hg2 hc hhc=>noP g c hg2 hc hhc
      ·rw [show max x (k+1)=k+1 by omega]
 ·rw [want_spec e3 h (hwant.trans hw),if_neg (by simp)]
  have hput:(f (k+1)).env=put (f k).env o.dst (.tup []):=by rw [e5,← hdst]
  have henv:=env_put I he e1 hput hord
  have hlenE:(put s.env o.dst (.tup [])).length=(f 0).env.length:=by rw [put_length]; exact I.len
  have hHk:(f (k+1)).H=(f k).H:=by rw [e5]
  have hsl:so.slot=none:=by
   cases hx:so.slot with
   | none=>rfl
   | some j=>rw [(G.slot k so j e2 hx).1] at hw; cases hw
  have nek:∀ (m:Nat) (b:SOp) (j:Nat),l[m]?=some b→b.slot=some j→m ≠ k:=by rintro m b j hb hj rfl; rw [e2] at hb; cases hb; rw [hsl] at hj; cases hj
  by_cases hh:hv so
  ·have J:=I.to (y:=k) (by omega) (hcut hh)
   refine hK _ _ ρ _ (k+1) (skip_sim o.dst h) ⟨hlenE,henv,by omega,hcut' hh,by rw [hHk]; exact J.hlen,fun id hid=>by rw [hHk]; exact J.a id hid,fun m b j hb hj hmk=>?_,fun m b j hb hj hl=>I.c m b j hb hj fun hl'=>hl (.inl hl'),I.d⟩
   refine ⟨fun hl=>?_,fun hl=>(J.b m b j hb hj hmk).2 fun hl'=>hl (.inl hl')⟩
   rw [(J.b m b j hb hj hmk).1 (hl.resolve_right (nek m b j hb hj))]
   rcases Nat.lt_or_ge m k with h' | h'
   ·rw [show max k (m+1)=k by omega,show max (k+1) (m+1)=k+1 by omega,hHk]
   ·have:=nek m b j hb hj
    rw [show max k (m+1)=m+1 by omega,show max (k+1) (m+1)=m+1 by omega]
  ·refine hK _ _ ρ _ x (skip_sim o.dst h) ⟨hlenE,henv,I.xle,fun m b hb hhb=>?_,I.hlen,I.a,fun m b j hb hj hmk=>?_,fun m b j hb hj hl=>I.c m b j hb hj fun hl'=>hl (.inl hl'),I.d⟩
   ·rw [I.hx m b hb hhb]
    have:m ≠ k:=by rintro rfl; rw [e2] at hb; cases hb; exact hh hhb
    simp [this]
   ·exact ⟨fun hl=>(I.b m b j hb hj hmk).1 (hl.resolve_right (nek m b j hb hj)),fun hl=>(I.b m b j hb hj hmk).2 fun hl'=>hl (.inl hl')⟩
end
end Go.Proofs.Ytbmedgpiphibaaa.AE

namespace Go.Proofs.Ytbmedgpiphibaaa.AE
set_option linter.unusedVariables false
set_option linter.unusedSimpArgs false
set_option linter.constructorNameAsVariable false
open Go Go.RowKit

theorem preH_es:∀ (l:List SOp) (c:Nat),slotsOk l c=true→∀ i,i < (preH l).length→∃ k:Blk,(preH l)[i]?=some (some k)∧k.e.es ≠ 0
 | [],_,_,i,h=>by simp [preH] at h
 | o::l,c,hs,i,h=>by
   simp only [slotsOk] at hs
   cases hsl:o.slot with
   | none =>
     rw [hsl] at hs
     simp only [preH,hsl] at h ⊢
     exact preH_es l c hs i h
   | some j =>
     rw [hsl] at hs
     simp only [Bool.and_eq_true,beq_iff_eq] at hs
     obtain ⟨⟨⟨_,_⟩,h3⟩,h4⟩:=hs
     simp only [preH,hsl] at h ⊢
     cases i with
     | zero =>
       cases ho:o.op.op <;> rw [ho] at h3 <;> simp only [Bool.false_eq_true] at h3 <;> simp only [List.getElem?_cons_zero,Option.some.injEq]
       case alloc e=>exact ⟨_,rfl,by simpa using h3⟩
       case box e x=>exact ⟨_,rfl,by simp [rjunk]⟩
       case mkrow e n q=>exact ⟨_,rfl,by simp [rjunk]⟩
     | succ i =>
       simp only [List.getElem?_cons_succ]
       exact preH_es l _ h4 i (by simpa using h)

section
variable {P:Program} {call:CallF} {base:Nat} {ops:Array Oper} {l:List SOp} {ps:List Nat} {f:Nat→St}
variable {w w0:World} {bad D0:Nat→Prop} {ρ ρ0:Rho} {a:Act} {B:Nat} {s:St} {Q:Exit→Act→World→Prop}

theorem inv_end {G:GS P call base ops l ps f} {L:Nat→Prop} {x:Nat} (I:InvX G L ρ0 ρ s x) (hL:∀ m,m < ops.size→L m):s=f ops.size:=by
 have J:=I.to (y:=ops.size) (Nat.le_refl _) fun m b hb _=>⟨fun h=>hL m h,fun _=>G.lt hb⟩
 have hH:s.H=(f ops.size).H:=by
  refine List.ext_getElem? fun id=>?_
  by_cases hex:∃ (m:Nat) (b:SOp) (j:Nat),l[m]?=some b∧b.slot=some j∧mkF b∧id=base+j
  ·obtain ⟨m,b,j,hb,hj,hmk,rfl⟩:=hex
   have hlt:=G.lt hb
   rw [(J.b m b j hb hj hmk).1 (hL m hlt),show max ops.size (m+1)=ops.size by omega]
  ·exact J.a id fun m b j hb hj hmk e=>hex ⟨m,b,j,hb,hj,hmk,e⟩
 have hE:s.env=(f ops.size).env:=by
  refine List.ext_getElem? fun t=>?_
  have hlen:s.env.length=(f ops.size).env.length:=by rw [I.len,G.lenE (Nat.le_refl _)]
  obtain ⟨c,h2,h3,h4⟩:=I.env t
  have keep:∀ z,c≤z→z≤ops.size→(f c).env.getD t .undef=(f z).env.getD t .undef:=by
   intro z hz
   induction z,hz using le_ind with
   | base=>intro _; rfl
   | succ z hz ih =>
     intro hzn
     rw [ih (by omega)]
     obtain ⟨oz,soz,q1,q2,q3⟩:=G.at_ z (by omega)
     have hd:=(cOper_op q3).2
     have hne:oz.dst ≠ some t:=fun e=>by have:=(h4 z oz q1 e).mpr (hL z (by omega)); omega
     rcases G.ts.step z soz q2 with ⟨_,v,H',_,he'⟩ | ⟨_,he'⟩ <;> rw [he'] <;> simp only <;> rw [put_getD_ne (by rw [hd]; exact hne)]
  rw [keep ops.size h2 (Nat.le_refl _)] at h3
  simp only [List.getD_eq_getElem?_getD] at h3
  rcases Nat.lt_or_ge t s.env.length with hlt | hge
  ·rw [List.getElem?_eq_getElem hlt,List.getElem?_eq_getElem (by omega)] at h3 ⊢
   simpa using h3
  ·rw [List.getElem?_eq_none hge,List.getElem?_eq_none (by omega)]
 cases s; cases hf:f ops.size
 rw [hf] at hH hE
 simp only at hH hE
 rw [hH,hE]

theorem drawnS_main (G:GS P call base ops l (predsOf ops.toList []) f) {H0:Heap} (h00:(f 0).H=H0 ++ preH l) (hb0:base=H0.length) (hcall:CallOK P call) (hbad:∀ b,bad b→b < B) (hed:edgesOk ops=true) (hQ:∀ a w ρ,Sim w0 D0 ρ0 bad B ρ (f ops.size) a w→Q .normal a w) :
 ∀ (fuel:Nat) (listed:Array Bool) (ρ:Rho) (s:St) (a:Act) (w:World) (x:Nat),listed.size=ops.size→open_ listed≤fuel →
   (∀ m,listed.getD m false=true→∀ i,((predsOf ops.toList []).getD m 0).testBit i=true→listed.getD i false=true) →
   Sim w0 D0 ρ0 bad B ρ s a w→InvX G (fun m=>listed.getD m false=true) ρ0 ρ s x→wpAny P .any ops Q fuel listed a w:=by
 intro fuel
 induction fuel with
 | zero =>
   intro listed ρ s a w x hls hop hcl h I
   have hall:=open_zero (Nat.le_zero.mp hop)
   have hall2:∀ k,k < ops.size→listed.getD k false=true:=by
    intro k hk
    have:=hall k
    simpa [hls ▸ hk] using this
   refine ⟨?_,?_⟩
   ·cases hr:Region.ready .any ops listed with
    | nil=>rfl
    | cons j l =>
      have hj:j ∈ Region.ready .any ops listed:=by rw [hr]; simp
      have:=(mem_ready.1 hj).1
      rw [hall j] at this; cases this
   ·exact hQ _ _ ρ (inv_end I hall2 ▸ h)
 | succ fuel ih =>
   intro listed ρ s a w x hls hop hcl h I
   have hedge:∀ (k:Nat) (o:Oper),ops[k]?=some o→∀ x ∈ o.after,Region.binds .any x=true→x.on < k:=by
    intro k o ho x hx hb
    have:=List.all_eq_true.mp hed (o,k) (by rw [List.mem_zipIdx_iff_getElem?]; simpa using ho)
    have:=List.all_eq_true.mp this x (by simpa using hx)
    simpa [hb] using this
   refine ⟨fun hnil=>?_,fun i hi=>?_⟩
   ·have hall2:∀ k,k < ops.size→listed.getD k false=true:=by
     intro k
     induction k using Nat.strongRecOn with
     | _ k ihk =>
       intro hk
       cases hx:listed.getD k false with
       | true=>rfl
       | false =>
         exfalso
         have:k ∈ Region.ready .any ops listed:=mem_ready.2 ⟨by simpa [hls ▸ hk] using hx,ops[k],by simp [hk],fun x hx hb=>by
          have hlt:=hedge k ops[k] (by simp [hk]) x hx hb
          exact ihk x.on hlt (by omega)⟩
         rw [hnil] at this
         simp at this
    exact hQ _ _ ρ (inv_end I hall2 ▸ h)
   ·obtain ⟨hi0,o,ho,haft⟩:=mem_ready.1 hi
    have hlt:i < ops.size:=(Array.getElem?_eq_some_iff.1 ho).1
    have hlt':i < listed.size:=hls ▸ hlt
    have hi1:listed.getD i false=false:=by simpa [hlt'] using hi0
    have hready:∀ m,((predsOf ops.toList []).getD i 0).testBit m=true→listed.getD m false=true:=by
     intro m hm
     obtain ⟨x,h1,h2,h3⟩:=predsOf_bits ops.toList [] i m o (by simpa using ho) (by simpa using hm)
     have hl:=haft x (by simpa using h1) h2
     rcases h3 with rfl | h3
     ·exact hl
     ·exact hcl x.on hl m h3
    have hop':open_ (listed.setIfInBounds i true)≤fuel:=by have:=open_set hi0; omega
    have hcl':∀ m,(listed.setIfInBounds i true).getD m false=true→∀ j,((predsOf ops.toList []).getD m 0).testBit j=true→(listed.setIfInBounds i true).getD j false=true:=by
     intro m hm j hj
     rw [getD_set hlt'] at hm ⊢
     rcases hm with hm | rfl
     ·exact .inl (hcl m hm j hj)
     ·exact .inl (hready j hj)
    have hfun:(fun m=>listed.getD m false=true ∨ m=i)=fun m=>(listed.setIfInBounds i true).getD m false=true:=by
     funext m
     exact propext (getD_set hlt').symm
    refine s_step G h00 hb0 hcall hbad hlt (by simp [hi1]) hready hcl h I fun a' w' ρ' s' x' h' I'=>?_
    rw [hfun] at I'
    exact ih _ ρ' s' a' w' x' (by simpa using hls) hop' hcl' h' I'
end

theorem drawS_law {P:Program} {call:CallF} (hcall:CallOK P call):DrawS P call:=by
 intro ops ios id hc hd he hns hmo w w0 bad D0 ρ ρ0 a B s s' Q hbad h hr hq
 have hso:slotsOk (sopsOf ios (predsOf ops.toList [])) 0=true:=by
  simp only [drawSOk,Bool.and_eq_true] at hd
  exact hd.1.1.2
 obtain ⟨f,h0,h1,ht⟩:=ts_of hr
 have G:=gs_of hc hd he ht
 have hsz:=G.size
 generalize hl:sopsOf ios (predsOf ops.toList [])=l at *
 rw [hsz] at h1
 have h00:(f 0).H=s.H ++ preH l:=by rw [h0]
 refine wp_region_any hmo ?_
 have hnew:∀ i,s.H.length≤i→ρ i=.no:=by
  intro i hi
  cases hx:ρ i with
  | no=>rfl
  | _=>exact absurd (lt_of_no h.heap (by rw [hx]; simp)) (by omega)
 have hpos:∀ (m:Nat) (o:SOp) (j:Nat),l[m]?=some o→o.slot=some j→j < (preH l).length:=fun m o j ho hj=>(List.getElem?_eq_some_iff.mp (G.slot m o j ho hj).2.2).1
 let ρ2:Rho:=fun i=>if s.H.length≤i∧i < s.H.length+(preH l).length then .res else ρ i
 have e2:∀ i,ρ i ≠ .no→ρ2 i=ρ i:=fun i hi=>if_neg fun hh=>hi (hnew i hh.1)
 have hd':=h.draw
 have hst:Step { w with drawn:=w.drawn+1 } { w with drawn:=w.drawn+1 } (dead s.H) (dead (s.H ++ preH l)) ρ ρ2:=by
  refine ⟨Grow.refl _ _,⟨fun b hb=>?_⟩,fun i hi=>?_,fun i hi=>.inl (e2 i hi)⟩
  ·obtain ⟨i,es,cap,hx⟩:=hb
   simp only [ρ2] at hx
   split at hx
   ·cases hx
   ·exact .inl ⟨i,es,cap,hx⟩
  ·simp only [dead] at *
   rw [List.getElem?_append_left (List.getElem?_eq_some_iff.mp hi).1]; exact hi
 have hR:HRel { w with drawn:=w.drawn+1 } bad ρ2 B (s.H ++ preH l):=by
  refine ⟨fun i b es cap hx=>?_,fun i hx=>?_,fun i i' b es cap es' cap' hx hx'=>?_,fun i hx=>?_⟩
  ·simp only [ρ2] at hx
   split at hx
   ·cases hx
   ·obtain ⟨k,hk,hb⟩:=hd'.heap.real i b es cap hx
    exact ⟨k,by rw [List.getElem?_append_left (List.getElem?_eq_some_iff.mp hk).1]; exact hk,hb.step hst rfl⟩
  ·simp only [ρ2] at hx
   split at hx
   ·cases hx
   ·obtain ⟨k,hk,hb⟩:=hd'.heap.virt i hx
    exact ⟨k,by rw [List.getElem?_append_left (List.getElem?_eq_some_iff.mp hk).1]; exact hk,hb⟩
  ·simp only [ρ2] at hx hx'
   split at hx
   ·cases hx
   ·split at hx'
    ·cases hx'
    ·exact hd'.heap.inj _ _ _ _ _ _ _ hx hx'
  ·simp only [ρ2] at hx
   split at hx
   ·rename_i hi
    obtain ⟨k,hk,hes⟩:=preH_es l 0 hso (i - s.H.length) (by omega)
    exact ⟨k,by rw [List.getElem?_append_right hi.1]; exact hk,hes⟩
   ·obtain ⟨k,hk,hb⟩:=hd'.heap.res i hx
    exact ⟨k,by rw [List.getElem?_append_left (List.getElem?_eq_some_iff.mp hk).1]; exact hk,hb⟩
 have hsim:Sim w0 D0 ρ0 bad B ρ2 (f 0) a { w with drawn:=w.drawn+1 }:=by
  rw [h0]
  exact ⟨hd'.defers,hd'.size,fun t ht=>(hd'.env t ht).step hst,hR,hd'.low,hd'.st.trans hst⟩
 have hoff:∀ k,(Array.replicate ops.size false).getD k false=false:=by
  intro k
  rcases Nat.lt_or_ge k ops.size with h | h
  ·simp [h]
  ·simp [Array.getElem?_eq_none (xs:=Array.replicate ops.size false) (by simpa using h)]
 have hI:InvX G (fun m=>(Array.replicate ops.size false).getD m false=true) ρ0 ρ2 (f 0) 0:=by
  refine ⟨rfl,fun t=>⟨0,Nat.zero_le _,rfl,fun m o _ _=>by simp only [hoff]; simp⟩,Nat.zero_le _,fun m b _ _=>by simp only [hoff]; simp,rfl,fun _ _=>rfl,fun m b j hb hj hmk=>⟨fun hx=>absurd hx (by rw [hoff]; simp),fun _=>?_⟩,fun m b j hb hj _=>?_,fun m b j hb hj=>?_⟩
  ·rw [G.pre h00 rfl hb hj 0 (Nat.zero_le _)]
   have hkd:=(G.slot m b j hb hj).2.1
   rcases hkd with ⟨e,he',_⟩ | ⟨e,y,he',_⟩ | ⟨e,n,q,he',_⟩
   ·have:=hmk.2; rw [he'] at this; cases this
   ·unfold preB; rw [he']
   ·unfold preB; rw [he']
  ·have:=hpos m b j hb hj
   simp only [ρ2]
   rw [if_pos (by omega)]
  ·cases hx:ρ0 (s.H.length+j) with
   | no=>rfl
   | _ =>
     exfalso
     rcases h.st.keep (s.H.length+j) (by rw [hx]; simp) with h1 | h1
     ·rw [hnew _ (by omega),hx] at h1; cases h1
     ·have:=(List.getElem?_eq_some_iff.mp h1).1; omega
 refine drawnS_main G h00 rfl hcall hbad he (fun a w ρ hs=>hq _ _ ρ (h1 ▸ hs)) ops.size _ ρ2 _ a _ 0 (by simp) ?_ (fun m hm=>by rw [hoff m] at hm; cases hm) hsim hI
 unfold open_
 exact Nat.le_trans List.countP_le_length (by simp)

theorem draw_law (P:Program):DrawLaw P:=fun _ _ h1 h2=>⟨draw_lawD h1 h2,drawS_law h1⟩

theorem pcall_law {P:Program} {M:Mod} (hM:ModOK P M) (d:Nat) (g:FuncId) (args:List AV) (v:AV) (h:pcall M d g args=some v):PureOK P g args v :=
 pcall_sound hM (draw_law P) d g args v h
end Go.Proofs.Ytbmedgpiphibaaa.AE

namespace Go.Proofs.Ytbmedgpiphibaaa.AE
set_option linter.unusedVariables false
set_option linter.unusedSimpArgs false
set_option linter.constructorNameAsVariable false
open Go

abbrev Ans:=Option AV

def cnd (t:Bool) (a b:Ans):Ans:=match t with
 | true=>a
 | false=>b

inductive TV where
 | no
 | addr (v:AV)
 | all (l:List AV)
structure Cb where
 int:IntKind→Option AV→(Int→Ans)→Ans
 bool:Option AV→(Bool→Ans)→Ans
 str:Option AV→(List UInt8→Ans)→Ans
 lst:Option AV→(List AV→Ans)→(Bool→Ans)→Ans
 agg:Nat→Option AV→(List AV→Ans)→Ans
 tup:Nat→Option AV→(List AV→Ans)→Ans
 any:Option AV→(AV→Ans)→Ans
 same:Option AV→AV→Ans→Ans
 sameH:Heap→Heap→Ans→Ans
 hop:Heap→IOp→(AV→Heap→Ans)→Ans
 snp:Heap→List AV→(List AV→Bool→Ans)→Ans
 disj:TV→TV→Ans→Ans
 fin:Heap→AV→Ans
 iter:(St→(Ex→St→Ans)→Ans)→Nat→St→List Nat→List (St→Ans)→(St→Ans)→Ans
 cal:Mod→(FuncId→List AV→Option AV)→Nat→Bool→FuncId→List AV→Heap→(AV→Heap→Ans)→Ans
 grow:Heap→Heap→(Nat→Heap→Ans)→Ans
 keep:Heap→Heap→List AV→Ans→Ans
 mkat:Heap→Nat→IOp→(AV→Heap→Ans)→Ans

structure XU where
 un:Bool
 hm:Bool
 hs:List (Nat × Sh)
 jn:Bool
 ca:Bool

def hsGet:List (Nat × Sh)→Nat→Sh
 | [],_=>.any
 | (n,s)::l,i=>match Nat.beq n i with
   | true=>s
   | false=>hsGet l i
mutual
def relax:Sh→Sh
 | .i k=>.i k
 | .b=>.b
 | .s=>.s
 | .agg l=>.agg (relaxL l)
 | .tup l=>.tup (relaxL l)
 | .l=>.any
 | .any=>.any
 | .lo=>.any
 | .z=>.any
def relaxL:List Sh→List Sh
 | []=>[]
 | s::l=>relax s::relaxL l
end
mutual
def loSh:Sh→Sh
 | .i k=>.i k
 | .b=>.b
 | .s=>.s
 | .agg l=>.agg (loShL l)
 | .tup l=>.tup (loShL l)
 | .l=>.lo
 | .any=>.any
 | .lo=>.lo
 | .z=>.z
def loShL:List Sh→List Sh
 | []=>[]
 | s::l=>loSh s::loShL l
end
mutual
def shFree:Sh→Bool
 | .i _=>true
 | .b=>true
 | .s=>true
 | .agg l=>shFreeL l
 | .tup l=>shFreeL l
 | .l=>false
 | .any=>false
 | .lo=>false
 | .z=>false
def shFreeL:List Sh→Bool
 | []=>true
 | s::l=>match shFree s with
   | true=>shFreeL l
   | false=>false
end
def freeOps (hs:List (Nat × Sh)):List Opd→Bool
 | []=>true
 | .v _::l=>freeOps hs l
 | .t n::l=>match shFree (hsGet hs n) with
   | true=>freeOps hs l
   | false=>false

def isH:IOp→Bool
 | .load .. | .store .. | .nilck _ | .box .. | .alloc _ | .mkrow .. | .mkslice .. | .s2b .. | .b2s _ | .mark _ | .subV .. | .fldA .. | .ixAS .. | .ixAA .. | .ixA .. | .app ..=>true
 | .bk .lenV _=>true
 | .eqv _ k _ _ _=>Nat.beq k 1 || (Nat.beq k 2 || Nat.beq k 3)
 | _=>false
def close (ev:Opd→AV):IOp→IOp
 | .load ag n a=>.load ag n (.v (ev a))
 | .store n a x=>.store n (.v (ev a)) (.v (ev x))
 | .nilck x=>.nilck (.v (ev x))
 | .box e x=>.box e (.v (ev x))
 | .alloc e=>.alloc e
 | .mkrow e n ps=>.mkrow e n (ps.map fun p=>(p.1,.v (ev p.2)))
 | .mkslice e n c=>.mkslice e (.v (ev n)) (.v (ev c))
 | .build z ps=>.build z (ps.map fun p=>(p.1,p.2.1,.v (ev p.2.2)))
 | .s2b e x=>.s2b e (.v (ev x))
 | .b2s x=>.b2s (.v (ev x))
 | .mark x=>.mark (.v (ev x))
 | .subV es x lo hi mx=>.subV es (.v (ev x)) (lo.map fun y=>.v (ev y)) (hi.map fun y=>.v (ev y)) (mx.map fun y=>.v (ev y))
 | .fldA off x=>.fldA off (.v (ev x))
 | .ixAS _ es x i=>.ixAS .any es (.v (ev x)) (.v (ev i))
 | .ixAA len es x i=>.ixAA len es (.v (ev x)) (.v (ev i))
 | .ixA ag len es x i=>.ixA ag len es (.v (ev x)) (.v (ev i))
 | .app e s x=>.app e (.v (ev s)) (.v (ev x))
 | .bk b args=>.bk b (args.map fun y=>.v (ev y))
 | .eqv neg k sh x y=>.eqv neg k sh (.v (ev x)) (.v (ev y))
 | io=>io
def bigB (hs:List (Nat × Sh)):IOp→Bool
 | .build _ ps=>ps.any fun p=>match p.2.2 with
   | .t n=>!shFree (hsGet hs n)
   | .v _=>false
 | _=>false
def isHu (hs:List (Nat × Sh)) (io:IOp):Bool:=isH io || bigB hs io
def noCall:CallF:=fun _ _ _=>none
theorem close_ok {call:CallF} {ev:Opd→AV} {H:Heap} {io:IOp} (h:isH io=true):aop call ev H io=aop noCall (evO []) H (close ev io):=by
 cases io <;> first | (cases h; done) | skip
 case bk b args =>
  cases b <;> first | (cases h; done) | skip
  cases args with
  | nil=>rfl
  | cons x l=>cases l <;> rfl
 case mkrow e n ps=>simp only [close,aop,List.map_map]; rfl
 case subV es x lo hi mx=>cases lo <;> cases hi <;> cases mx <;> rfl
 all_goals rfl

theorem close_okB {call:CallF} {ev:Opd→AV} {H:Heap} {hs:List (Nat × Sh)} {io:IOp} (h:isHu hs io=true):aop call ev H io=aop noCall (evO []) H (close ev io):=by
 unfold isHu at h
 rcases Bool.or_eq_true_iff.mp h with h | h
 ·exact close_ok h
 ·cases io <;> first | (cases h; done) | skip
  case build z ps=>simp only [close,aop,List.map_map]; rfl

def xiter (g:St→(Ex→St→Ans)→Ans):Nat→St→(Ex→St→Ans)→Ans
 | 0,_,_=>none
 | n+1,s,K=>g s fun e s'=>match e with
   | .normal=>xiter g n s' K
   | .exit i=>K (.exit i) s'
   | .ret=>K .ret s'

def xgo (i:Nat):List Nat→List (St→Ans)→St→Ans
 | id::ids,k::ks,s=>if i=id then k s else xgo i ids ks s
 | _,_,_=>none

def isInt (k:IntKind):Option AV→Option Int
 | some (.int k' n)=>if k'=k then some n else none
 | _=>none
def isBool:Option AV→Option Bool
 | some (.bool b)=>some b
 | _=>none
def isStr:Option AV→Option (List UInt8)
 | some (.str b)=>some b
 | _=>none
def isAgg (n:Nat):Option AV→Option (List AV)
 | some (.agg l)=>if l.length=n then some l else none
 | _=>none
def isTup (n:Nat):Option AV→Option (List AV)
 | some (.tup l)=>if l.length=n then some l else none
 | _=>none

def disjB:TV→TV→Bool
 | .addr v,.addr w=>(idsOf v).all fun i=>!(idsOf w).contains i
 | .all l,.addr _=>l.all (noId DEPTH)
 | .addr _,.all l=>l.all (noId DEPTH)
 | .all l,.all _=>l.all (noId DEPTH)
 | .no,_=>true
 | _,.no=>true
noncomputable def C0:Cb where
 grow H Z K:=K H.length (H ++ Z)
 keep A B l K:=match keepL A B l with
  | true=>K
  | false=>none
 mkat H id io K:=match makeAt (evO []) id io with
  | some (v,k)=>K v (H.set id (some k))
  | none=>none
 cal M pc n b g args H K:=match callB M pc n b g args H with
  | some (v,H')=>K v H'
  | none=>none
 disj a b K:=match disjB a b with
  | true=>K
  | false=>none
 fin H v:=some (snap DEPTH H v)
 hop H io K:=match aop noCall (evO []) H io with
  | some (v,H')=>K v H'
  | none=>none
 snp H args K:=match args.all (noId DEPTH) with
  | true=>K args true
  | false=>K (args.map (snap DEPTH H)) false
 int k o K:=(isInt k o).bind K
 bool o K:=(isBool o).bind K
 str o K:=(isStr o).bind K
 lst o K Z:=match o with
  | some (.lst l)=>K l
  | some (.zsl b)=>Z b
  | _=>none
 agg n o K:=(isAgg n o).bind K
 tup n o K:=(isTup n o).bind K
 any o K:=o.bind K
 same o v K:=@ite _ (o=some v) (Classical.propDecidable _) K none
 sameH a b K:=@ite _ (a=b) (Classical.propDecidable _) K none
 iter g n s ids ks kr:=xiter g n s fun e s'=>match e with
  | .ret=>kr s'
  | .exit i=>xgo i ids ks s'
  | .normal=>none

section
variable (C:Cb)

mutual
def destr:Sh→Option AV→(AV→Ans)→Ans
 | .i k,o,K=>C.int k o fun n=>K (.int k n)
 | .b,o,K=>C.bool o fun b=>K (.bool b)
 | .s,o,K=>C.str o fun b=>K (.str b)
 | .l,o,K=>C.lst o (fun l=>K (.lst l)) (fun b=>K (.zsl b))
 | .agg l,o,K=>C.agg l.length o fun cs=>destrL l cs 0 fun vs=>K (.agg vs)
 | .tup l,o,K=>C.tup l.length o fun cs=>destrL l cs 0 fun vs=>K (.tup vs)
 | .any,o,K=>C.any o K
 | .lo,o,K=>C.lst o (fun l=>K (.lst l)) (fun _=>none)
 | .z,o,K=>C.lst o (fun _=>none) (fun b=>K (.zsl b))
def destrL:List Sh→List AV→Nat→(List AV→Ans)→Ans
 | [],_,_,K=>K []
 | s::l,cs,i,K=>destr s cs[i]? fun v=>destrL l cs (i+1) fun vs=>K (v::vs)
end

abbrev PC:=FuncId→List AV→Option AV

def xpure (pc:PC) (sn:Bool) (sh:Sh) (g:FuncId) (args:List AV) (H:Heap) (K:AV→Heap→Ans):Ans :=
 match sn with
 | true=>C.snp H args fun as_ fr=>destr C (loSh sh) (pc g as_) fun v=>cnd (fr || noMem DEPTH v) (K v H) none
 | false=>match args.all (noId DEPTH) with
   | true=>destr C (loSh sh) (pc g args) fun v=>K v H
   | false=>destr C (loSh sh) (pc g (args.map (snap DEPTH H))) fun v=>cnd (noMem DEPTH v) (K v H) none

def xext (sh:Sh) (e:List AV→Option AV) (args:List AV) (H:Heap) (K:AV→Heap→Ans):Ans:=destr C sh (e args) fun v=>K v H

abbrev XCall:=Bool→Sh→FuncId→List AV→Heap→(AV→Heap→Ans)→Ans

def xempty (M:Mod) (pc:PC) (g:FuncId) (args:List AV) (H:Heap) (K:AV→Heap→Ans) (rest:Ans):Ans:=match M.cl g with
 | true=>match args with
   | [x]=>C.bool (clr x) fun b=>cnd b (C.same (emptyQ pc g) (.lst []) (K (.lst []) H)) rest
   | _=>rest
 | false=>rest

def xcallZ (M:Mod) (pc:PC):XCall:=fun sn sh g args H K =>
 match M.ext g with
 | some e=>xext C sh e args H K
 | none=>match M.inl g with
   | true=>xempty C M pc g args H K (xpure C pc sn sh g args H K)
   | false=>xpure C pc sn sh g args H K

def xat (sh:Sh) (l:List AV) (q:Int) (K:AV→Ans):Ans :=
 cnd (decide (0≤q)) (destr C sh l[q.toNat]? K) none

def xpick (c:AV) (x y:AV) (K:AV→Ans):Ans:=match c with
 | .bool t=>match x,y with
   | .int k n,.int k' n'=>match decide (k=k') with
     | true=>K (.int k (bif t then n else n'))
     | false=>cnd t (K (.int k n)) (K (.int k' n'))
   | .bool n,.bool n'=>K (.bool (bif t then n else n'))
   | x,y=>cnd t (K x) (K y)
 | _=>none

def xbin (op:BinOp) (x y:AV) (K:AV→Ans):Ans:=match x,y with
 | .int k a,.int k' b=>match op with
   | .shl=>cnd (decide (b < 0)) none (K (.int k (k.wrap (a * 2 ^ min b.toNat k.bits))))
   | .shr=>cnd (decide (b < 0)) none (K (.int k (a.fdiv (2 ^ min b.toNat k.bits))))
   | .quo=>match decide (k=k') with
     | true=>cnd (decide (b=0)) none (K (.int k (k.wrap (a.tdiv b))))
     | false=>none
   | .rem=>match decide (k=k') with
     | true=>cnd (decide (b=0)) none (K (.int k (a.tmod b)))
     | false=>none
   | op=>match aBin op (.int k a) (.int k' b) with
     | some v=>K v
     | none=>none
 | x,y=>match op with
   | .add=>match x,y with
     | .str a,.str b=>cnd (decide ((a.length+b.length)≤9223372036854775807)) (K (.str (a ++ b))) none
     | _,_=>none
   | op=>match aBin op x y with
     | some v=>K v
     | none=>none

def xbound (x:Option AV) (d top:Nat) (K:Nat→Ans):Ans:=match x with
 | none=>K d
 | some v=>match aInt v with
   | some i=>cnd (decide (0≤i∧i≤(top:Int))) (K i.toNat) none
   | none=>none

def xop0 (u:XU) (call:XCall) (ev:Opd→AV) (H:Heap) (io:IOp) (K:AV→Heap→Ans):Ans:=match io with
 | .pick c a b=>xpick (ev c) (ev a) (ev b) fun v=>K v H
 | .bin op x y=>xbin op (ev x) (ev y) fun v=>K v H
 | .eqv neg 0 sh x y=>match eqV 0 sh (ev x) (ev y) with
   | some b=>K (.bool (xor neg b)) H
   | none=>none
 | .eqv neg 4 sh x y=>match eqV 4 sh (ev x) (ev y) with
   | some b=>K (.bool (xor neg b)) H
   | none=>none
 | .eqv neg 2 sh x y=>match ev x,ev y with
   | .lst l,.zsl true=>cnd l.isEmpty none (K (.bool (xor neg false)) H)
   | x,y=>match eqV 2 sh x y with
     | some b=>K (.bool (xor neg b)) H
     | none=>none
 | .call sh f args=>match ev f with
   | .fn g a b=>match u.hm with
     | true=>call (!freeOps u.hs args) (relax sh) g (a ++ args.map ev ++ b) H K
     | false=>call false sh g (a ++ args.map ev ++ b) H K
   | _=>none
 | .subS x lo hi=>match ev x with
   | .str s=>xbound (hi.map ev) s.length s.length fun h=>xbound (lo.map ev) 0 h fun l=>K (.str ((s.take h).drop l)) H
   | _=>none
 | .ixS x i=>match ev x,aInt (ev i) with
   | .str s,some q=>cnd (decide (0≤q)) (C.int .u8 ((s[q.toNat]?).map fun b=>.int .u8 b.toNat) fun n=>K (.int .u8 n) H) none
   | _,_=>none
 | .ixAS sh es x i=>match aInt (ev i) with
   | some q=>match ev x with
     | .lst l=>xat C sh l q fun v=>match decide (v.cells.length=es) with
       | true=>K (.fptr v 0) H
       | false=>none
     | .slc id o n=>match hget H id with
       | some b=>match decide (b.e.es=es) with
         | true=>cnd (decide (0≤q∧q < (n:Int))) (K (.ptr id (o+q.toNat) 0) H) none
         | false=>none
       | none=>none
     | _=>none
   | none=>none
 | io=>match aop (fun _ _ _=>none) ev H io with
   | some (v,H')=>K v H'
   | none=>none

def xop (u:XU) (sh:Sh) (call:XCall) (ev:Opd→AV) (H:Heap) (io:IOp) (K:AV→Heap→Ans):Ans:=match u.hm with
 | true=>match isHu u.hs io with
   | true=>C.hop H (close ev io) fun v H'=>match sh with
     | .any=>K v H'
     | sh=>destr C sh (some v) fun v'=>K v' H'
   | false=>xop0 C u call ev H io K
 | false=>xop0 C u call ev H io K

def dhs (u:XU):Option Nat→Sh
 | some d=>hsGet u.hs d
 | none=>.any

def xwant (env:List AV) (g:Option (Option Nat × Bool)) (A B:List AV→Ans):Ans:=match g with
 | none=>A env
 | some (some t,b)=>match env.getD t .undef with
   | .bool c=>match b with
     | true=>cnd c (A (env.set t (.bool true))) (B (env.set t (.bool false)))
     | false=>cnd c (B (env.set t (.bool true))) (A (env.set t (.bool false)))
   | .tup []=>B env
   | _=>none
 | some (none,_)=>B env

def xrunOps (u:XU) (call:XCall):List IOper→St→(St→Ans)→Ans
 | [],s,K=>K s
 | o::l,s,K=>xwant s.env o.guard (fun env=>xop C u (dhs u o.dst) call (evO env) s.H o.op fun v H=>xrunOps u call l ⟨put env o.dst v,H⟩ K) (fun env=>xrunOps u call l ⟨put env o.dst (.tup []),s.H⟩ K)

def tvOf (ev:Opd→AV):IOp→TV
 | .load _ _ a=>.addr (ev a)
 | .store _ a _=>.addr (ev a)
 | .b2s x=>.addr (ev x)
 | .call _ f args=>match ev f with
   | .fn _ p q=>.all (p ++ args.map ev ++ q)
   | _=>.all []
 | _=>.no
def xdisj (chk:List Nat) (t:TV):List (Nat × TV)→Ans→Ans
 | [],K=>K
 | (i,s)::l,K=>match chk.contains i with
   | true=>match s,t with
     | .no,_=>xdisj chk t l K
     | _,.no=>xdisj chk t l K
     | s,t=>C.disj s t (xdisj chk t l K)
   | false=>xdisj chk t l K
def xrunOpsH (u:XU) (call callP:XCall):List (IOper × List Nat)→Nat→List (Nat × TV)→St→(St→Ans)→Ans
 | [],_,_,s,K=>K s
 | (o,chk)::l,i,log,s,K=>xwant s.env o.guard
     (fun env=>xdisj C chk (tvOf (evO env) o.op) log (xop C u (dhs u o.dst) (match isFull chk with | true=>call | false=>callP) (evO env) s.H o.op fun v H=>xrunOpsH u call callP l (i+1) ((i,tvOf (evO env) o.op)::log) ⟨put env o.dst v,H⟩ K))
     (fun env=>xrunOpsH u call callP l (i+1) log ⟨put env o.dst (.tup []),s.H⟩ K)

def xrunOpsD (u:XU) (call callP:XCall):List (IOper × List Nat)→Nat→List (Nat × Nat)→St→(St→Ans)→Ans
 | [],_,_,s,K=>K s
 | (o,chk)::l,i,log,s,K=>xwant s.env o.guard
     (fun env=>match chk.isEmpty || log.all (fun p=>!(chk.contains p.1) || !((touch (evO env) s.H o.op).contains p.2)) with
       | true=>xop C u (dhs u o.dst) (match isFull chk with | true=>call | false=>callP) (evO env) s.H o.op fun v H=>xrunOpsD u call callP l (i+1) (log ++ (touch (evO env) s.H o.op).map fun id=>(i,id)) ⟨put env o.dst v,H⟩ K
       | false=>none)
     (fun env=>xrunOpsD u call callP l (i+1) log ⟨put env o.dst (.tup []),s.H⟩ K)

def xstepS (u:XU) (call:XCall) (base:Nat) (o:SOp) (env:List AV) (H:Heap) (K:AV→Heap→Ans):Ans:=match o.slot with
 | none=>xop C u (dhs u o.op.dst) call (evO env) H o.op.op K
 | some j=>match allocOp o.op.op with
   | true=>K (.ptr (base+j) 0 0) H
   | false=>C.mkat H (base+j) (close (evO env) o.op.op) K
def xkeep (A B:Heap) (l:List AV) (K:Ans):Ans:=match l with
 | []=>K
 | x::l=>C.keep A B (x::l) K
def xlogS (o:SOp) (nm:List AV) (H H':Heap):List LogE→Ans→Ans
 | [],K=>K
 | e::l,K=>match o.chk.contains e.idx with
   | true=>(match e.chg with
     | some (A,B)=>xkeep C A B nm (match chgS o with
       | true=>xkeep C H H' e.nm (xlogS o nm H H' l K)
       | false=>xlogS o nm H H' l K)
     | none=>match chgS o with
       | true=>xkeep C H H' e.nm (xlogS o nm H H' l K)
       | false=>xlogS o nm H H' l K)
   | false=>xlogS o nm H H' l K
def xrunOpsS (u:XU) (call:XCall) (base:Nat):List SOp→Nat→List LogE→St→(St→Ans)→Ans
 | [],_,_,s,K=>K s
 | o::l,i,log,s,K=>xwant s.env o.op.guard
     (fun env=>xstepS C u call base o env s.H fun v H'=>xlogS C o (namesOf (evO env) o.op.op) s.H H' log (xkeep C s.H H' (o.kp.map fun j=>.ptr (base+j) 0 0)
       (xrunOpsS u call base l (i+1) (entS i o (evO env) s.H H'::log) ⟨put env o.op.dst v,H'⟩ K)))
     (fun env=>xrunOpsS u call base l (i+1) log ⟨put env o.op.dst (.tup []),s.H⟩ K)

def shOf:Nat→AV→Sh
 | 0,_=>.any
 | d+1,v=>match v with
   | .int k _=>.i k
   | .bool _=>.b
   | .str _=>.s
   | .lst _=>.lo
   | .zsl _=>.z
   | .agg cs=>.agg (cs.map (shOf d))
   | _=>.any

def dstsOf:IC→List Nat
 | .reg l=>l.filterMap (·.dst)
 | .regD l=>l.filterMap (·.1.dst)
 | .regS l=>l.filterMap (·.op.dst)
 | .seq a b=>dstsOf a ++ dstsOf b
 | .cond _ a b=>dstsOf a ++ dstsOf b
 | .block _ a=>dstsOf a
 | .loop a=>dstsOf a
 | _=>[]

def noMake:IOp→Bool
 | .store .. | .box .. | .alloc .. | .mkrow .. | .s2b .. | .mkslice .. | .app ..=>false
 | _=>true
def noMakes:IC→Bool
 | .reg l=>l.all fun o=>noMake o.op
 | .regD l=>l.all fun o=>noMake o.1.op
 | .regS _=>false
 | .seq a b=>noMakes a && noMakes b
 | .cond _ a b=>noMakes a && noMakes b
 | .block _ a=>noMakes a
 | .loop a=>noMakes a
 | _=>true

def meetL (a b:List Nat):List Nat:=a.filter fun x=>b.contains x
def joinO:Option (List Nat)→Option (List Nat)→Option (List Nat)
 | none,b=>b
 | a,none=>a
 | some a,some b=>some (meetL a b)
def daOp (da:List Nat) (o:IOper):List Nat:=match o.guard,o.dst with
 | none,some d=>d::da
 | _,_=>da
def exAt (id:Nat):List (Nat × List Nat)→Option (List Nat)
 | []=>none
 | (i,s)::l=>match Nat.beq i id with
   | true=>joinO (some s) (exAt id l)
   | false=>exAt id l
def RETID:Nat:=1000000
def daA:IC→List Nat→Option (List Nat) × List (Nat × List Nat)
 | .skip,s=>(some s,[])
 | .reg l,s=>(some (l.foldl daOp s),[])
 | .regD l,s=>(some (l.foldl (fun s o=>daOp s o.1) s),[])
 | .regS l,s=>(some (l.foldl (fun s o=>daOp s o.op) s),[])
 | .seq a b,s=>match daA a s with
   | (none,e)=>(none,e)
   | (some s',e)=>match daA b s' with
     | (n,e2)=>(n,e ++ e2)
 | .cond _ a b,s=>match daA a s,daA b s with
   | (n,e),(n2,e2)=>(joinO n n2,e ++ e2)
 | .block id a,s=>match daA a s with
   | (n,e)=>(joinO n (exAt id e),e.filter fun p=>!(Nat.beq p.1 id))
 | .loop a,s=>match daA a s with
   | (_,e)=>(none,e)
 | .exit id,s=>(none,[(id,s)])
 | .ret,s=>(none,[(RETID,s)])
def daN (a:IC) (s:List Nat):List Nat:=match (daA a s).1 with
 | some s=>s
 | none=>[]
def daX (a:IC) (s:List Nat) (i:Nat):List Nat:=match exAt i (daA a s).2 with
 | some s=>s
 | none=>[]

def destrV (u:XU) (ds da db:List Nat):List AV→List AV→Nat→(List AV→Ans)→Ans
 | [],_,_,K=>K []
 | v::l,cs,i,K=>match ds.contains i with
   | true=>destr C (match da.contains i with
      | true=>match u.hm with
        | true=>hsGet u.hs i
        | false=>shOf 3 v
      | false=>match db.contains i with
        | true=>relax (hsGet u.hs i)
        | false=>.any) cs[i]? fun w=>destrV u ds da db l cs (i+1) fun us=>K (w::us)
   | false=>C.same cs[i]? v (destrV u ds da db l cs (i+1) fun us=>K (v::us))

def destrE (u:XU) (da db:List Nat) (a:IC) (s0 s:St) (K:St→Ans):Ans:=cnd (s.env.length == s0.env.length) (destrV C u (dstsOf a) da db s0.env s.env 0 fun env=>match noMakes a with
 | true=>match u.hm with
   | true=>K ⟨env,s.H⟩
   | false=>C.sameH s.H s0.H (K ⟨env,s0.H⟩)
 | false=>K ⟨env,s.H⟩) none

def exitsOf:IC→List Nat
 | .seq a b=>exitsOf a ++ exitsOf b
 | .cond _ a b=>exitsOf a ++ exitsOf b
 | .block id a=>(exitsOf a).filter (· != id)
 | .loop a=>exitsOf a
 | .exit id=>[id]
 | _=>[]

def exN (id:Nat):IC→Nat
 | .seq a b=>exN id a+exN id b
 | .cond _ a b=>exN id a+exN id b
 | .block i a=>match Nat.beq i id with
   | true=>0
   | false=>exN id a
 | .loop a=>min 1 (exN id a)
 | .exit i=>match Nat.beq i id with
   | true=>1
   | false=>0
 | _=>0
def endN:IC→Nat
 | .skip=>1
 | .reg l=>match l.all (fun o=>o.guard.isNone) with
   | true=>1
   | false=>2
 | .regD l=>match l.all (fun o=>o.1.guard.isNone) with
   | true=>1
   | false=>2
 | .regS l=>match l.all (fun o=>o.op.guard.isNone) with
   | true=>1
   | false=>2
 | .seq a b=>match endN a with
   | 0=>0
   | _=>endN b
 | .cond _ a b=>endN a+endN b
 | .block id a=>endN a+exN id a
 | _=>0
def joins (u:XU) (a:IC):Bool:=u.jn && (Nat.ble 2 (endN a) && (u.hm || noMakes a))
def JID:Nat:=2000000
def hasRet (a:IC):Bool:=(exAt RETID (daA a []).2).isSome

def xexec (u:XU) (call callP:XCall) (fu:Nat):IC→List Nat→St→(Ex→St→Ans)→Ans
 | .skip,_,s,K=>K .normal s
 | .regD ops,_,s,K=>match u.hm with
   | true=>xrunOpsH C u call callP ops 0 [] s fun s'=>K .normal s'
   | false=>xrunOpsD C u call callP ops 0 [] s fun s'=>K .normal s'
 | .regS ops,_,s,K=>match u.hm with
   | true=>C.grow s.H (preH ops) fun n H=>xrunOpsS C u call n ops 0 [] ⟨s.env,H⟩ fun s'=>K .normal s'
   | false=>none
 | .reg ops,_,s,K=>xrunOps C u call ops s fun s'=>K .normal s'
 | .seq a b,da,s,K=>match joins u a with
   | false=>xexec u call callP fu a da s fun e s'=>match e with
     | .normal=>xexec u call callP fu b (daN a da) s' K
     | .exit i=>K (.exit i) s'
     | .ret=>K .ret s'
   | true=>C.iter (fun s1 Kn=>destrE C u da [] a s s1 fun s2=>xexec u call callP fu a da s2 fun e s'=>match e with
     | .normal=>Kn (.exit JID) s'
     | .exit i=>match decide (i=JID) with
       | true=>none
       | false=>Kn (.exit i) s'
     | .ret=>Kn .ret s') 1 s (JID::(exitsOf a).eraseDups) ((fun s1=>destrE C u da (daN a da) a s s1 fun s2=>xexec u call callP fu b (daN a da) s2 K)::(exitsOf a).eraseDups.map fun i s1=>destrE C u da (daX a da i) a s s1 fun s2=>K (.exit i) s2) fun s1=>destrE C u da (daX a da RETID) a s s1 fun s2=>match hasRet a with
     | true=>K .ret s2
     | false=>none
 | .cond (.t n) a b,da,s,K=>match s.env.getD n .undef with
   | .bool t=>cnd t (xexec u call callP fu a da ⟨s.env.set n (.bool true),s.H⟩ K) (xexec u call callP fu b da ⟨s.env.set n (.bool false),s.H⟩ K)
   | _=>none
 | .cond (.v c) a b,da,s,K=>match c with
   | .bool t=>cnd t (xexec u call callP fu a da s K) (xexec u call callP fu b da s K)
   | _=>none
 | .block id a,da,s,K=>xexec u call callP fu a da s fun e s'=>match e with
   | .normal=>K .normal s'
   | .exit i=>match decide (i=id) with
     | true=>K .normal s'
     | false=>K (.exit i) s'
   | .ret=>K .ret s'
 | .loop a,da,s,K=>match u.un with
   | true=>xiter (fun s1 Kn=>xexec u call callP fu a da s1 Kn) fu s K
   | false=>C.iter (fun s1 Kn=>destrE C u da [] a s s1 fun s2=>xexec u call callP fu a da s2 Kn) fu s (exitsOf a).eraseDups ((exitsOf a).eraseDups.map fun i s1=>destrE C u da (daX a da i) a s s1 fun s2=>K (.exit i) s2) fun s1=>destrE C u da (daX a da RETID) a s s1 fun s2=>K .ret s2
 | .exit id,_,s,K=>K (.exit id) s
 | .ret,_,s,K=>K .ret s

def xresAll (s:St):List RV→(List AV→Ans)→Ans
 | [],K=>K []
 | .tmp t::l,K=>xresAll s l fun vs=>K (s.env.getD t .undef::vs)
 | .cell ag n t::l,K=>C.hop s.H (.load ag n (.v (s.env.getD t .undef))) fun v _=>xresAll s l fun vs=>K (v::vs)

def xrunFn (u:XU) (call callP:XCall) (fu:Nat) (fn:AFn) (args:List AV) (H:Heap) (K:AV→Heap→Ans):Ans :=
 xexec C u call callP fu fn.body (List.range args.length) ⟨args ++ List.replicate (fn.ntmps - args.length) (.tup []),H⟩ fun e s=>match e with
  | .exit _=>none
  | _=>match u.hm with
    | true=>xresAll C s fn.results fun vs=>K (packRes vs) s.H
    | false=>match resAll s fn.results with
      | some vs=>K (packRes vs) s.H
      | none=>none

def xfresh (u:XU) (call callP:XCall) (fu:Nat) (fn:AFn) (args:List AV) (H:Heap) (K:AV→Heap→Ans):Ans :=
 xrunFn C u call callP fu fn args (padH H.length) fun v H1=>match padOk H.length H1 with
  | true=>K v (H ++ H1.drop H.length)
  | false=>none

def xcallB (M:Mod) (U:FuncId→XU) (pc:PC):Nat→Bool→XCall
 | 0,_=>xcallZ C M pc
 | n+1,b=>fun sn sh g args H K =>
   match M.ext g with
   | some e=>xext C sh e args H K
   | none=>match M.inl g with
     | true=>match (U g).ca with
       | true=>C.cal M pc (n+1) b g args H fun v H'=>destr C sh (some v) fun v'=>K v' H'
       | false=>xempty C M pc g args H K (match b with
         | true=>match M.code g args.length with
           | some fn=>xrunFn C (U g) (xcallB M U pc n true) (xcallB M U pc n false) M.fu fn args H K
           | none=>none
         | false=>match M.fr g && args.all (noId DEPTH) with
           | true=>match M.code g args.length with
             | some fn=>xfresh C (U g) (xcallB M U pc n true) (xcallB M U pc n false) M.fu fn args H K
             | none=>none
           | false=>xpure C pc sn sh g args H K)
     | false=>xpure C pc sn sh g args H K

def xcall (M:Mod) (U:FuncId→XU) (d:Nat) (g:FuncId) (args:List AV):Ans:=match M.code g args.length with
 | none=>none
 | some fn=>xrunFn C (U g) (xcallB C M U (pcall M d) IDEPTH true) (xcallB C M U (pcall M d) IDEPTH false) M.fu fn args [] fun v H'=>match (U g).hm with
   | true=>C.fin H' v
   | false=>some (snap DEPTH H' v)
def xmeth (M:Mod) (U:FuncId→XU) (d n:Nat) (g:FuncId) (args:List AV) (H:Heap) (K:AV→Heap→Ans):Ans:=match M.code g args.length with
 | none=>none
 | some fn=>xrunFn C (U g) (xcallB C M U (pcall M d) n true) (xcallB C M U (pcall M d) n false) M.fu fn args H K
end

/-! ### It says what the other one says -/
section
mutual
theorem destr_sound:∀ (sh:Sh) (o:Option AV) (K:AV→Ans) (r:AV),destr C0 sh o K=some r→∃ v,o=some v∧K v=some r
 | .i k,o,K,r,h=>by
   simp only [destr,C0] at h
   obtain ⟨n,h1,h2⟩:=Option.bind_eq_some_iff.mp h
   unfold isInt at h1
   split at h1 <;> (try (cases h1; done))
   split at h1 <;> (try (cases h1; done))
   rename_i k' n' hk
   cases h1; subst hk
   exact ⟨_,rfl,h2⟩
 | .b,o,K,r,h=>by
   simp only [destr,C0] at h
   obtain ⟨n,h1,h2⟩:=Option.bind_eq_some_iff.mp h
   unfold isBool at h1
   split at h1 <;> (try (cases h1; done))
   cases h1
   exact ⟨_,rfl,h2⟩
 | .s,o,K,r,h=>by
   simp only [destr,C0] at h
   obtain ⟨n,h1,h2⟩:=Option.bind_eq_some_iff.mp h
   unfold isStr at h1
   split at h1 <;> (try (cases h1; done))
   cases h1
   exact ⟨_,rfl,h2⟩
 | .l,o,K,r,h=>by
   simp only [destr,C0] at h
   split at h <;> (try (cases h; done))
   ·exact ⟨_,rfl,h⟩
   ·exact ⟨_,rfl,h⟩
 | .agg l,o,K,r,h=>by
   simp only [destr,C0] at h
   obtain ⟨cs,h1,h2⟩:=Option.bind_eq_some_iff.mp h
   unfold isAgg at h1
   split at h1 <;> (try (cases h1; done))
   split at h1 <;> (try (cases h1; done))
   rename_i hl
   cases h1
   obtain ⟨vs,q1,q2,q3⟩:=destrL_sound l cs 0 _ r h2
   have:vs=cs:=by
    apply List.ext_getElem?
    intro i
    rcases Nat.lt_or_ge i l.length with hlt | hge
    ·have:=q2 i hlt; simpa using this.symm
    ·rw [List.getElem?_eq_none (by omega),List.getElem?_eq_none (by omega)]
   subst this
   exact ⟨_,rfl,q3⟩
 | .tup l,o,K,r,h=>by
   simp only [destr,C0] at h
   obtain ⟨cs,h1,h2⟩:=Option.bind_eq_some_iff.mp h
   unfold isTup at h1
   split at h1 <;> (try (cases h1; done))
   split at h1 <;> (try (cases h1; done))
   rename_i hl
   cases h1
   obtain ⟨vs,q1,q2,q3⟩:=destrL_sound l cs 0 _ r h2
   have:vs=cs:=by
    apply List.ext_getElem?
    intro i
    rcases Nat.lt_or_ge i l.length with hlt | hge
    ·have:=q2 i hlt; simpa using this.symm
    ·rw [List.getElem?_eq_none (by omega),List.getElem?_eq_none (by omega)]
   subst this
   exact ⟨_,rfl,q3⟩
 | .any,o,K,r,h=>by
   simp only [destr,C0] at h
   exact Option.bind_eq_some_iff.mp h
 | .lo,o,K,r,h=>by
   simp only [destr,C0] at h
   split at h <;> (try (cases h; done))
   exact ⟨_,rfl,h⟩
 | .z,o,K,r,h=>by
   simp only [destr,C0] at h
   split at h <;> (try (cases h; done))
   exact ⟨_,rfl,h⟩
theorem destrL_sound:∀ (l:List Sh) (cs:List AV) (i:Nat) (K:List AV→Ans) (r:AV),destrL C0 l cs i K=some r→∃ vs,vs.length=l.length∧(∀ j,j < l.length→cs[i+j]?=vs[j]?)∧K vs=some r
 | [],cs,i,K,r,h=>⟨[],rfl,by simp,h⟩
 | s::l,cs,i,K,r,h=>by
   simp only [destrL] at h
   obtain ⟨v,h1,h2⟩:=destr_sound s _ _ r h
   obtain ⟨vs,q1,q2,q3⟩:=destrL_sound l cs (i+1) _ r h2
   refine ⟨v::vs,by simp [q1],fun j hj=>?_,q3⟩
   cases j with
   | zero=>simpa using h1
   | succ j =>
     have:=q2 j (by simpa using hj)
     simpa [show i+1+j=i+(j+1) by omega] using this
end

theorem cnd_some {t:Bool} {a b:Ans} {r:AV} (h:cnd t a b=some r):(t=true∧a=some r) ∨ (t=false∧b=some r):=by
 cases t <;> simp [cnd] at h <;> simp [h]

theorem destrV_sound (U0:XU) (ds da db:List Nat):∀ (l cs:List AV) (i:Nat) (K:List AV→Ans) (r:AV),destrV C0 U0 ds da db l cs i K=some r→∃ vs,vs.length=l.length∧(∀ j,j < l.length→cs[i+j]?=vs[j]?)∧K vs=some r
 | [],cs,i,K,r,h=>⟨[],rfl,by simp,h⟩
 | v::l,cs,i,K,r,h=>by
   simp only [destrV] at h
   have fin:∀ u,cs[i]?=some u→destrV C0 U0 ds da db l cs (i+1) (fun us=>K (u::us))=some r→∃ vs,vs.length=(v::l).length∧(∀ j,j < (v::l).length→cs[i+j]?=vs[j]?)∧K vs=some r:=by
    intro u h1 h2
    obtain ⟨vs,q1,q2,q3⟩:=destrV_sound U0 ds da db l cs (i+1) _ r h2
    refine ⟨u::vs,by simp [q1],fun j hj=>?_,q3⟩
    cases j with
    | zero=>simpa using h1
    | succ j =>
      have:=q2 j (by simpa using hj)
      simpa [show i+1+j=i+(j+1) by omega] using this
   split at h
   ·obtain ⟨u,h1,h2⟩:=destr_sound _ _ _ r h
    exact fin u h1 h2
   ·simp only [C0] at h
    split at h
    ·rename_i he; exact fin v he h
    ·cases h

theorem destrE_sound {u:XU} {da db:List Nat} {a:IC} {s0 s:St} {K:St→Ans} {r:AV} (h:destrE C0 u da db a s0 s K=some r):K s=some r:=by
 unfold destrE at h
 rcases cnd_some h with ⟨hl,h⟩ | ⟨_,h⟩
 ·obtain ⟨vs,q1,q2,q3⟩:=destrV_sound _ _ _ _ _ _ _ _ _ h
  have hl:s.env.length=s0.env.length:=by simpa using hl
  have:vs=s.env:=by
   apply List.ext_getElem?
   intro i
   rcases Nat.lt_or_ge i s0.env.length with hlt | hge
   ·have:=q2 i hlt; simpa using this.symm
   ·rw [List.getElem?_eq_none (by omega),List.getElem?_eq_none (by omega)]
  subst this
  split at q3
  ·split at q3
   ·exact q3
   ·simp only [C0] at q3
    split at q3
    ·rename_i he; rw [← he] at q3; exact q3
    ·cases q3
  ·exact q3
 ·cases h

theorem xgo_ok {i:Nat} {s:St} {r:AV} {f:Nat→St→Ans}:∀ ids:List Nat,xgo i ids (ids.map f) s=some r→f i s=some r
 | [],h=>by cases h
 | id::ids,h=>by
   simp only [List.map_cons,xgo] at h
   split at h
   ·rename_i he; rw [he]; exact h
   ·exact xgo_ok ids h

def XOK (x:XCall) (call:CallF):Prop:=∀ sn sh g args H K r,x sn sh g args H K=some r→∃ v H',call g args H=some (v,H')∧K v H'=some r

theorem xpure_ok (pc:PC):XOK (xpure C0 pc) (pureCall pc):=by
 intro sn sh g args H K r h
 unfold xpure at h
 unfold pureCall
 cases sn with
 | true =>
   simp only [C0] at h
   cases ha:args.all (noId DEPTH) <;> simp only [ha] at h
   ·obtain ⟨v,h1,h2⟩:=destr_sound _ _ _ _ h
    rcases cnd_some h2 with ⟨h3,h2⟩ | ⟨_,h2⟩
    ·simp only [Bool.false_or] at h3
     exact ⟨v,H,by simp [h1,h3],h2⟩
    ·cases h2
   ·obtain ⟨v,h1,h2⟩:=destr_sound _ _ _ _ h
    rcases cnd_some h2 with ⟨h3,h2⟩ | ⟨h3,h2⟩
    ·exact ⟨v,H,by simp [h1],h2⟩
    ·cases h2
 | false =>
   cases ha:args.all (noId DEPTH) <;> simp only [ha] at h
   ·obtain ⟨v,h1,h2⟩:=destr_sound _ _ _ _ h
    rcases cnd_some h2 with ⟨h3,h2⟩ | ⟨_,h2⟩
    ·exact ⟨v,H,by simp [h1,h3],h2⟩
    ·cases h2
   ·obtain ⟨v,h1,h2⟩:=destr_sound _ _ _ _ h
    exact ⟨v,H,by simp [h1],h2⟩

theorem xbound_ok {x:Option AV} {d top:Nat} {K:Nat→Ans} {r:AV} (h:xbound x d top K=some r):∃ n,bound x d top=some n∧K n=some r:=by
 unfold xbound at h
 split at h
 ·exact ⟨_,rfl,h⟩
 ·split at h <;> (try (cases h; done))
  rename_i v i hi
  rcases cnd_some h with ⟨h0,h⟩ | ⟨_,h⟩
  ·have h0:=of_decide_eq_true h0
   exact ⟨_,by simp only [bound,hi]; rw [if_pos h0],h⟩
  ·cases h

theorem xpick_ok {c x y:AV} {K:AV→Ans} {r:AV} (h:xpick c x y K=some r):∃ t,c=.bool t∧K (bif t then x else y)=some r:=by
 unfold xpick at h
 split at h <;> (try (cases h; done))
 rename_i t
 refine ⟨t,rfl,?_⟩
 split at h
 ·split at h
  ·rename_i hk
   have hk:=of_decide_eq_true hk
   subst hk
   cases t <;> exact h
  ·rcases cnd_some h with ⟨rfl,h⟩ | ⟨rfl,h⟩ <;> exact h
 ·cases t <;> exact h
 ·rcases cnd_some h with ⟨rfl,h⟩ | ⟨rfl,h⟩ <;> exact h

theorem xbin_ok {op:BinOp} {x y:AV} {K:AV→Ans} {r:AV} (h:xbin op x y K=some r):∃ v,aBin op x y=some v∧K v=some r:=by
 unfold xbin at h
 split at h
 ·rename_i k a k' b
  split at h
  ·rcases cnd_some h with ⟨_,h⟩ | ⟨hb,h⟩
   ·cases h
   ·have hb:=of_decide_eq_false hb
    exact ⟨_,by simp [aBin,hb],h⟩
  ·rcases cnd_some h with ⟨_,h⟩ | ⟨hb,h⟩
   ·cases h
   ·have hb:=of_decide_eq_false hb
    exact ⟨_,by simp [aBin,hb],h⟩
  ·split at h
   ·rename_i hk
    have hk:=of_decide_eq_true hk
    rcases cnd_some h with ⟨_,h⟩ | ⟨hb,h⟩
    ·cases h
    ·have hb:=of_decide_eq_false hb
     exact ⟨_,by simp [aBin,hk,hb],h⟩
   ·cases h
  ·split at h
   ·rename_i hk
    have hk:=of_decide_eq_true hk
    rcases cnd_some h with ⟨_,h⟩ | ⟨hb,h⟩
    ·cases h
    ·have hb:=of_decide_eq_false hb
     exact ⟨_,by simp [aBin,hk,hb],h⟩
   ·cases h
  ·split at h
   ·rename_i v hv; exact ⟨v,hv,h⟩
   ·cases h
 ·split at h
  ·split at h
   ·rcases cnd_some h with ⟨hb,h⟩ | ⟨_,h⟩
    ·have hb:=of_decide_eq_true hb
     exact ⟨_,by simp [aBin,hb],h⟩
    ·cases h
   ·cases h
  ·split at h
   ·rename_i v hv; exact ⟨v,hv,h⟩
   ·cases h
end
def sames (C:Cb) (e:List AV):Nat→List AV→Ans→Ans
 | _,[],K=>K
 | k,v::l,K=>C.same e[k]? v (sames C e (k+1) l K)
def anys (C:Cb) (e:List AV):Nat→Nat→Ans→Ans
 | _,0,K=>K
 | k,n+1,K=>C.any e[k]? fun _=>anys C e (k+1) n K
def rlx (l:List (Nat × Sh)):List (Nat × Sh):=l.map fun p=>(p.1,relax p.2)
end Go.Proofs.Ytbmedgpiphibaaa.AE

namespace Go.Proofs.Ytbmedgpiphibaaa.AE
set_option linter.unusedVariables false
set_option linter.unusedSimpArgs false
set_option linter.constructorNameAsVariable false
open Go

theorem aop_call_irr {call call':CallF} {ev:Opd→AV} {H:Heap} {io:IOp} (h:∀ sh f args,io ≠ .call sh f args):aop call ev H io=aop call' ev H io:=by
 cases io <;> first | rfl | exact absurd rfl (h _ _ _) | skip
 all_goals (rename_i b _; cases b <;> rfl)

theorem xop0_ok {u:XU} {x:XCall} {call:CallF} (hx:XOK x call) {ev:Opd→AV} {H:Heap} {io:IOp} {K:AV→Heap→Ans} {r:AV} (h:xop0 C0 u x ev H io K=some r):∃ v H',aop call ev H io=some (v,H')∧K v H'=some r:=by
 unfold xop0 at h
 split at h
 ·obtain ⟨t,h1,h2⟩:=xpick_ok h
  exact ⟨_,H,by simp [aop,h1],h2⟩
 ·obtain ⟨v,h1,h2⟩:=xbin_ok h
  exact ⟨v,H,by simp [aop,h1],h2⟩
 ·split at h <;> (try (cases h; done))
  rename_i b hb
  exact ⟨_,H,by simp only [aop,hb],h⟩
 ·split at h <;> (try (cases h; done))
  rename_i b hb
  exact ⟨_,H,by simp only [aop,hb],h⟩
 ·split at h
  ·rename_i l h1 h2
   rcases cnd_some h with ⟨_,h⟩ | ⟨h0,h⟩
   ·cases h
   ·cases l with
    | nil=>simp at h0
    | cons a l=>exact ⟨_,H,by simp only [aop,h1,h2,eqV,eqS],h⟩
  ·split at h <;> (try (cases h; done))
   rename_i b hb
   exact ⟨_,H,by simp only [aop,hb],h⟩
 ·split at h <;> (try (cases h; done))
  rename_i g a b hf
  split at h
  ·obtain ⟨v,H',h1,h2⟩:=hx _ _ _ _ _ _ _ h
   exact ⟨v,H',by simp only [aop,hf,h1],h2⟩
  ·obtain ⟨v,H',h1,h2⟩:=hx _ _ _ _ _ _ _ h
   exact ⟨v,H',by simp only [aop,hf,h1],h2⟩
 ·split at h <;> (try (cases h; done))
  rename_i s hs
  obtain ⟨hh,h1,h2⟩:=xbound_ok h
  obtain ⟨l,h3,h4⟩:=xbound_ok h2
  exact ⟨_,H,by simp only [aop,aSubS,hs,h1,h3],h4⟩
 ·split at h <;> (try (cases h; done))
  rename_i s q hs hq
  rcases cnd_some h with ⟨h0,h⟩ | ⟨_,h⟩
  ·have h0:=of_decide_eq_true h0
   simp only [C0] at h
   obtain ⟨n,h1,h2⟩:=Option.bind_eq_some_iff.mp h
   cases hb:s[q.toNat]? with
   | none=>simp [hb,isInt] at h1
   | some b =>
     simp [hb,isInt] at h1
     subst h1
     exact ⟨_,H,by simp [aop,hs,hq,h0,hb],h2⟩
  ·cases h
 ·split at h <;> (try (cases h; done))
  rename_i q hq
  split at h <;> (try (cases h; done))
  ·rename_i l hl
   unfold xat at h
   rcases cnd_some h with ⟨h0,h⟩ | ⟨_,h⟩
   ·have h0:=of_decide_eq_true h0
    obtain ⟨v,h1,h2⟩:=destr_sound _ _ _ _ h
    split at h2 <;> (try (cases h2; done))
    rename_i hc
    have hc:=of_decide_eq_true hc
    exact ⟨_,H,by simp [aop,hq,hl,aIx,h0,h1,hc],h2⟩
   ·cases h
  ·rename_i id o n hl
   split at h <;> (try (cases h; done))
   rename_i b hb
   split at h <;> (try (cases h; done))
   rename_i he
   have he:=of_decide_eq_true he
   rcases cnd_some h with ⟨h0,h⟩ | ⟨_,h⟩
   ·have h0:=of_decide_eq_true h0
    exact ⟨_,H,by simp [aop,hq,hl,aIx,hb,h0,he],h⟩
   ·cases h
 ·rename_i hne
  split at h <;> (try (cases h; done))
  rename_i v H' hv
  exact ⟨v,H',by rw [← hv]; exact aop_call_irr (fun sh f args he=>by subst he; simp_all),h⟩

theorem xop_ok {u:XU} {sh:Sh} {x:XCall} {call:CallF} (hx:XOK x call) {ev:Opd→AV} {H:Heap} {io:IOp} {K:AV→Heap→Ans} {r:AV} (h:xop C0 u sh x ev H io K=some r):∃ v H',aop call ev H io=some (v,H')∧K v H'=some r:=by
 unfold xop at h
 split at h
 ·split at h
  ·rename_i hi
   rw [close_okB hi]
   simp only [C0] at h
   split at h
   ·rename_i v H' hv
    split at h
    ·exact ⟨v,H',hv,h⟩
    ·obtain ⟨w,h1,h2⟩:=destr_sound _ _ _ _ h
     cases h1
     exact ⟨v,H',hv,h2⟩
   ·cases h
  ·exact xop0_ok hx h
 ·exact xop0_ok hx h

theorem set_same {env:List AV} {t:Nat} {v:AV} (h:env.getD t .undef=v) (hv:v ≠ .undef):env.set t v=env:=by
 apply List.ext_getElem?
 intro i
 by_cases hi:t=i
 ·subst hi
  rcases Nat.lt_or_ge t env.length with hlt | hge
  ·rw [List.getElem?_set_self hlt,List.getElem?_eq_getElem hlt,← h]
   simp [List.getD_eq_getElem?_getD,hlt]
  ·exact absurd (by rw [← h]; simp [List.getD_eq_getElem?_getD,List.getElem?_eq_none hge]) hv
 ·rw [List.getElem?_set_ne hi]

theorem xwant_ok {env:List AV} {g:Option (Option Nat × Bool)} {A B:List AV→Ans} {r:AV} (h:xwant env g A B=some r):(want env g=some true∧A env=some r) ∨ (want env g=some false∧B env=some r):=by
 unfold xwant at h
 split at h
 ·exact .inl ⟨rfl,h⟩
 ·rename_i t b
  split at h <;> (try (cases h; done))
  ·rename_i c hc
   split at h
   ·rcases cnd_some h with ⟨h0,h⟩ | ⟨h0,h⟩
    ·subst h0; rw [set_same hc (by simp)] at h; exact .inl ⟨by simp only [want,hc]; rfl,h⟩
    ·subst h0; rw [set_same hc (by simp)] at h; exact .inr ⟨by simp only [want,hc]; rfl,h⟩
   ·rcases cnd_some h with ⟨h0,h⟩ | ⟨h0,h⟩
    ·subst h0; rw [set_same hc (by simp)] at h; exact .inr ⟨by simp only [want,hc]; rfl,h⟩
    ·subst h0; rw [set_same hc (by simp)] at h; exact .inl ⟨by simp only [want,hc]; rfl,h⟩
  ·rename_i hc
   exact .inr ⟨by simp only [want,hc],h⟩
 ·exact .inr ⟨rfl,h⟩

theorem xrunOps_ok {u:XU} {x:XCall} {call:CallF} (hx:XOK x call):∀ (l:List IOper) (s:St) (K:St→Ans) (r:AV),xrunOps C0 u x l s K=some r→∃ s',runOps call l s=some s'∧K s'=some r
 | [],s,K,r,h=>⟨s,rfl,h⟩
 | o::l,s,K,r,h=>by
   simp only [xrunOps] at h
   rcases xwant_ok h with ⟨hw,h⟩ | ⟨hw,h⟩
   ·obtain ⟨v,H',h1,h2⟩:=xop_ok hx h
    obtain ⟨s',h3,h4⟩:=xrunOps_ok hx l _ K r h2
    exact ⟨s',by simp only [runOps,hw,h1,h3],h4⟩
   ·obtain ⟨s',h3,h4⟩:=xrunOps_ok hx l _ K r h
    exact ⟨s',by simp only [runOps,hw,h3],h4⟩

theorem XOK.sel {x y:XCall} {call callP:CallF} (hx:XOK x call) (hy:XOK y callP) (b:Bool):XOK (match b with | true=>x | false=>y) (bif b then call else callP):=by cases b <;> assumption
theorem xrunOpsD_ok {u:XU} {x y:XCall} {call callP:CallF} (hx:XOK x call) (hy:XOK y callP):∀ (l:List (IOper × List Nat)) (i:Nat) (log:List (Nat × Nat)) (s:St) (K:St→Ans) (r:AV),xrunOpsD C0 u x y l i log s K=some r→∃ s',runOpsD call callP l i log s=some s'∧K s'=some r
 | [],i,log,s,K,r,h=>⟨s,rfl,h⟩
 | (o,chk)::l,i,log,s,K,r,h=>by
   simp only [xrunOpsD] at h
   rcases xwant_ok h with ⟨hw,h⟩ | ⟨hw,h⟩
   ·split at h <;> (try (cases h; done))
    rename_i hl
    obtain ⟨v,H',h1,h2⟩:=xop_ok (hx.sel hy (isFull chk)) h
    obtain ⟨s',h3,h4⟩:=xrunOpsD_ok hx hy l _ _ _ K r h2
    refine ⟨s',?_,h4⟩
    simp only [runOpsD,hw]
    split
    ·simp only [h1,h3]
    ·rename_i hn
     rw [Bool.or_eq_true] at hl
     rcases hl with hl | hl
     ·exact absurd (by rw [List.isEmpty_iff] at hl; subst hl; simp) hn
     ·exact absurd hl hn
   ·obtain ⟨s',h3,h4⟩:=xrunOpsD_ok hx hy l _ _ _ K r h
    exact ⟨s',by simp only [runOpsD,hw,h3],h4⟩

theorem xdisj_ok {chk:List Nat} {t:TV} {K:Ans} {r:AV}:∀ {l:List (Nat × TV)},xdisj C0 chk t l K=some r→K=some r∧∀ e ∈ l,chk.contains e.1=true→disjB e.2 t=true
 | [],h=>⟨h,fun e he=>by cases he⟩
 | (i,s)::l,h=>by
   simp only [xdisj] at h
   split at h
   ·rename_i hc
    split at h
    ·obtain ⟨h1,h2⟩:=xdisj_ok h
     refine ⟨h1,fun e he hk=>?_⟩
     rcases List.mem_cons.mp he with rfl | he
     ·rfl
     ·exact h2 e he hk
    ·obtain ⟨h1,h2⟩:=xdisj_ok h
     refine ⟨h1,fun e he hk=>?_⟩
     rcases List.mem_cons.mp he with rfl | he
     ·cases s <;> rfl
     ·exact h2 e he hk
    ·simp only [C0] at h
     split at h
     ·rename_i hd
      obtain ⟨h1,h2⟩:=xdisj_ok h
      refine ⟨h1,fun e he hk=>?_⟩
      rcases List.mem_cons.mp he with rfl | he
      ·exact hd
      ·exact h2 e he hk
     ·cases h
   ·rename_i hc
    obtain ⟨h1,h2⟩:=xdisj_ok h
    refine ⟨h1,fun e he hk=>?_⟩
    rcases List.mem_cons.mp he with rfl | he
    ·rw [hc] at hk; cases hk
    ·exact h2 e he hk

def tmem (id:Nat):TV→Prop
 | .no=>False
 | .addr v=>id ∈ idsOf v
 | .all l=>l.all (noId DEPTH)=false
theorem touch_tv {ev:Opd→AV} {H:Heap} {io:IOp} {id:Nat} (h:id ∈ touch ev H io):tmem id (tvOf ev io):=by
 cases io <;> first | (cases h; done) | skip
 case load ag n a =>
  simp only [touch] at h
  simp only [tvOf,tmem]
  split at h
  ·rename_i he; rw [he]; exact h
  ·cases h
 case store n a v =>
  simp only [touch] at h
  simp only [tvOf,tmem]
  split at h
  ·rename_i he; rw [he]; exact h
  ·cases h
 case b2s x =>
  simp only [touch] at h
  simp only [tvOf,tmem]
  split at h
  ·rename_i he; rw [he]; exact h
  ·cases h
 case call sh f args =>
  simp only [touch] at h
  simp only [tvOf]
  split at h
  ·rename_i he
   rw [he]
   simp only [tmem]
   split at h
   ·cases h
   ·rename_i hn; simpa using hn
  ·cases h
theorem disj_no {id:Nat} {a b:TV} (h:disjB a b=true) (ha:tmem id a) (hb:tmem id b):False:=by
 cases a <;> cases b <;> simp only [tmem] at ha hb <;> try exact ha.elim
 all_goals (try exact hb.elim)
 ·rename_i v w
  simp only [disjB,List.all_eq_true] at h
  have:=h id ha
  simp [hb] at this
 ·simp only [disjB] at h; rw [hb] at h; cases h
 ·simp only [disjB] at h; rw [ha] at h; cases h
 ·simp only [disjB] at h; rw [ha] at h; cases h
theorem xrunOpsH_ok {u:XU} {x y:XCall} {call callP:CallF} (hx:XOK x call) (hy:XOK y callP):∀ (l:List (IOper × List Nat)) (i:Nat) (lg:List (Nat × TV)) (log:List (Nat × Nat)) (s:St) (K:St→Ans) (r:AV),(∀ p ∈ log,∃ e ∈ lg,e.1=p.1∧tmem p.2 e.2) →
 xrunOpsH C0 u x y l i lg s K=some r→∃ s',runOpsD call callP l i log s=some s'∧K s'=some r
 | [],i,lg,log,s,K,r,_,h=>⟨s,rfl,h⟩
 | (o,chk)::l,i,lg,log,s,K,r,hl,h=>by
   simp only [xrunOpsH] at h
   rcases xwant_ok h with ⟨hw,h⟩ | ⟨hw,h⟩
   ·obtain ⟨h,hd⟩:=xdisj_ok h
    obtain ⟨v,H',h1,h2⟩:=xop_ok (hx.sel hy (isFull chk)) h
    have hok:log.all (fun p=>!(chk.contains p.1) || !((touch (evO s.env) s.H o.op).contains p.2))=true:=by
     rw [List.all_eq_true]
     intro p hp
     obtain ⟨e,he,h3,h4⟩:=hl p hp
     cases hc:chk.contains p.1 with
     | false=>rfl
     | true =>
       cases ht:(touch (evO s.env) s.H o.op).contains p.2 with
       | false=>rfl
       | true=>exact (disj_no (hd e he (by rw [h3]; exact hc)) h4 (touch_tv (by simpa using ht))).elim
    obtain ⟨s',h3,h4⟩:=xrunOpsH_ok hx hy l _ _ (log ++ (touch (evO s.env) s.H o.op).map fun id=>(i,id)) _ K r (by
     intro p hp
     rcases List.mem_append.mp hp with hp | hp
     ·obtain ⟨e,he,h3,h4⟩:=hl p hp
      exact ⟨e,List.mem_cons_of_mem _ he,h3,h4⟩
     ·obtain ⟨id,hid,rfl⟩:=List.mem_map.mp hp
      exact ⟨_,List.mem_cons_self ..,rfl,touch_tv hid⟩) h2
    refine ⟨s',?_,h4⟩
    simp only [runOpsD,hw]
    rw [if_pos hok]
    simp only [h1,h3]
   ·obtain ⟨s',h3,h4⟩:=xrunOpsH_ok hx hy l _ _ log _ K r hl h
    exact ⟨s',by simp only [runOpsD,hw,h3],h4⟩

theorem xkeep_ok {A B:Heap} {l:List AV} {K:Ans} {r:AV} (h:xkeep C0 A B l K=some r):keepL A B l=true∧K=some r:=by
 unfold xkeep at h
 split at h
 ·exact ⟨rfl,h⟩
 ·simp only [C0] at h
  split at h
  ·rename_i hk; exact ⟨hk,h⟩
  ·cases h
theorem xlogS_ok {o:SOp} {ev:Opd→AV} {H H':Heap} {K:Ans} {r:AV}:∀ {log:List LogE},xlogS C0 o (namesOf ev o.op.op) H H' log K=some r→(log.all fun e=>!(o.chk.contains e.idx) || logC e o ev H H')=true∧K=some r
 | [],h=>⟨rfl,h⟩
 | e::l,h=>by
   simp only [xlogS] at h
   cases hc:o.chk.contains e.idx with
   | false =>
     rw [hc] at h
     obtain ⟨q1,q2⟩:=xlogS_ok (log:=l) h
     exact ⟨by rw [List.all_cons,q1,hc]; rfl,q2⟩
   | true =>
     rw [hc] at h
     simp only at h
     have fin:∀ {K':Ans},(match chgS o with
      | true=>xkeep C0 H H' e.nm (xlogS C0 o (namesOf ev o.op.op) H H' l K)
      | false=>xlogS C0 o (namesOf ev o.op.op) H H' l K)=some r→(match chgS o with
      | true=>keepL H H' e.nm
      | false=>true)=true∧(l.all fun e=>!(o.chk.contains e.idx) || logC e o ev H H')=true∧K=some r:=by
      intro K' h
      cases hg:chgS o with
      | true =>
        rw [hg] at h
        obtain ⟨q1,q2⟩:=xkeep_ok h
        obtain ⟨q3,q4⟩:=xlogS_ok (log:=l) q2
        exact ⟨q1,q3,q4⟩
      | false =>
        rw [hg] at h
        obtain ⟨q3,q4⟩:=xlogS_ok (log:=l) h
        exact ⟨rfl,q3,q4⟩
     have all:logC e o ev H H'=true→(l.all fun e=>!(o.chk.contains e.idx) || logC e o ev H H')=true→((e::l).all fun e=>!(o.chk.contains e.idx) || logC e o ev H H')=true:=fun h1 h2=>by rw [List.all_cons,h2,h1]; simp
     cases hch:e.chg with
     | none =>
       rw [hch] at h
       obtain ⟨q1,q2,q3⟩:=fin (K':=none) h
       exact ⟨all (by unfold logC; rw [hch]; simp only [Bool.true_and]; exact q1) q2,q3⟩
     | some p =>
       obtain ⟨A,B⟩:=p
       rw [hch] at h
       obtain ⟨q0,h⟩:=xkeep_ok h
       obtain ⟨q1,q2,q3⟩:=fin (K':=none) h
       exact ⟨all (by unfold logC; rw [hch]; simp only [q0,Bool.true_and]; exact q1) q2,q3⟩
theorem makeAt_close {ev:Opd→AV} {id:Nat} {io:IOp}:makeAt (evO []) id (close ev io)=makeAt ev id io:=by
 cases io <;> try rfl
 case mkrow e n ps=>simp only [close,makeAt,List.map_map]; rfl
theorem xstepS_ok {u:XU} {x:XCall} {call:CallF} (hx:XOK x call) {base:Nat} {o:SOp} {env:List AV} {H:Heap} {K:AV→Heap→Ans} {r:AV} (h:xstepS C0 u x base o env H K=some r):∃ v H',stepS call base o ⟨env,H⟩=some (v,H')∧K v H'=some r:=by
 unfold xstepS at h
 unfold stepS
 cases hs:o.slot with
 | none =>
   rw [hs] at h
   exact xop_ok hx h
 | some j =>
   rw [hs] at h
   simp only at h ⊢
   cases ha:allocOp o.op.op with
   | true=>rw [ha] at h; exact ⟨_,_,rfl,h⟩
   | false =>
     rw [ha] at h
     simp only [C0,makeAt_close] at h
     split at h
     ·rename_i v k hk
      exact ⟨v,_,by simp only [hk],h⟩
     ·cases h
theorem xrunOpsS_ok {u:XU} {x:XCall} {call:CallF} (hx:XOK x call) {base:Nat}:∀ (l:List SOp) (i:Nat) (log:List LogE) (s:St) (K:St→Ans) (r:AV),xrunOpsS C0 u x base l i log s K=some r→∃ s',runOpsS call base l i log s=some s'∧K s'=some r
 | [],i,log,s,K,r,h=>⟨s,rfl,h⟩
 | o::l,i,log,s,K,r,h=>by
   simp only [xrunOpsS] at h
   rcases xwant_ok h with ⟨hw,h⟩ | ⟨hw,h⟩
   ·obtain ⟨v,H',h1,h2⟩:=xstepS_ok hx h
    obtain ⟨h3,h4⟩:=xlogS_ok h2
    obtain ⟨h5,h6⟩:=xkeep_ok h4
    obtain ⟨s',h7,h8⟩:=xrunOpsS_ok hx l _ _ _ K r h6
    refine ⟨s',?_,h8⟩
    have hkp:(o.kp.all fun j=>keepB s.H H' (base+j))=true:=by
     rw [List.all_eq_true]
     intro j hj
     have:=List.all_eq_true.mp (List.all_eq_true.mp h5 (.ptr (base+j) 0 0) (List.mem_map.mpr ⟨j,hj,rfl⟩)) (base+j) (by simp [idsOf])
     exact this
    simp only [runOpsS,hw]
    have hs:stepS call base o s=some (v,H'):=h1
    simp only [hs,h3,hkp,Bool.and_self]
    exact h7
   ·obtain ⟨s',h3,h4⟩:=xrunOpsS_ok hx l _ _ _ K r h
    exact ⟨s',by simp only [runOpsS,hw,h3],h4⟩

theorem xexec_ok {x y:XCall} {call callP:CallF} (hx:XOK x call) (hy:XOK y callP) (u:XU) (fu:Nat):∀ (c:IC) (da:List Nat) (s:St) (K:Ex→St→Ans) (r:AV),xexec C0 u x y fu c da s K=some r→∃ e s',exec call callP fu c s=some (e,s')∧K e s'=some r:=by
 intro c
 induction c with
 | skip=>intro da s K r h; exact ⟨_,_,rfl,h⟩
 | reg ops =>
   intro da s K r h
   obtain ⟨s',h1,h2⟩:=xrunOps_ok hx ops s _ r h
   exact ⟨.normal,s',by simp only [exec,h1],h2⟩
 | regD ops =>
   intro da s K r h
   simp only [xexec] at h
   split at h
   ·obtain ⟨s',h1,h2⟩:=xrunOpsH_ok hx hy ops 0 [] [] s _ r (fun p hp=>by cases hp) h
    exact ⟨.normal,s',by simp only [exec,h1],h2⟩
   ·obtain ⟨s',h1,h2⟩:=xrunOpsD_ok hx hy ops 0 [] s _ r h
    exact ⟨.normal,s',by simp only [exec,h1],h2⟩
 | regS ops =>
   intro da s K r h
   simp only [xexec] at h
   split at h
   ·simp only [C0] at h
    obtain ⟨s',h1,h2⟩:=xrunOpsS_ok hx ops 0 [] _ _ r h
    exact ⟨.normal,s',by simp only [exec,h1],h2⟩
   ·cases h
 | seq a b iha ihb =>
   intro da s K r h
   simp only [xexec] at h
   split at h
   case h_2 =>
    simp only [C0,xiter] at h
    obtain ⟨e,s1,h1,h2⟩:=iha _ s _ r (destrE_sound h)
    cases e with
    | normal =>
      simp only [xgo,if_true] at h2
      obtain ⟨e,s',h3,h4⟩:=ihb _ s1 K r (destrE_sound h2)
      exact ⟨e,s',by simp only [exec,h1,h3],h4⟩
    | exit i =>
      simp only at h2
      split at h2
      ·cases h2
      ·rename_i hi
       have hi:=of_decide_eq_false hi
       simp only [xgo,if_neg hi] at h2
       exact ⟨_,s1,by simp only [exec,h1],destrE_sound (xgo_ok (f:=fun i s1=>destrE C0 u da (daX a da i) a s s1 fun s2=>K (.exit i) s2) _ h2)⟩
    | ret =>
      have h3:=destrE_sound h2
      split at h3
      ·exact ⟨_,s1,by simp only [exec,h1],h3⟩
      ·cases h3
   obtain ⟨e,s1,h1,h2⟩:=iha _ s _ r h
   cases e with
   | normal =>
     obtain ⟨e,s',h3,h4⟩:=ihb _ s1 K r h2
     exact ⟨e,s',by simp only [exec,h1,h3],h4⟩
   | exit i=>exact ⟨.exit i,s1,by simp only [exec,h1],h2⟩
   | ret=>exact ⟨.ret,s1,by simp only [exec,h1],h2⟩
 | cond c a b iha ihb =>
   intro da s K r h
   cases c with
   | t n =>
     simp only [xexec] at h
     split at h <;> (try (cases h; done))
     rename_i t ht
     rcases cnd_some h with ⟨h0,h⟩ | ⟨h0,h⟩
     ·subst h0; rw [set_same ht (by simp)] at h
      obtain ⟨e,s',h1,h2⟩:=iha _ s K r h
      exact ⟨e,s',by simp only [exec,evO,ht,cond_true,h1],h2⟩
     ·subst h0; rw [set_same ht (by simp)] at h
      obtain ⟨e,s',h1,h2⟩:=ihb _ s K r h
      exact ⟨e,s',by simp only [exec,evO,ht,cond_false,h1],h2⟩
   | v c =>
     simp only [xexec] at h
     split at h <;> (try (cases h; done))
     rename_i t
     rcases cnd_some h with ⟨h0,h⟩ | ⟨h0,h⟩
     ·subst h0
      obtain ⟨e,s',h1,h2⟩:=iha _ s K r h
      exact ⟨e,s',by simp only [exec,evO,cond_true,h1],h2⟩
     ·subst h0
      obtain ⟨e,s',h1,h2⟩:=ihb _ s K r h
      exact ⟨e,s',by simp only [exec,evO,cond_false,h1],h2⟩
 | block id a iha =>
   intro da s K r h
   obtain ⟨e,s1,h1,h2⟩:=iha _ s _ r h
   cases e with
   | normal=>exact ⟨.normal,s1,by simp only [exec,h1],h2⟩
   | ret=>exact ⟨.ret,s1,by simp only [exec,h1],h2⟩
   | exit i =>
     simp only at h2
     split at h2
     ·rename_i hi
      have hi:=of_decide_eq_true hi
      exact ⟨.normal,s1,by simp only [exec,h1,hi,if_true],h2⟩
     ·rename_i hi
      have hi:=of_decide_eq_false hi
      exact ⟨.exit i,s1,by simp only [exec,h1,hi,if_false],h2⟩
 | loop a iha =>
   intro da s K r h
   have key2:∀ (n:Nat) (s0:St) (K':Ex→St→Ans),xiter (fun s1 Kn=>xexec C0 u x y fu a da s1 Kn) n s0 K'=some r→∃ e s',iter (exec call callP fu a) n s0=some (e,s')∧K' e s'=some r:=by
    intro n
    induction n with
    | zero=>intro s0 K' h; simp [xiter] at h
    | succ n ih =>
      intro s0 K' h
      simp only [xiter] at h
      obtain ⟨e,s1,h1,h2⟩:=iha _ s0 _ r h
      cases e with
      | normal =>
        obtain ⟨e,s',h3,h4⟩:=ih s1 K' h2
        exact ⟨e,s',by simp only [iter,h1,h3],h4⟩
      | exit i=>exact ⟨.exit i,s1,by simp only [iter,h1],h2⟩
      | ret=>exact ⟨.ret,s1,by simp only [iter,h1],h2⟩
   have key:∀ (n:Nat) (s0:St) (K':Ex→St→Ans),xiter (fun s1 Kn=>destrE C0 u da [] a s s1 fun s2=>xexec C0 u x y fu a da s2 Kn) n s0 K'=some r→∃ e s',iter (exec call callP fu a) n s0=some (e,s')∧K' e s'=some r:=by
    intro n
    induction n with
    | zero=>intro s0 K' h; simp [xiter] at h
    | succ n ih =>
      intro s0 K' h
      simp only [xiter] at h
      obtain ⟨e,s1,h1,h2⟩:=iha _ s0 _ r (destrE_sound h)
      cases e with
      | normal =>
        obtain ⟨e,s',h3,h4⟩:=ih s1 K' h2
        exact ⟨e,s',by simp only [iter,h1,h3],h4⟩
      | exit i=>exact ⟨.exit i,s1,by simp only [iter,h1],h2⟩
      | ret=>exact ⟨.ret,s1,by simp only [iter,h1],h2⟩
   simp only [xexec] at h
   cases hun:u.un with
   | true=>rw [hun] at h; exact key2 fu s K h
   | false =>
     rw [hun] at h
     obtain ⟨e,s',h1,h2⟩:=key fu s _ h
     cases e with
     | normal=>cases h2
     | exit i=>exact ⟨_,s',h1,destrE_sound (xgo_ok (f:=fun i s1=>destrE C0 u da (daX a da i) a s s1 fun s2=>K (.exit i) s2) _ h2)⟩
     | ret=>exact ⟨_,s',h1,destrE_sound h2⟩
 | exit id=>intro da s K r h; exact ⟨_,_,rfl,h⟩
 | ret=>intro da s K r h; exact ⟨_,_,rfl,h⟩

theorem xresAll_ok {s:St}:∀ {l:List RV} {K:List AV→Ans} {r:AV},xresAll C0 s l K=some r→∃ vs,resAll s l=some vs∧K vs=some r
 | [],K,r,h=>⟨[],rfl,h⟩
 | .tmp t::l,K,r,h=>by
   obtain ⟨vs,h1,h2⟩:=xresAll_ok (l:=l) h
   exact ⟨_,by simp only [resAll,resOf,h1],h2⟩
 | .cell ag n t::l,K,r,h=>by
   have h:(match (match aLoad s.H ag n (s.env.getD t .undef) with
    | some v=>some (v,s.H)
    | none=>none:Option (AV × Heap)) with
    | some (v,_)=>xresAll C0 s l fun vs=>K (v::vs)
    | none=>none)=some r:=h
   cases ha:aLoad s.H ag n (s.env.getD t .undef) with
   | none=>rw [ha] at h; cases h
   | some v =>
     rw [ha] at h
     obtain ⟨vs,h1,h2⟩:=xresAll_ok (l:=l) h
     exact ⟨_,by simp only [resAll,resOf,ha,h1],h2⟩

theorem xrunFn_ok {un:XU} {x y:XCall} {call callP:CallF} (hx:XOK x call) (hy:XOK y callP) {fu:Nat} {fn:AFn} {args:List AV} {H:Heap} {K:AV→Heap→Ans} {r:AV} (h:xrunFn C0 un x y fu fn args H K=some r) :
 ∃ v H',runFn call callP fu fn args H=some (v,H')∧K v H'=some r:=by
 unfold xrunFn at h
 obtain ⟨e,s',h1,h2⟩:=xexec_ok hx hy un fu _ _ _ _ r h
 unfold runFn
 rw [h1]
 cases e with
 | exit i=>cases h2
 | normal =>
   simp only at h2 ⊢
   cases hm:un.hm <;> simp only [hm] at h2
   ·cases hr:resAll s' fn.results with
    | none=>simp [hr] at h2
    | some vs=>simp only [hr] at h2; exact ⟨_,_,rfl,h2⟩
   ·obtain ⟨vs,h3,h4⟩:=xresAll_ok h2
    simp only [h3]; exact ⟨_,_,rfl,h4⟩
 | ret =>
   simp only at h2 ⊢
   cases hm:un.hm <;> simp only [hm] at h2
   ·cases hr:resAll s' fn.results with
    | none=>simp [hr] at h2
    | some vs=>simp only [hr] at h2; exact ⟨_,_,rfl,h2⟩
   ·obtain ⟨vs,h3,h4⟩:=xresAll_ok h2
    simp only [h3]; exact ⟨_,_,rfl,h4⟩

theorem xempty_ok {M:Mod} {pc:PC} {g:FuncId} {args:List AV} {H:Heap} {K:AV→Heap→Ans} {rest:Ans} {r:AV} (h:xempty C0 M pc g args H K rest=some r) :
 (∃ v,emptyR M pc g args=some v∧K v H=some r) ∨ (emptyR M pc g args=none∧rest=some r):=by
 unfold xempty at h
 unfold emptyR
 cases hc:M.cl g with
 | false=>simp only [hc] at h; exact .inr ⟨rfl,h⟩
 | true =>
   simp only [hc] at h
   match args,h with
   | [],h=>exact .inr ⟨rfl,h⟩
   | [x],h =>
     simp only [C0] at h
     obtain ⟨b,hb,h⟩:=Option.bind_eq_some_iff.mp h
     have hx:clr x=some (.bool b):=by
      unfold isBool at hb
      split at hb <;> (try (cases hb; done))
      cases hb; assumption
     simp only [hx]
     cases b with
     | false=>exact .inr ⟨rfl,h⟩
     | true =>
       simp only [cnd] at h
       split at h
       ·rename_i he
        exact .inl ⟨_,he,h⟩
       ·cases h
   | _::_::_,h=>exact .inr ⟨rfl,h⟩

theorem xcallZ_ok (M:Mod) (pc:PC):XOK (xcallZ C0 M pc) (callZ M pc):=by
 intro sn sh g args H K r h
 unfold xcallZ at h
 unfold callZ
 cases he:M.ext g with
 | some e =>
   simp only [he,xext] at h
   obtain ⟨v,h1,h2⟩:=destr_sound _ _ _ _ h
   exact ⟨v,H,by simp [extCall,h1],h2⟩
 | none =>
   simp only [he] at h
   cases hi:M.inl g <;> simp only [hi] at h
   ·obtain ⟨v,H',h1,h2⟩:=xpure_ok pc _ _ _ _ _ _ _ h
    exact ⟨v,H',by simp [h1],h2⟩
   ·rcases xempty_ok h with ⟨v,h1,h2⟩ | ⟨h1,h⟩
    ·exact ⟨v,H,by simp [h1],h2⟩
    ·obtain ⟨v,H',h2,h3⟩:=xpure_ok pc _ _ _ _ _ _ _ h
     exact ⟨v,H',by simp [h1,h2],h3⟩

theorem xfresh_ok {un:XU} {x y:XCall} {call callP:CallF} (hx:XOK x call) (hy:XOK y callP) {fu:Nat} {fn:AFn} {args:List AV} {H:Heap} {K:AV→Heap→Ans} {r:AV} (h:xfresh C0 un x y fu fn args H K=some r) :
 ∃ v H',freshRun (runFn call callP fu fn) args H=some (v,H')∧K v H'=some r:=by
 unfold xfresh at h
 obtain ⟨v,H1,h1,h2⟩:=xrunFn_ok hx hy h
 unfold freshRun
 rw [h1]
 simp only
 cases hp:padOk H.length H1 with
 | false=>simp [hp] at h2
 | true=>simp only [hp] at h2 ⊢; exact ⟨_,_,rfl,h2⟩

theorem xcallB_ok (M:Mod) (U:FuncId→XU) (pc:PC):∀ n b,XOK (xcallB C0 M U pc n b) (callB M pc n b)
 | 0,_=>xcallZ_ok M pc
 | n+1,b=>by
   intro sn sh g args H K r h
   simp only [xcallB] at h
   cases he:M.ext g with
   | some e =>
     simp only [he,xext] at h
     obtain ⟨v,h1,h2⟩:=destr_sound _ _ _ _ h
     exact ⟨v,H,by simp [callB,he,extCall,h1],h2⟩
   | none =>
     simp only [he] at h
     cases hi:M.inl g <;> simp only [hi] at h
     ·obtain ⟨v,H',h1,h2⟩:=xpure_ok pc _ _ _ _ _ _ _ h
      exact ⟨v,H',by simp [callB,he,hi,h1],h2⟩
     ·split at h
      ·change (match callB M pc (n+1) b g args H with
        | some (v,H')=>destr C0 sh (some v) fun v'=>K v' H'
        | none=>none)=some r at h
       cases hc:callB M pc (n+1) b g args H with
       | none=>rw [hc] at h; cases h
       | some p =>
         rw [hc] at h
         obtain ⟨v',h1,h2⟩:=destr_sound _ _ _ _ h
         cases h1
         exact ⟨p.1,p.2,rfl,h2⟩
      ·rcases xempty_ok h with ⟨v,hv,h2⟩ | ⟨hn,h⟩
       ·exact ⟨v,H,by simp [callB,he,hi,hv],h2⟩
       ·cases b with
        | true =>
          cases hc:M.code g args.length with
          | none=>simp [hc] at h
          | some fn =>
            simp only [hc] at h
            obtain ⟨v,H',h1,h2⟩:=xrunFn_ok (xcallB_ok M U pc n true) (xcallB_ok M U pc n false) h
            exact ⟨v,H',by simp [callB,he,hi,hn,hc,h1],h2⟩
        | false =>
          simp only at h
          cases hf:(M.fr g && args.all (noId DEPTH)) with
          | false =>
            simp only [hf] at h
            obtain ⟨v,H',h1,h2⟩:=xpure_ok pc _ _ _ _ _ _ _ h
            exact ⟨v,H',by simp only [callB,he,hi,hn,hf,h1]; rfl,h2⟩
          | true =>
            simp only [hf] at h
            cases hc:M.code g args.length with
            | none=>simp [hc] at h
            | some fn =>
              simp only [hc] at h
              obtain ⟨v,H',h1,h2⟩:=xfresh_ok (xcallB_ok M U pc n true) (xcallB_ok M U pc n false) h
              exact ⟨v,H',by simp only [callB,he,hi,hn,hf,hc,h1]; rfl,h2⟩

theorem xcall_ok {M:Mod} {U:FuncId→XU} {d:Nat} {g:FuncId} {args:List AV} {r:AV} (h:xcall C0 M U d g args=some r):pcall M (d+1) g args=some r:=by
 unfold xcall at h
 simp only [pcall]
 cases hc:M.code g args.length with
 | none=>simp [hc] at h
 | some fn =>
   simp only [hc] at h
   obtain ⟨v,H',h1,h2⟩:=xrunFn_ok (xcallB_ok M U (pcall M d) IDEPTH true) (xcallB_ok M U (pcall M d) IDEPTH false) h
   simp only [h1]
   split at h2
   ·exact h2
   ·exact h2
theorem xmeth_ok {M:Mod} {U:FuncId→XU} {d n:Nat} {g:FuncId} {args:List AV} {H H':Heap} {v:AV} (he:M.ext g=none) (hi:M.inl g=true) (hn:M.cl g=false) (h:∀ K,xmeth C0 M U d n g args H K=K v H'):callB M (pcall M d) (n+1) true g args H=some (v,H'):=by
 classical
 have hk:=h fun v' H1=>if v'=v∧H1=H' then some .undef else none
 rw [if_pos ⟨rfl,rfl⟩] at hk
 unfold xmeth at hk
 have hem:emptyR M (pcall M d) g args=none:=by simp [emptyR,hn]
 simp only [callB,he,hi,hem,if_true]
 cases hc:M.code g args.length with
 | none=>simp [hc] at hk
 | some fn =>
   simp only [hc] at hk ⊢
   obtain ⟨v',H1,h1,h2⟩:=xrunFn_ok (xcallB_ok M U (pcall M d) n true) (xcallB_ok M U (pcall M d) n false) hk
   split at h2
   ·rename_i hh
    obtain ⟨rfl,rfl⟩:=hh
    exact h1
   ·cases h2
end Go.Proofs.Ytbmedgpiphibaaa.AE

namespace Go.Proofs.Ytbmedgpiphibaaa.AE
set_option linter.unusedVariables false
set_option linter.unusedSimpArgs false
set_option linter.constructorNameAsVariable false
open Go Go.RowKit
set_option maxRecDepth 100000
def codes:FuncId→Nat→Option AFn
 | 3,_=>some c3
 | 4,_=>some c4
 | 5,_=>some c5
 | 6,_=>some c6
 | 7,_=>some c7
 | 8,_=>some c8
 | 9,_=>some c9
 | 10,_=>some c10
 | 11,_=>some c11
 | 12,_=>some c12
 | 13,_=>some c13
 | 14,_=>some c14
 | 15,_=>some c15
 | 16,_=>some c16
 | 17,_=>some c17
 | 18,_=>some c18
 | 19,_=>some c19
 | 20,_=>some c20
 | 21,_=>some c21
 | 22,_=>some c22
 | 23,_=>some c23
 | 24,_=>some c24
 | 25,_=>some c25
 | 26,_=>some c26
 | 27,_=>some c27
 | 28,_=>some c28
 | 29,_=>some c29
 | 30,_=>some c30
 | 31,_=>some c31
 | 32,_=>some c32
 | 33,_=>some c33
 | 34,_=>some c34
 | 35,_=>some c35
 | 36,_=>some c36
 | 37,_=>some c37
 | 38,_=>some c38
 | 39,_=>some c39
 | 40,_=>some c40
 | 41,_=>some c41
 | 42,_=>some c42
 | 43,_=>some c43
 | 44,_=>some c44
 | 45,_=>some c45
 | 46,_=>some c46
 | 47,_=>some c47
 | 48,_=>some c48
 | 49,_=>some c49
 | 50,_=>some c50
 | 51,_=>some c51
 | 52,_=>some c52
 | 53,_=>some c53
 | 54,_=>some c54
 | 55,_=>some c55
 | 56,_=>some c56
 | 57,_=>some c57
 | 58,_=>some c58
 | 59,_=>some c59
 | 60,_=>some c60
 | 61,_=>some c61
 | 62,_=>some c62
 | 63,_=>some c63
 | 64,_=>some c64
 | 65,_=>some c65
 | 66,_=>some c66
 | 67,_=>some c67
 | 68,_=>some c68
 | 69,_=>some c69
 | 70,_=>some c70
 | 71,_=>some c71
 | 72,_=>some c72
 | 73,_=>some c73
 | 74,_=>some c74
 | 75,_=>some c75
 | 76,_=>some c76
 | 77,_=>some c77
 | 78,_=>some c78
 | 79,_=>some c79
 | 80,_=>some c80
 | 81,_=>some c81
 | 82,_=>some c82
 | _,_=>none
def exts:FuncId→Option (List AV→Option AV)
 | _=>none
def M:Mod:={ code:=codes,inl:=inlF,ext:=exts,fu:=10000000000000000000 }
def hm10:List (Nat × Sh):=rlx h10
def hm21:List (Nat × Sh):=rlx h21
def hm37:List (Nat × Sh):=rlx h37
def hm27:List (Nat × Sh):=rlx h27
def hm22:List (Nat × Sh):=rlx h22
def hm14:List (Nat × Sh):=rlx h14
def hm26:List (Nat × Sh):=rlx h26
def hm6:List (Nat × Sh):=rlx h6
def hm16:List (Nat × Sh):=rlx h16
def hm45:List (Nat × Sh):=rlx h45
def hm61:List (Nat × Sh):=rlx h61
def hm67:List (Nat × Sh):=rlx h67
def hm72:List (Nat × Sh):=rlx h72
def hm73:List (Nat × Sh):=rlx h73
def unr:FuncId→XU
 | 3=>⟨false,false,h3,false,false⟩
 | 4=>⟨false,false,h4,false,false⟩
 | 5=>⟨false,false,h5,false,false⟩
 | 6=>⟨false,true,hm6,false,false⟩
 | 7=>⟨false,false,h7,false,false⟩
 | 8=>⟨true,false,h8,false,false⟩
 | 9=>⟨false,false,h9,false,false⟩
 | 10=>⟨false,true,hm10,false,false⟩
 | 11=>⟨false,false,h11,false,false⟩
 | 12=>⟨false,false,h12,false,false⟩
 | 13=>⟨false,false,h13,false,false⟩
 | 14=>⟨false,true,hm14,false,false⟩
 | 15=>⟨false,false,h15,false,false⟩
 | 16=>⟨false,true,hm16,false,false⟩
 | 17=>⟨true,false,h17,false,false⟩
 | 18=>⟨false,false,h18,false,false⟩
 | 19=>⟨false,false,h19,false,false⟩
 | 20=>⟨false,false,h20,false,false⟩
 | 21=>⟨false,true,hm21,false,true⟩
 | 22=>⟨false,true,hm22,false,false⟩
 | 23=>⟨false,false,h23,false,false⟩
 | 24=>⟨false,false,h24,false,false⟩
 | 25=>⟨false,false,h25,false,false⟩
 | 26=>⟨false,true,hm26,false,false⟩
 | 27=>⟨false,true,hm27,false,false⟩
 | 28=>⟨false,false,h28,false,false⟩
 | 29=>⟨false,false,h29,false,false⟩
 | 30=>⟨false,false,h30,false,false⟩
 | 31=>⟨false,false,h31,false,false⟩
 | 32=>⟨false,false,h32,false,false⟩
 | 33=>⟨false,false,h33,false,false⟩
 | 34=>⟨false,false,h34,false,false⟩
 | 35=>⟨false,false,h35,false,false⟩
 | 36=>⟨false,false,h36,false,false⟩
 | 37=>⟨false,true,hm37,false,false⟩
 | 38=>⟨false,false,h38,false,false⟩
 | 39=>⟨false,false,h39,false,false⟩
 | 40=>⟨false,false,h40,false,false⟩
 | 41=>⟨false,false,h41,false,false⟩
 | 42=>⟨false,false,h42,false,false⟩
 | 43=>⟨false,false,h43,false,false⟩
 | 44=>⟨false,false,h44,false,false⟩
 | 45=>⟨false,true,hm45,false,false⟩
 | 46=>⟨false,false,h46,false,false⟩
 | 47=>⟨false,false,h47,false,false⟩
 | 48=>⟨false,false,h48,false,false⟩
 | 49=>⟨false,false,h49,false,false⟩
 | 50=>⟨false,false,h50,false,false⟩
 | 51=>⟨false,false,h51,false,false⟩
 | 52=>⟨false,false,h52,false,false⟩
 | 53=>⟨false,false,h53,false,false⟩
 | 54=>⟨false,false,h54,false,false⟩
 | 55=>⟨false,false,h55,false,false⟩
 | 56=>⟨false,false,h56,false,false⟩
 | 57=>⟨false,false,h57,false,false⟩
 | 58=>⟨false,false,h58,false,false⟩
 | 59=>⟨false,false,h59,false,false⟩
 | 60=>⟨false,false,h60,false,false⟩
 | 61=>⟨false,true,hm61,false,false⟩
 | 62=>⟨false,false,h62,false,false⟩
 | 63=>⟨false,false,h63,false,false⟩
 | 64=>⟨false,false,h64,false,false⟩
 | 65=>⟨false,false,h65,false,false⟩
 | 66=>⟨false,false,h66,false,false⟩
 | 67=>⟨false,true,hm67,false,false⟩
 | 68=>⟨false,false,h68,false,false⟩
 | 69=>⟨false,false,h69,false,false⟩
 | 70=>⟨false,false,h70,false,false⟩
 | 71=>⟨false,false,h71,false,false⟩
 | 72=>⟨false,true,hm72,false,false⟩
 | 73=>⟨false,true,hm73,false,false⟩
 | 74=>⟨false,false,h74,false,false⟩
 | 75=>⟨false,false,h75,false,false⟩
 | 76=>⟨false,false,h76,false,false⟩
 | 77=>⟨false,false,h77,false,false⟩
 | 78=>⟨false,false,h78,false,false⟩
 | 79=>⟨false,false,h79,false,false⟩
 | 80=>⟨false,false,h80,false,false⟩
 | 81=>⟨false,false,h81,false,false⟩
 | 82=>⟨false,false,h82,false,false⟩
 | _=>⟨false,false,[],false,false⟩
theorem modOK:ModOK Try.prog M:=by
 constructor
 ·intro g n fn h
  change codes g n=some fn at h
  unfold codes at h
  split at h <;> (try (cases h; done))
  ·cases h; exact fnOK_of c3_ok
  ·cases h; exact fnOK_of c4_ok
  ·cases h; exact fnOK_of c5_ok
  ·cases h; exact fnOK_of c6_ok
  ·cases h; exact fnOK_of c7_ok
  ·cases h; exact fnOK_of c8_ok
  ·cases h; exact fnOK_of c9_ok
  ·cases h; exact fnOK_of c10_ok
  ·cases h; exact fnOK_of c11_ok
  ·cases h; exact fnOK_of c12_ok
  ·cases h; exact fnOK_of c13_ok
  ·cases h; exact fnOK_of c14_ok
  ·cases h; exact fnOK_of c15_ok
  ·cases h; exact fnOK_of c16_ok
  ·cases h; exact fnOK_of c17_ok
  ·cases h; exact fnOK_of c18_ok
  ·cases h; exact fnOK_of c19_ok
  ·cases h; exact fnOK_of c20_ok
  ·cases h; exact fnOK_of c21_ok
  ·cases h; exact fnOK_of c22_ok
  ·cases h; exact fnOK_of c23_ok
  ·cases h; exact fnOK_of c24_ok
  ·cases h; exact fnOK_of c25_ok
  ·cases h; exact fnOK_of c26_ok
  ·cases h; exact fnOK_of c27_ok
  ·cases h; exact fnOK_of c28_ok
  ·cases h; exact fnOK_of c29_ok
  ·cases h; exact fnOK_of c30_ok
  ·cases h; exact fnOK_of c31_ok
  ·cases h; exact fnOK_of c32_ok
  ·cases h; exact fnOK_of c33_ok
  ·cases h; exact fnOK_of c34_ok
  ·cases h; exact fnOK_of c35_ok
  ·cases h; exact fnOK_of c36_ok
  ·cases h; exact fnOK_of c37_ok
  ·cases h; exact fnOK_of c38_ok
  ·cases h; exact fnOK_of c39_ok
  ·cases h; exact fnOK_of c40_ok
  ·cases h; exact fnOK_of c41_ok
  ·cases h; exact fnOK_of c42_ok
  ·cases h; exact fnOK_of c43_ok
  ·cases h; exact fnOK_of c44_ok
  ·cases h; exact fnOK_of c45_ok
  ·cases h; exact fnOK_of c46_ok
  ·cases h; exact fnOK_of c47_ok
  ·cases h; exact fnOK_of c48_ok
  ·cases h; exact fnOK_of c49_ok
  ·cases h; exact fnOK_of c50_ok
  ·cases h; exact fnOK_of c51_ok
  ·cases h; exact fnOK_of c52_ok
  ·cases h; exact fnOK_of c53_ok
  ·cases h; exact fnOK_of c54_ok
  ·cases h; exact fnOK_of c55_ok
  ·cases h; exact fnOK_of c56_ok
  ·cases h; exact fnOK_of c57_ok
  ·cases h; exact fnOK_of c58_ok
  ·cases h; exact fnOK_of c59_ok
  ·cases h; exact fnOK_of c60_ok
  ·cases h; exact fnOK_of c61_ok
  ·cases h; exact fnOK_of c62_ok
  ·cases h; exact fnOK_of c63_ok
  ·cases h; exact fnOK_of c64_ok
  ·cases h; exact fnOK_of c65_ok
  ·cases h; exact fnOK_of c66_ok
  ·cases h; exact fnOK_of c67_ok
  ·cases h; exact fnOK_of c68_ok
  ·cases h; exact fnOK_of c69_ok
  ·cases h; exact fnOK_of c70_ok
  ·cases h; exact fnOK_of c71_ok
  ·cases h; exact fnOK_of c72_ok
  ·cases h; exact fnOK_of c73_ok
  ·cases h; exact fnOK_of c74_ok
  ·cases h; exact fnOK_of c75_ok
  ·cases h; exact fnOK_of c76_ok
  ·cases h; exact fnOK_of c77_ok
  ·cases h; exact fnOK_of c78_ok
  ·cases h; exact fnOK_of c79_ok
  ·cases h; exact fnOK_of c80_ok
  ·cases h; exact fnOK_of c81_ok
  ·cases h; exact fnOK_of c82_ok
 ·intro g e h
  change exts g=some e at h
  unfold exts at h
  split at h <;> (try (cases h; done))
end Go.Proofs.Ytbmedgpiphibaaa.AE

namespace Go.Proofs.Ytbmedgpiphibaaa.AE
set_option linter.unusedVariables false
set_option linter.unusedSimpArgs false
set_option linter.constructorNameAsVariable false
open Go

theorem C0_int (k:IntKind) (n:Int) (K:Int→Ans):C0.int k (some (.int k n)) K=K n:=by simp [C0,isInt]
theorem C0_bool (b:Bool) (K:Bool→Ans):C0.bool (some (.bool b)) K=K b:=by simp [C0,isBool]
theorem C0_str (b:List UInt8) (K:List UInt8→Ans):C0.str (some (.str b)) K=K b:=by simp [C0,isStr]
theorem C0_lst (l:List AV) (K:List AV→Ans) (Z:Bool→Ans):C0.lst (some (.lst l)) K Z=K l:=rfl
theorem C0_lstz (b:Bool) (K:List AV→Ans) (Z:Bool→Ans):C0.lst (some (.zsl b)) K Z=Z b:=rfl
theorem C0_agg (n:Nat) (l:List AV) (h:l.length=n) (K:List AV→Ans):C0.agg n (some (.agg l)) K=K l:=by simp [C0,isAgg,h]
theorem C0_tup (n:Nat) (l:List AV) (h:l.length=n) (K:List AV→Ans):C0.tup n (some (.tup l)) K=K l:=by simp [C0,isTup,h]
theorem C0_agg2 (a b:AV) (K:List AV→Ans):C0.agg 2 (some (.agg [a,b])) K=K [a,b]:=C0_agg 2 _ rfl K
theorem C0_tup2 (a b:AV) (K:List AV→Ans):C0.tup 2 (some (.tup [a,b])) K=K [a,b]:=C0_tup 2 _ rfl K
theorem C0_any (v:AV) (K:AV→Ans):C0.any (some v) K=K v:=by simp [C0]
theorem C0_same (v:AV) (K:Ans):C0.same (some v) v K=K:=by simp [C0]
theorem C0_sameH (H:Heap) (K:Ans):C0.sameH H H K=K:=by simp [C0]
theorem cnd_t (a b:Ans):cnd true a b=a:=rfl
theorem cnd_f (a b:Ans):cnd false a b=b:=rfl
theorem pl_len {t:Bool} {a b:Ans} (h:t=true):cnd t a b=a:=by subst h; rfl
theorem pl_f {t:Bool} {a b:Ans} (h:t=false):cnd t a b=b:=by subst h; rfl
theorem pl_same {o:Option AV} {v:AV} {K:Ans} (h:o=some v):C0.same o v K=K:=by subst h; simp [C0]
theorem pl_sameH {H:Heap} {K:Ans}:C0.sameH H H K=K:=by simp [C0]
theorem pl_int {k:IntKind} {o:Option AV} {n:Int} {K:Int→Ans} (h:o=some (.int k n)):C0.int k o K=K n:=by subst h; simp [C0,isInt]
theorem pl_bool {o:Option AV} {n:Bool} {K:Bool→Ans} (h:o=some (.bool n)):C0.bool o K=K n:=by subst h; simp [C0,isBool]
theorem pl_str {o:Option AV} {n:List UInt8} {K:List UInt8→Ans} (h:o=some (.str n)):C0.str o K=K n:=by subst h; simp [C0,isStr]
theorem pl_any {o:Option AV} {v:AV} {K:AV→Ans} (h:o=some v):C0.any o K=K v:=by subst h; simp [C0]
theorem pl_agg {n:Nat} {o:Option AV} {l:List AV} {K:List AV→Ans} (h:o=some (.agg l)) (h2:l.length=n):C0.agg n o K=K l:=by subst h; simp [C0,isAgg,h2]
theorem pl_tup {n:Nat} {o:Option AV} {l:List AV} {K:List AV→Ans} (h:o=some (.tup l)) (h2:l.length=n):C0.tup n o K=K l:=by subst h; simp [C0,isTup,h2]
theorem pl_lst {o:Option AV} {l:List AV} {K:List AV→Ans} {Z:Bool→Ans} (h:o=some (.lst l)):C0.lst o K Z=K l:=by subst h; rfl
def kIter (R:St→(Ex→St→Ans)→Ans) (n:Nat) (K:Ex→St→Ans):Ex→St→Ans:=fun e s'=>match e with
 | .normal=>xiter R n s' K
 | .exit i=>K (.exit i) s'
 | .ret=>K .ret s'
def kOut (ids:List Nat) (ks:List (St→Ans)) (kr:St→Ans):Ex→St→Ans:=fun e s'=>match e with
 | .ret=>kr s'
 | .exit i=>xgo i ids ks s'
 | .normal=>none
theorem kIter_n (R:St→(Ex→St→Ans)→Ans) (n:Nat) (K:Ex→St→Ans) (s:St):kIter R n K .normal s=xiter R n s K:=rfl
theorem kIter_x (R:St→(Ex→St→Ans)→Ans) (n:Nat) (K:Ex→St→Ans) (i:Nat) (s:St):kIter R n K (.exit i) s=K (.exit i) s:=rfl
theorem kIter_r (R:St→(Ex→St→Ans)→Ans) (n:Nat) (K:Ex→St→Ans) (s:St):kIter R n K .ret s=K .ret s:=rfl
theorem kOut_x (ids:List Nat) (ks:List (St→Ans)) (kr:St→Ans) (i:Nat) (s:St):kOut ids ks kr (.exit i) s=xgo i ids ks s:=rfl
theorem kOut_r (ids:List Nat) (ks:List (St→Ans)) (kr:St→Ans) (s:St):kOut ids ks kr .ret s=kr s:=rfl
theorem it_ret (R:St→(Ex→St→Ans)→Ans) (n:Nat) (s:St) (ids:List Nat) (ks:List (St→Ans)) (kr:St→Ans):C0.iter R n s ids ks kr=xiter R n s (kOut ids ks kr):=rfl
theorem xiter_s (R:St→(Ex→St→Ans)→Ans) (n:Nat) (s:St) (K:Ex→St→Ans):xiter R (n+1) s K=R s (kIter R n K):=rfl
theorem xgo_hit (i:Nat) (ids:List Nat) (k:St→Ans) (ks:List (St→Ans)) (s:St):xgo i (i::ids) (k::ks) s=k s:=by simp [xgo]
theorem xgo_miss {i j:Nat} (ids:List Nat) (k:St→Ans) (ks:List (St→Ans)) (s:St) (h:(i == j)=false):xgo i (j::ids) (k::ks) s=xgo i ids ks s:=by
 simp only [xgo]; rw [if_neg]; intro he; subst he; simp at h
theorem C0_hop (H:Heap) (io:IOp) (K:AV→Heap→Ans):C0.hop H io K=match aop noCall (evO []) H io with
 | some (v,H')=>K v H'
 | none=>none:=rfl
theorem hop_eq {H H':Heap} {io:IOp} {v:AV} {K:AV→Heap→Ans} (h:aop noCall (evO []) H io=some (v,H')):C0.hop H io K=K v H':=by rw [C0_hop,h]
theorem cal_eq {M:Mod} {pc:FuncId→List AV→Option AV} {n:Nat} {b:Bool} {g:FuncId} {args:List AV} {H H':Heap} {v:AV} {K:AV→Heap→Ans} (h:callB M pc n b g args H=some (v,H')):C0.cal M pc n b g args H K=K v H':=by
 change (match callB M pc n b g args H with
  | some (v,H')=>K v H'
  | none=>none)=_
 rw [h]
theorem C0_fin (H:Heap) (v:AV):C0.fin H v=some (snap 12 H v):=rfl
theorem C0_disj {a b:TV} {K:Ans} (h:disjB a b=true):C0.disj a b K=K:=by simp only [C0,h]
theorem snp_free {H:Heap} {args:List AV} {K:List AV→Bool→Ans} (h:args.all (noId DEPTH)=true):C0.snp H args K=K args true:=by simp [C0,h]
theorem snp_id {H:Heap} {args:List AV} {K:List AV→Bool→Ans} (h:args.all (noId DEPTH)=false):C0.snp H args K=K (args.map (snap DEPTH H)) false:=by simp [C0,h]
theorem at0 (a:AV) (l:List AV):(a::l)[0]?=some a:=rfl
theorem at1 (a b:AV) (l:List AV):(a::b::l)[1]?=some b:=rfl
theorem at2 (a b c:AV) (l:List AV):(a::b::c::l)[2]?=some c:=rfl
theorem at3 (a b c d:AV) (l:List AV):(a::b::c::d::l)[3]?=some d:=rfl
theorem at4 (a b c d e:AV) (l:List AV):(a::b::c::d::e::l)[4]?=some e:=rfl
theorem at5 (a b c d e f:AV) (l:List AV):(a::b::c::d::e::f::l)[5]?=some f:=rfl
theorem at6 (a b c d e f g:AV) (l:List AV):(a::b::c::d::e::f::g::l)[6]?=some g:=rfl
theorem at7 (a b c d e f g h:AV) (l:List AV):(a::b::c::d::e::f::g::h::l)[7]?=some h:=rfl
theorem told {d g:Nat} {args:List AV} {r:AV} {t:Ans} (h:xcall C0 M unr d g args=t) (h2:t=some r):pcall M (d+1) g args=some r:=xcall_ok (h.trans h2)
theorem up {k d:Nat} {p:Nat→Prop} (h:∀ d,p (d+k)) (hd:k≤d):p d:=by
 have:=h (d - k)
 rwa [Nat.sub_add_cancel hd] at this
/-! The steps over printed prefixes -/
theorem yt {a b c:Ans} (h:a=b) (k:b=c):a=c:=h.trans k
theorem yS {o:Option AV} {v:AV} {K:Ans} (h:o=some v:=by rfl):C0.same o v K=K:=pl_same h
theorem ySs {e:List AV} {k:Nat} {l:List AV} {K:Ans} (h:(e.drop k).take l.length=l:=by rfl):sames C0 e k l K=K:=by
 induction l generalizing k with
 | nil=>rfl
 | cons v l ih =>
   cases hd:e.drop k with
   | nil=>rw [hd] at h; cases h
   | cons w t =>
     rw [hd,List.length_cons,List.take_succ_cons] at h
     injection h with h1 h2
     have e1:e[k]?=some w:=by have:=List.getElem?_drop (xs:=e) (i:=k) (j:=0); rw [hd] at this; simpa using this.symm
     have e2:e.drop (k+1)=t:=by rw [← List.drop_drop,hd]; rfl
     subst h1
     exact (pl_same e1).trans (ih (by rw [e2]; exact h2))
theorem yA {o:Option AV} {v:AV} {K:AV→Ans} (h:o=some v:=by rfl):C0.any o K=K v:=pl_any h
theorem yAs {e:List AV} {k n:Nat} {K:Ans} (h:Nat.ble (k+n) e.length=true:=by rfl):anys C0 e k n K=K:=by
 induction n generalizing k with
 | zero=>rfl
 | succ n ih =>
   have h:=Nat.le_of_ble_eq_true h
   exact (pl_any (List.getElem?_eq_getElem (show k < e.length by omega))).trans (ih (by rw [Nat.ble_eq]; omega))
theorem yI {k:IntKind} {o:Option AV} {n:Int} {K:Int→Ans} (h:o=some (.int k n):=by rfl):C0.int k o K=K n:=pl_int h
theorem yB {o:Option AV} {n:Bool} {K:Bool→Ans} (h:o=some (.bool n):=by rfl):C0.bool o K=K n:=pl_bool h
theorem yG {n:Nat} {o:Option AV} {l:List AV} {K:List AV→Ans} (h:o=some (.agg l):=by rfl) (h2:l.length=n:=by rfl):C0.agg n o K=K l:=pl_agg h h2
theorem yT {n:Nat} {o:Option AV} {l:List AV} {K:List AV→Ans} (h:o=some (.tup l):=by rfl) (h2:l.length=n:=by rfl):C0.tup n o K=K l:=pl_tup h h2
end Go.Proofs.Ytbmedgpiphibaaa.AE

namespace Go.Proofs.Ytbmedgpiphibaaa.AE
set_option linter.unusedVariables false
set_option linter.unusedSimpArgs false
set_option linter.constructorNameAsVariable false
open Go
theorem hg_lt {H:Heap} {id:Nat} {b:Blk} (h:hget H id=some b):id < H.length:=by
 unfold hget at h
 rcases Nat.lt_or_ge id H.length with h1 | h1
 ·exact h1
 ·rw [List.getElem?_eq_none h1] at h; cases h
theorem hget_app {H l:Heap} {id:Nat} {b:Blk} (h:hget H id=some b):hget (H ++ l) id=some b:=by
 have:=hg_lt h
 unfold hget at *
 rw [List.getElem?_append_left this]; exact h
theorem hget_new {H:Heap} {b:Blk}:hget (H ++ [some b]) H.length=some b:=by unfold hget; simp
theorem hget_set {H:Heap} {id:Nat} {b:Blk} (h:id < H.length):hget (H.set id (some b)) id=some b:=by unfold hget; simp [h]
theorem hget_set_ne {H:Heap} {id id':Nat} {x:Option Blk} (h:id ≠ id'):hget (H.set id x) id'=hget H id':=by unfold hget; rw [List.getElem?_set_ne h]
def Own (H:Heap) (e:ETy) (v:AV) (l:List AV):Prop:=(l=[]∧∃ b,v=.zsl b) ∨ ∃ id,v=.slc id 0 l.length∧hget H id=some ⟨e,l⟩
def names (v:AV) (id:Nat):Prop:=∃ o n,v=.slc id o n
theorem own_els {H:Heap} {e:ETy} {v:AV} {l:List AV} (h:Own H e v l):elsOf H v=some l:=by
 rcases h with ⟨rfl,b,rfl⟩ | ⟨id,rfl,h⟩
 ·rfl
 ·simp [elsOf,h]
theorem own_keep {H H':Heap} {e:ETy} {v:AV} {l:List AV} (h:Own H e v l) (hk:∀ id b,names v id→hget H id=some b→hget H' id=some b):Own H' e v l:=by
 rcases h with ⟨rfl,b,rfl⟩ | ⟨id,rfl,h⟩
 ·exact .inl ⟨rfl,b,rfl⟩
 ·exact .inr ⟨id,rfl,hk _ _ ⟨_,_,rfl⟩ h⟩
theorem app_own {H:Heap} {e:ETy} {v:AV} {l xs:List AV} {r:AV} (ho:Own H e v l) (hr:elsOf H r=some xs) (hx:xs.all (elOk e)=true) (hs:(l.length+xs.length) * e.bytes≤140737488355328) (hs2:l.length+xs.length≤9223372036854775807) :
 ∃ v' H',aop noCall (evO []) H (.app e (.v v) (.v r))=some (v',H')∧Own H' e v' (l ++ xs)∧v'=.slc H.length 0 (l.length+xs.length)∧H'.length=H.length+1∧∀ id b,¬ names v id→hget H id=some b→hget H' id=some b:=by
 rcases ho with ⟨rfl,b,rfl⟩ | ⟨id,rfl,h⟩
 ·refine ⟨.slc H.length 0 xs.length,H ++ [some ⟨e,xs⟩],?_,.inr ⟨H.length,by simp,by simp [hget_new]⟩,by simp,by simp,fun id b _ h=>hget_app h⟩
  simp only [aop,evO,hr,aApp]
  rw [if_pos ⟨by simpa using hs,by simpa using hs2,hx⟩]
 ·have hid:=hg_lt h
  have hl:(H.set id none).length=H.length:=by simp
  refine ⟨.slc H.length 0 (l.length+xs.length),H.set id none ++ [some ⟨e,l ++ xs⟩],?_,.inr ⟨H.length,by simp,?_⟩,rfl,by simp,fun id' b hn h'=>?_⟩
  ·simp only [aop,evO,hr,aApp,h]
   rw [if_pos ⟨trivial,hs,hs2,trivial,trivial,hx⟩]
  ·rw [← hl]; exact hget_new
  ·refine hget_app ?_
   rw [hget_set_ne]; exact h'
   rintro rfl; exact hn ⟨_,_,rfl⟩
theorem app_one {H:Heap} {e:ETy} {v x:AV} {l:List AV} (ho:Own H e v l) (hx:elOk e x=true) (hs:(l.length+1) * e.bytes≤140737488355328) (hs2:l.length+1≤9223372036854775807) :
 ∃ v' H',(∀ K:AV→Heap→Ans,(C0.hop H (.mkrow e 1 [(0,.v x)]) fun r H1=>C0.hop H1 (.app e (.v v) (.v r)) K)=K v' H')∧Own H' e v' (l ++ [x])∧(∀ id,names v' id→H.length < id)∧H.length≤H'.length∧∀ id b,¬ names v id→hget H id=some b→hget H' id=some b:=by
 have e1:aop noCall (evO []) H (.mkrow e 1 [(0,.v x)])=some (.slc H.length 0 1,H ++ [some ⟨e,[x]⟩]):=by
  simp [aop,evO,fillR,hx]
 have ho':Own (H ++ [some ⟨e,[x]⟩]) e v l:=own_keep ho fun id b _ h=>hget_app h
 obtain ⟨v',H',h1,h2,h5,h3,h4⟩:=app_own (xs:=[x]) (r:=.slc H.length 0 1) ho' (by simp [elsOf,hget_new]) (by simp [hx]) (by simpa using hs) (by simpa using hs2)
 refine ⟨v',H',?_,h2,?_,by rw [h3]; simp; omega,fun id b hn h=>h4 id b hn (hget_app h)⟩
 ·intro K; rw [hop_eq e1,hop_eq h1]
 ·rintro id ⟨o,n,rfl⟩
  injection h5 with h6
  rw [h6]; simp
theorem ix_slc {H:Heap} {id o n es:Nat} {b:Blk} {q:Int} {K:AV→Heap→Ans} (h:hget H id=some b) (h0:0≤q) (h1:q < n) (he:b.e.es=es) :
 C0.hop H (.ixAS .any es (.v (.slc id o n)) (.v (.int .i64 q))) K=K (.ptr id (o+q.toNat) 0) H:=hop_eq (by simp [aop,evO,aInt,aIx,h,h0,h1,he])
theorem ix_lst {H:Heap} {l:List AV} {es:Nat} {q:Int} {x:AV} {K:AV→Heap→Ans} (h0:0≤q) (hx:l[q.toNat]?=some x) (he:x.cells.length=es) :
 C0.hop H (.ixAS .any es (.v (.lst l)) (.v (.int .i64 q))) K=K (.fptr x 0) H:=hop_eq (by simp [aop,evO,aInt,aIx,h0,hx,he])
theorem ld_ptr {H:Heap} {id i j n:Nat} {ag:Bool} {b:Blk} {el v:AV} {K:AV→Heap→Ans} (h:hget H id=some b) (hi:b.els[i]?=some el) (hs:sub ag n j el=some v) :
 C0.hop H (.load ag n (.v (.ptr id i j))) K=K v H:=hop_eq (by simp [aop,evO,aLoad,h,hi,hs])
theorem ld_fptr {H:Heap} {x v:AV} {j n:Nat} {ag:Bool} {K:AV→Heap→Ans} (hs:sub ag n j x=some v) :
 C0.hop H (.load ag n (.v (.fptr x j))) K=K v H:=hop_eq (by simp [aop,evO,aLoad,hs])
theorem st_ptr {H:Heap} {id i j n:Nat} {b:Blk} {el el' x:AV} {K:AV→Heap→Ans} (h:hget H id=some b) (hi:b.els[i]?=some el) (hs:putSub n j x el=some el') :
 C0.hop H (.store n (.v (.ptr id i j)) (.v x)) K=K .undef (H.set id (some { b with els:=b.els.set i el' })):=hop_eq (by simp [aop,evO,aStore,h,hi,hs])
theorem sh_ptr {H:Heap} {id i j d:Nat} {K:AV→Heap→Ans}:C0.hop H (.fldA d (.v (.ptr id i j))) K=K (.ptr id i (j+d)) H:=hop_eq rfl
theorem sh_fptr {H:Heap} {x:AV} {j d:Nat} {K:AV→Heap→Ans}:C0.hop H (.fldA d (.v (.fptr x j))) K=K (.fptr x (j+d)) H:=hop_eq rfl
theorem len_lst {H:Heap} {l:List AV} {K:AV→Heap→Ans}:C0.hop H (.bk .lenV [.v (.lst l)]) K=K (.int .i64 l.length) H:=hop_eq rfl
theorem len_zsl {H:Heap} {b:Bool} {K:AV→Heap→Ans}:C0.hop H (.bk .lenV [.v (.zsl b)]) K=K (.int .i64 0) H:=hop_eq rfl
theorem nil_ptr {H:Heap} {id i j:Nat} {K:AV→Heap→Ans}:C0.hop H (.nilck (.v (.ptr id i j))) K=K (.ptr id i j) H:=hop_eq rfl
theorem snap_own {H:Heap} {e:ETy} {v:AV} {l:List AV} {k:Nat} (ho:Own H e v l) (hf:∀ x ∈ l,snap (k+1) H x=x):snap (k+2) H v=.lst l:=by
 rcases ho with ⟨rfl,b,rfl⟩ | ⟨id,rfl,h⟩
 ·rfl
 ·simp only [snap,h]
  rw [if_neg (by omega),if_pos (by simp)]
  congr 1
  simp only [List.drop_zero,List.take_length]
  exact (List.map_congr_left hf).trans (List.map_id _)
def iv (l:List Int):List AV:=l.map fun x=>.int .i64 x
theorem iv_len (l:List Int):(iv l).length=l.length:=by simp [iv]
theorem iv_app (l m:List Int):iv (l ++ m)=iv l ++ iv m:=by simp [iv]
theorem iv_at (l:List Int) (i:Nat):(iv l)[i]?=l[i]?.map fun x=>.int .i64 x:=by simp [iv]
theorem snap_iv {H:Heap} {e:ETy} {v:AV} {l:List Int} (ho:Own H e v (iv l)):snap 12 H v=.lst (iv l) :=
 snap_own (k:=10) ho fun x hx=>by
  unfold iv at hx
  obtain ⟨n,_,rfl⟩:=List.mem_map.mp hx
  rfl
theorem snp_own {H:Heap} {e:ETy} {v:AV} {l:List Int} {K:List AV→Bool→Ans} (ho:Own H e v (iv l)) (hne:l ≠ []):C0.snp H [v] K=K [.lst (iv l)] false:=by
 have hs:=snap_iv ho
 rcases ho with ⟨h,_⟩ | ⟨id,rfl,h⟩
 ·exact absurd (by simpa [iv] using h) hne
 ·rw [snp_id (by rfl)]
  simp only [List.map_cons,List.map_nil]
  rw [show DEPTH=12 from rfl,hs]
theorem hget_s {H S:Heap} {k:Nat} {b:Blk} (h:S[k]?=some (some b)):hget (H ++ S) (H.length+k)=some b:=by
 unfold hget; rw [List.getElem?_append_right (by omega),show H.length+k - H.length=k by omega,h]
theorem set_s {H S:Heap} {k:Nat} {x:Option Blk}:(H ++ S).set (H.length+k) x=H ++ S.set k x:=by
 rw [List.set_append_right _ _ (by omega),show H.length+k - H.length=k by omega]
theorem al_n {H:Heap} {e:ETy} {K:AV→Heap→Ans}:C0.hop H (.alloc e) K=K (.ptr (H.length+0) 0 0) (H ++ [some ⟨e,[e.zero]⟩]):=rfl
theorem al_s {H S:Heap} {e:ETy} {K:AV→Heap→Ans}:C0.hop (H ++ S) (.alloc e) K=K (.ptr (H.length+S.length) 0 0) (H ++ (S ++ [some ⟨e,[e.zero]⟩])):=by
 refine (hop_eq rfl).trans ?_
 simp only [evO,List.length_append,List.append_assoc]
theorem bx_n {H:Heap} {e:ETy} {x:AV} {K:AV→Heap→Ans} (h:elOk e x=true):C0.hop H (.box e (.v x)) K=K (.ptr (H.length+0) 0 0) (H ++ [some ⟨e,[x]⟩]):=hop_eq (by simp [aop,evO,h])
theorem ld_s {H S:Heap} {k i j n:Nat} {ag:Bool} {b:Blk} {el v:AV} {K:AV→Heap→Ans} (h:S[k]?=some (some b)) (hi:b.els[i]?=some el) (hs:sub ag n j el=some v) :
 C0.hop (H ++ S) (.load ag n (.v (.ptr (H.length+k) i j))) K=K v (H ++ S):=ld_ptr (hget_s h) hi hs
theorem st_s {H S:Heap} {k i j n:Nat} {b:Blk} {el el' x:AV} {K:AV→Heap→Ans} (h:S[k]?=some (some b)) (hi:b.els[i]?=some el) (hs:putSub n j x el=some el') :
 C0.hop (H ++ S) (.store n (.v (.ptr (H.length+k) i j)) (.v x)) K=K .undef (H ++ S.set k (some { b with els:=b.els.set i el' })):=by
 rw [st_ptr (hget_s h) hi hs,set_s]
theorem hg_z {Z X:Heap} {k:Nat} {b:Blk} (h:Z[k]?=some (some b)):hget (Z ++ X) k=some b:=by
 unfold hget
 have hk:k < Z.length:=by
  rcases Nat.lt_or_ge k Z.length with h1 | h1
  ·exact h1
  ·rw [List.getElem?_eq_none h1] at h; cases h
 rw [List.getElem?_append_left hk,h]
theorem set_z {Z X:Heap} {k:Nat} {b:Blk} {x:Option Blk} (h:Z[k]?=some (some b)):(Z ++ X).set k x=Z.set k x ++ X:=by
 have hk:k < Z.length:=by
  rcases Nat.lt_or_ge k Z.length with h1 | h1
  ·exact h1
  ·rw [List.getElem?_eq_none h1] at h; cases h
 rw [List.set_append_left _ _ hk]
theorem hg_o {Z G S:Heap} {z k:Nat} {b:Blk} (hz:Z.length=z) (h:S[k]?=some (some b)):hget (Z ++ (G ++ S)) (z+(G.length+k))=some b:=by
 subst hz
 unfold hget
 rw [List.getElem?_append_right (by omega),show Z.length+(G.length+k) - Z.length=G.length+k by omega,List.getElem?_append_right (by omega),show G.length+k - G.length=k by omega,h]
theorem set_o {Z G S:Heap} {z k:Nat} {x:Option Blk} (hz:Z.length=z):(Z ++ (G ++ S)).set (z+(G.length+k)) x=Z ++ (G ++ S.set k x):=by
 subst hz
 rw [List.set_append_right _ _ (by omega),show Z.length+(G.length+k) - Z.length=G.length+k by omega,List.set_append_right _ _ (by omega),show G.length+k - G.length=k by omega]
theorem al_o {Z G S:Heap} {z s:Nat} {e:ETy} {K:AV→Heap→Ans} (hz:Z.length=z) (hs:S.length=s):C0.hop (Z ++ (G ++ S)) (.alloc e) K=K (.ptr (z+(G.length+s)) 0 0) (Z ++ (G ++ (S ++ [some ⟨e,[e.zero]⟩]))):=by
 subst hz hs
 refine (hop_eq rfl).trans ?_
 simp only [evO,List.length_append,List.append_assoc]
theorem bx_o {Z G S:Heap} {z s:Nat} {e:ETy} {x:AV} {K:AV→Heap→Ans} (hz:Z.length=z) (hs:S.length=s) (h:elOk e x=true):C0.hop (Z ++ (G ++ S)) (.box e (.v x)) K=K (.ptr (z+(G.length+s)) 0 0) (Z ++ (G ++ (S ++ [some ⟨e,[x]⟩]))):=by
 subst hz hs
 refine (hop_eq (v:=.ptr (Z ++ (G ++ S)).length 0 0) (H':=(Z ++ (G ++ S)) ++ [some ⟨e,[x]⟩]) (by simp [aop,evO,h])).trans ?_
 simp only [List.length_append,List.append_assoc]
theorem ld_z {Z X:Heap} {k i j n:Nat} {ag:Bool} {b:Blk} {el v:AV} {K:AV→Heap→Ans} (h:Z[k]?=some (some b)) (hi:b.els[i]?=some el) (hs:sub ag n j el=some v) :
 C0.hop (Z ++ X) (.load ag n (.v (.ptr k i j))) K=K v (Z ++ X):=ld_ptr (hg_z h) hi hs
theorem ld_o {Z G S:Heap} {z k i j n:Nat} {ag:Bool} {b:Blk} {el v:AV} {K:AV→Heap→Ans} (hz:Z.length=z) (h:S[k]?=some (some b)) (hi:b.els[i]?=some el) (hs:sub ag n j el=some v) :
 C0.hop (Z ++ (G ++ S)) (.load ag n (.v (.ptr (z+(G.length+k)) i j))) K=K v (Z ++ (G ++ S)):=ld_ptr (hg_o hz h) hi hs
theorem st_z {Z X:Heap} {k i j n:Nat} {b:Blk} {el el' x:AV} {K:AV→Heap→Ans} (h:Z[k]?=some (some b)) (hi:b.els[i]?=some el) (hs:putSub n j x el=some el') :
 C0.hop (Z ++ X) (.store n (.v (.ptr k i j)) (.v x)) K=K .undef (Z.set k (some { b with els:=b.els.set i el' }) ++ X):=by
 rw [st_ptr (hg_z h) hi hs,set_z h]
theorem st_o {Z G S:Heap} {z k i j n:Nat} {b:Blk} {el el' x:AV} {K:AV→Heap→Ans} (hz:Z.length=z) (h:S[k]?=some (some b)) (hi:b.els[i]?=some el) (hs:putSub n j x el=some el') :
 C0.hop (Z ++ (G ++ S)) (.store n (.v (.ptr (z+(G.length+k)) i j)) (.v x)) K=K .undef (Z ++ (G ++ S.set k (some { b with els:=b.els.set i el' }))):=by
 rw [st_ptr (hg_o hz h) hi hs,set_o hz]
theorem sub_w {cs:List AV} {n:Nat} (h:cs.length=n):sub true n 0 (.agg cs)=some (.agg cs):=by
 subst h; simp [sub]
theorem ld_zw {Z X:Heap} {k i n:Nat} {b:Blk} {cs:List AV} {K:AV→Heap→Ans} (h:Z[k]?=some (some b)) (hi:b.els[i]?=some (.agg cs)) (hn:cs.length=n) :
 C0.hop (Z ++ X) (.load true n (.v (.ptr k i 0))) K=K (.agg cs) (Z ++ X):=ld_z h hi (sub_w hn)
theorem ld_ow {Z G S:Heap} {z k i n:Nat} {b:Blk} {cs:List AV} {K:AV→Heap→Ans} (hz:Z.length=z) (h:S[k]?=some (some b)) (hi:b.els[i]?=some (.agg cs)) (hn:cs.length=n) :
 C0.hop (Z ++ (G ++ S)) (.load true n (.v (.ptr (z+(G.length+k)) i 0))) K=K (.agg cs) (Z ++ (G ++ S)):=ld_o hz h hi (sub_w hn)
theorem gen_at {l:List AV} {i:Nat} {a:AV} (h:l[i]?=some a):l[i]?=some a:=h
theorem pl_zsl {o:Option AV} {b:Bool} {K:List AV→Ans} {Z:Bool→Ans} (h:o=some (.zsl b)):C0.lst o K Z=Z b:=by subst h; rfl
theorem c_ort {b:Bool} {x y:Ans}:cnd (b || true) x y=x:=by cases b <;> rfl
theorem c_nt {x y:Ans}:cnd (!true) x y=y:=rfl
theorem c_nf {x y:Ans}:cnd (!false) x y=x:=rfl
theorem f_free {H:Heap} {v:AV} (h:snap 12 H v=v):C0.fin H v=some v:=by rw [C0_fin,h]
theorem at8 (a b c d e f g h i:AV) (l:List AV):(a::b::c::d::e::f::g::h::i::l)[8]?=some i:=rfl
theorem at9 (a b c d e f g h i j:AV) (l:List AV):(a::b::c::d::e::f::g::h::i::j::l)[9]?=some j:=rfl
theorem at10 (a b c d e f g h i j k:AV) (l:List AV):(a::b::c::d::e::f::g::h::i::j::k::l)[10]?=some k:=rfl
theorem tt {a b c:Ans} (h:a=b) (k:b=c):a=c:=h.trans k
theorem w2 {k:IntKind} {o:Option AV} {n:Int} {K:Int→Ans} (h:o=some (.int k n):=by first | with_reducible rfl | exact at0 _ _ | exact at1 _ _ _ | exact at2 _ _ _ _ | exact at3 _ _ _ _ _ | exact at4 _ _ _ _ _ _ | exact at5 _ _ _ _ _ _ _ | exact at6 _ _ _ _ _ _ _ _ | exact at7 _ _ _ _ _ _ _ _ _ | exact at8 _ _ _ _ _ _ _ _ _ _ | exact at9 _ _ _ _ _ _ _ _ _ _ _ | exact at10 _ _ _ _ _ _ _ _ _ _ _ _ | exact gen_at (by with_unfolding_all rfl)):C0.int k o K=K n:=pl_int h
theorem w3 {o:Option AV} {n:Bool} {K:Bool→Ans} (h:o=some (.bool n):=by first | with_reducible rfl | exact at0 _ _ | exact at1 _ _ _ | exact at2 _ _ _ _ | exact at3 _ _ _ _ _ | exact at4 _ _ _ _ _ _ | exact at5 _ _ _ _ _ _ _ | exact at6 _ _ _ _ _ _ _ _ | exact at7 _ _ _ _ _ _ _ _ _ | exact at8 _ _ _ _ _ _ _ _ _ _ | exact at9 _ _ _ _ _ _ _ _ _ _ _ | exact at10 _ _ _ _ _ _ _ _ _ _ _ _ | exact gen_at (by with_unfolding_all rfl)):C0.bool o K=K n:=pl_bool h
theorem w4 {o:Option AV} {v:AV} {K:AV→Ans} (h:o=some v:=by first | with_reducible rfl | exact at0 _ _ | exact at1 _ _ _ | exact at2 _ _ _ _ | exact at3 _ _ _ _ _ | exact at4 _ _ _ _ _ _ | exact at5 _ _ _ _ _ _ _ | exact at6 _ _ _ _ _ _ _ _ | exact at7 _ _ _ _ _ _ _ _ _ | exact at8 _ _ _ _ _ _ _ _ _ _ | exact at9 _ _ _ _ _ _ _ _ _ _ _ | exact at10 _ _ _ _ _ _ _ _ _ _ _ _ | exact gen_at (by with_unfolding_all rfl)):C0.any o K=K v:=pl_any h
theorem w5 {o:Option AV} {n:List UInt8} {K:List UInt8→Ans} (h:o=some (.str n):=by first | with_reducible rfl | exact at0 _ _ | exact at1 _ _ _ | exact at2 _ _ _ _ | exact at3 _ _ _ _ _ | exact at4 _ _ _ _ _ _ | exact at5 _ _ _ _ _ _ _ | exact at6 _ _ _ _ _ _ _ _ | exact at7 _ _ _ _ _ _ _ _ _ | exact at8 _ _ _ _ _ _ _ _ _ _ | exact at9 _ _ _ _ _ _ _ _ _ _ _ | exact at10 _ _ _ _ _ _ _ _ _ _ _ _ | exact gen_at (by with_unfolding_all rfl)):C0.str o K=K n:=pl_str h
theorem w6 {o:Option AV} {l:List AV} {K:List AV→Ans} {Z:Bool→Ans} (h:o=some (.lst l):=by first | with_reducible rfl | exact at0 _ _ | exact at1 _ _ _ | exact at2 _ _ _ _ | exact at3 _ _ _ _ _ | exact at4 _ _ _ _ _ _ | exact at5 _ _ _ _ _ _ _ | exact at6 _ _ _ _ _ _ _ _ | exact at7 _ _ _ _ _ _ _ _ _ | exact at8 _ _ _ _ _ _ _ _ _ _ | exact at9 _ _ _ _ _ _ _ _ _ _ _ | exact at10 _ _ _ _ _ _ _ _ _ _ _ _ | exact gen_at (by with_unfolding_all rfl)):C0.lst o K Z=K l:=pl_lst h
theorem w7 {o:Option AV} {b:Bool} {K:List AV→Ans} {Z:Bool→Ans} (h:o=some (.zsl b):=by first | with_reducible rfl | exact at0 _ _ | exact at1 _ _ _ | exact at2 _ _ _ _ | exact at3 _ _ _ _ _ | exact at4 _ _ _ _ _ _ | exact at5 _ _ _ _ _ _ _ | exact at6 _ _ _ _ _ _ _ _ | exact at7 _ _ _ _ _ _ _ _ _ | exact at8 _ _ _ _ _ _ _ _ _ _ | exact at9 _ _ _ _ _ _ _ _ _ _ _ | exact at10 _ _ _ _ _ _ _ _ _ _ _ _ | exact gen_at (by with_unfolding_all rfl)):C0.lst o K Z=Z b:=pl_zsl h
theorem w8 {n:Nat} {o:Option AV} {l:List AV} {K:List AV→Ans} (h:o=some (.agg l):=by first | with_reducible rfl | exact at0 _ _ | exact at1 _ _ _ | exact at2 _ _ _ _ | exact at3 _ _ _ _ _ | exact at4 _ _ _ _ _ _ | exact at5 _ _ _ _ _ _ _ | exact at6 _ _ _ _ _ _ _ _ | exact at7 _ _ _ _ _ _ _ _ _ | exact at8 _ _ _ _ _ _ _ _ _ _ | exact at9 _ _ _ _ _ _ _ _ _ _ _ | exact at10 _ _ _ _ _ _ _ _ _ _ _ _ | exact gen_at (by with_unfolding_all rfl)) (h2:l.length=n:=by with_unfolding_all rfl):C0.agg n o K=K l:=pl_agg h h2
theorem w9 {n:Nat} {o:Option AV} {l:List AV} {K:List AV→Ans} (h:o=some (.tup l):=by first | with_reducible rfl | exact at0 _ _ | exact at1 _ _ _ | exact at2 _ _ _ _ | exact at3 _ _ _ _ _ | exact at4 _ _ _ _ _ _ | exact at5 _ _ _ _ _ _ _ | exact at6 _ _ _ _ _ _ _ _ | exact at7 _ _ _ _ _ _ _ _ _ | exact at8 _ _ _ _ _ _ _ _ _ _ | exact at9 _ _ _ _ _ _ _ _ _ _ _ | exact at10 _ _ _ _ _ _ _ _ _ _ _ _ | exact gen_at (by with_unfolding_all rfl)) (h2:l.length=n:=by with_unfolding_all rfl):C0.tup n o K=K l:=pl_tup h h2
theorem wf {Z X:Heap} {k i n:Nat} {b:Blk} {cs:List AV} {K:AV→Heap→Ans} (h:Z[k]?=some (some b):=by with_unfolding_all rfl) (hi:b.els[i]?=some (.agg cs):=by with_unfolding_all rfl) (hn:cs.length=n:=by with_unfolding_all rfl) :
 C0.hop (Z ++ X) (.load true n (.v (.ptr k i 0))) K=K (.agg cs) (Z ++ X):=ld_zw h hi hn
theorem wg {Z G S:Heap} {z k i n:Nat} {b:Blk} {cs:List AV} {K:AV→Heap→Ans} (hz:Z.length=z:=by with_unfolding_all rfl) (h:S[k]?=some (some b):=by with_unfolding_all rfl) (hi:b.els[i]?=some (.agg cs):=by with_unfolding_all rfl) (hn:cs.length=n:=by with_unfolding_all rfl) :
 C0.hop (Z ++ (G ++ S)) (.load true n (.v (.ptr (z+(G.length+k)) i 0))) K=K (.agg cs) (Z ++ (G ++ S)):=ld_ow hz h hi hn
theorem wh {Z X:Heap} {k i j n:Nat} {ag:Bool} {b:Blk} {el v:AV} {K:AV→Heap→Ans} (h:Z[k]?=some (some b):=by with_unfolding_all rfl) (hi:b.els[i]?=some el:=by with_unfolding_all rfl) (hs:sub ag n j el=some v:=by with_unfolding_all rfl) :
 C0.hop (Z ++ X) (.load ag n (.v (.ptr k i j))) K=K v (Z ++ X):=ld_z h hi hs
theorem wi {Z G S:Heap} {z k i j n:Nat} {ag:Bool} {b:Blk} {el v:AV} {K:AV→Heap→Ans} (hz:Z.length=z:=by with_unfolding_all rfl) (h:S[k]?=some (some b):=by with_unfolding_all rfl) (hi:b.els[i]?=some el:=by with_unfolding_all rfl) (hs:sub ag n j el=some v:=by with_unfolding_all rfl) :
 C0.hop (Z ++ (G ++ S)) (.load ag n (.v (.ptr (z+(G.length+k)) i j))) K=K v (Z ++ (G ++ S)):=ld_o hz h hi hs
theorem wj {Z X:Heap} {k i j n:Nat} {b:Blk} {el el' x:AV} {K:AV→Heap→Ans} (h:Z[k]?=some (some b):=by with_unfolding_all rfl) (hi:b.els[i]?=some el:=by with_unfolding_all rfl) (hs:putSub n j x el=some el':=by with_unfolding_all rfl) :
 C0.hop (Z ++ X) (.store n (.v (.ptr k i j)) (.v x)) K=K .undef (Z.set k (some { b with els:=b.els.set i el' }) ++ X):=st_z h hi hs
theorem wk {Z G S:Heap} {z k i j n:Nat} {b:Blk} {el el' x:AV} {K:AV→Heap→Ans} (hz:Z.length=z:=by with_unfolding_all rfl) (h:S[k]?=some (some b):=by with_unfolding_all rfl) (hi:b.els[i]?=some el:=by with_unfolding_all rfl) (hs:putSub n j x el=some el':=by with_unfolding_all rfl) :
 C0.hop (Z ++ (G ++ S)) (.store n (.v (.ptr (z+(G.length+k)) i j)) (.v x)) K=K .undef (Z ++ (G ++ S.set k (some { b with els:=b.els.set i el' }))):=st_o hz h hi hs
theorem wl {Z G S:Heap} {z s:Nat} {e:ETy} {K:AV→Heap→Ans} (hz:Z.length=z:=by with_unfolding_all rfl) (hs:S.length=s:=by with_unfolding_all rfl):C0.hop (Z ++ (G ++ S)) (.alloc e) K=K (.ptr (z+(G.length+s)) 0 0) (Z ++ (G ++ (S ++ [some ⟨e,[e.zero]⟩]))):=al_o hz hs
theorem wm {Z G S:Heap} {z s:Nat} {e:ETy} {x:AV} {K:AV→Heap→Ans} (hz:Z.length=z:=by with_unfolding_all rfl) (hs:S.length=s:=by with_unfolding_all rfl) (h:elOk e x=true:=by with_unfolding_all rfl):C0.hop (Z ++ (G ++ S)) (.box e (.v x)) K=K (.ptr (z+(G.length+s)) 0 0) (Z ++ (G ++ (S ++ [some ⟨e,[x]⟩]))):=bx_o hz hs h
theorem wn {H:Heap} {x v:AV} {j n:Nat} {ag:Bool} {K:AV→Heap→Ans} (hs:sub ag n j x=some v:=by with_unfolding_all rfl):C0.hop H (.load ag n (.v (.fptr x j))) K=K v H:=ld_fptr hs
theorem wo {H:Heap} {args:List AV} {K:List AV→Bool→Ans} (h:args.all (noId DEPTH)=true:=by with_unfolding_all rfl):C0.snp H args K=K args true:=snp_free h
theorem wx {H:Heap} {len es id i j:Nat} {q:Int} {K:AV→Heap→Ans} (h:(decide (0≤q) && decide (q < (len:Int)))=true:=by with_unfolding_all rfl):C0.hop H (.ixAA len es (.v (.ptr id i j)) (.v (.int .i64 q))) K=K (.ptr id i (j+q.toNat * es)) H:=by
 have h':0≤q∧q < (len:Int):=by simpa using h
 exact hop_eq (by simp only [aop,evO,aInt,aShift]; rw [if_pos h'])
theorem i64w (n:Int):IntKind.i64.wrap n=(n+9223372036854775808) % 18446744073709551616 - 9223372036854775808:=IntKind.wrap_i64 n
theorem u64w (n:Int):IntKind.u64.wrap n=n % 18446744073709551616:=by simp [IntKind.wrap,IntKind.bits,IntKind.signed]
theorem u64_small {n:Int} (h:0≤n) (h':n < 18446744073709551616):IntKind.u64.wrap n=n:=by rw [u64w]; omega
theorem i64_small {n:Int} (h:-9223372036854775808≤n) (h':n < 9223372036854775808):IntKind.i64.wrap n=n:=by rw [i64w]; omega
theorem u64_mask (k:Nat) (hk:k≤64) {x:Int} (h:0≤x) (h':x < 18446744073709551616):Go.bits .and .u64 x (2 ^ k - 1)=x % 2 ^ k:=by
 obtain ⟨n,rfl⟩:=Int.eq_ofNat_of_zero_le h
 have hn:n < 18446744073709551616:=by omega
 have hp:1≤2 ^ k:=Nat.one_le_two_pow
 have hm:((2:Int) ^ k - 1)=((2 ^ k - 1:Nat):Int):=by
  rw [Int.natCast_sub hp]; simp
 have hk2:2 ^ k≤18446744073709551616:=Nat.le_trans (Nat.pow_le_pow_right (by decide) hk) (by decide)
 show IntKind.u64.wrap ((BitVec.ofInt 64 (n:Int) &&& BitVec.ofInt 64 ((2:Int) ^ k - 1)).toNat:Int)=_
 rw [hm,BitVec.toNat_and]
 rw [BitVec.ofInt_natCast,BitVec.ofInt_natCast,BitVec.toNat_ofNat,BitVec.toNat_ofNat,Nat.mod_eq_of_lt (by simpa using hn),Nat.mod_eq_of_lt (by simpa using (by omega:2 ^ k - 1 < 18446744073709551616)),Nat.and_two_pow_sub_one_eq_mod]
 have:n % 2 ^ k≤n:=Nat.mod_le _ _
 rw [u64_small (by omega) (by omega)]
 simp
theorem u64_and32 {x:Int} (h:0≤x) (h':x < 18446744073709551616):Go.bits .and .u64 x 4294967295=x % 4294967296:=u64_mask 32 (by decide) h h'
def hiw (v:Int):Int:=IntKind.i64.wrap (v / 18446744073709551616)
def low (v:Int):Int:=v % 18446744073709551616
theorem mul_bd63 (a b:Int) (ha:-9223372036854775808≤a) (ha':a < 9223372036854775808) (hb:-9223372036854775808≤b) (hb':b < 9223372036854775808) :
 -85070591730234615865843651857942052864≤a * b∧a * b≤85070591730234615865843651857942052864:=by
 have h1:=Int.mul_nonneg (show 0≤9223372036854775808 - a by omega) (show 0≤9223372036854775808+b by omega)
 have h2:=Int.mul_nonneg (show 0≤9223372036854775808+a by omega) (show 0≤9223372036854775808 - b by omega)
 have h3:=Int.mul_nonneg (show 0≤9223372036854775808 - a by omega) (show 0≤9223372036854775808 - b by omega)
 have h4:=Int.mul_nonneg (show 0≤9223372036854775808+a by omega) (show 0≤9223372036854775808+b by omega)
 have e1:(9223372036854775808 - a) * (9223372036854775808+b)=85070591730234615865843651857942052864+9223372036854775808 * b - 9223372036854775808 * a - a * b:=by grind
 have e2:(9223372036854775808+a) * (9223372036854775808 - b)=85070591730234615865843651857942052864 - 9223372036854775808 * b+9223372036854775808 * a - a * b:=by grind
 have e3:(9223372036854775808 - a) * (9223372036854775808 - b)=85070591730234615865843651857942052864 - 9223372036854775808 * b - 9223372036854775808 * a+a * b:=by grind
 have e4:(9223372036854775808+a) * (9223372036854775808+b)=85070591730234615865843651857942052864+9223372036854775808 * b+9223372036854775808 * a+a * b:=by grind
 omega
theorem prod_bd {x y m:Int} (hx:-m≤x) (hx':x≤m) (hy:-m≤y) (hy':y≤m):-(m * m)≤x * y∧x * y≤m * m:=by
 have h1:=Int.mul_nonneg (show 0≤m - x by omega) (show 0≤m+y by omega)
 have h2:=Int.mul_nonneg (show 0≤m+x by omega) (show 0≤m - y by omega)
 have h3:=Int.mul_nonneg (show 0≤m - x by omega) (show 0≤m - y by omega)
 have h4:=Int.mul_nonneg (show 0≤m+x by omega) (show 0≤m+y by omega)
 have e1:(m - x) * (m+y)=m * m+m * y - x * m - x * y:=by grind
 have e2:(m+x) * (m - y)=m * m - m * y+x * m - x * y:=by grind
 have e3:(m - x) * (m - y)=m * m - m * y - x * m+x * y:=by grind
 have e4:(m+x) * (m+y)=m * m+m * y+x * m+x * y:=by grind
 generalize m * m=mm at *; generalize m * y=my at *; generalize x * m=xm at *; generalize x * y=xy at *
 omega
theorem prod_bd41 {x y:Int} (hx:-2199023255552≤x) (hx':x≤2199023255552) (hy:-2199023255552≤y) (hy':y≤2199023255552):-4835703278458516698824704≤x * y∧x * y≤4835703278458516698824704:=prod_bd hx hx' hy hy'
def cmp (x y:Int):Int:=if x < y then -1 else if y < x then 1 else 0
end Go.Proofs.Ytbmedgpiphibaaa.AE

namespace Go.Proofs.Ytbmedgpiphibaaa.Geo
set_option linter.unusedVariables false
set_option linter.unusedSimpArgs false
set_option linter.constructorNameAsVariable false
abbrev Pt:=Int × Int
def Okc (x:Int):Prop:=-1099511627776≤x∧x≤1099511627776
instance (x:Int):Decidable (Okc x):=by unfold Okc; infer_instance
def OkP (p:Pt):Prop:=Okc p.1∧Okc p.2
instance (p:Pt):Decidable (OkP p):=by unfold OkP; infer_instance
def TN (a b c:Pt):Int:=(b.1 - a.1) * (c.2 - a.2) - (b.2 - a.2) * (c.1 - a.1)
def sg (v:Int):Int:=if v < 0 then -1 else if v=0 then 0 else 1
theorem sg_zero {v:Int}:sg v=0 ↔ v=0:=by unfold sg; split <;> (try split) <;> omega
theorem sg_cases (v:Int):(v < 0∧sg v=-1) ∨ (v=0∧sg v=0) ∨ (v > 0∧sg v=1):=by unfold sg; split <;> (try split) <;> omega
def Btw (p a b:Pt):Prop:=((a.1≤p.1∧p.1≤b.1) ∨ (b.1≤p.1∧p.1≤a.1))∧((a.2≤p.2∧p.2≤b.2) ∨ (b.2≤p.2∧p.2≤a.2))
instance (p a b:Pt):Decidable (Btw p a b):=by unfold Btw; infer_instance
def On (p a b:Pt):Prop:=TN a b p=0∧Btw p a b
instance (p a b:Pt):Decidable (On p a b):=by unfold On; infer_instance
def Cross (a b c d:Pt):Prop:=sg (TN a b c) * sg (TN a b d) < 0∧sg (TN c d a) * sg (TN c d b) < 0
instance (a b c d:Pt):Decidable (Cross a b c d):=by unfold Cross; infer_instance
def Meet (a b c d:Pt):Prop:=On a c d ∨ On b c d ∨ On c a b ∨ On d a b ∨ Cross a b c d
instance (a b c d:Pt):Decidable (Meet a b c d):=by unfold Meet; infer_instance
def mv (p:Pt) (x y:Int):Pt:=(p.1+x,p.2+y)
end Go.Proofs.Ytbmedgpiphibaaa.Geo

namespace Go.Proofs.Ytbmedgpiphibaaa.Geo
set_option linter.unusedVariables false
def st (x:BitVec 32):BitVec 32:=(x >>> 1) ^^^ (bif x.getLsbD 0 then 0xedb88320#32 else 0#32)
theorem st_zero:st 0#32=0#32:=by decide
def stN:Nat→BitVec 32→BitVec 32
 | 0,x=>x
 | n+1,x=>stN n (st x)
theorem stN_zero:∀ n:Nat,stN n 0#32=0#32
 | 0=>rfl
 | n+1=>by rw [stN,st_zero,stN_zero n]
def bt (e:Bool):BitVec 32:=bif e then 1#32 else 0#32
def bf (x:BitVec 32) (e:Bool):BitVec 32:=st (x ^^^ bt e)
theorem up1:∀ k:Fin 32,stN k.val (1#32 <<< k.val)=1#32:=by decide
theorem up (k:Nat) (h:k < 32) (e:Bool):stN k (bt e <<< k)=bt e:=by
 cases e
 ·rw [show bt false=0#32 from rfl,BitVec.zero_shiftLeft]; exact stN_zero k
 ·exact up1 ⟨k,h⟩
def b32 (b:UInt8):BitVec 32:=b.toBitVec.setWidth 32
def byteF (x:BitVec 32) (b:UInt8):BitVec 32:=stN 8 (x ^^^ b32 b)
def crcF (s:List UInt8):BitVec 32:=s.foldl byteF 0xffffffff#32 ^^^ 0xffffffff#32
end Go.Proofs.Ytbmedgpiphibaaa.Geo

namespace Go.Proofs.Ytbmedgpiphibaaa.AE
set_option linter.unusedVariables false
open Go Go.Proofs.Ytbmedgpiphibaaa.Geo
theorem ofInt32 (x:BitVec 32):BitVec.ofInt 32 (x.toNat:Int)=x:=by
 apply BitVec.eq_of_toNat_eq
 rw [BitVec.toNat_ofInt]
 have:=x.isLt
 omega
theorem u32w (n:Int):IntKind.u32.wrap n=n % 4294967296:=by simp [IntKind.wrap,IntKind.bits,IntKind.signed]
theorem u32_xor (x y:BitVec 32):Go.bits .xor .u32 (x.toNat:Int) (y.toNat:Int)=((x ^^^ y).toNat:Int):=by
 show IntKind.u32.wrap ((BitVec.ofInt 32 (x.toNat:Int) ^^^ BitVec.ofInt 32 (y.toNat:Int)).toNat:Int)=_
 rw [ofInt32,ofInt32,u32w]; have:=(x ^^^ y).isLt; omega
theorem u32_and (x y:BitVec 32):Go.bits .and .u32 (x.toNat:Int) (y.toNat:Int)=((x &&& y).toNat:Int):=by
 show IntKind.u32.wrap ((BitVec.ofInt 32 (x.toNat:Int) &&& BitVec.ofInt 32 (y.toNat:Int)).toNat:Int)=_
 rw [ofInt32,ofInt32,u32w]; have:=(x &&& y).isLt; omega
theorem shr1u (x:BitVec 32):((x >>> 1).toNat:Int)=(x.toNat:Int) / 2:=by
 rw [BitVec.toNat_ushiftRight,Nat.shiftRight_eq_div_pow]; omega
theorem lsb (x:BitVec 32):x.getLsbD 0=decide (x.toNat % 2=1):=by
 rw [BitVec.getLsbD,Nat.testBit_zero]
theorem byte_nat (b:UInt8):((b32 b).toNat:Int)=(b.toNat:Int):=by
 unfold b32
 rw [BitVec.toNat_setWidth]
 have:=b.toNat_lt
 rw [Nat.mod_eq_of_lt (by have:b.toBitVec.toNat=b.toNat:=rfl; omega)]; rfl
end Go.Proofs.Ytbmedgpiphibaaa.AE

namespace Go.Proofs.Ytbmedgpiphibaaa.AE
set_option linter.unusedVariables false
set_option linter.unusedSimpArgs false
set_option linter.constructorNameAsVariable false
open Go
set_option maxRecDepth 100000
set_option maxHeartbeats 0
def r19R0 (C:Cb) (d:Nat) (a0:List UInt8):St→(Ex→St→Ans)→Ans:=fun s0 k1 =>
 cnd ((List.length s0.env) == 20)
 (sames C s0.env 0 [(.str a0),tz,(.int .u32 0)] <|
 C.int .u32 s0.env[3]? fun x3 =>
 C.int .i64 s0.env[4]? fun x4 =>
 anys C s0.env 5 4 <|
 C.any s0.env[9]? fun v9 =>
 C.any s0.env[10]? fun v10 =>
 C.any s0.env[11]? fun v11 =>
 C.any s0.env[12]? fun v12 =>
 C.any s0.env[13]? fun v13 =>
 C.any s0.env[14]? fun v14 =>
 C.any s0.env[15]? fun v15 =>
 C.any s0.env[16]? fun v16 =>
 C.any s0.env[17]? fun v17 =>
 sames C s0.env 18 [tz,tz] <|
 C.sameH (St.H s0) [] <|
 cnd (decide (x4 < (((List.length a0):Nat):Int)))
 (cnd (decide ((0:Int)≤x4))
 (C.int .u8 (Option.map (fun b:UInt8=>AV.int .u8 (b.toNat:Int)) a0[(Int.toNat x4)]?) fun x18 =>
 C.int .u32 (pcall M d 32 [(.int .u32 (bits .xor .u32 x3 (IntKind.wrap .u32 x18)))]) fun x19 =>
 k1 .normal ⟨[(.str a0),tz,(.int .u32 0),(.int .u32 x19),(iz (IntKind.wrap .i64 (x4+1))),(iz x4),(.str a0),(iz (((List.length a0):Nat):Int)),bt,(iz x4),(iz (IntKind.wrap .i64 (x4+1))),(.int .u32 x3),(.str a0),(iz x4),(.int .u8 x18),(.int .u32 (IntKind.wrap .u32 x18)),(.int .u32 (bits .xor .u32 x3 (IntKind.wrap .u32 x18))),(.int .u32 x19),tz,tz],[]⟩)
 (none))
 (k1 (.exit 0) ⟨[(.str a0),tz,(.int .u32 0),(.int .u32 x3),(iz x4),(iz x4),(.str a0),(iz (((List.length a0):Nat):Int)),bf,v9,v10,v11,v12,v13,v14,v15,v16,v17,tz,tz],[]⟩))
 (none)
def r19X0_0 (C:Cb) (d:Nat) (a0:List UInt8):St→Ans:=fun s20 =>
 cnd ((List.length s20.env) == 20)
 (sames C s20.env 0 [(.str a0),tz,(.int .u32 0)] <|
 C.int .u32 s20.env[3]? fun x21 =>
 C.int .i64 s20.env[4]? fun x22 =>
 C.int .i64 s20.env[5]? fun x23 =>
 C.str s20.env[6]? fun s24 =>
 C.int .i64 s20.env[7]? fun x25 =>
 C.bool s20.env[8]? fun b26 =>
 anys C s20.env 9 9 <|
 sames C s20.env 18 [tz,tz] <|
 C.sameH (St.H s20) [] <|
 some (.int .u32 (bits .xor .u32 x21 4294967295)))
 (none)
def r19E0 (C:Cb) (d:Nat) (a0:List UInt8):St→Ans:=fun s2 =>
 cnd ((List.length s2.env) == 20)
 (sames C s2.env 0 [(.str a0),tz,(.int .u32 0)] <|
 C.int .u32 s2.env[3]? fun x36 =>
 C.int .i64 s2.env[4]? fun x37 =>
 anys C s2.env 5 13 <|
 sames C s2.env 18 [tz,tz] <|
 C.sameH (St.H s2) [] <|
 some (.int .u32 0))
 (none)
theorem r19 (C:Cb) (d:Nat) (a0:List UInt8):xcall C M unr d 19 [(.str a0)] =
 C.iter (r19R0 C d a0) 10000000000000000000 ⟨[(.str a0),tz,(.int .u32 0),(.int .u32 4294967295),(iz 0),tz,tz,tz,tz,tz,tz,tz,tz,tz,tz,tz,tz,tz,tz,tz],[]⟩ [0] [r19X0_0 C d a0] (r19E0 C d a0):=by kernel_rfl
def r22R0 (C:Cb) (d:Nat) (a0:List UInt8) (v0:AV) (x4:Int):St→(Ex→St→Ans)→Ans:=fun s5 k6 =>
 cnd ((List.length s5.env) == 21)
 (sames C s5.env 0 [(.str a0),tz,(.int .u32 0)] <|
 C.int .u32 s5.env[3]? fun x8 =>
 C.same s5.env[4]? tz <|
 C.any s5.env[5]? fun v9 =>
 sames C s5.env 6 [(.str a0),v0,(iz x4)] <|
 C.int .i64 s5.env[9]? fun x10 =>
 C.any s5.env[10]? fun v11 =>
 C.any s5.env[11]? fun v12 =>
 C.any s5.env[12]? fun v13 =>
 C.any s5.env[13]? fun v14 =>
 C.any s5.env[14]? fun v15 =>
 C.any s5.env[15]? fun v16 =>
 C.any s5.env[16]? fun v17 =>
 C.any s5.env[17]? fun v18 =>
 C.any s5.env[18]? fun v19 =>
 sames C s5.env 19 [tz,tz] <|
 cnd (decide (x10 < x4))
 (C.hop (St.H s5) (.ixAS .any 1 (.v v0) (.v (iz x10))) fun v20 h21 =>
 C.hop h21 (.load false 1 (.v v20)) fun v22 h23 =>
 C.int .u8 (some v22) fun x24 =>
 C.int .u32 (pcall M d 34 [(.int .u32 (bits .xor .u32 x8 (IntKind.wrap .u32 x24)))]) fun x25 =>
 k6 .normal ⟨[(.str a0),tz,(.int .u32 0),(.int .u32 x25),tz,(.int .u8 x24),(.str a0),v0,(iz x4),(iz (IntKind.wrap .i64 (x10+1))),bt,v20,(.int .u8 x24),(.int .u32 x8),(.int .u8 x24),(.int .u32 (IntKind.wrap .u32 x24)),(.int .u32 (bits .xor .u32 x8 (IntKind.wrap .u32 x24))),(.int .u32 x25),(iz (IntKind.wrap .i64 (x10+1))),tz,tz],h23⟩)
 (k6 (.exit 0) ⟨[(.str a0),tz,(.int .u32 0),(.int .u32 x8),tz,v9,(.str a0),v0,(iz x4),(iz x10),bf,v12,v13,v14,v15,v16,v17,v18,v19,tz,tz],(St.H s5)⟩))
 (none)
def r22X0_0 (C:Cb) (d:Nat) (a0:List UInt8) (v0:AV) (x4:Int):St→Ans:=fun s26 =>
 cnd ((List.length s26.env) == 21)
 (sames C s26.env 0 [(.str a0),tz,(.int .u32 0)] <|
 C.int .u32 s26.env[3]? fun x27 =>
 C.same s26.env[4]? tz <|
 C.any s26.env[5]? fun v28 =>
 sames C s26.env 6 [(.str a0),v0,(iz x4)] <|
 C.int .i64 s26.env[9]? fun x29 =>
 anys C s26.env 10 9 <|
 sames C s26.env 19 [tz,tz] <|
 C.fin (St.H s26) (.int .u32 (bits .xor .u32 x27 4294967295)))
 (none)
def r22E0 (C:Cb) (d:Nat) (a0:List UInt8) (v0:AV) (x4:Int):St→Ans:=fun s7 =>
 cnd ((List.length s7.env) == 21)
 (sames C s7.env 0 [(.str a0),tz,(.int .u32 0)] <|
 C.int .u32 s7.env[3]? fun x39 =>
 C.same s7.env[4]? tz <|
 C.any s7.env[5]? fun v40 =>
 sames C s7.env 6 [(.str a0),v0,(iz x4)] <|
 C.int .i64 s7.env[9]? fun x41 =>
 anys C s7.env 10 9 <|
 sames C s7.env 19 [tz,tz] <|
 C.fin (St.H s7) (.int .u32 0))
 (none)
theorem r22 (C:Cb) (d:Nat) (a0:List UInt8):xcall C M unr d 22 [(.str a0)] =
 C.hop [] (.s2b E5 (.v (.str a0))) fun v0 h1 =>
 C.hop h1 (.bk .lenV [(.v v0)]) fun v2 h3 =>
 C.int .i64 (some v2) fun x4 =>
 C.iter (r22R0 C d a0 v0 x4) 10000000000000000000 ⟨[(.str a0),tz,(.int .u32 0),(.int .u32 4294967295),tz,tz,(.str a0),v0,(iz x4),(iz 0),tz,tz,tz,tz,tz,tz,tz,tz,tz,tz,tz],h3⟩ [0] [r22X0_0 C d a0 v0 x4] (r22E0 C d a0 v0 x4):=by kernel_rfl
def r32R0 (C:Cb) (d:Nat):St→(Ex→St→Ans)→Ans:=fun s0 k1 =>
 cnd ((List.length s0.env) == 17)
 (C.int .u32 s0.env[0]? fun x3 =>
 sames C s0.env 1 [tz,(.int .u32 0)] <|
 C.int .i64 s0.env[3]? fun x4 =>
 anys C s0.env 4 2 <|
 C.any s0.env[6]? fun v7 =>
 C.any s0.env[7]? fun v8 =>
 C.any s0.env[8]? fun v9 =>
 C.any s0.env[9]? fun v10 =>
 C.any s0.env[10]? fun v11 =>
 C.any s0.env[11]? fun v12 =>
 C.any s0.env[12]? fun v13 =>
 C.any s0.env[13]? fun v14 =>
 C.any s0.env[14]? fun v15 =>
 C.any s0.env[15]? fun v16 =>
 C.same s0.env[16]? tz <|
 C.sameH (St.H s0) [] <|
 cnd (decide (x4 < 8))
 (cnd ((Int.tmod x3 2) == 1)
 (k1 .normal ⟨[(.int .u32 (bits .xor .u32 (IntKind.wrap .u32 (Int.tdiv x3 2)) 3988292384)),tz,(.int .u32 0),(iz (IntKind.wrap .i64 (x4+1))),(iz x4),bt,(iz x4),(iz (IntKind.wrap .i64 (x4+1))),(.int .u32 x3),(.int .u32 (Int.tmod x3 2)),bt,(.int .u32 x3),(.int .u32 (IntKind.wrap .u32 (Int.tdiv x3 2))),(.int .u32 (bits .xor .u32 (IntKind.wrap .u32 (Int.tdiv x3 2)) 3988292384)),v15,v16,tz],[]⟩)
 (k1 .normal ⟨[(.int .u32 (IntKind.wrap .u32 (Int.tdiv x3 2))),tz,(.int .u32 0),(iz (IntKind.wrap .i64 (x4+1))),(iz x4),bt,(iz x4),(iz (IntKind.wrap .i64 (x4+1))),(.int .u32 x3),(.int .u32 (Int.tmod x3 2)),bf,v12,v13,v14,(.int .u32 x3),(.int .u32 (IntKind.wrap .u32 (Int.tdiv x3 2))),tz],[]⟩))
 (k1 (.exit 0) ⟨[(.int .u32 x3),tz,(.int .u32 0),(iz x4),(iz x4),bf,v7,v8,v9,v10,v11,v12,v13,v14,v15,v16,tz],[]⟩))
 (none)
def r32X0_0 (C:Cb) (d:Nat):St→Ans:=fun s17 =>
 cnd ((List.length s17.env) == 17)
 (C.int .u32 s17.env[0]? fun x18 =>
 sames C s17.env 1 [tz,(.int .u32 0)] <|
 C.int .i64 s17.env[3]? fun x19 =>
 C.int .i64 s17.env[4]? fun x20 =>
 C.bool s17.env[5]? fun b21 =>
 anys C s17.env 6 10 <|
 C.same s17.env[16]? tz <|
 C.sameH (St.H s17) [] <|
 some (.int .u32 x18))
 (none)
def r32E0 (C:Cb) (d:Nat):St→Ans:=fun s2 =>
 cnd ((List.length s2.env) == 17)
 (C.int .u32 s2.env[0]? fun x32 =>
 sames C s2.env 1 [tz,(.int .u32 0)] <|
 C.int .i64 s2.env[3]? fun x33 =>
 anys C s2.env 4 12 <|
 C.same s2.env[16]? tz <|
 C.sameH (St.H s2) [] <|
 some (.int .u32 0))
 (none)
theorem r32 (C:Cb) (d:Nat) (a0:Int):xcall C M unr d 32 [(.int .u32 a0)] =
 C.iter (r32R0 C d) 10000000000000000000 ⟨[(.int .u32 a0),tz,(.int .u32 0),(iz 0),tz,tz,tz,tz,tz,tz,tz,tz,tz,tz,tz,tz,tz],[]⟩ [0] [r32X0_0 C d] (r32E0 C d):=by kernel_rfl
def r34R0 (C:Cb) (d:Nat):St→(Ex→St→Ans)→Ans:=fun s0 k1 =>
 cnd ((List.length s0.env) == 16)
 (C.int .u32 s0.env[0]? fun x3 =>
 sames C s0.env 1 [tz,(.int .u32 0)] <|
 C.any s0.env[3]? fun v4 =>
 C.int .i64 s0.env[4]? fun x5 =>
 C.any s0.env[5]? fun v6 =>
 C.any s0.env[6]? fun v7 =>
 C.any s0.env[7]? fun v8 =>
 C.any s0.env[8]? fun v9 =>
 C.any s0.env[9]? fun v10 =>
 C.any s0.env[10]? fun v11 =>
 C.any s0.env[11]? fun v12 =>
 C.any s0.env[12]? fun v13 =>
 C.any s0.env[13]? fun v14 =>
 C.any s0.env[14]? fun v15 =>
 C.same s0.env[15]? tz <|
 C.sameH (St.H s0) [] <|
 cnd (decide (x5 < 8))
 (cnd ((bits .and .u32 x3 1) != 0)
 (k1 .normal ⟨[(.int .u32 (bits .xor .u32 (Int.fdiv x3 (2 ^ (min (Int.toNat 1) 32))) 3988292384)),tz,(.int .u32 0),(.bool ((bits .and .u32 x3 1) != 0)),(iz (IntKind.wrap .i64 (x5+1))),bt,(.int .u32 x3),(.int .u32 (bits .and .u32 x3 1)),(.bool ((bits .and .u32 x3 1) != 0)),(.int .u32 x3),(.int .u32 (Int.fdiv x3 (2 ^ (min (Int.toNat 1) 32)))),bt,(.int .u32 (Int.fdiv x3 (2 ^ (min (Int.toNat 1) 32)))),(.int .u32 (bits .xor .u32 (Int.fdiv x3 (2 ^ (min (Int.toNat 1) 32))) 3988292384)),(iz (IntKind.wrap .i64 (x5+1))),tz],[]⟩)
 (k1 .normal ⟨[(.int .u32 (Int.fdiv x3 (2 ^ (min (Int.toNat 1) 32)))),tz,(.int .u32 0),(.bool ((bits .and .u32 x3 1) != 0)),(iz (IntKind.wrap .i64 (x5+1))),bt,(.int .u32 x3),(.int .u32 (bits .and .u32 x3 1)),(.bool ((bits .and .u32 x3 1) != 0)),(.int .u32 x3),(.int .u32 (Int.fdiv x3 (2 ^ (min (Int.toNat 1) 32)))),bf,v13,v14,(iz (IntKind.wrap .i64 (x5+1))),tz],[]⟩))
 (k1 (.exit 0) ⟨[(.int .u32 x3),tz,(.int .u32 0),v4,(iz x5),bf,v7,v8,v9,v10,v11,v12,v13,v14,v15,tz],[]⟩))
 (none)
def r34X0_0 (C:Cb) (d:Nat):St→Ans:=fun s16 =>
 cnd ((List.length s16.env) == 16)
 (C.int .u32 s16.env[0]? fun x17 =>
 sames C s16.env 1 [tz,(.int .u32 0)] <|
 C.any s16.env[3]? fun v18 =>
 C.int .i64 s16.env[4]? fun x19 =>
 C.bool s16.env[5]? fun b20 =>
 anys C s16.env 6 9 <|
 C.same s16.env[15]? tz <|
 C.sameH (St.H s16) [] <|
 some (.int .u32 x17))
 (none)
def r34E0 (C:Cb) (d:Nat):St→Ans:=fun s2 =>
 cnd ((List.length s2.env) == 16)
 (C.int .u32 s2.env[0]? fun x30 =>
 sames C s2.env 1 [tz,(.int .u32 0)] <|
 C.any s2.env[3]? fun v31 =>
 C.int .i64 s2.env[4]? fun x32 =>
 anys C s2.env 5 10 <|
 C.same s2.env[15]? tz <|
 C.sameH (St.H s2) [] <|
 some (.int .u32 0))
 (none)
theorem r34 (C:Cb) (d:Nat) (a0:Int):xcall C M unr d 34 [(.int .u32 a0)] =
 C.iter (r34R0 C d) 10000000000000000000 ⟨[(.int .u32 a0),tz,(.int .u32 0),tz,(iz 0),tz,tz,tz,tz,tz,tz,tz,tz,tz,tz,tz],[]⟩ [0] [r34X0_0 C d] (r34E0 C d):=by kernel_rfl
noncomputable def X19_0_0 (d:Nat) (a0:List UInt8) (x21:Int):Ans :=
 some (.int .u32 (bits .xor .u32 x21 4294967295))
theorem X19_0_0_ok (d:Nat) (a0:List UInt8)   (x21 x22 x23:Int) (s24:List UInt8) (x25:Int) (b26:Bool) (v27 v28 v29 v30 v31 v32 v33 v34 v35:AV):r19X0_0 C0 d a0 ⟨[(.str a0),tz,(.int .u32 0),(.int .u32 x21),(iz x22),(iz x23),(.str s24),(iz x25),(.bool b26),v27,v28,v29,v30,v31,v32,v33,v34,v35,tz,tz],[]⟩=X19_0_0 d a0 x21:=by
 unfold r19X0_0; refine Eq.trans (pl_len (by rfl)) ?_; refine yt ySs ?_; (iterate 3 (refine yt yI ?_)); refine Eq.trans (pl_str (by rfl)) ?_; refine yt yI ?_; refine yt yB ?_; refine yt yAs ?_; refine yt ySs ?_; refine Eq.trans (pl_sameH) ?_
 rfl
noncomputable def L19_0 (d:Nat) (a0:List UInt8):Nat→Int→Int→Ans
 | 0,_,_=>none
 | n+1,x3,x4 =>
 cnd (decide (x4 < (((List.length a0):Nat):Int)))
  (cnd (decide ((0:Int)≤x4))
  (C0.int .u8 (Option.map (fun b:UInt8=>AV.int .u8 (b.toNat:Int)) a0[(Int.toNat x4)]?) fun x18 =>
  C0.int .u32 (pcall M d 32 [(.int .u32 (bits .xor .u32 x3 (IntKind.wrap .u32 x18)))]) fun x19 =>
  L19_0 d a0 n x19 (IntKind.wrap .i64 (x4+1)))
  (none))
  (X19_0_0 d a0 x3)
theorem L19_0_s (d:Nat) (a0:List UInt8) (n:Nat) (x3 x4:Int):L19_0 d a0 (n+1) x3 x4=(cnd (decide (x4 < (((List.length a0):Nat):Int)))
 (cnd (decide ((0:Int)≤x4))
 (C0.int .u8 (Option.map (fun b:UInt8=>AV.int .u8 (b.toNat:Int)) a0[(Int.toNat x4)]?) fun x18 =>
 C0.int .u32 (pcall M d 32 [(.int .u32 (bits .xor .u32 x3 (IntKind.wrap .u32 x18)))]) fun x19 =>
 L19_0 d a0 n x19 (IntKind.wrap .i64 (x4+1)))
 (none))
 (X19_0_0 d a0 x3)):=by kernel_rfl
theorem it19_0 (d:Nat) (a0:List UInt8)  :∀ (n:Nat) (x3 x4:Int) (v5 v6 v7 v8 v9 v10 v11 v12 v13 v14 v15 v16 v17:AV),C0.iter (r19R0 C0 d a0) n ⟨[(.str a0),tz,(.int .u32 0),(.int .u32 x3),(iz x4),v5,v6,v7,v8,v9,v10,v11,v12,v13,v14,v15,v16,v17,tz,tz],[]⟩ [0] [r19X0_0 C0 d a0] (r19E0 C0 d a0)=L19_0 d a0 n x3 x4:=by
 generalize hR:r19R0 C0 d a0=R
 intro n
 induction n with
 | zero=>intros; rfl
 | succ n ih =>
   intro x3 x4 v5 v6 v7 v8 v9 v10 v11 v12 v13 v14 v15 v16 v17
   simp only [it_ret] at ih
   rw [it_ret,xiter_s]
   refine Eq.trans (congrFun (congrFun hR.symm _) _) ?_
   unfold r19R0
   refine Eq.trans (pl_len (by rfl)) ?_; refine yt ySs ?_; (iterate 2 (refine yt yI ?_)); refine yt yAs ?_; (iterate 9 (refine yt yA ?_)); refine yt ySs ?_; refine Eq.trans (pl_sameH) ?_
   simp only [kIter_n,kIter_x,kIter_r,kOut_x,kOut_r,xgo_hit,xgo_miss,ih,X19_0_0_ok d a0  ]
   exact (L19_0_s d a0 n x3 x4).symm
theorem q19 (d:Nat) (a0:List UInt8):xcall C0 M unr d 19 [(.str a0)] =
 L19_0 d a0 10000000000000000000 4294967295 0:=(r19 C0 d a0).trans (by simp only [it19_0])
noncomputable def X22_0_0 (d:Nat) (v0:AV) (x4 x27:Int) (H:Heap):Ans :=
 C0.fin H (.int .u32 (bits .xor .u32 x27 4294967295))
theorem X22_0_0_ok (d:Nat) (a0:List UInt8) (v0:AV) (x4 x27:Int) (v28:AV) (x29:Int) (v30 v31 v32 v33 v34 v35 v36 v37 v38:AV) (H:Heap):r22X0_0 C0 d a0 v0 x4 ⟨[(.str a0),tz,(.int .u32 0),(.int .u32 x27),tz,v28,(.str a0),v0,(iz x4),(iz x29),v30,v31,v32,v33,v34,v35,v36,v37,v38,tz,tz],H⟩=X22_0_0 d v0 x4 x27 H:=by
 unfold r22X0_0; refine Eq.trans (pl_len (by rfl)) ?_; refine yt ySs ?_; refine yt yI ?_; refine yt yS ?_; refine yt yA ?_; refine yt ySs ?_; refine yt yI ?_; refine yt yAs ?_; refine yt ySs ?_
 rfl
noncomputable def L22_0 (d:Nat) (v0:AV) (x4:Int):Nat→Int→Int→Heap→Ans
 | 0,_,_,_=>none
 | n+1,x8,x10,H =>
 cnd (decide (x10 < x4))
  (C0.hop H (.ixAS .any 1 (.v v0) (.v (iz x10))) fun v20 h21 =>
  C0.hop h21 (.load false 1 (.v v20)) fun v22 h23 =>
  C0.int .u8 (some v22) fun x24 =>
  C0.int .u32 (pcall M d 34 [(.int .u32 (bits .xor .u32 x8 (IntKind.wrap .u32 x24)))]) fun x25 =>
  L22_0 d v0 x4 n x25 (IntKind.wrap .i64 (x10+1)) h23)
  (X22_0_0 d v0 x4 x8 H)
theorem L22_0_s (d:Nat) (v0:AV) (x4:Int) (n:Nat) (x8 x10:Int) (H:Heap):L22_0 d v0 x4 (n+1) x8 x10 H=(cnd (decide (x10 < x4))
 (C0.hop H (.ixAS .any 1 (.v v0) (.v (iz x10))) fun v20 h21 =>
 C0.hop h21 (.load false 1 (.v v20)) fun v22 h23 =>
 C0.int .u8 (some v22) fun x24 =>
 C0.int .u32 (pcall M d 34 [(.int .u32 (bits .xor .u32 x8 (IntKind.wrap .u32 x24)))]) fun x25 =>
 L22_0 d v0 x4 n x25 (IntKind.wrap .i64 (x10+1)) h23)
 (X22_0_0 d v0 x4 x8 H)):=by kernel_rfl
theorem it22_0 (d:Nat) (a0:List UInt8) (v0:AV) (x4:Int)  :∀ (n:Nat) (x8:Int) (v9:AV) (x10:Int) (v11 v12 v13 v14 v15 v16 v17 v18 v19:AV) (H:Heap),C0.iter (r22R0 C0 d a0 v0 x4) n ⟨[(.str a0),tz,(.int .u32 0),(.int .u32 x8),tz,v9,(.str a0),v0,(iz x4),(iz x10),v11,v12,v13,v14,v15,v16,v17,v18,v19,tz,tz],H⟩ [0] [r22X0_0 C0 d a0 v0 x4] (r22E0 C0 d a0 v0 x4)=L22_0 d v0 x4 n x8 x10 H:=by
 generalize hR:r22R0 C0 d a0 v0 x4=R
 intro n
 induction n with
 | zero=>intros; rfl
 | succ n ih =>
   intro x8 v9 x10 v11 v12 v13 v14 v15 v16 v17 v18 v19 H
   simp only [it_ret] at ih
   rw [it_ret,xiter_s]
   refine Eq.trans (congrFun (congrFun hR.symm _) _) ?_
   unfold r22R0
   refine Eq.trans (pl_len (by rfl)) ?_; refine yt ySs ?_; refine yt yI ?_; refine yt yS ?_; refine yt yA ?_; refine yt ySs ?_; refine yt yI ?_; (iterate 9 (refine yt yA ?_)); refine yt ySs ?_
   simp only [kIter_n,kIter_x,kIter_r,kOut_x,kOut_r,xgo_hit,xgo_miss,ih,X22_0_0_ok d a0 v0 x4  ]
   exact (L22_0_s d v0 x4 n x8 x10 H).symm
theorem q22 (d:Nat) (a0:List UInt8):xcall C0 M unr d 22 [(.str a0)] =
 C0.hop [] (.s2b E5 (.v (.str a0))) fun v0 h1 =>
 C0.hop h1 (.bk .lenV [(.v v0)]) fun v2 h3 =>
 C0.int .i64 (some v2) fun x4 =>
 L22_0 d v0 x4 10000000000000000000 4294967295 0 h3:=(r22 C0 d a0).trans (by simp only [it22_0])
noncomputable def X32_0_0 (d:Nat)  (x18:Int):Ans :=
 some (.int .u32 x18)
theorem X32_0_0_ok (d:Nat)    (x18 x19 x20:Int) (b21:Bool) (v22 v23 v24 v25 v26 v27 v28 v29 v30 v31:AV):r32X0_0 C0 d  ⟨[(.int .u32 x18),tz,(.int .u32 0),(iz x19),(iz x20),(.bool b21),v22,v23,v24,v25,v26,v27,v28,v29,v30,v31,tz],[]⟩=X32_0_0 d  x18:=by
 unfold r32X0_0; refine Eq.trans (pl_len (by rfl)) ?_; refine yt yI ?_; refine yt ySs ?_; (iterate 2 (refine yt yI ?_)); refine yt yB ?_; refine yt yAs ?_; refine yt yS ?_; refine Eq.trans (pl_sameH) ?_
 rfl
noncomputable def L32_0 (d:Nat) :Nat→Int→Int→Ans
 | 0,_,_=>none
 | n+1,x3,x4 =>
 cnd (decide (x4 < 8))
  (cnd ((Int.tmod x3 2) == 1)
  (L32_0 d n (bits .xor .u32 (IntKind.wrap .u32 (Int.tdiv x3 2)) 3988292384) (IntKind.wrap .i64 (x4+1)))
  (L32_0 d n (IntKind.wrap .u32 (Int.tdiv x3 2)) (IntKind.wrap .i64 (x4+1))))
  (X32_0_0 d x3)
theorem L32_0_s (d:Nat)  (n:Nat) (x3 x4:Int):L32_0 d  (n+1) x3 x4=(cnd (decide (x4 < 8))
 (cnd ((Int.tmod x3 2) == 1)
 (L32_0 d n (bits .xor .u32 (IntKind.wrap .u32 (Int.tdiv x3 2)) 3988292384) (IntKind.wrap .i64 (x4+1)))
 (L32_0 d n (IntKind.wrap .u32 (Int.tdiv x3 2)) (IntKind.wrap .i64 (x4+1))))
 (X32_0_0 d x3)):=by kernel_rfl
theorem it32_0 (d:Nat)   :∀ (n:Nat) (x3 x4:Int) (v5 v6 v7 v8 v9 v10 v11 v12 v13 v14 v15 v16:AV),C0.iter (r32R0 C0 d ) n ⟨[(.int .u32 x3),tz,(.int .u32 0),(iz x4),v5,v6,v7,v8,v9,v10,v11,v12,v13,v14,v15,v16,tz],[]⟩ [0] [r32X0_0 C0 d ] (r32E0 C0 d )=L32_0 d  n x3 x4:=by
 generalize hR:r32R0 C0 d =R
 intro n
 induction n with
 | zero=>intros; rfl
 | succ n ih =>
   intro x3 x4 v5 v6 v7 v8 v9 v10 v11 v12 v13 v14 v15 v16
   simp only [it_ret] at ih
   rw [it_ret,xiter_s]
   refine Eq.trans (congrFun (congrFun hR.symm _) _) ?_
   unfold r32R0
   refine Eq.trans (pl_len (by rfl)) ?_; refine yt yI ?_; refine yt ySs ?_; refine yt yI ?_; refine yt yAs ?_; (iterate 10 (refine yt yA ?_)); refine yt yS ?_; refine Eq.trans (pl_sameH) ?_
   simp only [kIter_n,kIter_x,kIter_r,kOut_x,kOut_r,xgo_hit,xgo_miss,ih,X32_0_0_ok d   ]
   exact (L32_0_s d  n x3 x4).symm
theorem q32 (d:Nat) (a0:Int):xcall C0 M unr d 32 [(.int .u32 a0)] =
 L32_0 d 10000000000000000000 a0 0:=(r32 C0 d a0).trans (by simp only [it32_0])
noncomputable def X34_0_0 (d:Nat)  (x17:Int):Ans :=
 some (.int .u32 x17)
theorem X34_0_0_ok (d:Nat)    (x17:Int) (v18:AV) (x19:Int) (b20:Bool) (v21 v22 v23 v24 v25 v26 v27 v28 v29:AV):r34X0_0 C0 d  ⟨[(.int .u32 x17),tz,(.int .u32 0),v18,(iz x19),(.bool b20),v21,v22,v23,v24,v25,v26,v27,v28,v29,tz],[]⟩=X34_0_0 d  x17:=by
 unfold r34X0_0; refine Eq.trans (pl_len (by rfl)) ?_; refine yt yI ?_; refine yt ySs ?_; refine yt yA ?_; refine yt yI ?_; refine yt yB ?_; refine yt yAs ?_; refine yt yS ?_; refine Eq.trans (pl_sameH) ?_
 rfl
noncomputable def L34_0 (d:Nat) :Nat→Int→Int→Ans
 | 0,_,_=>none
 | n+1,x3,x5 =>
 cnd (decide (x5 < 8))
  (cnd ((bits .and .u32 x3 1) != 0)
  (L34_0 d n (bits .xor .u32 (Int.fdiv x3 (2 ^ (min (Int.toNat 1) 32))) 3988292384) (IntKind.wrap .i64 (x5+1)))
  (L34_0 d n (Int.fdiv x3 (2 ^ (min (Int.toNat 1) 32))) (IntKind.wrap .i64 (x5+1))))
  (X34_0_0 d x3)
theorem L34_0_s (d:Nat)  (n:Nat) (x3 x5:Int):L34_0 d  (n+1) x3 x5=(cnd (decide (x5 < 8))
 (cnd ((bits .and .u32 x3 1) != 0)
 (L34_0 d n (bits .xor .u32 (Int.fdiv x3 (2 ^ (min (Int.toNat 1) 32))) 3988292384) (IntKind.wrap .i64 (x5+1)))
 (L34_0 d n (Int.fdiv x3 (2 ^ (min (Int.toNat 1) 32))) (IntKind.wrap .i64 (x5+1))))
 (X34_0_0 d x3)):=by kernel_rfl
theorem it34_0 (d:Nat)   :∀ (n:Nat) (x3:Int) (v4:AV) (x5:Int) (v6 v7 v8 v9 v10 v11 v12 v13 v14 v15:AV),C0.iter (r34R0 C0 d ) n ⟨[(.int .u32 x3),tz,(.int .u32 0),v4,(iz x5),v6,v7,v8,v9,v10,v11,v12,v13,v14,v15,tz],[]⟩ [0] [r34X0_0 C0 d ] (r34E0 C0 d )=L34_0 d  n x3 x5:=by
 generalize hR:r34R0 C0 d =R
 intro n
 induction n with
 | zero=>intros; rfl
 | succ n ih =>
   intro x3 v4 x5 v6 v7 v8 v9 v10 v11 v12 v13 v14 v15
   simp only [it_ret] at ih
   rw [it_ret,xiter_s]
   refine Eq.trans (congrFun (congrFun hR.symm _) _) ?_
   unfold r34R0
   refine Eq.trans (pl_len (by rfl)) ?_; refine yt yI ?_; refine yt ySs ?_; refine yt yA ?_; refine yt yI ?_; (iterate 10 (refine yt yA ?_)); refine yt yS ?_; refine Eq.trans (pl_sameH) ?_
   simp only [kIter_n,kIter_x,kIter_r,kOut_x,kOut_r,xgo_hit,xgo_miss,ih,X34_0_0_ok d   ]
   exact (L34_0_s d  n x3 x5).symm
theorem q34 (d:Nat) (a0:Int):xcall C0 M unr d 34 [(.int .u32 a0)] =
 L34_0 d 10000000000000000000 a0 0:=(r34 C0 d a0).trans (by simp only [it34_0])
end Go.Proofs.Ytbmedgpiphibaaa.AE

namespace Go.Proofs.Ytbmedgpiphibaaa.AE
set_option linter.unusedVariables false
set_option linter.unusedSimpArgs false
set_option linter.constructorNameAsVariable false
open Go Go.Proofs.Ytbmedgpiphibaaa.Geo
attribute [local irreducible] pcall C0
set_option maxRecDepth 100000
abbrev w32 (x:BitVec 32):Int:=(x.toNat:Int)
theorem w32_and1 (x:BitVec 32):(Go.bits .and .u32 (w32 x) 1 != 0)=x.getLsbD 0:=by
 rw [show (1:Int)=w32 1#32 from rfl,u32_and,lsb]
 have:(x &&& 1#32).toNat=x.toNat % 2:=by rw [BitVec.toNat_and]; exact Nat.and_one_is_mod _
 rw [this]
 by_cases h:x.toNat % 2=1
 ·rw [h,decide_eq_true rfl]; rfl
 ·have h0:x.toNat % 2=0:=by omega
  rw [h0,decide_eq_false (by omega)]; rfl
theorem w32_half (x:BitVec 32):Int.fdiv (w32 x) (2 ^ (min (Int.toNat 1) 32))=w32 (x >>> 1):=by
 show Int.fdiv (x.toNat:Int) _=((x >>> 1).toNat:Int)
 rw [shr1u,show (2 ^ (min (Int.toNat 1) 32):Int)=2 from rfl,Int.fdiv_eq_ediv_of_nonneg _ (by decide)]
theorem w32_half' (x:BitVec 32):IntKind.wrap .u32 (Int.tdiv (w32 x) 2)=w32 (x >>> 1):=by
 show IntKind.wrap .u32 (Int.tdiv (x.toNat:Int) 2)=((x >>> 1).toNat:Int)
 rw [shr1u,u32w,Int.tdiv_eq_ediv_of_nonneg (by omega)]
 have:=x.isLt
 omega
theorem w32_odd (x:BitVec 32):(Int.tmod (w32 x) 2 == 1)=x.getLsbD 0:=by
 show (Int.tmod (x.toNat:Int) 2 == 1)=_
 rw [lsb,Int.tmod_eq_emod_of_nonneg (by omega)]
 by_cases h:x.toNat % 2=1
 ·rw [decide_eq_true h]; exact beq_iff_eq.mpr (by omega)
 ·rw [decide_eq_false h]; exact beq_eq_false_iff_ne.mpr (by omega)
theorem w32_poly (x:BitVec 32):Go.bits .xor .u32 (w32 x) 3988292384=w32 (x ^^^ 0xedb88320#32):=u32_xor x 0xedb88320#32
theorem w32_all (x:BitVec 32):Go.bits .xor .u32 (w32 x) 4294967295=w32 (x ^^^ 0xffffffff#32):=u32_xor x 0xffffffff#32
theorem w32_byte (x:BitVec 32) (b:UInt8):Go.bits .xor .u32 (w32 x) (IntKind.wrap .u32 (b.toNat:Int))=w32 (x ^^^ b32 b):=by
 have hb:=b.toNat_lt
 rw [u32w,show (b.toNat:Int) % 4294967296=(b.toNat:Int) by omega,← byte_nat,u32_xor]
theorem i64_up {i:Nat} (h:i < 9223372036854775807):IntKind.wrap .i64 (((i:Nat):Int)+1)=((i+1:Nat):Int):=by rw [i64w]; omega
theorem step_go (d:Nat):∀ (k i:Nat),i+k=8→∀ (x:BitVec 32) f,k < f→L34_0 d f (w32 x) (i:Nat)=some (.int .u32 (w32 (stN k x)))
 | 0,i,h,x,f+1,_=>by
   rw [L34_0,decide_eq_false (by omega),cnd_f]; rfl
 | k+1,i,h,x,f+1,hf=>by
   rw [L34_0,decide_eq_true (by omega),cnd_t,w32_and1,w32_half,w32_poly,i64_up (by omega)]
   rw [stN]
   have e:st x=bif x.getLsbD 0 then (x >>> 1) ^^^ 0xedb88320#32 else x >>> 1:=by
    unfold st; cases x.getLsbD 0 <;> simp
   rw [e]
   cases x.getLsbD 0
   ·rw [cnd_f,cond_false]; exact step_go d k (i+1) (by omega) _ f (by omega)
   ·rw [cnd_t,cond_true]; exact step_go d k (i+1) (by omega) _ f (by omega)
theorem s34 (d:Nat) (x:BitVec 32):pcall M (d+1) 34 [.int .u32 (w32 x)]=some (.int .u32 (w32 (stN 8 x))):=told (q34 d _) (step_go d 8 0 rfl x 10000000000000000000 (by omega))
theorem step_go' (d:Nat):∀ (k i:Nat),i+k=8→∀ (x:BitVec 32) f,k < f→L32_0 d f (w32 x) (i:Nat)=some (.int .u32 (w32 (stN k x)))
 | 0,i,h,x,f+1,_=>by
   rw [L32_0,decide_eq_false (by omega),cnd_f]; rfl
 | k+1,i,h,x,f+1,hf=>by
   rw [L32_0,decide_eq_true (by omega),cnd_t,w32_odd,w32_half',w32_poly,i64_up (by omega)]
   rw [stN]
   have e:st x=bif x.getLsbD 0 then (x >>> 1) ^^^ 0xedb88320#32 else x >>> 1:=by
    unfold st; cases x.getLsbD 0 <;> simp
   rw [e]
   cases x.getLsbD 0
   ·rw [cnd_f,cond_false]; exact step_go' d k (i+1) (by omega) _ f (by omega)
   ·rw [cnd_t,cond_true]; exact step_go' d k (i+1) (by omega) _ f (by omega)
theorem s32 (d:Nat) (x:BitVec 32):pcall M (d+1) 32 [.int .u32 (w32 x)]=some (.int .u32 (w32 (stN 8 x))):=told (q32 d _) (step_go' d 8 0 rfl x 10000000000000000000 (by omega))
theorem s2b_h {H:Heap} {e:ETy} {s:List UInt8} {K:AV→Heap→Ans}:C0.hop H (.s2b e (.v (.str s))) K=K (.slc H.length 0 s.length) (H ++ [some ⟨e,bytesAV s⟩]):=hop_eq rfl
theorem len_slc {H:Heap} {id o n:Nat} {b:Blk} {K:AV→Heap→Ans} (h:hget H id=some b):C0.hop H (.bk .lenV [.v (.slc id o n)]) K=K (.int .i64 n) H:=hop_eq (by simp [aop,evO,lenOf,h])
theorem bytes_at {s:List UInt8} {i:Nat} (h:i < s.length):(bytesAV s)[i]?=some (.int .u8 (s[i].toNat:Int)):=by simp [bytesAV,List.getElem?_map,List.getElem?_eq_getElem h]
theorem str_at {s:List UInt8} {i:Nat} (h:i < s.length):Option.map (fun b:UInt8=>AV.int .u8 (b.toNat:Int)) s[i]?=some (.int .u8 (s[i].toNat:Int)):=by rw [List.getElem?_eq_getElem h]; rfl
theorem sum_go (d:Nat) (s:List UInt8) (hl:s.length < 9223372036854775807):∀ (k i:Nat),i+k=s.length→∀ (x:BitVec 32) f,k < f →
 L22_0 (d+1) (.slc 0 0 s.length) (s.length:Nat) f (w32 x) (i:Nat) [some ⟨E5,bytesAV s⟩]=some (.int .u32 (w32 ((s.drop i).foldl byteF x ^^^ 0xffffffff#32)))
 | 0,i,h,x,f+1,_=>by
   rw [L22_0,decide_eq_false (by omega),cnd_f,List.drop_of_length_le (by omega),List.foldl_nil]
   unfold X22_0_0
   rw [w32_all]
   exact f_free rfl
 | k+1,i,h,x,f+1,hf=>by
   have hi:i < s.length:=by omega
   rw [L22_0,decide_eq_true (by omega),cnd_t]
   refine Eq.trans (ix_slc (b:=⟨E5,bytesAV s⟩) rfl (by omega) (by omega) rfl) ?_
   refine Eq.trans (ld_ptr (b:=⟨E5,bytesAV s⟩) (v:=.int .u8 (s[i].toNat:Int)) rfl (show (bytesAV s)[0+((i:Nat):Int).toNat]?=_ by rw [show 0+((i:Nat):Int).toNat=i by omega]; exact bytes_at hi) rfl) ?_
   refine Eq.trans (pl_int rfl) ?_
   rw [w32_byte]
   refine Eq.trans (pl_int (s34 d _)) ?_
   rw [i64_up (by omega),List.drop_eq_getElem_cons hi,List.foldl_cons]
   exact sum_go d s hl k (i+1) (by omega) _ f (by omega)
theorem s22 (d:Nat) (s:List UInt8) (hl:s.length < 1000000000000000000):pcall M (d+2) 22 [.str s]=some (.int .u32 (w32 (crcF s))):=told (q22 (d+1) _) (by
 refine Eq.trans s2b_h ?_
 refine Eq.trans (len_slc (b:=⟨E5,bytesAV s⟩) rfl) ?_
 refine Eq.trans (pl_int rfl) ?_
 exact sum_go d s (by omega) s.length 0 (by omega) 0xffffffff#32 10000000000000000000 (by omega))
theorem sum_go' (d:Nat) (s:List UInt8) (hl:s.length < 9223372036854775807):∀ (k i:Nat),i+k=s.length→∀ (x:BitVec 32) f,k < f →
 L19_0 (d+1) s f (w32 x) (i:Nat)=some (.int .u32 (w32 ((s.drop i).foldl byteF x ^^^ 0xffffffff#32)))
 | 0,i,h,x,f+1,_=>by
   rw [L19_0,decide_eq_false (by omega),cnd_f,List.drop_of_length_le (by omega),List.foldl_nil]
   unfold X19_0_0
   rw [w32_all]
 | k+1,i,h,x,f+1,hf=>by
   have hi:i < s.length:=by omega
   rw [L19_0,decide_eq_true (by omega),cnd_t,decide_eq_true (by omega),cnd_t,show (((i:Nat):Int)).toNat=i by omega]
   refine Eq.trans (pl_int (str_at hi)) ?_
   rw [w32_byte]
   refine Eq.trans (pl_int (s32 d _)) ?_
   rw [i64_up (by omega),List.drop_eq_getElem_cons hi,List.foldl_cons]
   exact sum_go' d s hl k (i+1) (by omega) _ f (by omega)
theorem s19 (d:Nat) (s:List UInt8) (hl:s.length < 1000000000000000000):pcall M (d+2) 19 [.str s]=some (.int .u32 (w32 (crcF s))):=told (q19 (d+1) _) (sum_go' d s (by omega) s.length 0 (by omega) 0xffffffff#32 10000000000000000000 (by omega))
end Go.Proofs.Ytbmedgpiphibaaa.AE

namespace Go.Proofs.Ytbmedgpiphibaaa.AE
set_option linter.unusedVariables false
set_option linter.unusedSimpArgs false
open Go Go.Proofs.Ytbmedgpiphibaaa.Geo
attribute [local irreducible] pcall C0
def by8 (n:Int):UInt8:=UInt8.ofNat (n % 256).toNat
theorem u8w (n:Int):IntKind.u8.wrap n=n % 256:=by simp [IntKind.wrap,IntKind.bits,IntKind.signed]
theorem by8_n (n:Int):((by8 n).toNat:Int)=n % 256:=by
 unfold by8
 rw [UInt8.toNat_ofNat']
 omega
theorem by8_mod (n:Int):by8 (n % 256)=by8 n:=by unfold by8; rw [Int.emod_emod_of_dvd _ (by decide)]
def be4 (n:Int):List UInt8:=[by8 (n / 16777216),by8 (n / 65536),by8 (n / 256),by8 n]
theorem be4_len (n:Int):(be4 n).length=4:=rfl
def num4 (s:List UInt8):Int:=((s.getD 0 0).toNat:Int) * 16777216+((s.getD 1 0).toNat:Int) * 65536+((s.getD 2 0).toNat:Int) * 256+((s.getD 3 0).toNat:Int)
theorem u8lt (b:UInt8):(b.toNat:Int) < 256:=by have:=b.toNat_lt; omega
theorem num4_bd (s:List UInt8):0≤num4 s∧num4 s < 4294967296:=by
 unfold num4
 have h0:=u8lt (s.getD 0 0); have h1:=u8lt (s.getD 1 0); have h2:=u8lt (s.getD 2 0); have h3:=u8lt (s.getD 3 0)
 omega
theorem num4_be4 {n:Int} (h:0≤n) (h':n < 4294967296) (t:List UInt8):num4 (be4 n ++ t)=n:=by
 unfold num4 be4
 simp only [List.cons_append,List.nil_append,List.getD_cons_zero,List.getD_cons_succ,by8_n]
 omega
theorem w32_bd (x:BitVec 32):0≤w32 x∧w32 x < 4294967296:=by have:=x.isLt; unfold w32; omega
def sealF (s:List UInt8):List UInt8:=s ++ be4 (w32 (crcF s))
theorem or_byte {x:Int} {b:UInt8} (h:0≤x) (h':x < 16777216):Go.bits .or .u32 (IntKind.wrap .u32 (x * (2 ^ (min (Int.toNat 8) 32)))) (IntKind.wrap .u32 (b.toNat:Int))=x * 256+(b.toNat:Int):=by
 obtain ⟨n,rfl⟩:=Int.eq_ofNat_of_zero_le h
 have hb:=b.toNat_lt
 rw [u32w,u32w,show (2 ^ (min (Int.toNat 8) 32):Int)=256 from rfl,show ((n:Int) * 256) % 4294967296=((n * 256:Nat):Int) by omega,show (b.toNat:Int) % 4294967296=((b.toNat:Nat):Int) by omega]
 show IntKind.u32.wrap ((BitVec.ofInt 32 ((n * 256:Nat):Int) ||| BitVec.ofInt 32 ((b.toNat:Nat):Int)).toNat:Int)=_
 rw [BitVec.ofInt_natCast,BitVec.ofInt_natCast,BitVec.toNat_or,BitVec.toNat_ofNat,BitVec.toNat_ofNat,Nat.mod_eq_of_lt (by omega),Nat.mod_eq_of_lt (by omega)]
 have:=Nat.two_pow_add_eq_or_of_lt (i:=8) (b:=b.toNat) (by omega) n
 rw [show 2 ^ 8 * n=n * 256 by omega] at this
 rw [← this,u32w]
 omega
end Go.Proofs.Ytbmedgpiphibaaa.AE

namespace Go.Proofs.Ytbmedgpiphibaaa.AE
set_option linter.unusedVariables false
set_option linter.unusedSimpArgs false
set_option linter.constructorNameAsVariable false
open Go
theorem gr_eq {H Z:Heap} {K:Nat→Heap→Ans}:C0.grow H Z K=K H.length (H ++ Z):=rfl
theorem keep_ok {A B:Heap} {l:List AV} {K:Ans} (h:∀ v ∈ l,∀ id ∈ idsOf v,A[id]?=B[id]?):C0.keep A B l K=K:=by
 change (match keepL A B l with
  | true=>K
  | false=>none)=K
 have:keepL A B l=true:=by
  rw [keepL,List.all_eq_true]
  intro v hv
  rw [List.all_eq_true]
  intro id hi
  exact keepB_of (h v hv id hi)
 rw [this]
theorem keep_1 {A B:Heap} {id i j:Nat} {K:Ans} (h:A[id]?=B[id]?):C0.keep A B [.ptr id i j] K=K:=keep_ok fun v hv id' hi=>by
 simp only [List.mem_singleton] at hv
 subst hv
 simp only [idsOf,List.mem_singleton] at hi
 subst hi; exact h
theorem hget_some {H:Heap} {id:Nat} {b:Blk} (h:hget H id=some b):H[id]?=some (some b):=(hget_lt h).1
theorem keep_g {A B:Heap} {id i j:Nat} {b:Blk} {K:Ans} (h:hget A id=some b) (h':hget B id=some b):C0.keep A B [.ptr id i j] K=K:=keep_1 (by rw [hget_some h,hget_some h'])
theorem mkt_eq {H:Heap} {id:Nat} {io:IOp} {v:AV} {k:Blk} {K:AV→Heap→Ans} (h:makeAt (evO []) id io=some (v,k)):C0.mkat H id io K=K v (H.set id (some k)):=by
 change (match makeAt (evO []) id io with
  | some (v,k)=>K v (H.set id (some k))
  | none=>none)=_
 rw [h]
end Go.Proofs.Ytbmedgpiphibaaa.AE

namespace Go.Proofs.Ytbmedgpiphibaaa.AE
set_option linter.unusedVariables false
set_option linter.unusedSimpArgs false
set_option linter.constructorNameAsVariable false
open Go
set_option maxRecDepth 100000
set_option maxHeartbeats 0
def r10R1 (C:Cb) (d:Nat) (a0:List AV) (a1 a2 a3 a4 a5 a6 a7 a8:Int) (v0 v5:AV) (x6 x7 x8 x9 x10 x11 x12 x13:Int) (b16:Bool) (v17 v19 v21 v23:AV) (x27:Int) (v28:AV) (x32:Int) (v33:AV) (x37:Int) (v38:AV) (x42:Int) (v43:AV) (x47:Int) (v48:AV) (x52:Int) (v53 v55 v57:AV) (x61:Int) (v62:AV) (x66:Int) (v67:AV) (x71:Int) (v72 v76 v77 v79:AV) (x83:Int) (k85:Ex→St→Ans) (v87:AV) (x90:Int) (v127 v128 v133:AV) (x134 x135 x136 x137:Int) (v138 v144 v146:AV) (x150:Int) (v151:AV) (x155:Int) (v156 v158 v160:AV) (x164:Int) (v165:AV) (x169:Int) (v170:AV) (x174:Int) (v175 v179 v180 v182:AV) (x186:Int):St→(Ex→St→Ans)→Ans:=fun s187 k188 =>
 cnd ((List.length s187.env) == 93)
 (sames C s187.env 0 [(.agg [(.lst a0),(iz a1),(iz a2),(iz a3),(iz a4),(iz a5),(iz a6),(iz a7),(iz a8)]),v0,(.str []),(iz 0)] <|
 C.any s187.env[4]? fun v190 =>
 sames C s187.env 5 [tz,v138,tz] <|
 C.any s187.env[8]? fun v191 =>
 sames C s187.env 9 [(.agg [v5,(iz x6),(iz x7),(iz x8),(iz x9),(iz x10),(iz x11),(iz x12),(iz x13)]),(.bool b16),bf,v17,v19,v21,v23,(iz x27),(.int .u8 (IntKind.wrap .u8 x27)),v28,(iz x32),(.int .u8 (IntKind.wrap .u8 x32)),v33,(iz x37),(.int .u8 (IntKind.wrap .u8 x37)),v38,(iz x42),(.int .u8 (IntKind.wrap .u8 x42)),v43,(iz x47),(.int .u8 (IntKind.wrap .u8 x47)),v48,(iz x52),(.int .u8 (IntKind.wrap .u8 x52)),v53,v55,v55,v57,(iz x61),v62,(iz x66),v67,(iz x71),v72,v76,v77,v79,(iz x83),(iz x90),bt,v128,(.agg [v133,(iz x134),(iz x135),(iz x136),(iz x137)]),v87,v144,v146,(iz x150),(.int .u8 (IntKind.wrap .u8 x150)),v151,(iz x155),(.int .u8 (IntKind.wrap .u8 x155)),v156,v158,v160,(iz x164),v165,(iz x169),v170,(iz x174),v175,v179,v180,v182,(iz x186)] <|
 C.int .i64 s187.env[72]? fun x192 =>
 C.any s187.env[73]? fun v193 =>
 C.any s187.env[74]? fun v194 =>
 C.any s187.env[75]? fun v195 =>
 C.any s187.env[76]? fun v196 =>
 C.any s187.env[77]? fun v197 =>
 C.any s187.env[78]? fun v198 =>
 C.any s187.env[79]? fun v199 =>
 C.any s187.env[80]? fun v200 =>
 C.any s187.env[81]? fun v201 =>
 C.any s187.env[82]? fun v202 =>
 C.any s187.env[83]? fun v203 =>
 sames C s187.env 84 [v127,tz,tz,tz,tz,tz,tz,tz,tz] <|
 cnd (decide (x192 < x186))
 (C.hop (St.H s187) (.ixAS .any 2 (.v v182) (.v (iz x192))) fun v204 h205 =>
 C.hop h205 (.load true 2 (.v v204)) fun v206 h207 =>
 C.agg 2 (some v206) fun l208 =>
 C.int .i64 l208[0]? fun x209 =>
 C.int .i64 l208[1]? fun x210 =>
 C.hop h207 (.alloc E50) fun v211 h212 =>
 C.hop h212 (.store 2 (.v v211) (.v (.agg [(iz x209),(iz x210)]))) fun v213 h214 =>
 C.hop h214 (.fldA 0 (.v v211)) fun v215 h216 =>
 C.hop h216 (.load false 1 (.v v215)) fun v217 h218 =>
 C.int .i64 (some v217) fun x219 =>
 C.hop h218 (.fldA 1 (.v v211)) fun v220 h221 =>
 C.hop h221 (.load false 1 (.v v220)) fun v222 h223 =>
 C.int .i64 (some v222) fun x224 =>
 C.hop h223 (.mkrow E2 2 [(0,(.v (iz x219))),(1,(.v (iz x224)))]) fun v225 h226 =>
 C.cal M (pcall M d) 12 true 21 [v190,v225] h226 fun v227 h228 =>
 C.any (some v227) fun v229 =>
 k188 .normal ⟨[(.agg [(.lst a0),(iz a1),(iz a2),(iz a3),(iz a4),(iz a5),(iz a6),(iz a7),(iz a8)]),v0,(.str []),(iz 0),v229,tz,v138,tz,v211,(.agg [v5,(iz x6),(iz x7),(iz x8),(iz x9),(iz x10),(iz x11),(iz x12),(iz x13)]),(bz b16),bf,v17,v19,v21,v23,(iz x27),(.int .u8 (IntKind.wrap .u8 x27)),v28,(iz x32),(.int .u8 (IntKind.wrap .u8 x32)),v33,(iz x37),(.int .u8 (IntKind.wrap .u8 x37)),v38,(iz x42),(.int .u8 (IntKind.wrap .u8 x42)),v43,(iz x47),(.int .u8 (IntKind.wrap .u8 x47)),v48,(iz x52),(.int .u8 (IntKind.wrap .u8 x52)),v53,v55,v55,v57,(iz x61),v62,(iz x66),v67,(iz x71),v72,v76,v77,v79,(iz x83),(iz x90),bt,v128,(.agg [v133,(iz x134),(iz x135),(iz x136),(iz x137)]),v87,v144,v146,(iz x150),(.int .u8 (IntKind.wrap .u8 x150)),v151,(iz x155),(.int .u8 (IntKind.wrap .u8 x155)),v156,v158,v160,(iz x164),v165,(iz x169),v170,(iz x174),v175,v179,v180,v182,(iz x186),(iz (IntKind.wrap .i64 (x192+1))),bt,v204,(.agg [(iz x209),(iz x210)]),v190,v215,(iz x219),v220,(iz x224),v225,v229,(iz (IntKind.wrap .i64 (x192+1))),v127,tz,tz,tz,tz,tz,tz,tz,tz],h228⟩)
 (k188 (.exit 2) ⟨[(.agg [(.lst a0),(iz a1),(iz a2),(iz a3),(iz a4),(iz a5),(iz a6),(iz a7),(iz a8)]),v0,(.str []),(iz 0),v190,tz,v138,tz,v191,(.agg [v5,(iz x6),(iz x7),(iz x8),(iz x9),(iz x10),(iz x11),(iz x12),(iz x13)]),(bz b16),bf,v17,v19,v21,v23,(iz x27),(.int .u8 (IntKind.wrap .u8 x27)),v28,(iz x32),(.int .u8 (IntKind.wrap .u8 x32)),v33,(iz x37),(.int .u8 (IntKind.wrap .u8 x37)),v38,(iz x42),(.int .u8 (IntKind.wrap .u8 x42)),v43,(iz x47),(.int .u8 (IntKind.wrap .u8 x47)),v48,(iz x52),(.int .u8 (IntKind.wrap .u8 x52)),v53,v55,v55,v57,(iz x61),v62,(iz x66),v67,(iz x71),v72,v76,v77,v79,(iz x83),(iz x90),bt,v128,(.agg [v133,(iz x134),(iz x135),(iz x136),(iz x137)]),v87,v144,v146,(iz x150),(.int .u8 (IntKind.wrap .u8 x150)),v151,(iz x155),(.int .u8 (IntKind.wrap .u8 x155)),v156,v158,v160,(iz x164),v165,(iz x169),v170,(iz x174),v175,v179,v180,v182,(iz x186),(iz x192),bf,v194,v195,v196,v197,v198,v199,v200,v201,v202,v203,v127,tz,tz,tz,tz,tz,tz,tz,tz],(St.H s187)⟩))
 (none)
def r10X1_0 (C:Cb) (d:Nat) (a0:List AV) (a1 a2 a3 a4 a5 a6 a7 a8:Int) (v0 v5:AV) (x6 x7 x8 x9 x10 x11 x12 x13:Int) (b16:Bool) (v17 v19 v21 v23:AV) (x27:Int) (v28:AV) (x32:Int) (v33:AV) (x37:Int) (v38:AV) (x42:Int) (v43:AV) (x47:Int) (v48:AV) (x52:Int) (v53 v55 v57:AV) (x61:Int) (v62:AV) (x66:Int) (v67:AV) (x71:Int) (v72 v76 v77 v79:AV) (x83:Int) (k85:Ex→St→Ans) (v87:AV) (x90:Int) (v127 v128 v133:AV) (x134 x135 x136 x137:Int) (v138 v144 v146:AV) (x150:Int) (v151:AV) (x155:Int) (v156 v158 v160:AV) (x164:Int) (v165:AV) (x169:Int) (v170:AV) (x174:Int) (v175 v179 v180 v182:AV) (x186:Int):St→Ans:=fun s230 =>
 cnd ((List.length s230.env) == 93)
 (sames C s230.env 0 [(.agg [(.lst a0),(iz a1),(iz a2),(iz a3),(iz a4),(iz a5),(iz a6),(iz a7),(iz a8)]),v0,(.str []),(iz 0)] <|
 C.any s230.env[4]? fun v231 =>
 sames C s230.env 5 [tz,v138,tz] <|
 C.any s230.env[8]? fun v232 =>
 sames C s230.env 9 [(.agg [v5,(iz x6),(iz x7),(iz x8),(iz x9),(iz x10),(iz x11),(iz x12),(iz x13)]),(.bool b16),bf,v17,v19,v21,v23,(iz x27),(.int .u8 (IntKind.wrap .u8 x27)),v28,(iz x32),(.int .u8 (IntKind.wrap .u8 x32)),v33,(iz x37),(.int .u8 (IntKind.wrap .u8 x37)),v38,(iz x42),(.int .u8 (IntKind.wrap .u8 x42)),v43,(iz x47),(.int .u8 (IntKind.wrap .u8 x47)),v48,(iz x52),(.int .u8 (IntKind.wrap .u8 x52)),v53,v55,v55,v57,(iz x61),v62,(iz x66),v67,(iz x71),v72,v76,v77,v79,(iz x83),(iz x90),bt,v128,(.agg [v133,(iz x134),(iz x135),(iz x136),(iz x137)]),v87,v144,v146,(iz x150),(.int .u8 (IntKind.wrap .u8 x150)),v151,(iz x155),(.int .u8 (IntKind.wrap .u8 x155)),v156,v158,v160,(iz x164),v165,(iz x169),v170,(iz x174),v175,v179,v180,v182,(iz x186)] <|
 C.int .i64 s230.env[72]? fun x233 =>
 C.any s230.env[73]? fun v234 =>
 C.any s230.env[74]? fun v235 =>
 C.any s230.env[75]? fun v236 =>
 C.any s230.env[76]? fun v237 =>
 C.any s230.env[77]? fun v238 =>
 C.any s230.env[78]? fun v239 =>
 C.any s230.env[79]? fun v240 =>
 C.any s230.env[80]? fun v241 =>
 C.any s230.env[81]? fun v242 =>
 C.any s230.env[82]? fun v243 =>
 C.any s230.env[83]? fun v244 =>
 sames C s230.env 84 [v127,tz,tz,tz,tz,tz,tz,tz,tz] <|
 k85 .normal ⟨[(.agg [(.lst a0),(iz a1),(iz a2),(iz a3),(iz a4),(iz a5),(iz a6),(iz a7),(iz a8)]),v0,(.str []),(iz 0),v231,tz,v138,tz,v232,(.agg [v5,(iz x6),(iz x7),(iz x8),(iz x9),(iz x10),(iz x11),(iz x12),(iz x13)]),(bz b16),bf,v17,v19,v21,v23,(iz x27),(.int .u8 (IntKind.wrap .u8 x27)),v28,(iz x32),(.int .u8 (IntKind.wrap .u8 x32)),v33,(iz x37),(.int .u8 (IntKind.wrap .u8 x37)),v38,(iz x42),(.int .u8 (IntKind.wrap .u8 x42)),v43,(iz x47),(.int .u8 (IntKind.wrap .u8 x47)),v48,(iz x52),(.int .u8 (IntKind.wrap .u8 x52)),v53,v55,v55,v57,(iz x61),v62,(iz x66),v67,(iz x71),v72,v76,v77,v79,(iz x83),(iz (IntKind.wrap .i64 (x90+1))),bt,v128,(.agg [v133,(iz x134),(iz x135),(iz x136),(iz x137)]),v87,v144,v146,(iz x150),(.int .u8 (IntKind.wrap .u8 x150)),v151,(iz x155),(.int .u8 (IntKind.wrap .u8 x155)),v156,v158,v160,(iz x164),v165,(iz x169),v170,(iz x174),v175,v179,v180,v182,(iz x186),(iz x233),v234,v235,v236,v237,v238,v239,v240,v241,v242,v243,v244,(iz (IntKind.wrap .i64 (x90+1))),tz,tz,tz,tz,tz,tz,tz,tz],(St.H s230)⟩)
 (none)
def r10E1 (C:Cb) (d:Nat) (a0:List AV) (a1 a2 a3 a4 a5 a6 a7 a8:Int) (v0 v5:AV) (x6 x7 x8 x9 x10 x11 x12 x13:Int) (b16:Bool) (v17 v19 v21 v23:AV) (x27:Int) (v28:AV) (x32:Int) (v33:AV) (x37:Int) (v38:AV) (x42:Int) (v43:AV) (x47:Int) (v48:AV) (x52:Int) (v53 v55 v57:AV) (x61:Int) (v62:AV) (x66:Int) (v67:AV) (x71:Int) (v72 v76 v77 v79:AV) (x83:Int) (k85:Ex→St→Ans) (v87:AV) (x90:Int) (v127 v128 v133:AV) (x134 x135 x136 x137:Int) (v138 v144 v146:AV) (x150:Int) (v151:AV) (x155:Int) (v156 v158 v160:AV) (x164:Int) (v165:AV) (x169:Int) (v170:AV) (x174:Int) (v175 v179 v180 v182:AV) (x186:Int):St→Ans:=fun s189 =>
 cnd ((List.length s189.env) == 93)
 (sames C s189.env 0 [(.agg [(.lst a0),(iz a1),(iz a2),(iz a3),(iz a4),(iz a5),(iz a6),(iz a7),(iz a8)]),v0,(.str []),(iz 0)] <|
 C.any s189.env[4]? fun v245 =>
 sames C s189.env 5 [tz,v138,tz] <|
 C.any s189.env[8]? fun v246 =>
 sames C s189.env 9 [(.agg [v5,(iz x6),(iz x7),(iz x8),(iz x9),(iz x10),(iz x11),(iz x12),(iz x13)]),(.bool b16),bf,v17,v19,v21,v23,(iz x27),(.int .u8 (IntKind.wrap .u8 x27)),v28,(iz x32),(.int .u8 (IntKind.wrap .u8 x32)),v33,(iz x37),(.int .u8 (IntKind.wrap .u8 x37)),v38,(iz x42),(.int .u8 (IntKind.wrap .u8 x42)),v43,(iz x47),(.int .u8 (IntKind.wrap .u8 x47)),v48,(iz x52),(.int .u8 (IntKind.wrap .u8 x52)),v53,v55,v55,v57,(iz x61),v62,(iz x66),v67,(iz x71),v72,v76,v77,v79,(iz x83),(iz x90),bt,v128,(.agg [v133,(iz x134),(iz x135),(iz x136),(iz x137)]),v87,v144,v146,(iz x150),(.int .u8 (IntKind.wrap .u8 x150)),v151,(iz x155),(.int .u8 (IntKind.wrap .u8 x155)),v156,v158,v160,(iz x164),v165,(iz x169),v170,(iz x174),v175,v179,v180,v182,(iz x186)] <|
 C.int .i64 s189.env[72]? fun x247 =>
 C.any s189.env[73]? fun v248 =>
 C.any s189.env[74]? fun v249 =>
 C.any s189.env[75]? fun v250 =>
 C.any s189.env[76]? fun v251 =>
 C.any s189.env[77]? fun v252 =>
 C.any s189.env[78]? fun v253 =>
 C.any s189.env[79]? fun v254 =>
 C.any s189.env[80]? fun v255 =>
 C.any s189.env[81]? fun v256 =>
 C.any s189.env[82]? fun v257 =>
 C.any s189.env[83]? fun v258 =>
 sames C s189.env 84 [v127,tz,tz,tz,tz,tz,tz,tz,tz] <|
 k85 .ret ⟨[(.agg [(.lst a0),(iz a1),(iz a2),(iz a3),(iz a4),(iz a5),(iz a6),(iz a7),(iz a8)]),v0,(.str []),(iz 0),v245,tz,v138,tz,v246,(.agg [v5,(iz x6),(iz x7),(iz x8),(iz x9),(iz x10),(iz x11),(iz x12),(iz x13)]),(bz b16),bf,v17,v19,v21,v23,(iz x27),(.int .u8 (IntKind.wrap .u8 x27)),v28,(iz x32),(.int .u8 (IntKind.wrap .u8 x32)),v33,(iz x37),(.int .u8 (IntKind.wrap .u8 x37)),v38,(iz x42),(.int .u8 (IntKind.wrap .u8 x42)),v43,(iz x47),(.int .u8 (IntKind.wrap .u8 x47)),v48,(iz x52),(.int .u8 (IntKind.wrap .u8 x52)),v53,v55,v55,v57,(iz x61),v62,(iz x66),v67,(iz x71),v72,v76,v77,v79,(iz x83),(iz x90),bt,v128,(.agg [v133,(iz x134),(iz x135),(iz x136),(iz x137)]),v87,v144,v146,(iz x150),(.int .u8 (IntKind.wrap .u8 x150)),v151,(iz x155),(.int .u8 (IntKind.wrap .u8 x155)),v156,v158,v160,(iz x164),v165,(iz x169),v170,(iz x174),v175,v179,v180,v182,(iz x186),(iz x247),v248,v249,v250,v251,v252,v253,v254,v255,v256,v257,v258,v127,tz,tz,tz,tz,tz,tz,tz,tz],(St.H s189)⟩)
 (none)
def r10R0 (C:Cb) (d:Nat) (a0:List AV) (a1 a2 a3 a4 a5 a6 a7 a8:Int) (v0 v5:AV) (x6 x7 x8 x9 x10 x11 x12 x13:Int) (b16:Bool) (v17 v19 v21 v23:AV) (x27:Int) (v28:AV) (x32:Int) (v33:AV) (x37:Int) (v38:AV) (x42:Int) (v43:AV) (x47:Int) (v48:AV) (x52:Int) (v53 v55 v57:AV) (x61:Int) (v62:AV) (x66:Int) (v67:AV) (x71:Int) (v72 v76 v77 v79:AV) (x83:Int):St→(Ex→St→Ans)→Ans:=fun s84 k85 =>
 cnd ((List.length s84.env) == 93)
 (sames C s84.env 0 [(.agg [(.lst a0),(iz a1),(iz a2),(iz a3),(iz a4),(iz a5),(iz a6),(iz a7),(iz a8)]),v0,(.str []),(iz 0)] <|
 C.any s84.env[4]? fun v87 =>
 C.same s84.env[5]? tz <|
 C.any s84.env[6]? fun v88 =>
 C.same s84.env[7]? tz <|
 C.any s84.env[8]? fun v89 =>
 sames C s84.env 9 [(.agg [v5,(iz x6),(iz x7),(iz x8),(iz x9),(iz x10),(iz x11),(iz x12),(iz x13)]),(.bool b16),bf,v17,v19,v21,v23,(iz x27),(.int .u8 (IntKind.wrap .u8 x27)),v28,(iz x32),(.int .u8 (IntKind.wrap .u8 x32)),v33,(iz x37),(.int .u8 (IntKind.wrap .u8 x37)),v38,(iz x42),(.int .u8 (IntKind.wrap .u8 x42)),v43,(iz x47),(.int .u8 (IntKind.wrap .u8 x47)),v48,(iz x52),(.int .u8 (IntKind.wrap .u8 x52)),v53,v55,v55,v57,(iz x61),v62,(iz x66),v67,(iz x71),v72,v76,v77,v79,(iz x83)] <|
 C.int .i64 s84.env[47]? fun x90 =>
 C.any s84.env[48]? fun v91 =>
 C.any s84.env[49]? fun v92 =>
 C.any s84.env[50]? fun v93 =>
 C.any s84.env[51]? fun v94 =>
 C.any s84.env[52]? fun v95 =>
 C.any s84.env[53]? fun v96 =>
 C.any s84.env[54]? fun v97 =>
 C.any s84.env[55]? fun v98 =>
 C.any s84.env[56]? fun v99 =>
 C.any s84.env[57]? fun v100 =>
 C.any s84.env[58]? fun v101 =>
 C.any s84.env[59]? fun v102 =>
 C.any s84.env[60]? fun v103 =>
 C.any s84.env[61]? fun v104 =>
 C.any s84.env[62]? fun v105 =>
 C.any s84.env[63]? fun v106 =>
 C.any s84.env[64]? fun v107 =>
 C.any s84.env[65]? fun v108 =>
 C.any s84.env[66]? fun v109 =>
 C.any s84.env[67]? fun v110 =>
 C.any s84.env[68]? fun v111 =>
 C.any s84.env[69]? fun v112 =>
 C.any s84.env[70]? fun v113 =>
 C.any s84.env[71]? fun v114 =>
 C.any s84.env[72]? fun v115 =>
 C.any s84.env[73]? fun v116 =>
 C.any s84.env[74]? fun v117 =>
 C.any s84.env[75]? fun v118 =>
 C.any s84.env[76]? fun v119 =>
 C.any s84.env[77]? fun v120 =>
 C.any s84.env[78]? fun v121 =>
 C.any s84.env[79]? fun v122 =>
 C.any s84.env[80]? fun v123 =>
 C.any s84.env[81]? fun v124 =>
 C.any s84.env[82]? fun v125 =>
 C.any s84.env[83]? fun v126 =>
 C.any s84.env[84]? fun v127 =>
 sames C s84.env 85 [tz,tz,tz,tz,tz,tz,tz,tz] <|
 cnd (decide (x90 < x83))
 (C.hop (St.H s84) (.ixAS .any 5 (.v v79) (.v (iz x90))) fun v128 h129 =>
 C.hop h129 (.load true 5 (.v v128)) fun v130 h131 =>
 C.agg 5 (some v130) fun l132 =>
 C.any l132[0]? fun v133 =>
 C.int .i64 l132[1]? fun x134 =>
 C.int .i64 l132[2]? fun x135 =>
 C.int .i64 l132[3]? fun x136 =>
 C.int .i64 l132[4]? fun x137 =>
 C.hop h131 (.alloc E46) fun v138 h139 =>
 C.hop h139 (.store 5 (.v v138) (.v (.agg [v133,(iz x134),(iz x135),(iz x136),(iz x137)]))) fun v140 h141 =>
 C.grow h141 [some rjunk,some rjunk] fun n142 h143 =>
 C.hop h143 (.fldA 0 (.v v138)) fun v144 h145 =>
 C.hop h145 (.load false 1 (.v v144)) fun v146 h147 =>
 C.hop h147 (.bk .lenV [(.v v146)]) fun v148 h149 =>
 C.int .i64 (some v148) fun x150 =>
 C.hop h149 (.fldA 1 (.v v138)) fun v151 h152 =>
 C.hop h152 (.load false 1 (.v v151)) fun v153 h154 =>
 C.int .i64 (some v153) fun x155 =>
 C.mkat h154 (n142+0) (.mkrow E5 2 [(0,(.v (.int .u8 (IntKind.wrap .u8 x150)))),(1,(.v (.int .u8 (IntKind.wrap .u8 x155))))]) fun v156 h157 =>
 C.hop h157 (.app E5 (.v v87) (.v v156)) fun v158 h159 =>
 C.keep h157 h159 [(.ptr (n142+1) 0 0)] <|
 C.hop h159 (.fldA 2 (.v v138)) fun v160 h161 =>
 C.hop h161 (.load false 1 (.v v160)) fun v162 h163 =>
 C.int .i64 (some v162) fun x164 =>
 C.keep h157 h159 [v160] <|
 C.keep h154 h157 [v160] <|
 C.hop h163 (.fldA 3 (.v v138)) fun v165 h166 =>
 C.hop h166 (.load false 1 (.v v165)) fun v167 h168 =>
 C.int .i64 (some v167) fun x169 =>
 C.keep h157 h159 [v165] <|
 C.keep h154 h157 [v165] <|
 C.hop h168 (.fldA 4 (.v v138)) fun v170 h171 =>
 C.hop h171 (.load false 1 (.v v170)) fun v172 h173 =>
 C.int .i64 (some v172) fun x174 =>
 C.keep h157 h159 [v170] <|
 C.keep h154 h157 [v170] <|
 C.mkat h173 (n142+1) (.mkrow E2 3 [(0,(.v (iz x164))),(1,(.v (iz x169))),(2,(.v (iz x174)))]) fun v175 h176 =>
 C.keep h173 h176 [v87,v156] <|
 C.keep h173 h176 [v151] <|
 C.keep h173 h176 [v146] <|
 C.keep h173 h176 [v144] <|
 C.cal M (pcall M d) 12 true 21 [v158,v175] h176 fun v177 h178 =>
 C.any (some v177) fun v179 =>
 C.hop h178 (.fldA 0 (.v v138)) fun v180 h181 =>
 C.hop h181 (.load false 1 (.v v180)) fun v182 h183 =>
 C.hop h183 (.bk .lenV [(.v v182)]) fun v184 h185 =>
 C.int .i64 (some v184) fun x186 =>
 C.iter (r10R1 C d a0 a1 a2 a3 a4 a5 a6 a7 a8 v0 v5 x6 x7 x8 x9 x10 x11 x12 x13 b16 v17 v19 v21 v23 x27 v28 x32 v33 x37 v38 x42 v43 x47 v48 x52 v53 v55 v57 x61 v62 x66 v67 x71 v72 v76 v77 v79 x83 k85 v87 x90 v127 v128 v133 x134 x135 x136 x137 v138 v144 v146 x150 v151 x155 v156 v158 v160 x164 v165 x169 v170 x174 v175 v179 v180 v182 x186) 10000000000000000000 ⟨[(.agg [(.lst a0),(iz a1),(iz a2),(iz a3),(iz a4),(iz a5),(iz a6),(iz a7),(iz a8)]),v0,(.str []),(iz 0),v179,tz,v138,tz,v89,(.agg [v5,(iz x6),(iz x7),(iz x8),(iz x9),(iz x10),(iz x11),(iz x12),(iz x13)]),(bz b16),bf,v17,v19,v21,v23,(iz x27),(.int .u8 (IntKind.wrap .u8 x27)),v28,(iz x32),(.int .u8 (IntKind.wrap .u8 x32)),v33,(iz x37),(.int .u8 (IntKind.wrap .u8 x37)),v38,(iz x42),(.int .u8 (IntKind.wrap .u8 x42)),v43,(iz x47),(.int .u8 (IntKind.wrap .u8 x47)),v48,(iz x52),(.int .u8 (IntKind.wrap .u8 x52)),v53,v55,v55,v57,(iz x61),v62,(iz x66),v67,(iz x71),v72,v76,v77,v79,(iz x83),(iz x90),bt,v128,(.agg [v133,(iz x134),(iz x135),(iz x136),(iz x137)]),v87,v144,v146,(iz x150),(.int .u8 (IntKind.wrap .u8 x150)),v151,(iz x155),(.int .u8 (IntKind.wrap .u8 x155)),v156,v158,v160,(iz x164),v165,(iz x169),v170,(iz x174),v175,v179,v180,v182,(iz x186),(iz 0),v116,v117,v118,v119,v120,v121,v122,v123,v124,v125,v126,v127,tz,tz,tz,tz,tz,tz,tz,tz],h185⟩ [2] [r10X1_0 C d a0 a1 a2 a3 a4 a5 a6 a7 a8 v0 v5 x6 x7 x8 x9 x10 x11 x12 x13 b16 v17 v19 v21 v23 x27 v28 x32 v33 x37 v38 x42 v43 x47 v48 x52 v53 v55 v57 x61 v62 x66 v67 x71 v72 v76 v77 v79 x83 k85 v87 x90 v127 v128 v133 x134 x135 x136 x137 v138 v144 v146 x150 v151 x155 v156 v158 v160 x164 v165 x169 v170 x174 v175 v179 v180 v182 x186] (r10E1 C d a0 a1 a2 a3 a4 a5 a6 a7 a8 v0 v5 x6 x7 x8 x9 x10 x11 x12 x13 b16 v17 v19 v21 v23 x27 v28 x32 v33 x37 v38 x42 v43 x47 v48 x52 v53 v55 v57 x61 v62 x66 v67 x71 v72 v76 v77 v79 x83 k85 v87 x90 v127 v128 v133 x134 x135 x136 x137 v138 v144 v146 x150 v151 x155 v156 v158 v160 x164 v165 x169 v170 x174 v175 v179 v180 v182 x186))
 (k85 (.exit 0) ⟨[(.agg [(.lst a0),(iz a1),(iz a2),(iz a3),(iz a4),(iz a5),(iz a6),(iz a7),(iz a8)]),v0,(.str []),(iz 0),v87,tz,v88,tz,v89,(.agg [v5,(iz x6),(iz x7),(iz x8),(iz x9),(iz x10),(iz x11),(iz x12),(iz x13)]),(bz b16),bf,v17,v19,v21,v23,(iz x27),(.int .u8 (IntKind.wrap .u8 x27)),v28,(iz x32),(.int .u8 (IntKind.wrap .u8 x32)),v33,(iz x37),(.int .u8 (IntKind.wrap .u8 x37)),v38,(iz x42),(.int .u8 (IntKind.wrap .u8 x42)),v43,(iz x47),(.int .u8 (IntKind.wrap .u8 x47)),v48,(iz x52),(.int .u8 (IntKind.wrap .u8 x52)),v53,v55,v55,v57,(iz x61),v62,(iz x66),v67,(iz x71),v72,v76,v77,v79,(iz x83),(iz x90),bf,v92,v93,v94,v95,v96,v97,v98,v99,v100,v101,v102,v103,v104,v105,v106,v107,v108,v109,v110,v111,v112,v113,v114,v115,v116,v117,v118,v119,v120,v121,v122,v123,v124,v125,v126,v127,tz,tz,tz,tz,tz,tz,tz,tz],(St.H s84)⟩))
 (none)
def r10X0_0 (C:Cb) (d:Nat) (a0:List AV) (a1 a2 a3 a4 a5 a6 a7 a8:Int) (v0 v5:AV) (x6 x7 x8 x9 x10 x11 x12 x13:Int) (b16:Bool) (v17 v19 v21 v23:AV) (x27:Int) (v28:AV) (x32:Int) (v33:AV) (x37:Int) (v38:AV) (x42:Int) (v43:AV) (x47:Int) (v48:AV) (x52:Int) (v53 v55 v57:AV) (x61:Int) (v62:AV) (x66:Int) (v67:AV) (x71:Int) (v72 v76 v77 v79:AV) (x83:Int):St→Ans:=fun s259 =>
 cnd ((List.length s259.env) == 93)
 (sames C s259.env 0 [(.agg [(.lst a0),(iz a1),(iz a2),(iz a3),(iz a4),(iz a5),(iz a6),(iz a7),(iz a8)]),v0,(.str []),(iz 0)] <|
 C.any s259.env[4]? fun v260 =>
 C.same s259.env[5]? tz <|
 C.any s259.env[6]? fun v261 =>
 C.same s259.env[7]? tz <|
 C.any s259.env[8]? fun v262 =>
 sames C s259.env 9 [(.agg [v5,(iz x6),(iz x7),(iz x8),(iz x9),(iz x10),(iz x11),(iz x12),(iz x13)]),(.bool b16),bf,v17,v19,v21,v23,(iz x27),(.int .u8 (IntKind.wrap .u8 x27)),v28,(iz x32),(.int .u8 (IntKind.wrap .u8 x32)),v33,(iz x37),(.int .u8 (IntKind.wrap .u8 x37)),v38,(iz x42),(.int .u8 (IntKind.wrap .u8 x42)),v43,(iz x47),(.int .u8 (IntKind.wrap .u8 x47)),v48,(iz x52),(.int .u8 (IntKind.wrap .u8 x52)),v53,v55,v55,v57,(iz x61),v62,(iz x66),v67,(iz x71),v72,v76,v77,v79,(iz x83)] <|
 C.int .i64 s259.env[47]? fun x263 =>
 anys C s259.env 48 37 <|
 sames C s259.env 85 [tz,tz,tz,tz,tz,tz,tz,tz] <|
 C.hop (St.H s259) (.b2s (.v v260)) fun v301 h302 =>
 C.str (some v301) fun s303 =>
 C.int .u32 (pcall M d 22 [(.str s303)]) fun x304 =>
 C.hop h302 (.mkrow E2 1 [(0,(.v (iz (IntKind.wrap .i64 x304))))]) fun v305 h306 =>
 C.cal M (pcall M d) 12 true 21 [v260,v305] h306 fun v307 h308 =>
 C.any (some v307) fun v309 =>
 C.hop h308 (.b2s (.v v309)) fun v310 h311 =>
 C.str (some v310) fun s312 =>
 C.fin h311 (.tup [(.str s312),(iz 0)]))
 (none)
def r10E0 (C:Cb) (d:Nat) (a0:List AV) (a1 a2 a3 a4 a5 a6 a7 a8:Int) (v0 v5:AV) (x6 x7 x8 x9 x10 x11 x12 x13:Int) (b16:Bool) (v17 v19 v21 v23:AV) (x27:Int) (v28:AV) (x32:Int) (v33:AV) (x37:Int) (v38:AV) (x42:Int) (v43:AV) (x47:Int) (v48:AV) (x52:Int) (v53 v55 v57:AV) (x61:Int) (v62:AV) (x66:Int) (v67:AV) (x71:Int) (v72 v76 v77 v79:AV) (x83:Int):St→Ans:=fun s86 =>
 cnd ((List.length s86.env) == 93)
 (sames C s86.env 0 [(.agg [(.lst a0),(iz a1),(iz a2),(iz a3),(iz a4),(iz a5),(iz a6),(iz a7),(iz a8)]),v0,(.str []),(iz 0)] <|
 C.any s86.env[4]? fun v313 =>
 C.same s86.env[5]? tz <|
 C.any s86.env[6]? fun v314 =>
 C.same s86.env[7]? tz <|
 C.any s86.env[8]? fun v315 =>
 sames C s86.env 9 [(.agg [v5,(iz x6),(iz x7),(iz x8),(iz x9),(iz x10),(iz x11),(iz x12),(iz x13)]),(.bool b16),bf,v17,v19,v21,v23,(iz x27),(.int .u8 (IntKind.wrap .u8 x27)),v28,(iz x32),(.int .u8 (IntKind.wrap .u8 x32)),v33,(iz x37),(.int .u8 (IntKind.wrap .u8 x37)),v38,(iz x42),(.int .u8 (IntKind.wrap .u8 x42)),v43,(iz x47),(.int .u8 (IntKind.wrap .u8 x47)),v48,(iz x52),(.int .u8 (IntKind.wrap .u8 x52)),v53,v55,v55,v57,(iz x61),v62,(iz x66),v67,(iz x71),v72,v76,v77,v79,(iz x83)] <|
 C.int .i64 s86.env[47]? fun x316 =>
 anys C s86.env 48 37 <|
 sames C s86.env 85 [tz,tz,tz,tz,tz,tz,tz,tz] <|
 C.fin (St.H s86) (.tup [(.str []),(iz 0)]))
 (none)
theorem r10 (C:Cb) (d:Nat) (a0:List AV) (a1 a2 a3 a4 a5 a6 a7 a8:Int):xcall C M unr d 10 [(.agg [(.lst a0),(iz a1),(iz a2),(iz a3),(iz a4),(iz a5),(iz a6),(iz a7),(iz a8)])] =
 C.hop [] (.box E24 (.v (.agg [(.lst a0),(iz a1),(iz a2),(iz a3),(iz a4),(iz a5),(iz a6),(iz a7),(iz a8)]))) fun v0 h1 =>
 C.hop h1 (.load true 9 (.v v0)) fun v2 h3 =>
 C.agg 9 (some v2) fun l4 =>
 C.any l4[0]? fun v5 =>
 C.int .i64 l4[1]? fun x6 =>
 C.int .i64 l4[2]? fun x7 =>
 C.int .i64 l4[3]? fun x8 =>
 C.int .i64 l4[4]? fun x9 =>
 C.int .i64 l4[5]? fun x10 =>
 C.int .i64 l4[6]? fun x11 =>
 C.int .i64 l4[7]? fun x12 =>
 C.int .i64 l4[8]? fun x13 =>
 C.snp h3 [(.agg [v5,(iz x6),(iz x7),(iz x8),(iz x9),(iz x10),(iz x11),(iz x12),(iz x13)])] fun l14 b15 =>
 C.bool (pcall M d 20 l14) fun b16 =>
 cnd (b15 || true)
 (cnd (!b16)
 (C.fin h3 (.tup [(.str []),(iz 1)]))
 (C.hop h3 (.mkrow E5 4 [(0,(.v (.int .u8 65))),(1,(.v (.int .u8 70))),(2,(.v (.int .u8 84))),(3,(.v (.int .u8 85)))]) fun v17 h18 =>
 C.hop h18 (.mark (.v v17)) fun v19 h20 =>
 C.hop h20 (.fldA 0 (.v v0)) fun v21 h22 =>
 C.hop h22 (.load false 1 (.v v21)) fun v23 h24 =>
 C.hop h24 (.bk .lenV [(.v v23)]) fun v25 h26 =>
 C.int .i64 (some v25) fun x27 =>
 C.hop h26 (.fldA 1 (.v v0)) fun v28 h29 =>
 C.hop h29 (.load false 1 (.v v28)) fun v30 h31 =>
 C.int .i64 (some v30) fun x32 =>
 C.hop h31 (.fldA 2 (.v v0)) fun v33 h34 =>
 C.hop h34 (.load false 1 (.v v33)) fun v35 h36 =>
 C.int .i64 (some v35) fun x37 =>
 C.hop h36 (.fldA 3 (.v v0)) fun v38 h39 =>
 C.hop h39 (.load false 1 (.v v38)) fun v40 h41 =>
 C.int .i64 (some v40) fun x42 =>
 C.hop h41 (.fldA 6 (.v v0)) fun v43 h44 =>
 C.hop h44 (.load false 1 (.v v43)) fun v45 h46 =>
 C.int .i64 (some v45) fun x47 =>
 C.hop h46 (.fldA 8 (.v v0)) fun v48 h49 =>
 C.hop h49 (.load false 1 (.v v48)) fun v50 h51 =>
 C.int .i64 (some v50) fun x52 =>
 C.hop h51 (.mkrow E5 6 [(0,(.v (.int .u8 (IntKind.wrap .u8 x27)))),(1,(.v (.int .u8 (IntKind.wrap .u8 x32)))),(2,(.v (.int .u8 (IntKind.wrap .u8 x37)))),(3,(.v (.int .u8 (IntKind.wrap .u8 x42)))),(4,(.v (.int .u8 (IntKind.wrap .u8 x47)))),(5,(.v (.int .u8 (IntKind.wrap .u8 x52))))]) fun v53 h54 =>
 C.hop h54 (.app E5 (.v v19) (.v v53)) fun v55 h56 =>
 C.hop h56 (.fldA 4 (.v v0)) fun v57 h58 =>
 C.hop h58 (.load false 1 (.v v57)) fun v59 h60 =>
 C.int .i64 (some v59) fun x61 =>
 C.hop h60 (.fldA 5 (.v v0)) fun v62 h63 =>
 C.hop h63 (.load false 1 (.v v62)) fun v64 h65 =>
 C.int .i64 (some v64) fun x66 =>
 C.hop h65 (.fldA 7 (.v v0)) fun v67 h68 =>
 C.hop h68 (.load false 1 (.v v67)) fun v69 h70 =>
 C.int .i64 (some v69) fun x71 =>
 C.hop h70 (.mkrow E2 3 [(0,(.v (iz x61))),(1,(.v (iz x66))),(2,(.v (iz x71)))]) fun v72 h73 =>
 C.cal M (pcall M d) 12 true 21 [v55,v72] h73 fun v74 h75 =>
 C.any (some v74) fun v76 =>
 C.hop h75 (.fldA 0 (.v v0)) fun v77 h78 =>
 C.hop h78 (.load false 1 (.v v77)) fun v79 h80 =>
 C.hop h80 (.bk .lenV [(.v v79)]) fun v81 h82 =>
 C.int .i64 (some v81) fun x83 =>
 C.iter (r10R0 C d a0 a1 a2 a3 a4 a5 a6 a7 a8 v0 v5 x6 x7 x8 x9 x10 x11 x12 x13 b16 v17 v19 v21 v23 x27 v28 x32 v33 x37 v38 x42 v43 x47 v48 x52 v53 v55 v57 x61 v62 x66 v67 x71 v72 v76 v77 v79 x83) 10000000000000000000 ⟨[(.agg [(.lst a0),(iz a1),(iz a2),(iz a3),(iz a4),(iz a5),(iz a6),(iz a7),(iz a8)]),v0,(.str []),(iz 0),v76,tz,tz,tz,tz,(.agg [v5,(iz x6),(iz x7),(iz x8),(iz x9),(iz x10),(iz x11),(iz x12),(iz x13)]),(bz b16),bf,v17,v19,v21,v23,(iz x27),(.int .u8 (IntKind.wrap .u8 x27)),v28,(iz x32),(.int .u8 (IntKind.wrap .u8 x32)),v33,(iz x37),(.int .u8 (IntKind.wrap .u8 x37)),v38,(iz x42),(.int .u8 (IntKind.wrap .u8 x42)),v43,(iz x47),(.int .u8 (IntKind.wrap .u8 x47)),v48,(iz x52),(.int .u8 (IntKind.wrap .u8 x52)),v53,v55,v55,v57,(iz x61),v62,(iz x66),v67,(iz x71),v72,v76,v77,v79,(iz x83),(iz 0),tz,tz,tz,tz,tz,tz,tz,tz,tz,tz,tz,tz,tz,tz,tz,tz,tz,tz,tz,tz,tz,tz,tz,tz,tz,tz,tz,tz,tz,tz,tz,tz,tz,tz,tz,tz,tz,tz,tz,tz,tz,tz,tz,tz,tz],h82⟩ [0] [r10X0_0 C d a0 a1 a2 a3 a4 a5 a6 a7 a8 v0 v5 x6 x7 x8 x9 x10 x11 x12 x13 b16 v17 v19 v21 v23 x27 v28 x32 v33 x37 v38 x42 v43 x47 v48 x52 v53 v55 v57 x61 v62 x66 v67 x71 v72 v76 v77 v79 x83] (r10E0 C d a0 a1 a2 a3 a4 a5 a6 a7 a8 v0 v5 x6 x7 x8 x9 x10 x11 x12 x13 b16 v17 v19 v21 v23 x27 v28 x32 v33 x37 v38 x42 v43 x47 v48 x52 v53 v55 v57 x61 v62 x66 v67 x71 v72 v76 v77 v79 x83)))
 (none):=by kernel_rfl
theorem r12 (C:Cb) (d:Nat) (a0:List AV) (a1 a2 a3 a4 a5 a6 a7 a8:Int):xcall C M unr d 12 [(.agg [(.lst a0),(iz a1),(iz a2),(iz a3),(iz a4),(iz a5),(iz a6),(iz a7),(iz a8)])] =
 C.tup 2 (pcall M d 10 [(.agg [(.lst a0),(iz a1),(iz a2),(iz a3),(iz a4),(iz a5),(iz a6),(iz a7),(iz a8)])]) fun l0 =>
 C.str l0[0]? fun s1 =>
 C.int .i64 l0[1]? fun x2 =>
 some (iz (((List.length s1):Nat):Int)):=by kernel_rfl
theorem r13 (C:Cb) (d:Nat) (a0:List UInt8):xcall C M unr d 13 [(.str a0)] =
 cnd (decide (((0:Int)≤(if ((4:Int) < (((List.length a0):Nat):Int)) then 4 else (((List.length a0):Nat):Int)))∧((if ((4:Int) < (((List.length a0):Nat):Int)) then 4 else (((List.length a0):Nat):Int))≤((4:Nat):Int))))
 (C.bool (pcall M d 25 [(.str a0),(.str (List.drop 0 (List.take (Int.toNat (if ((4:Int) < (((List.length a0):Nat):Int)) then 4 else (((List.length a0):Nat):Int))) [65,70,84,85])))]) fun b0 =>
 cnd (!b0)
 (some (.tup [(.agg [(.lst []),(iz 0),(iz 0),(iz 0),(iz 0),(iz 0),(iz 0),(iz 0),(iz 0)]),(iz 3)]))
 (cnd (decide ((((List.length a0):Nat):Int) < 22))
 (some (.tup [(.agg [(.lst []),(iz 0),(iz 0),(iz 0),(iz 0),(iz 0),(iz 0),(iz 0),(iz 0)]),(iz 5)]))
 (C.int .u8 (Option.map (fun b:UInt8=>AV.int .u8 (b.toNat:Int)) a0[5]?) fun x1 =>
 C.int .u8 (Option.map (fun b:UInt8=>AV.int .u8 (b.toNat:Int)) a0[6]?) fun x2 =>
 C.int .u8 (Option.map (fun b:UInt8=>AV.int .u8 (b.toNat:Int)) a0[7]?) fun x3 =>
 C.int .u8 (Option.map (fun b:UInt8=>AV.int .u8 (b.toNat:Int)) a0[8]?) fun x4 =>
 C.int .u8 (Option.map (fun b:UInt8=>AV.int .u8 (b.toNat:Int)) a0[9]?) fun x5 =>
 cnd (decide (((0:Int)≤10)∧((10:Int)≤(((List.length a0):Nat):Int))))
 (C.int .u32 (pcall M d 26 [(.str (List.drop (Int.toNat 10) (List.take (List.length a0) a0)))]) fun x6 =>
 cnd (decide (((0:Int)≤14)∧((14:Int)≤(((List.length a0):Nat):Int))))
 (C.int .u32 (pcall M d 26 [(.str (List.drop (Int.toNat 14) (List.take (List.length a0) a0)))]) fun x7 =>
 cnd (decide (((0:Int)≤18)∧((18:Int)≤(((List.length a0):Nat):Int))))
 (C.int .u32 (pcall M d 26 [(.str (List.drop (Int.toNat 18) (List.take (List.length a0) a0)))]) fun x8 =>
 C.int .u8 (Option.map (fun b:UInt8=>AV.int .u8 (b.toNat:Int)) a0[4]?) fun x9 =>
 cnd (decide (((0:Int)≤22)∧((22:Int)≤(((List.length a0):Nat):Int))))
 (C.tup 3 (pcall M d 27 [(iz (IntKind.wrap .i64 x9)),(.str (List.drop (Int.toNat 22) (List.take (List.length a0) a0)))]) fun l10 =>
 C.lst l10[0]? (fun l11 =>
 C.str l10[1]? fun s13 =>
 C.int .i64 l10[2]? fun x14 =>
 cnd (x14 != 0)
 (some (.tup [(.agg [(.lst []),(iz 0),(iz 0),(iz 0),(iz 0),(iz 0),(iz 0),(iz 0),(iz 0)]),(iz x14)]))
 (cnd (decide ((((List.length s13):Nat):Int) < 4))
 (some (.tup [(.agg [(.lst []),(iz 0),(iz 0),(iz 0),(iz 0),(iz 0),(iz 0),(iz 0),(iz 0)]),(iz 5)]))
 (cnd (decide ((((List.length s13):Nat):Int) > 4))
 (some (.tup [(.agg [(.lst []),(iz 0),(iz 0),(iz 0),(iz 0),(iz 0),(iz 0),(iz 0),(iz 0)]),(iz 3)]))
 (cnd (decide (((0:Int)≤(IntKind.wrap .i64 ((((List.length a0):Nat):Int) - 4)))∧((IntKind.wrap .i64 ((((List.length a0):Nat):Int) - 4))≤(((List.length a0):Nat):Int))))
 (C.int .u32 (pcall M d 22 [(.str (List.drop 0 (List.take (Int.toNat (IntKind.wrap .i64 ((((List.length a0):Nat):Int) - 4))) a0)))]) fun x15 =>
 C.int .u32 (pcall M d 26 [(.str s13)]) fun x16 =>
 cnd (x15 != x16)
 (some (.tup [(.agg [(.lst []),(iz 0),(iz 0),(iz 0),(iz 0),(iz 0),(iz 0),(iz 0),(iz 0)]),(iz 4)]))
 (C.bool (pcall M d 20 [(.agg [(.lst l11),(iz (IntKind.wrap .i64 x1)),(iz (IntKind.wrap .i64 x2)),(iz (IntKind.wrap .i64 x3)),(iz (IntKind.wrap .i64 x6)),(iz (IntKind.wrap .i64 x7)),(iz (IntKind.wrap .i64 x4)),(iz (IntKind.wrap .i64 x8)),(iz (IntKind.wrap .i64 x5))])]) fun b17 =>
 cnd (!b17)
 (some (.tup [(.agg [(.lst []),(iz 0),(iz 0),(iz 0),(iz 0),(iz 0),(iz 0),(iz 0),(iz 0)]),(iz 3)]))
 (some (.tup [(.agg [(.lst l11),(iz (IntKind.wrap .i64 x1)),(iz (IntKind.wrap .i64 x2)),(iz (IntKind.wrap .i64 x3)),(iz (IntKind.wrap .i64 x6)),(iz (IntKind.wrap .i64 x7)),(iz (IntKind.wrap .i64 x4)),(iz (IntKind.wrap .i64 x8)),(iz (IntKind.wrap .i64 x5))]),(iz 0)]))))
 (none)))))
 (fun z12 =>
 none))
 (none))
 (none))
 (none))
 (none))))
 (none):=by kernel_rfl
theorem r18 (C:Cb) (d:Nat) (a0:List UInt8):xcall C M unr d 18 [(.str a0)] =
 cnd (decide ((((List.length a0):Nat):Int) < 4))
 (some (.int .u32 0))
 (cnd (decide (((0:Int)≤(IntKind.wrap .i64 ((((List.length a0):Nat):Int) - 4)))∧((IntKind.wrap .i64 ((((List.length a0):Nat):Int) - 4))≤(((List.length a0):Nat):Int))))
 (C.int .u32 (pcall M d 26 [(.str (List.drop (Int.toNat (IntKind.wrap .i64 ((((List.length a0):Nat):Int) - 4))) (List.take (List.length a0) a0)))]) fun x0 =>
 some (.int .u32 x0))
 (none)):=by kernel_rfl
def r21R0 (C:Cb) (d:Nat) (a1:AV) (K0:AV→Heap→Ans) (x2:Int):St→(Ex→St→Ans)→Ans:=fun s3 k4 =>
 cnd ((List.length s3.env) == 29)
 (C.any s3.env[0]? fun v6 =>
 sames C s3.env 1 [a1,tz,tz,(.zsl true),tz] <|
 C.any s3.env[6]? fun v7 =>
 sames C s3.env 7 [a1,(iz x2)] <|
 C.int .i64 s3.env[9]? fun x8 =>
 C.any s3.env[10]? fun v9 =>
 C.any s3.env[11]? fun v10 =>
 C.any s3.env[12]? fun v11 =>
 C.any s3.env[13]? fun v12 =>
 C.any s3.env[14]? fun v13 =>
 C.any s3.env[15]? fun v14 =>
 C.any s3.env[16]? fun v15 =>
 C.any s3.env[17]? fun v16 =>
 C.any s3.env[18]? fun v17 =>
 C.any s3.env[19]? fun v18 =>
 C.any s3.env[20]? fun v19 =>
 C.any s3.env[21]? fun v20 =>
 C.any s3.env[22]? fun v21 =>
 C.any s3.env[23]? fun v22 =>
 C.any s3.env[24]? fun v23 =>
 C.any s3.env[25]? fun v24 =>
 C.any s3.env[26]? fun v25 =>
 C.any s3.env[27]? fun v26 =>
 C.same s3.env[28]? tz <|
 cnd (decide (x8 < x2))
 (C.hop (St.H s3) (.ixAS .any 1 (.v a1) (.v (iz x8))) fun v27 h28 =>
 C.hop h28 (.load false 1 (.v v27)) fun v29 h30 =>
 C.int .i64 (some v29) fun x31 =>
 C.hop h30 (.mkrow E5 4 [(0,(.v (.int .u8 (IntKind.wrap .u8 (Int.fdiv x31 (2 ^ (min (Int.toNat 24) 64))))))),(1,(.v (.int .u8 (IntKind.wrap .u8 (Int.fdiv x31 (2 ^ (min (Int.toNat 16) 64))))))),(2,(.v (.int .u8 (IntKind.wrap .u8 (Int.fdiv x31 (2 ^ (min (Int.toNat 8) 64))))))),(3,(.v (.int .u8 (IntKind.wrap .u8 x31))))]) fun v32 h33 =>
 C.hop h33 (.app E5 (.v v6) (.v v32)) fun v34 h35 =>
 k4 .normal ⟨[v34,a1,tz,tz,(.zsl true),tz,(iz x31),a1,(iz x2),(iz (IntKind.wrap .i64 (x8+1))),bt,v27,(iz x31),v6,(iz x31),(iz (Int.fdiv x31 (2 ^ (min (Int.toNat 24) 64)))),(.int .u8 (IntKind.wrap .u8 (Int.fdiv x31 (2 ^ (min (Int.toNat 24) 64))))),(iz x31),(iz (Int.fdiv x31 (2 ^ (min (Int.toNat 16) 64)))),(.int .u8 (IntKind.wrap .u8 (Int.fdiv x31 (2 ^ (min (Int.toNat 16) 64))))),(iz x31),(iz (Int.fdiv x31 (2 ^ (min (Int.toNat 8) 64)))),(.int .u8 (IntKind.wrap .u8 (Int.fdiv x31 (2 ^ (min (Int.toNat 8) 64))))),(iz x31),(.int .u8 (IntKind.wrap .u8 x31)),v32,v34,(iz (IntKind.wrap .i64 (x8+1))),tz],h35⟩)
 (k4 (.exit 0) ⟨[v6,a1,tz,tz,(.zsl true),tz,v7,a1,(iz x2),(iz x8),bf,v10,v11,v12,v13,v14,v15,v16,v17,v18,v19,v20,v21,v22,v23,v24,v25,v26,tz],(St.H s3)⟩))
 (none)
def r21X0_0 (C:Cb) (d:Nat) (a1:AV) (K0:AV→Heap→Ans) (x2:Int):St→Ans:=fun s36 =>
 cnd ((List.length s36.env) == 29)
 (C.any s36.env[0]? fun v37 =>
 sames C s36.env 1 [a1,tz,tz,(.zsl true),tz] <|
 C.any s36.env[6]? fun v38 =>
 sames C s36.env 7 [a1,(iz x2)] <|
 C.int .i64 s36.env[9]? fun x39 =>
 anys C s36.env 10 18 <|
 C.same s36.env[28]? tz <|
 K0 v37 (St.H s36))
 (none)
def r21E0 (C:Cb) (d:Nat) (a1:AV) (K0:AV→Heap→Ans) (x2:Int):St→Ans:=fun s5 =>
 cnd ((List.length s5.env) == 29)
 (C.any s5.env[0]? fun v58 =>
 sames C s5.env 1 [a1,tz,tz,(.zsl true),tz] <|
 C.any s5.env[6]? fun v59 =>
 sames C s5.env 7 [a1,(iz x2)] <|
 C.int .i64 s5.env[9]? fun x60 =>
 anys C s5.env 10 18 <|
 C.same s5.env[28]? tz <|
 K0 (.zsl true) (St.H s5))
 (none)
theorem r21 (C:Cb) (d:Nat) (a0 a1:AV) (n0:Nat) (H0:Heap) (K0:AV→Heap→Ans):xmeth C M unr d (n0+8) 21 [a0,a1] H0 K0 =
 C.hop H0 (.bk .lenV [(.v a1)]) fun v0 h1 =>
 C.int .i64 (some v0) fun x2 =>
 C.iter (r21R0 C d a1 K0 x2) 10000000000000000000 ⟨[a0,a1,tz,tz,(.zsl true),tz,tz,a1,(iz x2),(iz 0),tz,tz,tz,tz,tz,tz,tz,tz,tz,tz,tz,tz,tz,tz,tz,tz,tz,tz,tz],h1⟩ [0] [r21X0_0 C d a1 K0 x2] (r21E0 C d a1 K0 x2):=by kernel_rfl
def r26R0 (C:Cb) (d:Nat) (a0:List UInt8) (v0:AV) (x4:Int):St→(Ex→St→Ans)→Ans:=fun s5 k6 =>
 cnd ((List.length s5.env) == 21)
 (sames C s5.env 0 [(.str a0),tz,(.int .u32 0)] <|
 C.int .u32 s5.env[3]? fun x8 =>
 C.same s5.env[4]? tz <|
 C.any s5.env[5]? fun v9 =>
 sames C s5.env 6 [(.str a0),(.str (List.drop 0 (List.take (Int.toNat 4) a0))),v0,(iz x4)] <|
 C.int .i64 s5.env[10]? fun x10 =>
 C.any s5.env[11]? fun v11 =>
 C.any s5.env[12]? fun v12 =>
 C.any s5.env[13]? fun v13 =>
 C.any s5.env[14]? fun v14 =>
 C.any s5.env[15]? fun v15 =>
 C.any s5.env[16]? fun v16 =>
 C.any s5.env[17]? fun v17 =>
 C.any s5.env[18]? fun v18 =>
 C.any s5.env[19]? fun v19 =>
 C.same s5.env[20]? tz <|
 cnd (decide (x10 < x4))
 (C.hop (St.H s5) (.ixAS .any 1 (.v v0) (.v (iz x10))) fun v20 h21 =>
 C.hop h21 (.load false 1 (.v v20)) fun v22 h23 =>
 C.int .u8 (some v22) fun x24 =>
 k6 .normal ⟨[(.str a0),tz,(.int .u32 0),(.int .u32 (bits .or .u32 (IntKind.wrap .u32 (x8 * (2 ^ (min (Int.toNat 8) 32)))) (IntKind.wrap .u32 x24))),tz,(.int .u8 x24),(.str a0),(.str (List.drop 0 (List.take (Int.toNat 4) a0))),v0,(iz x4),(iz (IntKind.wrap .i64 (x10+1))),bt,v20,(.int .u8 x24),(.int .u32 x8),(.int .u32 (IntKind.wrap .u32 (x8 * (2 ^ (min (Int.toNat 8) 32))))),(.int .u8 x24),(.int .u32 (IntKind.wrap .u32 x24)),(.int .u32 (bits .or .u32 (IntKind.wrap .u32 (x8 * (2 ^ (min (Int.toNat 8) 32)))) (IntKind.wrap .u32 x24))),(iz (IntKind.wrap .i64 (x10+1))),tz],h23⟩)
 (k6 (.exit 0) ⟨[(.str a0),tz,(.int .u32 0),(.int .u32 x8),tz,v9,(.str a0),(.str (List.drop 0 (List.take (Int.toNat 4) a0))),v0,(iz x4),(iz x10),bf,v12,v13,v14,v15,v16,v17,v18,v19,tz],(St.H s5)⟩))
 (none)
def r26X0_0 (C:Cb) (d:Nat) (a0:List UInt8) (v0:AV) (x4:Int):St→Ans:=fun s25 =>
 cnd ((List.length s25.env) == 21)
 (sames C s25.env 0 [(.str a0),tz,(.int .u32 0)] <|
 C.int .u32 s25.env[3]? fun x26 =>
 C.same s25.env[4]? tz <|
 C.any s25.env[5]? fun v27 =>
 sames C s25.env 6 [(.str a0),(.str (List.drop 0 (List.take (Int.toNat 4) a0))),v0,(iz x4)] <|
 C.int .i64 s25.env[10]? fun x28 =>
 anys C s25.env 11 9 <|
 C.same s25.env[20]? tz <|
 C.fin (St.H s25) (.int .u32 x26))
 (none)
def r26E0 (C:Cb) (d:Nat) (a0:List UInt8) (v0:AV) (x4:Int):St→Ans:=fun s7 =>
 cnd ((List.length s7.env) == 21)
 (sames C s7.env 0 [(.str a0),tz,(.int .u32 0)] <|
 C.int .u32 s7.env[3]? fun x38 =>
 C.same s7.env[4]? tz <|
 C.any s7.env[5]? fun v39 =>
 sames C s7.env 6 [(.str a0),(.str (List.drop 0 (List.take (Int.toNat 4) a0))),v0,(iz x4)] <|
 C.int .i64 s7.env[10]? fun x40 =>
 anys C s7.env 11 9 <|
 C.same s7.env[20]? tz <|
 C.fin (St.H s7) (.int .u32 0))
 (none)
theorem r26 (C:Cb) (d:Nat) (a0:List UInt8):xcall C M unr d 26 [(.str a0)] =
 cnd (decide (((0:Int)≤4)∧((4:Int)≤(((List.length a0):Nat):Int))))
 (C.hop [] (.s2b E5 (.v (.str (List.drop 0 (List.take (Int.toNat 4) a0))))) fun v0 h1 =>
 C.hop h1 (.bk .lenV [(.v v0)]) fun v2 h3 =>
 C.int .i64 (some v2) fun x4 =>
 C.iter (r26R0 C d a0 v0 x4) 10000000000000000000 ⟨[(.str a0),tz,(.int .u32 0),(.int .u32 0),tz,tz,(.str a0),(.str (List.drop 0 (List.take (Int.toNat 4) a0))),v0,(iz x4),(iz 0),tz,tz,tz,tz,tz,tz,tz,tz,tz,tz],h3⟩ [0] [r26X0_0 C d a0 v0 x4] (r26E0 C d a0 v0 x4))
 (none):=by kernel_rfl
def r27R0 (C:Cb) (d:Nat) (a0:Int):St→(Ex→St→Ans)→Ans:=fun s0 k1 =>
 cnd ((List.length s0.env) == 28)
 (C.same s0.env[0]? (iz a0) <|
 C.str s0.env[1]? fun s3 =>
 sames C s0.env 2 [tz,tz] <|
 C.any s0.env[4]? fun v4 =>
 C.str s0.env[5]? fun s5 =>
 C.int .i64 s0.env[6]? fun x6 =>
 C.any s0.env[7]? fun v7 =>
 C.same s0.env[8]? (iz a0) <|
 C.int .i64 s0.env[9]? fun x8 =>
 C.any s0.env[10]? fun v9 =>
 C.any s0.env[11]? fun v10 =>
 C.any s0.env[12]? fun v11 =>
 C.any s0.env[13]? fun v12 =>
 C.any s0.env[14]? fun v13 =>
 C.any s0.env[15]? fun v14 =>
 C.any s0.env[16]? fun v15 =>
 C.any s0.env[17]? fun v16 =>
 C.any s0.env[18]? fun v17 =>
 C.any s0.env[19]? fun v18 =>
 C.any s0.env[20]? fun v19 =>
 C.any s0.env[21]? fun v20 =>
 C.any s0.env[22]? fun v21 =>
 C.any s0.env[23]? fun v22 =>
 C.any s0.env[24]? fun v23 =>
 C.any s0.env[25]? fun v24 =>
 sames C s0.env 26 [tz,tz] <|
 cnd (decide (x8 < a0))
 (C.hop (St.H s0) (.alloc E46) fun v25 h26 =>
 C.tup 3 (pcall M d 37 [(.str s3)]) fun l27 =>
 C.agg 5 l27[0]? fun l28 =>
 C.any l28[0]? fun v29 =>
 C.int .i64 l28[1]? fun x30 =>
 C.int .i64 l28[2]? fun x31 =>
 C.int .i64 l28[3]? fun x32 =>
 C.int .i64 l28[4]? fun x33 =>
 C.str l27[1]? fun s34 =>
 C.int .i64 l27[2]? fun x35 =>
 C.hop h26 (.store 5 (.v v25) (.v (.agg [v29,(iz x30),(iz x31),(iz x32),(iz x33)]))) fun v36 h37 =>
 cnd (x35 != 0)
 (k1 .ret ⟨[(iz a0),(.str s34),tz,tz,(.zsl true),(.str s34),(iz x35),v25,(iz a0),(iz x8),bt,(.tup [(.agg [v29,(iz x30),(iz x31),(iz x32),(iz x33)]),(.str s34),(iz x35)]),(.str s3),(.tup [(.agg [v29,(iz x30),(iz x31),(iz x32),(iz x33)]),(.str s34),(iz x35)]),(.agg [v29,(iz x30),(iz x31),(iz x32),(iz x33)]),(.str s34),(iz x35),(iz x35),bt,(.str s34),(iz x35),v20,v21,v22,v23,v24,tz,tz],h37⟩)
 (C.hop h37 (.load true 5 (.v v25)) fun v38 h39 =>
 C.agg 5 (some v38) fun l40 =>
 C.any l40[0]? fun v41 =>
 C.int .i64 l40[1]? fun x42 =>
 C.int .i64 l40[2]? fun x43 =>
 C.int .i64 l40[3]? fun x44 =>
 C.int .i64 l40[4]? fun x45 =>
 C.hop h39 (.mkrow E46 1 [(0,(.v (.agg [v41,(iz x42),(iz x43),(iz x44),(iz x45)])))]) fun v46 h47 =>
 C.hop h47 (.app E46 (.v v4) (.v v46)) fun v48 h49 =>
 k1 .normal ⟨[(iz a0),(.str s34),tz,tz,v48,(.str s5),(iz x35),v25,(iz a0),(iz (IntKind.wrap .i64 (x8+1))),bt,(.tup [(.agg [v29,(iz x30),(iz x31),(iz x32),(iz x33)]),(.str s34),(iz x35)]),(.str s3),(.tup [(.agg [v29,(iz x30),(iz x31),(iz x32),(iz x33)]),(.str s34),(iz x35)]),(.agg [v29,(iz x30),(iz x31),(iz x32),(iz x33)]),(.str s34),(iz x35),(iz x35),bf,v18,v19,v4,(.agg [v41,(iz x42),(iz x43),(iz x44),(iz x45)]),v46,v48,(iz (IntKind.wrap .i64 (x8+1))),tz,tz],h49⟩))
 (k1 (.exit 0) ⟨[(iz a0),(.str s3),tz,tz,v4,(.str s5),(iz x6),v7,(iz a0),(iz x8),bf,v10,v11,v12,v13,v14,v15,v16,v17,v18,v19,v20,v21,v22,v23,v24,tz,tz],(St.H s0)⟩))
 (none)
def r27X0_0 (C:Cb) (d:Nat) (a0:Int):St→Ans:=fun s50 =>
 cnd ((List.length s50.env) == 28)
 (C.same s50.env[0]? (iz a0) <|
 C.str s50.env[1]? fun s51 =>
 sames C s50.env 2 [tz,tz] <|
 C.any s50.env[4]? fun v52 =>
 C.str s50.env[5]? fun s53 =>
 C.int .i64 s50.env[6]? fun x54 =>
 C.any s50.env[7]? fun v55 =>
 C.same s50.env[8]? (iz a0) <|
 C.int .i64 s50.env[9]? fun x56 =>
 C.bool s50.env[10]? fun b57 =>
 anys C s50.env 11 15 <|
 sames C s50.env 26 [tz,tz] <|
 C.fin (St.H s50) (.tup [v52,(.str s51),(iz 0)]))
 (none)
def r27E0 (C:Cb) (d:Nat) (a0:Int):St→Ans:=fun s2 =>
 cnd ((List.length s2.env) == 28)
 (C.same s2.env[0]? (iz a0) <|
 C.str s2.env[1]? fun s73 =>
 sames C s2.env 2 [tz,tz] <|
 C.any s2.env[4]? fun v74 =>
 C.str s2.env[5]? fun s75 =>
 C.int .i64 s2.env[6]? fun x76 =>
 C.any s2.env[7]? fun v77 =>
 C.same s2.env[8]? (iz a0) <|
 C.int .i64 s2.env[9]? fun x78 =>
 C.bool s2.env[10]? fun b79 =>
 C.tup 3 s2.env[11]? fun l80 =>
 C.agg 5 l80[0]? fun l81 =>
 C.any l81[0]? fun v82 =>
 C.int .i64 l81[1]? fun x83 =>
 C.int .i64 l81[2]? fun x84 =>
 C.int .i64 l81[3]? fun x85 =>
 C.int .i64 l81[4]? fun x86 =>
 C.str l80[1]? fun s87 =>
 C.int .i64 l80[2]? fun x88 =>
 C.str s2.env[12]? fun s89 =>
 C.tup 3 s2.env[13]? fun l90 =>
 C.agg 5 l90[0]? fun l91 =>
 C.any l91[0]? fun v92 =>
 C.int .i64 l91[1]? fun x93 =>
 C.int .i64 l91[2]? fun x94 =>
 C.int .i64 l91[3]? fun x95 =>
 C.int .i64 l91[4]? fun x96 =>
 C.str l90[1]? fun s97 =>
 C.int .i64 l90[2]? fun x98 =>
 C.agg 5 s2.env[14]? fun l99 =>
 C.any l99[0]? fun v100 =>
 C.int .i64 l99[1]? fun x101 =>
 C.int .i64 l99[2]? fun x102 =>
 C.int .i64 l99[3]? fun x103 =>
 C.int .i64 l99[4]? fun x104 =>
 C.str s2.env[15]? fun s105 =>
 C.int .i64 s2.env[16]? fun x106 =>
 C.int .i64 s2.env[17]? fun x107 =>
 C.bool s2.env[18]? fun b108 =>
 C.str s2.env[19]? fun s109 =>
 C.int .i64 s2.env[20]? fun x110 =>
 anys C s2.env 21 5 <|
 sames C s2.env 26 [tz,tz] <|
 C.fin (St.H s2) (.tup [v74,(.str s75),(iz x76)]))
 (none)
theorem r27 (C:Cb) (d:Nat) (a0:Int) (a1:List UInt8):xcall C M unr d 27 [(iz a0),(.str a1)] =
 C.iter (r27R0 C d a0) 10000000000000000000 ⟨[(iz a0),(.str a1),tz,tz,(.zsl true),(.str []),(iz 0),tz,(iz a0),(iz 0),tz,tz,tz,tz,tz,tz,tz,tz,tz,tz,tz,tz,tz,tz,tz,tz,tz,tz],[]⟩ [0] [r27X0_0 C d a0] (r27E0 C d a0):=by kernel_rfl
def r37R0 (C:Cb) (d:Nat) (a0:List UInt8) (v0:AV) (x14 x27 x28 x29 x30 x33:Int):St→(Ex→St→Ans)→Ans:=fun s34 k35 =>
 cnd ((List.length s34.env) == 65)
 (C.str s34.env[0]? fun s37 =>
 sames C s34.env 1 [tz,v0,(.str []),(iz 0),(iz (IntKind.wrap .i64 x33)),(.str a0),(iz (((List.length a0):Nat):Int)),(.bool (decide ((((List.length a0):Nat):Int) < 14))),bf,(.str a0),(iz (((List.length a0):Nat):Int)),(iz (IntKind.wrap .i64 ((((List.length a0):Nat):Int) - 14))),(.str a0),(.int .u8 x14),(iz (IntKind.wrap .i64 x14)),(iz (IntKind.wrap .i64 (8 * (IntKind.wrap .i64 x14)))),(.bool (decide ((IntKind.wrap .i64 ((((List.length a0):Nat):Int) - 14)) < (IntKind.wrap .i64 (8 * (IntKind.wrap .i64 x14)))))),bf,tz,tz,(.str a0),(.int .u8 x27),(iz (IntKind.wrap .i64 x27)),(.str a0),(.str (List.drop (Int.toNat 2) (List.take (List.length a0) a0))),(.int .u32 x28),(iz (IntKind.wrap .i64 x28)),(.str a0),(.str (List.drop (Int.toNat 6) (List.take (List.length a0) a0))),(.int .u32 x29),(iz (IntKind.wrap .i64 x29)),(.str a0),(.str (List.drop (Int.toNat 10) (List.take (List.length a0) a0))),(.int .u32 x30),(iz (IntKind.wrap .i64 x30)),(.agg [(.zsl true),(iz (IntKind.wrap .i64 x27)),(iz (IntKind.wrap .i64 x28)),(iz (IntKind.wrap .i64 x29)),(iz (IntKind.wrap .i64 x30))]),(.str a0),(.int .u8 x33),(iz (IntKind.wrap .i64 x33)),(.str a0),(.str (List.drop (Int.toNat 14) (List.take (List.length a0) a0))),(iz (IntKind.wrap .i64 x33))] <|
 C.int .i64 s34.env[43]? fun x38 =>
 C.any s34.env[44]? fun v39 =>
 C.any s34.env[45]? fun v40 =>
 C.any s34.env[46]? fun v41 =>
 C.any s34.env[47]? fun v42 =>
 C.any s34.env[48]? fun v43 =>
 C.any s34.env[49]? fun v44 =>
 C.any s34.env[50]? fun v45 =>
 C.any s34.env[51]? fun v46 =>
 C.any s34.env[52]? fun v47 =>
 C.any s34.env[53]? fun v48 =>
 C.any s34.env[54]? fun v49 =>
 C.any s34.env[55]? fun v50 =>
 C.any s34.env[56]? fun v51 =>
 C.any s34.env[57]? fun v52 =>
 C.any s34.env[58]? fun v53 =>
 C.any s34.env[59]? fun v54 =>
 C.any s34.env[60]? fun v55 =>
 C.any s34.env[61]? fun v56 =>
 C.any s34.env[62]? fun v57 =>
 sames C s34.env 63 [tz,tz] <|
 cnd (decide (x38 < (IntKind.wrap .i64 x33)))
 (C.hop (St.H s34) (.fldA 0 (.v v0)) fun v58 h59 =>
 C.hop h59 (.load false 1 (.v v58)) fun v60 h61 =>
 C.int .u32 (pcall M d 26 [(.str s37)]) fun x62 =>
 cnd (decide (((0:Int)≤4)∧((4:Int)≤(((List.length s37):Nat):Int))))
 (C.int .u32 (pcall M d 26 [(.str (List.drop (Int.toNat 4) (List.take (List.length s37) s37)))]) fun x63 =>
 C.hop h61 (.mkrow E50 1 [(0,(.v (.agg [(iz (IntKind.wrap .i64 (IntKind.wrap .i32 x62))),(iz (IntKind.wrap .i64 (IntKind.wrap .i32 x63)))])))]) fun v64 h65 =>
 C.hop h65 (.app E50 (.v v60) (.v v64)) fun v66 h67 =>
 C.hop h67 (.fldA 0 (.v v0)) fun v68 h69 =>
 C.hop h69 (.store 1 (.v v68) (.v v66)) fun v70 h71 =>
 cnd (decide (((0:Int)≤8)∧((8:Int)≤(((List.length s37):Nat):Int))))
 (k35 .normal ⟨[(.str (List.drop (Int.toNat 8) (List.take (List.length s37) s37))),tz,v0,(.str []),(iz 0),(iz (IntKind.wrap .i64 x33)),(.str a0),(iz (((List.length a0):Nat):Int)),(bz (decide ((((List.length a0):Nat):Int) < 14))),bf,(.str a0),(iz (((List.length a0):Nat):Int)),(iz (IntKind.wrap .i64 ((((List.length a0):Nat):Int) - 14))),(.str a0),(.int .u8 x14),(iz (IntKind.wrap .i64 x14)),(iz (IntKind.wrap .i64 (8 * (IntKind.wrap .i64 x14)))),(bz (decide ((IntKind.wrap .i64 ((((List.length a0):Nat):Int) - 14)) < (IntKind.wrap .i64 (8 * (IntKind.wrap .i64 x14)))))),bf,tz,tz,(.str a0),(.int .u8 x27),(iz (IntKind.wrap .i64 x27)),(.str a0),(.str (List.drop (Int.toNat 2) (List.take (List.length a0) a0))),(.int .u32 x28),(iz (IntKind.wrap .i64 x28)),(.str a0),(.str (List.drop (Int.toNat 6) (List.take (List.length a0) a0))),(.int .u32 x29),(iz (IntKind.wrap .i64 x29)),(.str a0),(.str (List.drop (Int.toNat 10) (List.take (List.length a0) a0))),(.int .u32 x30),(iz (IntKind.wrap .i64 x30)),(.agg [(.zsl true),(iz (IntKind.wrap .i64 x27)),(iz (IntKind.wrap .i64 x28)),(iz (IntKind.wrap .i64 x29)),(iz (IntKind.wrap .i64 x30))]),(.str a0),(.int .u8 x33),(iz (IntKind.wrap .i64 x33)),(.str a0),(.str (List.drop (Int.toNat 14) (List.take (List.length a0) a0))),(iz (IntKind.wrap .i64 x33)),(iz (IntKind.wrap .i64 (x38+1))),bt,v58,v60,(.str s37),(.int .u32 x62),(.int .i32 (IntKind.wrap .i32 x62)),(iz (IntKind.wrap .i64 (IntKind.wrap .i32 x62))),(.str s37),(.str (List.drop (Int.toNat 4) (List.take (List.length s37) s37))),(.int .u32 x63),(.int .i32 (IntKind.wrap .i32 x63)),(iz (IntKind.wrap .i64 (IntKind.wrap .i32 x63))),(.agg [(iz (IntKind.wrap .i64 (IntKind.wrap .i32 x62))),(iz (IntKind.wrap .i64 (IntKind.wrap .i32 x63)))]),v64,v66,v68,(.str s37),(.str (List.drop (Int.toNat 8) (List.take (List.length s37) s37))),(iz (IntKind.wrap .i64 (x38+1))),tz,tz],h71⟩)
 (none))
 (none))
 (k35 (.exit 0) ⟨[(.str s37),tz,v0,(.str []),(iz 0),(iz (IntKind.wrap .i64 x33)),(.str a0),(iz (((List.length a0):Nat):Int)),(bz (decide ((((List.length a0):Nat):Int) < 14))),bf,(.str a0),(iz (((List.length a0):Nat):Int)),(iz (IntKind.wrap .i64 ((((List.length a0):Nat):Int) - 14))),(.str a0),(.int .u8 x14),(iz (IntKind.wrap .i64 x14)),(iz (IntKind.wrap .i64 (8 * (IntKind.wrap .i64 x14)))),(bz (decide ((IntKind.wrap .i64 ((((List.length a0):Nat):Int) - 14)) < (IntKind.wrap .i64 (8 * (IntKind.wrap .i64 x14)))))),bf,tz,tz,(.str a0),(.int .u8 x27),(iz (IntKind.wrap .i64 x27)),(.str a0),(.str (List.drop (Int.toNat 2) (List.take (List.length a0) a0))),(.int .u32 x28),(iz (IntKind.wrap .i64 x28)),(.str a0),(.str (List.drop (Int.toNat 6) (List.take (List.length a0) a0))),(.int .u32 x29),(iz (IntKind.wrap .i64 x29)),(.str a0),(.str (List.drop (Int.toNat 10) (List.take (List.length a0) a0))),(.int .u32 x30),(iz (IntKind.wrap .i64 x30)),(.agg [(.zsl true),(iz (IntKind.wrap .i64 x27)),(iz (IntKind.wrap .i64 x28)),(iz (IntKind.wrap .i64 x29)),(iz (IntKind.wrap .i64 x30))]),(.str a0),(.int .u8 x33),(iz (IntKind.wrap .i64 x33)),(.str a0),(.str (List.drop (Int.toNat 14) (List.take (List.length a0) a0))),(iz (IntKind.wrap .i64 x33)),(iz x38),bf,v40,v41,v42,v43,v44,v45,v46,v47,v48,v49,v50,v51,v52,v53,v54,v55,v56,v57,tz,tz],(St.H s34)⟩))
 (none)
def r37X0_0 (C:Cb) (d:Nat) (a0:List UInt8) (v0:AV) (x14 x27 x28 x29 x30 x33:Int):St→Ans:=fun s72 =>
 cnd ((List.length s72.env) == 65)
 (C.str s72.env[0]? fun s73 =>
 sames C s72.env 1 [tz,v0,(.str []),(iz 0),(iz (IntKind.wrap .i64 x33)),(.str a0),(iz (((List.length a0):Nat):Int)),(.bool (decide ((((List.length a0):Nat):Int) < 14))),bf,(.str a0),(iz (((List.length a0):Nat):Int)),(iz (IntKind.wrap .i64 ((((List.length a0):Nat):Int) - 14))),(.str a0),(.int .u8 x14),(iz (IntKind.wrap .i64 x14)),(iz (IntKind.wrap .i64 (8 * (IntKind.wrap .i64 x14)))),(.bool (decide ((IntKind.wrap .i64 ((((List.length a0):Nat):Int) - 14)) < (IntKind.wrap .i64 (8 * (IntKind.wrap .i64 x14)))))),bf,tz,tz,(.str a0),(.int .u8 x27),(iz (IntKind.wrap .i64 x27)),(.str a0),(.str (List.drop (Int.toNat 2) (List.take (List.length a0) a0))),(.int .u32 x28),(iz (IntKind.wrap .i64 x28)),(.str a0),(.str (List.drop (Int.toNat 6) (List.take (List.length a0) a0))),(.int .u32 x29),(iz (IntKind.wrap .i64 x29)),(.str a0),(.str (List.drop (Int.toNat 10) (List.take (List.length a0) a0))),(.int .u32 x30),(iz (IntKind.wrap .i64 x30)),(.agg [(.zsl true),(iz (IntKind.wrap .i64 x27)),(iz (IntKind.wrap .i64 x28)),(iz (IntKind.wrap .i64 x29)),(iz (IntKind.wrap .i64 x30))]),(.str a0),(.int .u8 x33),(iz (IntKind.wrap .i64 x33)),(.str a0),(.str (List.drop (Int.toNat 14) (List.take (List.length a0) a0))),(iz (IntKind.wrap .i64 x33))] <|
 C.int .i64 s72.env[43]? fun x74 =>
 C.bool s72.env[44]? fun b75 =>
 anys C s72.env 45 18 <|
 sames C s72.env 63 [tz,tz] <|
 C.hop (St.H s72) (.load true 5 (.v v0)) fun v94 h95 =>
 C.agg 5 (some v94) fun l96 =>
 C.any l96[0]? fun v97 =>
 C.int .i64 l96[1]? fun x98 =>
 C.int .i64 l96[2]? fun x99 =>
 C.int .i64 l96[3]? fun x100 =>
 C.int .i64 l96[4]? fun x101 =>
 C.hop h95 (.store 5 (.v v0) (.v (.agg [v97,(iz x98),(iz x99),(iz x100),(iz x101)]))) fun v102 h103 =>
 C.hop h103 (.load true 5 (.v v0)) fun v104 h105 =>
 C.fin h103 (.tup [v104,(.str s73),(iz 0)]))
 (none)
def r37E0 (C:Cb) (d:Nat) (a0:List UInt8) (v0:AV) (x14 x27 x28 x29 x30 x33:Int):St→Ans:=fun s36 =>
 cnd ((List.length s36.env) == 65)
 (C.str s36.env[0]? fun s106 =>
 sames C s36.env 1 [tz,v0,(.str []),(iz 0),(iz (IntKind.wrap .i64 x33)),(.str a0),(iz (((List.length a0):Nat):Int)),(.bool (decide ((((List.length a0):Nat):Int) < 14))),bf,(.str a0),(iz (((List.length a0):Nat):Int)),(iz (IntKind.wrap .i64 ((((List.length a0):Nat):Int) - 14))),(.str a0),(.int .u8 x14),(iz (IntKind.wrap .i64 x14)),(iz (IntKind.wrap .i64 (8 * (IntKind.wrap .i64 x14)))),(.bool (decide ((IntKind.wrap .i64 ((((List.length a0):Nat):Int) - 14)) < (IntKind.wrap .i64 (8 * (IntKind.wrap .i64 x14)))))),bf,tz,tz,(.str a0),(.int .u8 x27),(iz (IntKind.wrap .i64 x27)),(.str a0),(.str (List.drop (Int.toNat 2) (List.take (List.length a0) a0))),(.int .u32 x28),(iz (IntKind.wrap .i64 x28)),(.str a0),(.str (List.drop (Int.toNat 6) (List.take (List.length a0) a0))),(.int .u32 x29),(iz (IntKind.wrap .i64 x29)),(.str a0),(.str (List.drop (Int.toNat 10) (List.take (List.length a0) a0))),(.int .u32 x30),(iz (IntKind.wrap .i64 x30)),(.agg [(.zsl true),(iz (IntKind.wrap .i64 x27)),(iz (IntKind.wrap .i64 x28)),(iz (IntKind.wrap .i64 x29)),(iz (IntKind.wrap .i64 x30))]),(.str a0),(.int .u8 x33),(iz (IntKind.wrap .i64 x33)),(.str a0),(.str (List.drop (Int.toNat 14) (List.take (List.length a0) a0))),(iz (IntKind.wrap .i64 x33))] <|
 C.int .i64 s36.env[43]? fun x107 =>
 anys C s36.env 44 19 <|
 sames C s36.env 63 [tz,tz] <|
 C.hop (St.H s36) (.load true 5 (.v v0)) fun v127 h128 =>
 C.fin (St.H s36) (.tup [v127,(.str []),(iz 0)]))
 (none)
theorem r37 (C:Cb) (d:Nat) (a0:List UInt8):xcall C M unr d 37 [(.str a0)] =
 C.hop [] (.alloc E46) fun v0 h1 =>
 cnd (decide ((((List.length a0):Nat):Int) < 14))
 (C.hop h1 (.load true 5 (.v v0)) fun v2 h3 =>
 C.agg 5 (some v2) fun l4 =>
 C.any l4[0]? fun v5 =>
 C.int .i64 l4[1]? fun x6 =>
 C.int .i64 l4[2]? fun x7 =>
 C.int .i64 l4[3]? fun x8 =>
 C.int .i64 l4[4]? fun x9 =>
 C.hop h3 (.store 5 (.v v0) (.v (.agg [v5,(iz x6),(iz x7),(iz x8),(iz x9)]))) fun v10 h11 =>
 C.hop h11 (.load true 5 (.v v0)) fun v12 h13 =>
 C.fin h11 (.tup [v12,(.str a0),(iz 5)]))
 (C.int .u8 (Option.map (fun b:UInt8=>AV.int .u8 (b.toNat:Int)) a0[0]?) fun x14 =>
 cnd (decide ((IntKind.wrap .i64 ((((List.length a0):Nat):Int) - 14)) < (IntKind.wrap .i64 (8 * (IntKind.wrap .i64 x14)))))
 (C.hop h1 (.load true 5 (.v v0)) fun v15 h16 =>
 C.agg 5 (some v15) fun l17 =>
 C.any l17[0]? fun v18 =>
 C.int .i64 l17[1]? fun x19 =>
 C.int .i64 l17[2]? fun x20 =>
 C.int .i64 l17[3]? fun x21 =>
 C.int .i64 l17[4]? fun x22 =>
 C.hop h16 (.store 5 (.v v0) (.v (.agg [v18,(iz x19),(iz x20),(iz x21),(iz x22)]))) fun v23 h24 =>
 C.hop h24 (.load true 5 (.v v0)) fun v25 h26 =>
 C.fin h24 (.tup [v25,(.str a0),(iz 5)]))
 (C.int .u8 (Option.map (fun b:UInt8=>AV.int .u8 (b.toNat:Int)) a0[1]?) fun x27 =>
 cnd (decide (((0:Int)≤2)∧((2:Int)≤(((List.length a0):Nat):Int))))
 (C.int .u32 (pcall M d 26 [(.str (List.drop (Int.toNat 2) (List.take (List.length a0) a0)))]) fun x28 =>
 cnd (decide (((0:Int)≤6)∧((6:Int)≤(((List.length a0):Nat):Int))))
 (C.int .u32 (pcall M d 26 [(.str (List.drop (Int.toNat 6) (List.take (List.length a0) a0)))]) fun x29 =>
 cnd (decide (((0:Int)≤10)∧((10:Int)≤(((List.length a0):Nat):Int))))
 (C.int .u32 (pcall M d 26 [(.str (List.drop (Int.toNat 10) (List.take (List.length a0) a0)))]) fun x30 =>
 C.hop h1 (.store 5 (.v v0) (.v (.agg [(.zsl true),(iz (IntKind.wrap .i64 x27)),(iz (IntKind.wrap .i64 x28)),(iz (IntKind.wrap .i64 x29)),(iz (IntKind.wrap .i64 x30))]))) fun v31 h32 =>
 C.int .u8 (Option.map (fun b:UInt8=>AV.int .u8 (b.toNat:Int)) a0[0]?) fun x33 =>
 cnd (decide (((0:Int)≤14)∧((14:Int)≤(((List.length a0):Nat):Int))))
 (C.iter (r37R0 C d a0 v0 x14 x27 x28 x29 x30 x33) 10000000000000000000 ⟨[(.str (List.drop (Int.toNat 14) (List.take (List.length a0) a0))),tz,v0,(.str []),(iz 0),(iz (IntKind.wrap .i64 x33)),(.str a0),(iz (((List.length a0):Nat):Int)),(bz (decide ((((List.length a0):Nat):Int) < 14))),bf,(.str a0),(iz (((List.length a0):Nat):Int)),(iz (IntKind.wrap .i64 ((((List.length a0):Nat):Int) - 14))),(.str a0),(.int .u8 x14),(iz (IntKind.wrap .i64 x14)),(iz (IntKind.wrap .i64 (8 * (IntKind.wrap .i64 x14)))),(bz (decide ((IntKind.wrap .i64 ((((List.length a0):Nat):Int) - 14)) < (IntKind.wrap .i64 (8 * (IntKind.wrap .i64 x14)))))),bf,tz,tz,(.str a0),(.int .u8 x27),(iz (IntKind.wrap .i64 x27)),(.str a0),(.str (List.drop (Int.toNat 2) (List.take (List.length a0) a0))),(.int .u32 x28),(iz (IntKind.wrap .i64 x28)),(.str a0),(.str (List.drop (Int.toNat 6) (List.take (List.length a0) a0))),(.int .u32 x29),(iz (IntKind.wrap .i64 x29)),(.str a0),(.str (List.drop (Int.toNat 10) (List.take (List.length a0) a0))),(.int .u32 x30),(iz (IntKind.wrap .i64 x30)),(.agg [(.zsl true),(iz (IntKind.wrap .i64 x27)),(iz (IntKind.wrap .i64 x28)),(iz (IntKind.wrap .i64 x29)),(iz (IntKind.wrap .i64 x30))]),(.str a0),(.int .u8 x33),(iz (IntKind.wrap .i64 x33)),(.str a0),(.str (List.drop (Int.toNat 14) (List.take (List.length a0) a0))),(iz (IntKind.wrap .i64 x33)),(iz 0),tz,tz,tz,tz,tz,tz,tz,tz,tz,tz,tz,tz,tz,tz,tz,tz,tz,tz,tz,tz,tz],h32⟩ [0] [r37X0_0 C d a0 v0 x14 x27 x28 x29 x30 x33] (r37E0 C d a0 v0 x14 x27 x28 x29 x30 x33))
 (none))
 (none))
 (none))
 (none))):=by kernel_rfl
end Go.Proofs.Ytbmedgpiphibaaa.AE
