/- The texts that the law PhasePlays needs, part 2. No conditions. -/
import Derived.Test.YtdceaeifcniabaaMPhasePlays1
namespace Go.Proofs.Ytdceaeifcniabaa.AE
set_option linter.unusedVariables false
set_option linter.unusedSimpArgs false
set_option linter.constructorNameAsVariable false
open Go Go.RowKit

section
variable {P:Program} {call:CallF} {base:Nat} {ops:Array Oper} {l:List SOp} {ps:List Nat} {f:Nat→St}
variable {w w0:World} {bad D0:Nat→Prop} {ρ ρ0:Rho} {a:Act} {B:Nat} {s:St} {Q:Exit→Act→World→Prop}

def noCallS:CallF:=fun _ _ _=>none
theorem float_makes {o:Oper} {io:IOp} {ev:Opd→AV} {G:Heap} {id:Nat} {v:AV} {k:Blk} (hc:cOp P o.type o.op=some io) (hbad:∀ b,bad b→b < B) (hR:HRel w bad ρ B G) (hB:B≤w.heap.size)
 (hO:OpsOk w bad (dead G) ρ a ev o.op.operands.toList) (hev:∀ x,ev (.v x)=x) (hmk:mkOp io=true) (hv:aop noCallS ev (List.replicate id none) io=some (v,List.replicate id none ++ [some k])):Makes P w bad (dead G) ρ a o v id k:=by
 have hn:∀ i b,hget (List.replicate id (none:Option Blk)) i ≠ some b:=by
  intro i b h
  have:=(hget_lt h).1
  rw [List.getElem?_replicate] at this
  split at this <;> cases this
 have hcall:PCallOK P noCallS:=by intro g args H v H' h; cases h
 have h1:fullOp io=false:=by cases io <;> first | rfl | (cases hmk; done)
 have h2:storeOp io=false:=by cases io <;> first | rfl | (cases hmk; done)
 have h3:isCall io=false:=by cases io <;> first | rfl | (cases hmk; done)
 rcases op_drawn (ev:=ev) hc hcall h1 hbad hR hB hO (fun i b h=>absurd h (hn i b)) (fun i b h=>absurd h (hn i b)) (fun i _ b h _=>absurd h (hn i b)) (fun i _=>by
  cases h:hget (List.replicate id (none:Option Blk)) i with
  | none=>rfl
  | some b=>exact absurd h (hn i b)) hev hv with ⟨_,h,_⟩ | ⟨z,hm,hH,_⟩ | ⟨_,_,_,_,_,_,_,_,_,_,hs,_⟩ | ⟨_,hca,_⟩
 ·have:=congrArg List.length h; simp at this
 ·have:=List.append_cancel_left hH
  simp only [List.cons.injEq,Option.some.injEq,and_true] at this
  subst this
  simpa using hm
 ·rw [h2] at hs; cases hs
 ·rw [h3] at hca; cases hca
theorem make_aop {io:IOp} {ev:Opd→AV} {id:Nat} {v:AV} {k:Blk} (h:makeAt ev id io=some (v,k)):mkOp io=true∧aop noCallS ev (List.replicate id none) io=some (v,List.replicate id none ++ [some k]):=by
 cases io <;> simp only [makeAt] at h <;> (try (cases h; done))
 ·split at h <;> (try (cases h; done))
  rename_i ho
  cases h
  simp [aop,ho,mkOp]
 ·split at h <;> (try (cases h; done))
  rename_i els he
  cases h
  simp [aop,he,mkOp]

theorem s_step (G:GS P call base ops l ps f) {H0:Heap} (h00:(f 0).H=H0 ++ preH l) (hb0:base=H0.length) (hcall:CallOK P call) (hbad:∀ b,bad b→b < B) {L:Nat→Prop} {k x:Nat} (he:k < ops.size) (hk:¬ L k) (hready:∀ m,(ps.getD k 0).testBit m=true→L m)
 (hclosed:∀ m,L m→∀ i,(ps.getD m 0).testBit i=true→L i) (h:Sim w0 D0 ρ0 bad B ρ s a w) (I:InvX G L ρ0 ρ s x) {K:Act→World→Prop}
 (hK:∀ a' w' ρ' s' x',Sim w0 D0 ρ0 bad B ρ' s' a' w'→InvX G (fun m=>L m ∨ m=k) ρ0 ρ' s' x'→K a' w'):wpOp P ops Q k K a w:=by
 obtain ⟨o,so,e1,e2,e3⟩:=G.at_ k he
 obtain ⟨hop,hdst⟩:=cOper_op e3
 have ordL:∀ m,m ≠ k→Ord ps m k→(m < k ↔ L m):=by
  intro m hmk ho
  constructor
  ·intro hlt; exact hready m (ho.1 hlt)
  ·intro hl
   rcases Nat.lt_or_ge m k with hlt | hge
   ·exact hlt
   ·exact absurd (hclosed m hl k (ho.2 (by omega))) hk
 have hord:∀ (m:Nat) (om:Oper) (t:Nat),m ≠ k→ops[m]?=some om→om.dst=some t→o.dst=some t→(m < k ↔ L m):=fun m om t h1 h2 h3 h4=>ordL m h1 (G.slots m k om o t h1 h2 e1 h3 (.inr h4))
 have hslot:∀ t,t ∈ o.looksAt ops→s.env.getD t .undef=(f k).env.getD t .undef:=by
  intro t ht
  obtain ⟨c,h2,h3,h4⟩:=I.env t
  rw [h3]
  have keep:∀ y z:Nat,(∀ m,(y≤m∧m < z)→m < ops.size∧∀ om,ops[m]?=some om→om.dst ≠ some t)→y≤z→(f y).env.getD t .undef=(f z).env.getD t .undef:=by
   intro y z hno hyz
   induction z,hyz using le_ind with
   | base=>rfl
   | succ z hz ih =>
     rw [ih fun m hm=>hno m (by omega)]
     obtain ⟨hzs,hno'⟩:=hno z (by omega)
     obtain ⟨oz,soz,q1,q2,q3⟩:=G.at_ z hzs
     have hd:=(cOper_op q3).2
     rcases G.ts.step z soz q2 with ⟨_,v,H',_,he'⟩ | ⟨_,he'⟩ <;> rw [he'] <;> simp only <;> rw [put_getD_ne (by rw [hd]; exact hno' oz q1)]
  have bad:∀ m,(c≤m∧m < k ∨ k≤m∧m < c)→m < ops.size∧∀ om,ops[m]?=some om→om.dst ≠ some t:=by
   intro m hm
   refine ⟨by omega,fun om hom hd=>?_⟩
   have h5:=h4 m om hom hd
   by_cases hmk:m=k
   ·subst hmk
    rcases hm with ⟨q1,q2⟩ | ⟨q1,q2⟩
    ·omega
    ·exact hk (h5.mp q2)
   ·have h6:=ordL m hmk (G.slots m k om o t hmk hom e1 hd (.inl ht))
    rcases hm with ⟨q1,q2⟩ | ⟨q1,q2⟩
    ·have:=h5.mpr (h6.mp q2); omega
    ·have:=h6.mpr (h5.mp q2); omega
  rcases Nat.le_total c k with hl | hl
  ·exact keep c k (fun m hm=>bad m (.inl hm)) hl
  ·exact (keep k c (fun m hm=>bad m (.inr hm)) hl).symm
 have hwant:want s.env so.op.guard=want (f k).env so.op.guard:=want_congr e3 hslot
 have hOf:∀ {w1:World} {D1:Nat→Prop} {r0 r1:Rho},Sim w1 D1 r0 bad B r1 s a w→OpsOk w bad (dead s.H) r1 a (evO (f k).env) o.op.operands.toList:=by
  intro w1 D1 r0 r1 h y hy z hz
  have h1:=evO_rep h o.op.operands.toList y hy z hz
  have:evO (f k).env z=evO s.env z:=by
   cases z with
   | v _=>rfl
   | t t =>
     have hxt:y=.tmp t:=by
      cases y with
      | tmp t'=>simp [cOpd] at hz; rw [hz]
      | const u=>cases hu:cv u <;> simp [cOpd,hu] at hz
      | global g=>simp [cOpd] at hz
      | func g=>simp [cOpd] at hz
     subst hxt
     exact (hslot t (by simp only [Oper.looksAt,List.mem_append,List.mem_filterMap]; exact .inl ⟨.tmp t,hy,rfl⟩)).symm
  rw [this]; exact h1
 have hO:=hOf h
 -- an order that is heavy comes when all that is heavy ahead of it is done
 have hcut:hv so→∀ (m:Nat) (b:SOp),l[m]?=some b→hv b→(m < k ↔ L m):=by
  intro hh m b hb hhb
  by_cases hmk:m=k
  ·subst hmk; simp [hk]
  ·exact ordL m hmk (G.heavy m k b so hmk hb e2 hhb hh)
 have hcut':hv so→∀ (m:Nat) (b:SOp),l[m]?=some b→hv b→(m < k+1 ↔ (L m ∨ m=k)):=by
  intro hh m b hb hhb
  rw [← hcut hh m b hb hhb]; omega
 have hpre:=fun (m:Nat) (b:SOp) (j:Nat) (hb:l[m]?=some b) (hj:b.slot=some j)=>G.pre h00 hb0 hb hj
 have hmkpre:∀ (b:SOp),kindOk b→mkF b→preB b=rjunk:=by
  rintro b hkd ⟨_,hal⟩
  rcases hkd with ⟨e,he',_⟩ | ⟨e,y,he',_⟩ | ⟨e,n,q,he',_⟩
  ·rw [he'] at hal; cases hal
  ·unfold preB; rw [he']
  ·unfold preB; rw [he']
 unfold wpOp
 rw [e1]
 simp only
 rcases G.ts.step k so e2 with ⟨hw,v,H',hvv,e5⟩ | ⟨hw,e5⟩
 ·rw [want_spec e3 h (hwant.trans hw),if_pos rfl]
  have hput:(f (k+1)).env=put (f k).env o.dst v:=by rw [e5,← hdst]
  have hHk:(f (k+1)).H=H':=by rw [e5]
  have henv:=env_put I he e1 hput hord
  have hlenE:(put s.env o.dst v).length=(f 0).env.length:=by rw [put_length]; exact I.len
  have made1:∀ (m:Nat) (b:SOp) (j:Nat),l[m]?=some b→b.slot=some j→mkF b→∃ kk,(f (m+1)).H[base+j]?=some (some kk)∧kk ≠ rjunk∧∃ vk,makeAt (evO (f m).env) (base+j) b.op.op=some (vk,kk):=by
   intro m b j hb hj hmk
   have h2:=hpre m b j hb hj m (Nat.le_refl _)
   rcases G.ts.step m b hb with ⟨_,v',H'',hs',he'⟩ | ⟨hw',_⟩
   ·simp only [stepS,hj,hmk.2] at hs'
    split at hs' <;> (try (cases hs'; done))
    rename_i vk kk hmke
    cases hs'
    have hlt:base+j < (f m).H.length:=(List.getElem?_eq_some_iff.mp h2).1
    exact ⟨kk,by rw [he']; simp only [List.getElem?_set_self hlt],make_not (G.slot m b j hb hj).2.1 hmke,_,hmke⟩
   ·rw [(G.slot m b j hb hj).1] at hw'; cases hw'
  -- names of an operation in no order with a block's making
  have nameNo:∀ (m:Nat) (b:SOp) (j:Nat),l[m]?=some b→b.slot=some j→mkF b→m ≠ k→¬ Ord ps m k→∀ y ∈ namesOf (evO (f k).env) so.op.op,∀ id ∈ idsOf y,id ≠ base+j:=by
   rintro m b j hb hj hmk hne hno y hy id hid rfl
   have h1:=G.names e2 hw hb (mkF_chg hmk (G.slot m b j hb hj).2.1) hne hno hy hid
   have h2:=hpre m b j hb hj m (Nat.le_refl _)
   rw [hmkpre b (G.slot m b j hb hj).2.1 hmk] at h2
   obtain ⟨kk,q1,q2,_⟩:=made1 m b j hb hj hmk
   rw [h2,q1] at h1
   simp only [Option.some.injEq] at h1
   exact q2 h1.symm
  by_cases hh:hv so
  ·-- heavy
   have J:=I.to (y:=k) (by omega) (hcut hh)
   simp only [stepS,hh.2] at hvv
   -- memory agrees but where blocks are made in no order with it
   have agree:∀ id,(∀ (m:Nat) (b:SOp) (j:Nat),l[m]?=some b→b.slot=some j→mkF b→¬ Ord ps m k→m ≠ k→id ≠ base+j)→s.H[id]?=(f k).H[id]?:=by
    intro id hid
    by_cases hex:∃ (m:Nat) (b:SOp) (j:Nat),l[m]?=some b∧b.slot=some j∧mkF b∧id=base+j
    ·obtain ⟨m,b,j,hb,hj,hmk,rfl⟩:=hex
     have hmk':m ≠ k:=by rintro rfl; rw [e2] at hb; cases hb; rw [hh.2] at hj; cases hj
     have hor:Ord ps m k:=Classical.byContradiction fun hn=>hid m b j hb hj hmk hn hmk' rfl
     have hml:=ordL m hmk' hor
     by_cases hl:L m
     ·rw [(J.b m b j hb hj hmk).1 hl,show max k (m+1)=k by have:=hml.mpr hl; omega]
     ·rw [(J.b m b j hb hj hmk).2 hl,hpre m b j hb hj k (by have:=mt hml.mp hl; omega),hmkpre b (G.slot m b j hb hj).2.1 hmk]
    ·exact J.a id fun m b j hb hj hmk e=>hex ⟨m,b,j,hb,hj,hmk,e⟩
   -- it steps over memory as_ it is
   obtain ⟨H2,hv2,hlen2,hsame,hunord⟩:∃ H2,aop call (evO (f k).env) s.H so.op.op=some (v,H2)∧H2.length=H'.length∧(∀ id,s.H[id]?=(f k).H[id]?→H2[id]?=H'[id]?) ∧
    ∀ (m:Nat) (b:SOp) (j:Nat),l[m]?=some b→b.slot=some j→mkF b→m ≠ k→¬ Ord ps m k→H2[base+j]?=s.H[base+j]?∧H'[base+j]?=(f k).H[base+j]?:=by
    cases hsa:stApp so.op.op with
    | false =>
      have:s.H=(f k).H:=List.ext_getElem? fun id=>agree id fun m b j hb hj hmk hno hmk'=>absurd (G.mkcall m k b so hmk' hb e2 hmk hh hsa) hno
      refine ⟨H',by rw [this]; exact hvv,rfl,fun _ _=>rfl,fun m b j hb hj hmk hmk' hno=>absurd (G.mkcall m k b so hmk' hb e2 hmk hh hsa) hno⟩
    | true =>
      obtain ⟨u,Z,q1,q2,q3⟩:=stApp_op hsa hvv
      have hln:s.H.length=(f k).H.length:=J.hlen
      have hn:∀ y ∈ namesOf (evO (f k).env) so.op.op,∀ id ∈ idsOf y,(f k).H[id]?=s.H[id]?:=fun y hy id hid=>(agree id fun m b j hb hj hmk hno hmk'=>nameNo m b j hb hj hmk hmk' hno y hy id hid).symm
      refine ⟨updH s.H u ++ Z,q3 s.H hln hn,by rw [q1]; simp [updH_len,hln],fun id hid=>?_,fun m b j hb hj hmk hmk' hno=>?_⟩
      ·rw [q1]
       rcases Nat.lt_or_ge id (f k).H.length with hlt | hge
       ·rw [List.getElem?_append_left (by rw [updH_len,hln]; exact hlt),List.getElem?_append_left (by rw [updH_len]; exact hlt)]
        by_cases hu:∃ x,u=some (id,x)
        ·obtain ⟨x',rfl⟩:=hu
         exact updH_hit hln
        ·rw [updH_at fun x' e=>hu ⟨x',e⟩,updH_at fun x' e=>hu ⟨x',e⟩]; exact hid
       ·rw [List.getElem?_append_right (by rw [updH_len,hln]; exact hge),List.getElem?_append_right (by rw [updH_len]; exact hge),updH_len,updH_len,hln]
      ·have hu:∀ x',u ≠ some (base+j,x'):=by
        rintro x' rfl
        obtain ⟨y,hy,hid⟩:=q2 _ _ rfl
        exact nameNo m b j hb hj hmk hmk' hno y hy _ hid rfl
       have hlt:base+j < (f k).H.length:=by
        rcases Nat.lt_or_ge k m with hlt | hge
        ·exact (List.getElem?_eq_some_iff.mp (hpre m b j hb hj k (by omega))).1
        ·obtain ⟨kk,hkk,_⟩:=made1 m b j hb hj hmk
         have h1:=G.made hb hj (y:=k) (by omega) (by omega) fun g c q1 q2 hc hhc=>by
          cases hx:(ps.getD g 0).testBit m with
          | false=>rfl
          | true =>
            have hor:=G.heavy g k c so (by omega) hc e2 hhc hh
            exact absurd ⟨fun _=>G.trans m g k he (hor.1 q2) hx,fun h'=>by omega⟩ hno
         rw [hkk] at h1
         exact (List.getElem?_eq_some_iff.mp h1.symm).1
       rw [q1]
       rw [List.getElem?_append_left (by rw [updH_len,hln]; exact hlt),List.getElem?_append_left (by rw [updH_len]; exact hlt),updH_at hu,updH_at hu]
       exact ⟨rfl,rfl⟩
   refine .inl (op_stepE (fun _=>rfl) hO hop hcall hbad h.rebase hv2 fun a' w' ρ' h'=>hK a' w' ρ' ⟨put s.env o.dst v,H2⟩ (k+1) (h.back h') ?_)
   have hb2:∀ (m:Nat) (b:SOp) (j:Nat),l[m]?=some b→b.slot=some j→mkF b→((L m ∨ m=k)→H2[base+j]?=(f (max (k+1) (m+1))).H[base+j]?)∧(¬ (L m ∨ m=k)→H2[base+j]?=some (some rjunk)):=by
    intro m b j hb hj hmk
    have hmk':m ≠ k:=by rintro rfl; rw [e2] at hb; cases hb; rw [hh.2] at hj; cases hj
    by_cases hor:Ord ps m k
    ·have hml:=ordL m hmk' hor
     have hag:s.H[base+j]?=(f k).H[base+j]?:=agree _ fun m' b' j' hb' hj' _ hno _ e=>by
      have:j=j':=by omega
      subst this
      have:=G.inj m m' b b' _ hb hb' hj hj'
      subst this
      exact hno hor
     have h1:=hsame _ hag
     rw [← hHk] at h1
     refine ⟨fun hl=>?_,fun hl=>?_⟩
     ·have:=hml.mpr (hl.resolve_right hmk')
      rw [h1,show max (k+1) (m+1)=k+1 by omega]
     ·have:k < m:=by
       rcases Nat.lt_or_ge m k with h' | h'
       ·exact absurd (.inl (hml.mp h')) hl
       ·omega
      rw [h1,hpre m b j hb hj (k+1) (by omega),hmkpre b (G.slot m b j hb hj).2.1 hmk]
    ·obtain ⟨h1,h2⟩:=hunord m b j hb hj hmk hmk' hor
     refine ⟨fun hl=>?_,fun hl=>?_⟩
     ·have hl:=hl.resolve_right hmk'
      rw [h1,(J.b m b j hb hj hmk).1 hl]
      rcases Nat.lt_or_ge m k with h' | h'
      ·rw [show max k (m+1)=k by omega,show max (k+1) (m+1)=k+1 by omega,hHk,h2]
      ·rw [show max k (m+1)=m+1 by omega,show max (k+1) (m+1)=m+1 by omega]
     ·rw [h1]; exact (J.b m b j hb hj hmk).2 fun hl'=>hl (.inl hl')
   refine ⟨hlenE,henv,by omega,hcut' hh,by rw [hHk]; exact hlen2,fun id hid=>by rw [hHk]; exact hsame id (J.a id hid),hb2,fun m b j hb hj hl=>?_,I.d⟩
   have hnl:¬ L m:=fun hl'=>hl (.inl hl')
   have hmk':m ≠ k:=fun e=>hl (.inr e)
   refine res_stays h' (I.c m b j hb hj hnl) ?_
   simp only
   by_cases hmk:mkF b
   ·rw [(hb2 m b j hb hj hmk).2 hl]; simp
   ·have hag:s.H[base+j]?=(f k).H[base+j]?:=J.a _ fun m' b' j' hb' hj' hm' e=>by
     have:j=j':=by omega
     subst this
     have:=G.inj m m' b b' _ hb hb' hj hj'
     subst this
     rw [hb] at hb'; cases hb'
     exact hmk hm'
    rw [hsame _ hag,← hHk,← G.keeps e2 hh hb hj (by
     cases hx:(ps.getD k 0).testBit m with
     | false=>rfl
     | true=>exact absurd (hready m hx) hnl),← hag]
    exact res_alive h (I.c m b j hb hj hnl)
  ·cases hsl:so.slot with
   | none =>
     -- light
     simp only [stepS,hsl] at hvv
     have hlt:lightOp so.op.op=true:=by
      cases hl:lightOp so.op.op with
      | true=>rfl
      | false=>exact absurd ⟨by simp [chgS,hsl,hl],hsl⟩ hh
     obtain ⟨rfl,hG⟩:=light_op hlt hvv
     have between:∀ (y:Nat) (id:Nat),(∃ z ∈ namesOf (evO (f k).env) so.op.op,id ∈ idsOf z)→(∀ g,(y≤g∧g < k)→x≤g)→(∀ g,(k≤g∧g < y)→g < x)→y≤ops.size →
      (∀ (g:Nat) (c:SOp) (j':Nat),(y≤g∧g < k ∨ k≤g∧g < y)→l[g]?=some c→c.slot=some j'→mkF c→id ≠ base+j')→(f y).H[id]?=(f k).H[id]?:=by
      rintro y id ⟨z,hz,hid⟩ hlo hhi hyn hno
      refine path2 fun g hg=>?_
      obtain ⟨c,hc⟩:=G.get (k:=g) (by omega)
      by_cases hhc:hv c
      ·have hgk:g ≠ k:=by rintro rfl; rw [e2] at hc; cases hc; exact hh hhc
       have hxg:=I.hx g c hc hhc
       have hnor:¬ Ord ps g k:=by
        intro hor
        have:=ordL g hgk hor
        rcases hg with hg | hg
        ·have h1:=hlo g hg
         have:=hxg.mpr (this.mp hg.2); omega
        ·have h1:=hhi g hg
         have:=this.mpr (hxg.mp h1); omega
       exact G.names e2 hw hc hhc.1 hgk hnor hz hid
      ·exact (G.soft hc hhc).2 _ fun j' hj' hm'=>hno g c j' hg hc hj' hm'
     have hn:∀ y ∈ namesOf (evO (f k).env) so.op.op,∀ id ∈ idsOf y,(f k).H[id]?=s.H[id]?:=by
      intro y hy id hid
      by_cases hex:∃ (m:Nat) (b:SOp) (j:Nat),l[m]?=some b∧b.slot=some j∧mkF b∧id=base+j
      ·obtain ⟨m,b,j,hb,hj,hmk,rfl⟩:=hex
       have hmk':m ≠ k:=by rintro rfl; rw [e2] at hb; cases hb; rw [hsl] at hj; cases hj
       have hor:Ord ps m k:=Classical.byContradiction fun hno=>nameNo m b j hb hj hmk hmk' hno y hy _ hid rfl
       have hml:=ordL m hmk' hor
       by_cases hl:L m
       ·have hmk2:=hml.mpr hl
        rw [(I.b m b j hb hj hmk).1 hl]
        have xl:=I.xle
        refine (between _ _ ⟨y,hy,hid⟩ (fun g hg=>by omega) (fun g hg=>by omega) (by omega) fun g c j' hg hc hj' _ e=>?_).symm
        have:j=j':=by omega
        subst this
        have:=G.inj m g b c _ hb hc hj hj'
        omega
       ·rw [(I.b m b j hb hj hmk).2 hl,hpre m b j hb hj k (by have:=mt hml.mp hl; omega),hmkpre b (G.slot m b j hb hj).2.1 hmk]
      ·rw [I.a id fun m b j hb hj hmk e=>hex ⟨m,b,j,hb,hj,hmk,e⟩]
       exact (between x id ⟨y,hy,hid⟩ (fun g hg=>hg.1) (fun g hg=>hg.2) I.xle fun g c j' _ hc hj' hm' e=>hex ⟨g,c,j',hc,hj',hm',e⟩).symm
     refine .inl (op_stepE (fun _=>rfl) hO hop hcall hbad h.rebase (hG s.H hn) fun a' w' ρ' h'=>hK a' w' ρ' ⟨put s.env o.dst v,s.H⟩ x (h.back h') ?_)
     have nek:∀ (m:Nat) (b:SOp) (j:Nat),l[m]?=some b→b.slot=some j→m ≠ k:=by rintro m b j hb hj rfl; rw [e2] at hb; cases hb; rw [hsl] at hj; cases hj
     refine ⟨hlenE,henv,I.xle,fun m b hb hhb=>?_,I.hlen,I.a,fun m b j hb hj hmk=>?_,fun m b j hb hj hl=>?_,I.d⟩
     ·rw [I.hx m b hb hhb]
      have:m ≠ k:=by rintro rfl; rw [e2] at hb; cases hb; exact hh hhb
      simp [this]
     ·have:=nek m b j hb hj
      refine ⟨fun hl=>(I.b m b j hb hj hmk).1 (hl.resolve_right this),fun hl=>(I.b m b j hb hj hmk).2 fun hl'=>hl (.inl hl')⟩
     ·have hr:=I.c m b j hb hj fun hl'=>hl (.inl hl')
      exact res_stays h' hr (res_alive h hr)
   | some j =>
     have hkd:=(G.slot k so j e2 hsl).2.1
     have hres:=I.c k so j e2 hsl hk
     have hno0:=I.d k so j e2 hsl
     have hs1:=h.drop hres hno0
     obtain ⟨zz,hzz,_⟩:=h.heap.res _ hres
     have hlts:base+j < s.H.length:=(List.getElem?_eq_some_iff.mp hzz).1
     have nej:∀ (m:Nat) (b:SOp) (j':Nat),m ≠ k→l[m]?=some b→b.slot=some j'→base+j ≠ base+j':=by
      intro m b j' hmk hb hj' e
      have:j=j':=by omega
      subst this
      exact hmk (G.inj m k b so _ hb e2 hj' hsl)
     have fin:∀ z:Blk,Makes P w bad (dead s.H) (fun i=>if i=base+j then .no else ρ i) a o v (base+j) z→(mkF so→some (some z)=(f (max x (k+1))).H[base+j]?)→(¬ mkF so→s.H[base+j]?=some (some z))→o.wp P a w K Q:=by
      intro z hm hzk hzs
      obtain ⟨cv,w',cur,fz,cap,hr,h1,h2,h3,⟨h4,h5,h6⟩,h7,h8,h9,h10,h11,h12,h13⟩:=hm
      obtain ⟨ρ',hρ',st,hR⟩:=alloc_upd (H':=s.H.set (base+j) (some z)) hs1.heap hs1.low (by simp) (List.getElem?_set_self hlts) (fun i hi _=>List.getElem?_set_ne (Ne.symm hi)) (fun i hi=>by
       have:i ≠ base+j:=by rintro rfl; rw [hzz] at hi; cases hi
       rw [List.getElem?_set_ne (Ne.symm this)]; exact hi) h1 h2 h3 h4 h5 h6 h7 h8 h9 h10 h11 h12
      unfold Oper.wp
      rw [hr]
      refine hK _ _ ρ' ⟨put s.env o.dst v,s.H.set (base+j) (some z)⟩ x (put_sim (v:=v) o.dst hs1 st hR ?_) ⟨hlenE,henv,I.xle,fun m b hb hhb=>?_,?_,fun id hid=>?_,fun m b j' hb hj' hmk=>?_,fun m b j' hb hj' hl=>?_,I.d⟩
      ·rcases h13 with ⟨rfl,rfl⟩ | ⟨n,c,rfl,q1,q2,rfl⟩
       ·have:=Rep.ptr (w:=w') (bad:=bad) (D:=dead (s.H.set (base+j) (some z))) (ρ:=ρ') (id:=base+j) (i:=0) (j:=0) (b:=w.heap.size) (es:=z.e.es) (cap:=cap) (by subst hρ'; simp)
        simpa using this
       ·have:=Rep.slc (w:=w') (bad:=bad) (D:=dead (s.H.set (base+j) (some z))) (ρ:=ρ') (id:=base+j) (o:=0) (n:=n) (c:=c) (b:=w.heap.size) (es:=z.e.es) (cap:=cap) (by subst hρ'; simp) (by omega) q1
        simpa using this
      ·rw [I.hx m b hb hhb]
       have:m ≠ k:=by rintro rfl; rw [e2] at hb; cases hb; exact hh hhb
       simp [this]
      ·simp only [List.length_set]; exact I.hlen
      ·simp only
       by_cases hmk:mkF so
       ·rw [List.getElem?_set_ne (Ne.symm (hid k so j e2 hsl hmk))]; exact I.a id hid
       ·by_cases hi:base+j=id
        ·subst hi
         rw [List.getElem?_set_self hlts,← I.a _ hid,hzs hmk]
        ·rw [List.getElem?_set_ne hi]; exact I.a id hid
      ·simp only
       by_cases hmk':m=k
       ·subst hmk'
        rw [e2] at hb; cases hb
        rw [hsl] at hj'; cases hj'
        refine ⟨fun _=>by rw [List.getElem?_set_self hlts]; exact hzk hmk,fun hl=>absurd (.inr rfl) hl⟩
       ·rw [List.getElem?_set_ne (nej m b j' hmk' hb hj')]
        exact ⟨fun hl=>(I.b m b j' hb hj' hmk).1 (hl.resolve_right hmk'),fun hl=>(I.b m b j' hb hj' hmk).2 fun hl'=>hl (.inl hl')⟩
      ·have hmk':m ≠ k:=fun e=>hl (.inr e)
       have hne:=Ne.symm (nej m b j' hmk' hb hj')
       subst hρ'
       simp only [hne,if_false]
       exact I.c m b j' hb hj' fun hl'=>hl (.inl hl')
     have noP:∀ (g:Nat) (c:SOp),g < x→l[g]?=some c→hv c→(ps.getD g 0).testBit k=false:=by
      intro g c hg hc hhc
      cases hx:(ps.getD g 0).testBit k with
      | false=>rfl
      | true=>exact absurd (hclosed g ((I.hx g c hc hhc).mp hg) k hx) hk
     simp only [stepS,hsl] at hvv
     split at hvv
     ·rename_i hal
      obtain ⟨rfl,rfl⟩:_=v∧_=H':=by simpa using hvv
      obtain ⟨e,hee,hes⟩:∃ e,so.op.op=.alloc e∧e.es ≠ 0:=by
       rcases hkd with hx | ⟨e,y,he',_⟩ | ⟨e,n,q,he',_⟩
       ·exact hx
       ·rw [he'] at hal; cases hal
       ·rw [he'] at hal; cases hal
      refine .inl (fin ⟨e,[e.zero]⟩ (float_makes hop hbad hs1.heap hs1.low (hOf hs1) (fun _=>rfl) (by rw [hee]; rfl) (by rw [hee]; simp [aop])) (fun hm=>by rw [hm.2] at hal; cases hal) fun hnm=>?_)
      have hpb:preB so=⟨e,[e.zero]⟩:=by unfold preB; rw [hee]
      rw [I.a _ fun m b j' hb hj' hm' e'=>hnm (by
       have:j=j':=by omega
       subst this
       have:=G.inj k m so b _ e2 hb hsl hj'
       subst this
       rw [e2] at hb; cases hb
       exact hm'),← hpb]
      rcases Nat.lt_or_ge k x with hlt | hge
      ·have h1:=path (f:=f) (id:=base+j) (y:=k) (z:=x) (fun g hg1 hg2=>by
        obtain ⟨c,hc⟩:=G.get (k:=g) (by have:=I.xle; omega)
        by_cases hhc:hv c
        ·exact G.keeps hc hhc e2 hsl (noP g c hg2 hc hhc)
        ·refine (G.soft hc hhc).2 _ fun j' hj' hm' e'=>?_
         have:j=j':=by omega
         subst this
         have:=G.inj k g so c _ e2 hc hsl hj'
         subst this
         rw [e2] at hc; cases hc
         exact hnm hm') (by omega)
       rw [← h1]
       exact hpre k so j e2 hsl k (Nat.le_refl _)
      ·exact hpre k so j e2 hsl x hge
     ·rename_i hal
      split at hvv <;> (try (cases hvv; done))
      rename_i vk kk hmke
      obtain ⟨rfl,rfl⟩:_=v∧_=H':=by simpa using hvv
      obtain ⟨hm1,hm2⟩:=make_aop hmke
      have hmkF:mkF so:=⟨by rw [hsl]; simp,hal⟩
      refine .inl (fin kk (float_makes hop hbad hs1.heap hs1.low (hOf hs1) (fun _=>rfl) hm1 hm2) (fun _=>?_) fun hnm=>absurd hmkF hnm)
      have hlt:base+j < (f k).H.length:=(List.getElem?_eq_some_iff.mp (hpre k so j e2 hsl k (Nat.le_refl _))).1
      have h1:(f (k+1)).H[base+j]?=some (some kk):=by rw [hHk,List.getElem?_set_self hlt]
      rw [← h1]
      rcases Nat.lt_or_ge (k+1) x with hlt' | hge
      ·rw [show max x (k+1)=x by omega]
       exact G.made e2 hsl (by omega) I.xle fun g c _ hg2 hc hhc=>noP g c hg2 hc hhc
      ·rw [show max x (k+1)=k+1 by omega]
 ·rw [want_spec e3 h (hwant.trans hw),if_neg (by simp)]
  have hput:(f (k+1)).env=put (f k).env o.dst (.tup []):=by rw [e5,← hdst]
  have henv:=env_put I he e1 hput hord
  have hlenE:(put s.env o.dst (.tup [])).length=(f 0).env.length:=by rw [put_length]; exact I.len
  have hHk:(f (k+1)).H=(f k).H:=by rw [e5]
  have hsl:so.slot=none:=by
   cases hx:so.slot with
   | none=>rfl
   | some j=>rw [(G.slot k so j e2 hx).1] at hw; cases hw
  have nek:∀ (m:Nat) (b:SOp) (j:Nat),l[m]?=some b→b.slot=some j→m ≠ k:=by rintro m b j hb hj rfl; rw [e2] at hb; cases hb; rw [hsl] at hj; cases hj
  by_cases hh:hv so
  ·have J:=I.to (y:=k) (by omega) (hcut hh)
   refine hK _ _ ρ _ (k+1) (skip_sim o.dst h) ⟨hlenE,henv,by omega,hcut' hh,by rw [hHk]; exact J.hlen,fun id hid=>by rw [hHk]; exact J.a id hid,fun m b j hb hj hmk=>?_,fun m b j hb hj hl=>I.c m b j hb hj fun hl'=>hl (.inl hl'),I.d⟩
   refine ⟨fun hl=>?_,fun hl=>(J.b m b j hb hj hmk).2 fun hl'=>hl (.inl hl')⟩
   rw [(J.b m b j hb hj hmk).1 (hl.resolve_right (nek m b j hb hj))]
   rcases Nat.lt_or_ge m k with h' | h'
   ·rw [show max k (m+1)=k by omega,show max (k+1) (m+1)=k+1 by omega,hHk]
   ·have:=nek m b j hb hj
    rw [show max k (m+1)=m+1 by omega,show max (k+1) (m+1)=m+1 by omega]
  ·refine hK _ _ ρ _ x (skip_sim o.dst h) ⟨hlenE,henv,I.xle,fun m b hb hhb=>?_,I.hlen,I.a,fun m b j hb hj hmk=>?_,fun m b j hb hj hl=>I.c m b j hb hj fun hl'=>hl (.inl hl'),I.d⟩
   ·rw [I.hx m b hb hhb]
    have:m ≠ k:=by rintro rfl; rw [e2] at hb; cases hb; exact hh hhb
    simp [this]
   ·exact ⟨fun hl=>(I.b m b j hb hj hmk).1 (hl.resolve_right (nek m b j hb hj)),fun hl=>(I.b m b j hb hj hmk).2 fun hl'=>hl (.inl hl')⟩
end
end Go.Proofs.Ytdceaeifcniabaa.AE

namespace Go.Proofs.Ytdceaeifcniabaa.AE
set_option linter.unusedVariables false
set_option linter.unusedSimpArgs false
set_option linter.constructorNameAsVariable false
open Go Go.RowKit

theorem preH_es:∀ (l:List SOp) (c:Nat),slotsOk l c=true→∀ i,i < (preH l).length→∃ k:Blk,(preH l)[i]?=some (some k)∧k.e.es ≠ 0
 | [],_,_,i,h=>by simp [preH] at h
 | o::l,c,hs,i,h=>by
   simp only [slotsOk] at hs
   cases hsl:o.slot with
   | none =>
     rw [hsl] at hs
     simp only [preH,hsl] at h ⊢
     exact preH_es l c hs i h
   | some j =>
     rw [hsl] at hs
     simp only [Bool.and_eq_true,beq_iff_eq] at hs
     obtain ⟨⟨⟨_,_⟩,h3⟩,h4⟩:=hs
     simp only [preH,hsl] at h ⊢
     cases i with
     | zero =>
       cases ho:o.op.op <;> rw [ho] at h3 <;> simp only [Bool.false_eq_true] at h3 <;> simp only [List.getElem?_cons_zero,Option.some.injEq]
       case alloc e=>exact ⟨_,rfl,by simpa using h3⟩
       case box e x=>exact ⟨_,rfl,by simp [rjunk]⟩
       case mkrow e n q=>exact ⟨_,rfl,by simp [rjunk]⟩
     | succ i =>
       simp only [List.getElem?_cons_succ]
       exact preH_es l _ h4 i (by simpa using h)

section
variable {P:Program} {call:CallF} {base:Nat} {ops:Array Oper} {l:List SOp} {ps:List Nat} {f:Nat→St}
variable {w w0:World} {bad D0:Nat→Prop} {ρ ρ0:Rho} {a:Act} {B:Nat} {s:St} {Q:Exit→Act→World→Prop}

theorem inv_end {G:GS P call base ops l ps f} {L:Nat→Prop} {x:Nat} (I:InvX G L ρ0 ρ s x) (hL:∀ m,m < ops.size→L m):s=f ops.size:=by
 have J:=I.to (y:=ops.size) (Nat.le_refl _) fun m b hb _=>⟨fun h=>hL m h,fun _=>G.lt hb⟩
 have hH:s.H=(f ops.size).H:=by
  refine List.ext_getElem? fun id=>?_
  by_cases hex:∃ (m:Nat) (b:SOp) (j:Nat),l[m]?=some b∧b.slot=some j∧mkF b∧id=base+j
  ·obtain ⟨m,b,j,hb,hj,hmk,rfl⟩:=hex
   have hlt:=G.lt hb
   rw [(J.b m b j hb hj hmk).1 (hL m hlt),show max ops.size (m+1)=ops.size by omega]
  ·exact J.a id fun m b j hb hj hmk e=>hex ⟨m,b,j,hb,hj,hmk,e⟩
 have hE:s.env=(f ops.size).env:=by
  refine List.ext_getElem? fun t=>?_
  have hlen:s.env.length=(f ops.size).env.length:=by rw [I.len,G.lenE (Nat.le_refl _)]
  obtain ⟨c,h2,h3,h4⟩:=I.env t
  have keep:∀ z,c≤z→z≤ops.size→(f c).env.getD t .undef=(f z).env.getD t .undef:=by
   intro z hz
   induction z,hz using le_ind with
   | base=>intro _; rfl
   | succ z hz ih =>
     intro hzn
     rw [ih (by omega)]
     obtain ⟨oz,soz,q1,q2,q3⟩:=G.at_ z (by omega)
     have hd:=(cOper_op q3).2
     have hne:oz.dst ≠ some t:=fun e=>by have:=(h4 z oz q1 e).mpr (hL z (by omega)); omega
     rcases G.ts.step z soz q2 with ⟨_,v,H',_,he'⟩ | ⟨_,he'⟩ <;> rw [he'] <;> simp only <;> rw [put_getD_ne (by rw [hd]; exact hne)]
  rw [keep ops.size h2 (Nat.le_refl _)] at h3
  simp only [List.getD_eq_getElem?_getD] at h3
  rcases Nat.lt_or_ge t s.env.length with hlt | hge
  ·rw [List.getElem?_eq_getElem hlt,List.getElem?_eq_getElem (by omega)] at h3 ⊢
   simpa using h3
  ·rw [List.getElem?_eq_none hge,List.getElem?_eq_none (by omega)]
 cases s; cases hf:f ops.size
 rw [hf] at hH hE
 simp only at hH hE
 rw [hH,hE]

theorem drawnS_main (G:GS P call base ops l (predsOf ops.toList []) f) {H0:Heap} (h00:(f 0).H=H0 ++ preH l) (hb0:base=H0.length) (hcall:CallOK P call) (hbad:∀ b,bad b→b < B) (hed:edgesOk ops=true) (hQ:∀ a w ρ,Sim w0 D0 ρ0 bad B ρ (f ops.size) a w→Q .normal a w) :
 ∀ (fuel:Nat) (listed:Array Bool) (ρ:Rho) (s:St) (a:Act) (w:World) (x:Nat),listed.size=ops.size→open_ listed≤fuel →
   (∀ m,listed.getD m false=true→∀ i,((predsOf ops.toList []).getD m 0).testBit i=true→listed.getD i false=true) →
   Sim w0 D0 ρ0 bad B ρ s a w→InvX G (fun m=>listed.getD m false=true) ρ0 ρ s x→wpAny P .any ops Q fuel listed a w:=by
 intro fuel
 induction fuel with
 | zero =>
   intro listed ρ s a w x hls hop hcl h I
   have hall:=open_zero (Nat.le_zero.mp hop)
   have hall2:∀ k,k < ops.size→listed.getD k false=true:=by
    intro k hk
    have:=hall k
    simpa [hls ▸ hk] using this
   refine ⟨?_,?_⟩
   ·cases hr:Region.ready .any ops listed with
    | nil=>rfl
    | cons j l =>
      have hj:j ∈ Region.ready .any ops listed:=by rw [hr]; simp
      have:=(mem_ready.1 hj).1
      rw [hall j] at this; cases this
   ·exact hQ _ _ ρ (inv_end I hall2 ▸ h)
 | succ fuel ih =>
   intro listed ρ s a w x hls hop hcl h I
   have hedge:∀ (k:Nat) (o:Oper),ops[k]?=some o→∀ x ∈ o.after,Region.binds .any x=true→x.on < k:=by
    intro k o ho x hx hb
    have:=List.all_eq_true.mp hed (o,k) (by rw [List.mem_zipIdx_iff_getElem?]; simpa using ho)
    have:=List.all_eq_true.mp this x (by simpa using hx)
    simpa [hb] using this
   refine ⟨fun hnil=>?_,fun i hi=>?_⟩
   ·have hall2:∀ k,k < ops.size→listed.getD k false=true:=by
     intro k
     induction k using Nat.strongRecOn with
     | _ k ihk =>
       intro hk
       cases hx:listed.getD k false with
       | true=>rfl
       | false =>
         exfalso
         have:k ∈ Region.ready .any ops listed:=mem_ready.2 ⟨by simpa [hls ▸ hk] using hx,ops[k],by simp [hk],fun x hx hb=>by
          have hlt:=hedge k ops[k] (by simp [hk]) x hx hb
          exact ihk x.on hlt (by omega)⟩
         rw [hnil] at this
         simp at this
    exact hQ _ _ ρ (inv_end I hall2 ▸ h)
   ·obtain ⟨hi0,o,ho,haft⟩:=mem_ready.1 hi
    have hlt:i < ops.size:=(Array.getElem?_eq_some_iff.1 ho).1
    have hlt':i < listed.size:=hls ▸ hlt
    have hi1:listed.getD i false=false:=by simpa [hlt'] using hi0
    have hready:∀ m,((predsOf ops.toList []).getD i 0).testBit m=true→listed.getD m false=true:=by
     intro m hm
     obtain ⟨x,h1,h2,h3⟩:=predsOf_bits ops.toList [] i m o (by simpa using ho) (by simpa using hm)
     have hl:=haft x (by simpa using h1) h2
     rcases h3 with rfl | h3
     ·exact hl
     ·exact hcl x.on hl m h3
    have hop':open_ (listed.setIfInBounds i true)≤fuel:=by have:=open_set hi0; omega
    have hcl':∀ m,(listed.setIfInBounds i true).getD m false=true→∀ j,((predsOf ops.toList []).getD m 0).testBit j=true→(listed.setIfInBounds i true).getD j false=true:=by
     intro m hm j hj
     rw [getD_set hlt'] at hm ⊢
     rcases hm with hm | rfl
     ·exact .inl (hcl m hm j hj)
     ·exact .inl (hready j hj)
    have hfun:(fun m=>listed.getD m false=true ∨ m=i)=fun m=>(listed.setIfInBounds i true).getD m false=true:=by
     funext m
     exact propext (getD_set hlt').symm
    refine s_step G h00 hb0 hcall hbad hlt (by simp [hi1]) hready hcl h I fun a' w' ρ' s' x' h' I'=>?_
    rw [hfun] at I'
    exact ih _ ρ' s' a' w' x' (by simpa using hls) hop' hcl' h' I'
end

theorem drawS_law {P:Program} {call:CallF} (hcall:CallOK P call):DrawS P call:=by
 intro ops ios id hc hd he hns hmo w w0 bad D0 ρ ρ0 a B s s' Q hbad h hr hq
 have hso:slotsOk (sopsOf ios (predsOf ops.toList [])) 0=true:=by
  simp only [drawSOk,Bool.and_eq_true] at hd
  exact hd.1.1.2
 obtain ⟨f,h0,h1,ht⟩:=ts_of hr
 have G:=gs_of hc hd he ht
 have hsz:=G.size
 generalize hl:sopsOf ios (predsOf ops.toList [])=l at *
 rw [hsz] at h1
 have h00:(f 0).H=s.H ++ preH l:=by rw [h0]
 refine wp_region_any hmo ?_
 have hnew:∀ i,s.H.length≤i→ρ i=.no:=by
  intro i hi
  cases hx:ρ i with
  | no=>rfl
  | _=>exact absurd (lt_of_no h.heap (by rw [hx]; simp)) (by omega)
 have hpos:∀ (m:Nat) (o:SOp) (j:Nat),l[m]?=some o→o.slot=some j→j < (preH l).length:=fun m o j ho hj=>(List.getElem?_eq_some_iff.mp (G.slot m o j ho hj).2.2).1
 let ρ2:Rho:=fun i=>if s.H.length≤i∧i < s.H.length+(preH l).length then .res else ρ i
 have e2:∀ i,ρ i ≠ .no→ρ2 i=ρ i:=fun i hi=>if_neg fun hh=>hi (hnew i hh.1)
 have hd':=h.draw
 have hst:Step { w with drawn:=w.drawn+1 } { w with drawn:=w.drawn+1 } (dead s.H) (dead (s.H ++ preH l)) ρ ρ2:=by
  refine ⟨Grow.refl _ _,⟨fun b hb=>?_⟩,fun i hi=>?_,fun i hi=>.inl (e2 i hi)⟩
  ·obtain ⟨i,es,cap,hx⟩:=hb
   simp only [ρ2] at hx
   split at hx
   ·cases hx
   ·exact .inl ⟨i,es,cap,hx⟩
  ·simp only [dead] at *
   rw [List.getElem?_append_left (List.getElem?_eq_some_iff.mp hi).1]; exact hi
 have hR:HRel { w with drawn:=w.drawn+1 } bad ρ2 B (s.H ++ preH l):=by
  refine ⟨fun i b es cap hx=>?_,fun i hx=>?_,fun i i' b es cap es' cap' hx hx'=>?_,fun i hx=>?_⟩
  ·simp only [ρ2] at hx
   split at hx
   ·cases hx
   ·obtain ⟨k,hk,hb⟩:=hd'.heap.real i b es cap hx
    exact ⟨k,by rw [List.getElem?_append_left (List.getElem?_eq_some_iff.mp hk).1]; exact hk,hb.step hst rfl⟩
  ·simp only [ρ2] at hx
   split at hx
   ·cases hx
   ·obtain ⟨k,hk,hb⟩:=hd'.heap.virt i hx
    exact ⟨k,by rw [List.getElem?_append_left (List.getElem?_eq_some_iff.mp hk).1]; exact hk,hb⟩
  ·simp only [ρ2] at hx hx'
   split at hx
   ·cases hx
   ·split at hx'
    ·cases hx'
    ·exact hd'.heap.inj _ _ _ _ _ _ _ hx hx'
  ·simp only [ρ2] at hx
   split at hx
   ·rename_i hi
    obtain ⟨k,hk,hes⟩:=preH_es l 0 hso (i - s.H.length) (by omega)
    exact ⟨k,by rw [List.getElem?_append_right hi.1]; exact hk,hes⟩
   ·obtain ⟨k,hk,hb⟩:=hd'.heap.res i hx
    exact ⟨k,by rw [List.getElem?_append_left (List.getElem?_eq_some_iff.mp hk).1]; exact hk,hb⟩
 have hsim:Sim w0 D0 ρ0 bad B ρ2 (f 0) a { w with drawn:=w.drawn+1 }:=by
  rw [h0]
  exact ⟨hd'.defers,hd'.size,fun t ht=>(hd'.env t ht).step hst,hR,hd'.low,hd'.st.trans hst⟩
 have hoff:∀ k,(Array.replicate ops.size false).getD k false=false:=by
  intro k
  rcases Nat.lt_or_ge k ops.size with h | h
  ·simp [h]
  ·simp [Array.getElem?_eq_none (xs:=Array.replicate ops.size false) (by simpa using h)]
 have hI:InvX G (fun m=>(Array.replicate ops.size false).getD m false=true) ρ0 ρ2 (f 0) 0:=by
  refine ⟨rfl,fun t=>⟨0,Nat.zero_le _,rfl,fun m o _ _=>by simp only [hoff]; simp⟩,Nat.zero_le _,fun m b _ _=>by simp only [hoff]; simp,rfl,fun _ _=>rfl,fun m b j hb hj hmk=>⟨fun hx=>absurd hx (by rw [hoff]; simp),fun _=>?_⟩,fun m b j hb hj _=>?_,fun m b j hb hj=>?_⟩
  ·rw [G.pre h00 rfl hb hj 0 (Nat.zero_le _)]
   have hkd:=(G.slot m b j hb hj).2.1
   rcases hkd with ⟨e,he',_⟩ | ⟨e,y,he',_⟩ | ⟨e,n,q,he',_⟩
   ·have:=hmk.2; rw [he'] at this; cases this
   ·unfold preB; rw [he']
   ·unfold preB; rw [he']
  ·have:=hpos m b j hb hj
   simp only [ρ2]
   rw [if_pos (by omega)]
  ·cases hx:ρ0 (s.H.length+j) with
   | no=>rfl
   | _ =>
     exfalso
     rcases h.st.keep (s.H.length+j) (by rw [hx]; simp) with h1 | h1
     ·rw [hnew _ (by omega),hx] at h1; cases h1
     ·have:=(List.getElem?_eq_some_iff.mp h1).1; omega
 refine drawnS_main G h00 rfl hcall hbad he (fun a w ρ hs=>hq _ _ ρ (h1 ▸ hs)) ops.size _ ρ2 _ a _ 0 (by simp) ?_ (fun m hm=>by rw [hoff m] at hm; cases hm) hsim hI
 unfold open_
 exact Nat.le_trans List.countP_le_length (by simp)

theorem draw_law (P:Program):DrawLaw P:=fun _ _ h1 h2=>⟨draw_lawD h1 h2,drawS_law h1⟩

theorem pcall_law {P:Program} {M:Mod} (hM:ModOK P M) (d:Nat) (g:FuncId) (args:List AV) (v:AV) (h:pcall M d g args=some v):PureOK P g args v :=
 pcall_sound hM (draw_law P) d g args v h
end Go.Proofs.Ytdceaeifcniabaa.AE

namespace Go.Proofs.Ytdceaeifcniabaa.AE
set_option linter.unusedVariables false
set_option linter.unusedSimpArgs false
set_option linter.constructorNameAsVariable false
open Go

abbrev Ans:=Option AV

def cnd (t:Bool) (a b:Ans):Ans:=match t with
 | true=>a
 | false=>b

inductive TV where
 | no
 | addr (v:AV)
 | all (l:List AV)
structure Cb where
 int:IntKind→Option AV→(Int→Ans)→Ans
 bool:Option AV→(Bool→Ans)→Ans
 str:Option AV→(List UInt8→Ans)→Ans
 lst:Option AV→(List AV→Ans)→(Bool→Ans)→Ans
 agg:Nat→Option AV→(List AV→Ans)→Ans
 tup:Nat→Option AV→(List AV→Ans)→Ans
 any:Option AV→(AV→Ans)→Ans
 same:Option AV→AV→Ans→Ans
 sameH:Heap→Heap→Ans→Ans
 hop:Heap→IOp→(AV→Heap→Ans)→Ans
 snp:Heap→List AV→(List AV→Bool→Ans)→Ans
 disj:TV→TV→Ans→Ans
 fin:Heap→AV→Ans
 iter:(St→(Ex→St→Ans)→Ans)→Nat→St→List Nat→List (St→Ans)→(St→Ans)→Ans
 cal:Mod→(FuncId→List AV→Option AV)→Nat→Bool→FuncId→List AV→Heap→(AV→Heap→Ans)→Ans
 grow:Heap→Heap→(Nat→Heap→Ans)→Ans
 keep:Heap→Heap→List AV→Ans→Ans
 mkat:Heap→Nat→IOp→(AV→Heap→Ans)→Ans

structure XU where
 un:Bool
 hm:Bool
 hs:List (Nat × Sh)
 jn:Bool
 ca:Bool

def hsGet:List (Nat × Sh)→Nat→Sh
 | [],_=>.any
 | (n,s)::l,i=>match Nat.beq n i with
   | true=>s
   | false=>hsGet l i
mutual
def relax:Sh→Sh
 | .i k=>.i k
 | .b=>.b
 | .s=>.s
 | .agg l=>.agg (relaxL l)
 | .tup l=>.tup (relaxL l)
 | .l=>.any
 | .any=>.any
 | .lo=>.any
 | .z=>.any
def relaxL:List Sh→List Sh
 | []=>[]
 | s::l=>relax s::relaxL l
end
mutual
def loSh:Sh→Sh
 | .i k=>.i k
 | .b=>.b
 | .s=>.s
 | .agg l=>.agg (loShL l)
 | .tup l=>.tup (loShL l)
 | .l=>.lo
 | .any=>.any
 | .lo=>.lo
 | .z=>.z
def loShL:List Sh→List Sh
 | []=>[]
 | s::l=>loSh s::loShL l
end
mutual
def shFree:Sh→Bool
 | .i _=>true
 | .b=>true
 | .s=>true
 | .agg l=>shFreeL l
 | .tup l=>shFreeL l
 | .l=>false
 | .any=>false
 | .lo=>false
 | .z=>false
def shFreeL:List Sh→Bool
 | []=>true
 | s::l=>match shFree s with
   | true=>shFreeL l
   | false=>false
end
def freeOps (hs:List (Nat × Sh)):List Opd→Bool
 | []=>true
 | .v _::l=>freeOps hs l
 | .t n::l=>match shFree (hsGet hs n) with
   | true=>freeOps hs l
   | false=>false

def isH:IOp→Bool
 | .load .. | .store .. | .nilck _ | .box .. | .alloc _ | .mkrow .. | .mkslice .. | .s2b .. | .b2s _ | .mark _ | .subV .. | .fldA .. | .ixAS .. | .ixAA .. | .ixA .. | .app ..=>true
 | .bk .lenV _=>true
 | .eqv _ k _ _ _=>Nat.beq k 1 || (Nat.beq k 2 || Nat.beq k 3)
 | _=>false
def close (ev:Opd→AV):IOp→IOp
 | .load ag n a=>.load ag n (.v (ev a))
 | .store n a x=>.store n (.v (ev a)) (.v (ev x))
 | .nilck x=>.nilck (.v (ev x))
 | .box e x=>.box e (.v (ev x))
 | .alloc e=>.alloc e
 | .mkrow e n ps=>.mkrow e n (ps.map fun p=>(p.1,.v (ev p.2)))
 | .mkslice e n c=>.mkslice e (.v (ev n)) (.v (ev c))
 | .build z ps=>.build z (ps.map fun p=>(p.1,p.2.1,.v (ev p.2.2)))
 | .s2b e x=>.s2b e (.v (ev x))
 | .b2s x=>.b2s (.v (ev x))
 | .mark x=>.mark (.v (ev x))
 | .subV es x lo hi mx=>.subV es (.v (ev x)) (lo.map fun y=>.v (ev y)) (hi.map fun y=>.v (ev y)) (mx.map fun y=>.v (ev y))
 | .fldA off x=>.fldA off (.v (ev x))
 | .ixAS _ es x i=>.ixAS .any es (.v (ev x)) (.v (ev i))
 | .ixAA len es x i=>.ixAA len es (.v (ev x)) (.v (ev i))
 | .ixA ag len es x i=>.ixA ag len es (.v (ev x)) (.v (ev i))
 | .app e s x=>.app e (.v (ev s)) (.v (ev x))
 | .bk b args=>.bk b (args.map fun y=>.v (ev y))
 | .eqv neg k sh x y=>.eqv neg k sh (.v (ev x)) (.v (ev y))
 | io=>io
def bigB (hs:List (Nat × Sh)):IOp→Bool
 | .build _ ps=>ps.any fun p=>match p.2.2 with
   | .t n=>!shFree (hsGet hs n)
   | .v _=>false
 | _=>false
def isHu (hs:List (Nat × Sh)) (io:IOp):Bool:=isH io || bigB hs io
def noCall:CallF:=fun _ _ _=>none
theorem close_ok {call:CallF} {ev:Opd→AV} {H:Heap} {io:IOp} (h:isH io=true):aop call ev H io=aop noCall (evO []) H (close ev io):=by
 cases io <;> first | (cases h; done) | skip
 case bk b args =>
  cases b <;> first | (cases h; done) | skip
  cases args with
  | nil=>rfl
  | cons x l=>cases l <;> rfl
 case mkrow e n ps=>simp only [close,aop,List.map_map]; rfl
 case subV es x lo hi mx=>cases lo <;> cases hi <;> cases mx <;> rfl
 all_goals rfl

theorem close_okB {call:CallF} {ev:Opd→AV} {H:Heap} {hs:List (Nat × Sh)} {io:IOp} (h:isHu hs io=true):aop call ev H io=aop noCall (evO []) H (close ev io):=by
 unfold isHu at h
 rcases Bool.or_eq_true_iff.mp h with h | h
 ·exact close_ok h
 ·cases io <;> first | (cases h; done) | skip
  case build z ps=>simp only [close,aop,List.map_map]; rfl

def xiter (g:St→(Ex→St→Ans)→Ans):Nat→St→(Ex→St→Ans)→Ans
 | 0,_,_=>none
 | n+1,s,K=>g s fun e s'=>match e with
   | .normal=>xiter g n s' K
   | .exit i=>K (.exit i) s'
   | .ret=>K .ret s'

def xgo (i:Nat):List Nat→List (St→Ans)→St→Ans
 | id::ids,k::ks,s=>if i=id then k s else xgo i ids ks s
 | _,_,_=>none

def isInt (k:IntKind):Option AV→Option Int
 | some (.int k' n)=>if k'=k then some n else none
 | _=>none
def isBool:Option AV→Option Bool
 | some (.bool b)=>some b
 | _=>none
def isStr:Option AV→Option (List UInt8)
 | some (.str b)=>some b
 | _=>none
def isAgg (n:Nat):Option AV→Option (List AV)
 | some (.agg l)=>if l.length=n then some l else none
 | _=>none
def isTup (n:Nat):Option AV→Option (List AV)
 | some (.tup l)=>if l.length=n then some l else none
 | _=>none

def disjB:TV→TV→Bool
 | .addr v,.addr w=>(idsOf v).all fun i=>!(idsOf w).contains i
 | .all l,.addr _=>l.all (noId DEPTH)
 | .addr _,.all l=>l.all (noId DEPTH)
 | .all l,.all _=>l.all (noId DEPTH)
 | .no,_=>true
 | _,.no=>true
noncomputable def C0:Cb where
 grow H Z K:=K H.length (H ++ Z)
 keep A B l K:=match keepL A B l with
  | true=>K
  | false=>none
 mkat H id io K:=match makeAt (evO []) id io with
  | some (v,k)=>K v (H.set id (some k))
  | none=>none
 cal M pc n b g args H K:=match callB M pc n b g args H with
  | some (v,H')=>K v H'
  | none=>none
 disj a b K:=match disjB a b with
  | true=>K
  | false=>none
 fin H v:=some (snap DEPTH H v)
 hop H io K:=match aop noCall (evO []) H io with
  | some (v,H')=>K v H'
  | none=>none
 snp H args K:=match args.all (noId DEPTH) with
  | true=>K args true
  | false=>K (args.map (snap DEPTH H)) false
 int k o K:=(isInt k o).bind K
 bool o K:=(isBool o).bind K
 str o K:=(isStr o).bind K
 lst o K Z:=match o with
  | some (.lst l)=>K l
  | some (.zsl b)=>Z b
  | _=>none
 agg n o K:=(isAgg n o).bind K
 tup n o K:=(isTup n o).bind K
 any o K:=o.bind K
 same o v K:=@ite _ (o=some v) (Classical.propDecidable _) K none
 sameH a b K:=@ite _ (a=b) (Classical.propDecidable _) K none
 iter g n s ids ks kr:=xiter g n s fun e s'=>match e with
  | .ret=>kr s'
  | .exit i=>xgo i ids ks s'
  | .normal=>none

section
variable (C:Cb)

mutual
def destr:Sh→Option AV→(AV→Ans)→Ans
 | .i k,o,K=>C.int k o fun n=>K (.int k n)
 | .b,o,K=>C.bool o fun b=>K (.bool b)
 | .s,o,K=>C.str o fun b=>K (.str b)
 | .l,o,K=>C.lst o (fun l=>K (.lst l)) (fun b=>K (.zsl b))
 | .agg l,o,K=>C.agg l.length o fun cs=>destrL l cs 0 fun vs=>K (.agg vs)
 | .tup l,o,K=>C.tup l.length o fun cs=>destrL l cs 0 fun vs=>K (.tup vs)
 | .any,o,K=>C.any o K
 | .lo,o,K=>C.lst o (fun l=>K (.lst l)) (fun _=>none)
 | .z,o,K=>C.lst o (fun _=>none) (fun b=>K (.zsl b))
def destrL:List Sh→List AV→Nat→(List AV→Ans)→Ans
 | [],_,_,K=>K []
 | s::l,cs,i,K=>destr s cs[i]? fun v=>destrL l cs (i+1) fun vs=>K (v::vs)
end

abbrev PC:=FuncId→List AV→Option AV

def xpure (pc:PC) (sn:Bool) (sh:Sh) (g:FuncId) (args:List AV) (H:Heap) (K:AV→Heap→Ans):Ans :=
 match sn with
 | true=>C.snp H args fun as_ fr=>destr C (loSh sh) (pc g as_) fun v=>cnd (fr || noMem DEPTH v) (K v H) none
 | false=>match args.all (noId DEPTH) with
   | true=>destr C (loSh sh) (pc g args) fun v=>K v H
   | false=>destr C (loSh sh) (pc g (args.map (snap DEPTH H))) fun v=>cnd (noMem DEPTH v) (K v H) none

def xext (sh:Sh) (e:List AV→Option AV) (args:List AV) (H:Heap) (K:AV→Heap→Ans):Ans:=destr C sh (e args) fun v=>K v H

abbrev XCall:=Bool→Sh→FuncId→List AV→Heap→(AV→Heap→Ans)→Ans

def xempty (M:Mod) (pc:PC) (g:FuncId) (args:List AV) (H:Heap) (K:AV→Heap→Ans) (rest:Ans):Ans:=match M.cl g with
 | true=>match args with
   | [x]=>C.bool (clr x) fun b=>cnd b (C.same (emptyQ pc g) (.lst []) (K (.lst []) H)) rest
   | _=>rest
 | false=>rest

def xcallZ (M:Mod) (pc:PC):XCall:=fun sn sh g args H K =>
 match M.ext g with
 | some e=>xext C sh e args H K
 | none=>match M.inl g with
   | true=>xempty C M pc g args H K (xpure C pc sn sh g args H K)
   | false=>xpure C pc sn sh g args H K

def xat (sh:Sh) (l:List AV) (q:Int) (K:AV→Ans):Ans :=
 cnd (decide (0≤q)) (destr C sh l[q.toNat]? K) none

def xpick (c:AV) (x y:AV) (K:AV→Ans):Ans:=match c with
 | .bool t=>match x,y with
   | .int k n,.int k' n'=>match decide (k=k') with
     | true=>K (.int k (bif t then n else n'))
     | false=>cnd t (K (.int k n)) (K (.int k' n'))
   | .bool n,.bool n'=>K (.bool (bif t then n else n'))
   | x,y=>cnd t (K x) (K y)
 | _=>none

def xbin (op:BinOp) (x y:AV) (K:AV→Ans):Ans:=match x,y with
 | .int k a,.int k' b=>match op with
   | .shl=>cnd (decide (b < 0)) none (K (.int k (k.wrap (a * 2 ^ min b.toNat k.bits))))
   | .shr=>cnd (decide (b < 0)) none (K (.int k (a.fdiv (2 ^ min b.toNat k.bits))))
   | .quo=>match decide (k=k') with
     | true=>cnd (decide (b=0)) none (K (.int k (k.wrap (a.tdiv b))))
     | false=>none
   | .rem=>match decide (k=k') with
     | true=>cnd (decide (b=0)) none (K (.int k (a.tmod b)))
     | false=>none
   | op=>match aBin op (.int k a) (.int k' b) with
     | some v=>K v
     | none=>none
 | x,y=>match op with
   | .add=>match x,y with
     | .str a,.str b=>cnd (decide ((a.length+b.length)≤9223372036854775807)) (K (.str (a ++ b))) none
     | _,_=>none
   | op=>match aBin op x y with
     | some v=>K v
     | none=>none

def xbound (x:Option AV) (d top:Nat) (K:Nat→Ans):Ans:=match x with
 | none=>K d
 | some v=>match aInt v with
   | some i=>cnd (decide (0≤i∧i≤(top:Int))) (K i.toNat) none
   | none=>none

def xop0 (u:XU) (call:XCall) (ev:Opd→AV) (H:Heap) (io:IOp) (K:AV→Heap→Ans):Ans:=match io with
 | .pick c a b=>xpick (ev c) (ev a) (ev b) fun v=>K v H
 | .bin op x y=>xbin op (ev x) (ev y) fun v=>K v H
 | .eqv neg 0 sh x y=>match eqV 0 sh (ev x) (ev y) with
   | some b=>K (.bool (xor neg b)) H
   | none=>none
 | .eqv neg 4 sh x y=>match eqV 4 sh (ev x) (ev y) with
   | some b=>K (.bool (xor neg b)) H
   | none=>none
 | .eqv neg 2 sh x y=>match ev x,ev y with
   | .lst l,.zsl true=>cnd l.isEmpty none (K (.bool (xor neg false)) H)
   | x,y=>match eqV 2 sh x y with
     | some b=>K (.bool (xor neg b)) H
     | none=>none
 | .call sh f args=>match ev f with
   | .fn g a b=>match u.hm with
     | true=>call (!freeOps u.hs args) (relax sh) g (a ++ args.map ev ++ b) H K
     | false=>call false sh g (a ++ args.map ev ++ b) H K
   | _=>none
 | .subS x lo hi=>match ev x with
   | .str s=>xbound (hi.map ev) s.length s.length fun h=>xbound (lo.map ev) 0 h fun l=>K (.str ((s.take h).drop l)) H
   | _=>none
 | .ixS x i=>match ev x,aInt (ev i) with
   | .str s,some q=>cnd (decide (0≤q)) (C.int .u8 ((s[q.toNat]?).map fun b=>.int .u8 b.toNat) fun n=>K (.int .u8 n) H) none
   | _,_=>none
 | .ixAS sh es x i=>match aInt (ev i) with
   | some q=>match ev x with
     | .lst l=>xat C sh l q fun v=>match decide (v.cells.length=es) with
       | true=>K (.fptr v 0) H
       | false=>none
     | .slc id o n=>match hget H id with
       | some b=>match decide (b.e.es=es) with
         | true=>cnd (decide (0≤q∧q < (n:Int))) (K (.ptr id (o+q.toNat) 0) H) none
         | false=>none
       | none=>none
     | _=>none
   | none=>none
 | io=>match aop (fun _ _ _=>none) ev H io with
   | some (v,H')=>K v H'
   | none=>none

def xop (u:XU) (sh:Sh) (call:XCall) (ev:Opd→AV) (H:Heap) (io:IOp) (K:AV→Heap→Ans):Ans:=match u.hm with
 | true=>match isHu u.hs io with
   | true=>C.hop H (close ev io) fun v H'=>match sh with
     | .any=>K v H'
     | sh=>destr C sh (some v) fun v'=>K v' H'
   | false=>xop0 C u call ev H io K
 | false=>xop0 C u call ev H io K

def dhs (u:XU):Option Nat→Sh
 | some d=>hsGet u.hs d
 | none=>.any

def xwant (env:List AV) (g:Option (Option Nat × Bool)) (A B:List AV→Ans):Ans:=match g with
 | none=>A env
 | some (some t,b)=>match env.getD t .undef with
   | .bool c=>match b with
     | true=>cnd c (A (env.set t (.bool true))) (B (env.set t (.bool false)))
     | false=>cnd c (B (env.set t (.bool true))) (A (env.set t (.bool false)))
   | .tup []=>B env
   | _=>none
 | some (none,_)=>B env

def xrunOps (u:XU) (call:XCall):List IOper→St→(St→Ans)→Ans
 | [],s,K=>K s
 | o::l,s,K=>xwant s.env o.guard (fun env=>xop C u (dhs u o.dst) call (evO env) s.H o.op fun v H=>xrunOps u call l ⟨put env o.dst v,H⟩ K) (fun env=>xrunOps u call l ⟨put env o.dst (.tup []),s.H⟩ K)

def tvOf (ev:Opd→AV):IOp→TV
 | .load _ _ a=>.addr (ev a)
 | .store _ a _=>.addr (ev a)
 | .b2s x=>.addr (ev x)
 | .call _ f args=>match ev f with
   | .fn _ p q=>.all (p ++ args.map ev ++ q)
   | _=>.all []
 | _=>.no
def xdisj (chk:List Nat) (t:TV):List (Nat × TV)→Ans→Ans
 | [],K=>K
 | (i,s)::l,K=>match chk.contains i with
   | true=>match s,t with
     | .no,_=>xdisj chk t l K
     | _,.no=>xdisj chk t l K
     | s,t=>C.disj s t (xdisj chk t l K)
   | false=>xdisj chk t l K
def xrunOpsH (u:XU) (call callP:XCall):List (IOper × List Nat)→Nat→List (Nat × TV)→St→(St→Ans)→Ans
 | [],_,_,s,K=>K s
 | (o,chk)::l,i,log,s,K=>xwant s.env o.guard
     (fun env=>xdisj C chk (tvOf (evO env) o.op) log (xop C u (dhs u o.dst) (match isFull chk with | true=>call | false=>callP) (evO env) s.H o.op fun v H=>xrunOpsH u call callP l (i+1) ((i,tvOf (evO env) o.op)::log) ⟨put env o.dst v,H⟩ K))
     (fun env=>xrunOpsH u call callP l (i+1) log ⟨put env o.dst (.tup []),s.H⟩ K)

def xrunOpsD (u:XU) (call callP:XCall):List (IOper × List Nat)→Nat→List (Nat × Nat)→St→(St→Ans)→Ans
 | [],_,_,s,K=>K s
 | (o,chk)::l,i,log,s,K=>xwant s.env o.guard
     (fun env=>match chk.isEmpty || log.all (fun p=>!(chk.contains p.1) || !((touch (evO env) s.H o.op).contains p.2)) with
       | true=>xop C u (dhs u o.dst) (match isFull chk with | true=>call | false=>callP) (evO env) s.H o.op fun v H=>xrunOpsD u call callP l (i+1) (log ++ (touch (evO env) s.H o.op).map fun id=>(i,id)) ⟨put env o.dst v,H⟩ K
       | false=>none)
     (fun env=>xrunOpsD u call callP l (i+1) log ⟨put env o.dst (.tup []),s.H⟩ K)

def xstepS (u:XU) (call:XCall) (base:Nat) (o:SOp) (env:List AV) (H:Heap) (K:AV→Heap→Ans):Ans:=match o.slot with
 | none=>xop C u (dhs u o.op.dst) call (evO env) H o.op.op K
 | some j=>match allocOp o.op.op with
   | true=>K (.ptr (base+j) 0 0) H
   | false=>C.mkat H (base+j) (close (evO env) o.op.op) K
def xkeep (A B:Heap) (l:List AV) (K:Ans):Ans:=match l with
 | []=>K
 | x::l=>C.keep A B (x::l) K
def xlogS (o:SOp) (nm:List AV) (H H':Heap):List LogE→Ans→Ans
 | [],K=>K
 | e::l,K=>match o.chk.contains e.idx with
   | true=>(match e.chg with
     | some (A,B)=>xkeep C A B nm (match chgS o with
       | true=>xkeep C H H' e.nm (xlogS o nm H H' l K)
       | false=>xlogS o nm H H' l K)
     | none=>match chgS o with
       | true=>xkeep C H H' e.nm (xlogS o nm H H' l K)
       | false=>xlogS o nm H H' l K)
   | false=>xlogS o nm H H' l K
def xrunOpsS (u:XU) (call:XCall) (base:Nat):List SOp→Nat→List LogE→St→(St→Ans)→Ans
 | [],_,_,s,K=>K s
 | o::l,i,log,s,K=>xwant s.env o.op.guard
     (fun env=>xstepS C u call base o env s.H fun v H'=>xlogS C o (namesOf (evO env) o.op.op) s.H H' log (xkeep C s.H H' (o.kp.map fun j=>.ptr (base+j) 0 0)
       (xrunOpsS u call base l (i+1) (entS i o (evO env) s.H H'::log) ⟨put env o.op.dst v,H'⟩ K)))
     (fun env=>xrunOpsS u call base l (i+1) log ⟨put env o.op.dst (.tup []),s.H⟩ K)

def shOf:Nat→AV→Sh
 | 0,_=>.any
 | d+1,v=>match v with
   | .int k _=>.i k
   | .bool _=>.b
   | .str _=>.s
   | .lst _=>.lo
   | .zsl _=>.z
   | .agg cs=>.agg (cs.map (shOf d))
   | _=>.any

def dstsOf:IC→List Nat
 | .reg l=>l.filterMap (·.dst)
 | .regD l=>l.filterMap (·.1.dst)
 | .regS l=>l.filterMap (·.op.dst)
 | .seq a b=>dstsOf a ++ dstsOf b
 | .cond _ a b=>dstsOf a ++ dstsOf b
 | .block _ a=>dstsOf a
 | .loop a=>dstsOf a
 | _=>[]

def noMake:IOp→Bool
 | .store .. | .box .. | .alloc .. | .mkrow .. | .s2b .. | .mkslice .. | .app ..=>false
 | _=>true
def noMakes:IC→Bool
 | .reg l=>l.all fun o=>noMake o.op
 | .regD l=>l.all fun o=>noMake o.1.op
 | .regS _=>false
 | .seq a b=>noMakes a && noMakes b
 | .cond _ a b=>noMakes a && noMakes b
 | .block _ a=>noMakes a
 | .loop a=>noMakes a
 | _=>true

def meetL (a b:List Nat):List Nat:=a.filter fun x=>b.contains x
def joinO:Option (List Nat)→Option (List Nat)→Option (List Nat)
 | none,b=>b
 | a,none=>a
 | some a,some b=>some (meetL a b)
def daOp (da:List Nat) (o:IOper):List Nat:=match o.guard,o.dst with
 | none,some d=>d::da
 | _,_=>da
def exAt (id:Nat):List (Nat × List Nat)→Option (List Nat)
 | []=>none
 | (i,s)::l=>match Nat.beq i id with
   | true=>joinO (some s) (exAt id l)
   | false=>exAt id l
def RETID:Nat:=1000000
def daA:IC→List Nat→Option (List Nat) × List (Nat × List Nat)
 | .skip,s=>(some s,[])
 | .reg l,s=>(some (l.foldl daOp s),[])
 | .regD l,s=>(some (l.foldl (fun s o=>daOp s o.1) s),[])
 | .regS l,s=>(some (l.foldl (fun s o=>daOp s o.op) s),[])
 | .seq a b,s=>match daA a s with
   | (none,e)=>(none,e)
   | (some s',e)=>match daA b s' with
     | (n,e2)=>(n,e ++ e2)
 | .cond _ a b,s=>match daA a s,daA b s with
   | (n,e),(n2,e2)=>(joinO n n2,e ++ e2)
 | .block id a,s=>match daA a s with
   | (n,e)=>(joinO n (exAt id e),e.filter fun p=>!(Nat.beq p.1 id))
 | .loop a,s=>match daA a s with
   | (_,e)=>(none,e)
 | .exit id,s=>(none,[(id,s)])
 | .ret,s=>(none,[(RETID,s)])
def daN (a:IC) (s:List Nat):List Nat:=match (daA a s).1 with
 | some s=>s
 | none=>[]
def daX (a:IC) (s:List Nat) (i:Nat):List Nat:=match exAt i (daA a s).2 with
 | some s=>s
 | none=>[]

def destrV (u:XU) (ds da db:List Nat):List AV→List AV→Nat→(List AV→Ans)→Ans
 | [],_,_,K=>K []
 | v::l,cs,i,K=>match ds.contains i with
   | true=>destr C (match da.contains i with
      | true=>match u.hm with
        | true=>hsGet u.hs i
        | false=>shOf 3 v
      | false=>match db.contains i with
        | true=>relax (hsGet u.hs i)
        | false=>.any) cs[i]? fun w=>destrV u ds da db l cs (i+1) fun us=>K (w::us)
   | false=>C.same cs[i]? v (destrV u ds da db l cs (i+1) fun us=>K (v::us))

def destrE (u:XU) (da db:List Nat) (a:IC) (s0 s:St) (K:St→Ans):Ans:=cnd (s.env.length == s0.env.length) (destrV C u (dstsOf a) da db s0.env s.env 0 fun env=>match noMakes a with
 | true=>match u.hm with
   | true=>K ⟨env,s.H⟩
   | false=>C.sameH s.H s0.H (K ⟨env,s0.H⟩)
 | false=>K ⟨env,s.H⟩) none

def exitsOf:IC→List Nat
 | .seq a b=>exitsOf a ++ exitsOf b
 | .cond _ a b=>exitsOf a ++ exitsOf b
 | .block id a=>(exitsOf a).filter (· != id)
 | .loop a=>exitsOf a
 | .exit id=>[id]
 | _=>[]

def exN (id:Nat):IC→Nat
 | .seq a b=>exN id a+exN id b
 | .cond _ a b=>exN id a+exN id b
 | .block i a=>match Nat.beq i id with
   | true=>0
   | false=>exN id a
 | .loop a=>min 1 (exN id a)
 | .exit i=>match Nat.beq i id with
   | true=>1
   | false=>0
 | _=>0
def endN:IC→Nat
 | .skip=>1
 | .reg l=>match l.all (fun o=>o.guard.isNone) with
   | true=>1
   | false=>2
 | .regD l=>match l.all (fun o=>o.1.guard.isNone) with
   | true=>1
   | false=>2
 | .regS l=>match l.all (fun o=>o.op.guard.isNone) with
   | true=>1
   | false=>2
 | .seq a b=>match endN a with
   | 0=>0
   | _=>endN b
 | .cond _ a b=>endN a+endN b
 | .block id a=>endN a+exN id a
 | _=>0
def joins (u:XU) (a:IC):Bool:=u.jn && (Nat.ble 2 (endN a) && (u.hm || noMakes a))
def JID:Nat:=2000000
def hasRet (a:IC):Bool:=(exAt RETID (daA a []).2).isSome

def xexec (u:XU) (call callP:XCall) (fu:Nat):IC→List Nat→St→(Ex→St→Ans)→Ans
 | .skip,_,s,K=>K .normal s
 | .regD ops,_,s,K=>match u.hm with
   | true=>xrunOpsH C u call callP ops 0 [] s fun s'=>K .normal s'
   | false=>xrunOpsD C u call callP ops 0 [] s fun s'=>K .normal s'
 | .regS ops,_,s,K=>match u.hm with
   | true=>C.grow s.H (preH ops) fun n H=>xrunOpsS C u call n ops 0 [] ⟨s.env,H⟩ fun s'=>K .normal s'
   | false=>none
 | .reg ops,_,s,K=>xrunOps C u call ops s fun s'=>K .normal s'
 | .seq a b,da,s,K=>match joins u a with
   | false=>xexec u call callP fu a da s fun e s'=>match e with
     | .normal=>xexec u call callP fu b (daN a da) s' K
     | .exit i=>K (.exit i) s'
     | .ret=>K .ret s'
   | true=>C.iter (fun s1 Kn=>destrE C u da [] a s s1 fun s2=>xexec u call callP fu a da s2 fun e s'=>match e with
     | .normal=>Kn (.exit JID) s'
     | .exit i=>match decide (i=JID) with
       | true=>none
       | false=>Kn (.exit i) s'
     | .ret=>Kn .ret s') 1 s (JID::(exitsOf a).eraseDups) ((fun s1=>destrE C u da (daN a da) a s s1 fun s2=>xexec u call callP fu b (daN a da) s2 K)::(exitsOf a).eraseDups.map fun i s1=>destrE C u da (daX a da i) a s s1 fun s2=>K (.exit i) s2) fun s1=>destrE C u da (daX a da RETID) a s s1 fun s2=>match hasRet a with
     | true=>K .ret s2
     | false=>none
 | .cond (.t n) a b,da,s,K=>match s.env.getD n .undef with
   | .bool t=>cnd t (xexec u call callP fu a da ⟨s.env.set n (.bool true),s.H⟩ K) (xexec u call callP fu b da ⟨s.env.set n (.bool false),s.H⟩ K)
   | _=>none
 | .cond (.v c) a b,da,s,K=>match c with
   | .bool t=>cnd t (xexec u call callP fu a da s K) (xexec u call callP fu b da s K)
   | _=>none
 | .block id a,da,s,K=>xexec u call callP fu a da s fun e s'=>match e with
   | .normal=>K .normal s'
   | .exit i=>match decide (i=id) with
     | true=>K .normal s'
     | false=>K (.exit i) s'
   | .ret=>K .ret s'
 | .loop a,da,s,K=>match u.un with
   | true=>xiter (fun s1 Kn=>xexec u call callP fu a da s1 Kn) fu s K
   | false=>C.iter (fun s1 Kn=>destrE C u da [] a s s1 fun s2=>xexec u call callP fu a da s2 Kn) fu s (exitsOf a).eraseDups ((exitsOf a).eraseDups.map fun i s1=>destrE C u da (daX a da i) a s s1 fun s2=>K (.exit i) s2) fun s1=>destrE C u da (daX a da RETID) a s s1 fun s2=>K .ret s2
 | .exit id,_,s,K=>K (.exit id) s
 | .ret,_,s,K=>K .ret s

def xresAll (s:St):List RV→(List AV→Ans)→Ans
 | [],K=>K []
 | .tmp t::l,K=>xresAll s l fun vs=>K (s.env.getD t .undef::vs)
 | .cell ag n t::l,K=>C.hop s.H (.load ag n (.v (s.env.getD t .undef))) fun v _=>xresAll s l fun vs=>K (v::vs)

def xrunFn (u:XU) (call callP:XCall) (fu:Nat) (fn:AFn) (args:List AV) (H:Heap) (K:AV→Heap→Ans):Ans :=
 xexec C u call callP fu fn.body (List.range args.length) ⟨args ++ List.replicate (fn.ntmps - args.length) (.tup []),H⟩ fun e s=>match e with
  | .exit _=>none
  | _=>match u.hm with
    | true=>xresAll C s fn.results fun vs=>K (packRes vs) s.H
    | false=>match resAll s fn.results with
      | some vs=>K (packRes vs) s.H
      | none=>none

def xfresh (u:XU) (call callP:XCall) (fu:Nat) (fn:AFn) (args:List AV) (H:Heap) (K:AV→Heap→Ans):Ans :=
 xrunFn C u call callP fu fn args (padH H.length) fun v H1=>match padOk H.length H1 with
  | true=>K v (H ++ H1.drop H.length)
  | false=>none

def xcallB (M:Mod) (U:FuncId→XU) (pc:PC):Nat→Bool→XCall
 | 0,_=>xcallZ C M pc
 | n+1,b=>fun sn sh g args H K =>
   match M.ext g with
   | some e=>xext C sh e args H K
   | none=>match M.inl g with
     | true=>match (U g).ca with
       | true=>C.cal M pc (n+1) b g args H fun v H'=>destr C sh (some v) fun v'=>K v' H'
       | false=>xempty C M pc g args H K (match b with
         | true=>match M.code g args.length with
           | some fn=>xrunFn C (U g) (xcallB M U pc n true) (xcallB M U pc n false) M.fu fn args H K
           | none=>none
         | false=>match M.fr g && args.all (noId DEPTH) with
           | true=>match M.code g args.length with
             | some fn=>xfresh C (U g) (xcallB M U pc n true) (xcallB M U pc n false) M.fu fn args H K
             | none=>none
           | false=>xpure C pc sn sh g args H K)
     | false=>xpure C pc sn sh g args H K

def xcall (M:Mod) (U:FuncId→XU) (d:Nat) (g:FuncId) (args:List AV):Ans:=match M.code g args.length with
 | none=>none
 | some fn=>xrunFn C (U g) (xcallB C M U (pcall M d) IDEPTH true) (xcallB C M U (pcall M d) IDEPTH false) M.fu fn args [] fun v H'=>match (U g).hm with
   | true=>C.fin H' v
   | false=>some (snap DEPTH H' v)
def xmeth (M:Mod) (U:FuncId→XU) (d n:Nat) (g:FuncId) (args:List AV) (H:Heap) (K:AV→Heap→Ans):Ans:=match M.code g args.length with
 | none=>none
 | some fn=>xrunFn C (U g) (xcallB C M U (pcall M d) n true) (xcallB C M U (pcall M d) n false) M.fu fn args H K
end

/-! ### It says what the other one says -/
section
mutual
theorem destr_sound:∀ (sh:Sh) (o:Option AV) (K:AV→Ans) (r:AV),destr C0 sh o K=some r→∃ v,o=some v∧K v=some r
 | .i k,o,K,r,h=>by
   simp only [destr,C0] at h
   obtain ⟨n,h1,h2⟩:=Option.bind_eq_some_iff.mp h
   unfold isInt at h1
   split at h1 <;> (try (cases h1; done))
   split at h1 <;> (try (cases h1; done))
   rename_i k' n' hk
   cases h1; subst hk
   exact ⟨_,rfl,h2⟩
 | .b,o,K,r,h=>by
   simp only [destr,C0] at h
   obtain ⟨n,h1,h2⟩:=Option.bind_eq_some_iff.mp h
   unfold isBool at h1
   split at h1 <;> (try (cases h1; done))
   cases h1
   exact ⟨_,rfl,h2⟩
 | .s,o,K,r,h=>by
   simp only [destr,C0] at h
   obtain ⟨n,h1,h2⟩:=Option.bind_eq_some_iff.mp h
   unfold isStr at h1
   split at h1 <;> (try (cases h1; done))
   cases h1
   exact ⟨_,rfl,h2⟩
 | .l,o,K,r,h=>by
   simp only [destr,C0] at h
   split at h <;> (try (cases h; done))
   ·exact ⟨_,rfl,h⟩
   ·exact ⟨_,rfl,h⟩
 | .agg l,o,K,r,h=>by
   simp only [destr,C0] at h
   obtain ⟨cs,h1,h2⟩:=Option.bind_eq_some_iff.mp h
   unfold isAgg at h1
   split at h1 <;> (try (cases h1; done))
   split at h1 <;> (try (cases h1; done))
   rename_i hl
   cases h1
   obtain ⟨vs,q1,q2,q3⟩:=destrL_sound l cs 0 _ r h2
   have:vs=cs:=by
    apply List.ext_getElem?
    intro i
    rcases Nat.lt_or_ge i l.length with hlt | hge
    ·have:=q2 i hlt; simpa using this.symm
    ·rw [List.getElem?_eq_none (by omega),List.getElem?_eq_none (by omega)]
   subst this
   exact ⟨_,rfl,q3⟩
 | .tup l,o,K,r,h=>by
   simp only [destr,C0] at h
   obtain ⟨cs,h1,h2⟩:=Option.bind_eq_some_iff.mp h
   unfold isTup at h1
   split at h1 <;> (try (cases h1; done))
   split at h1 <;> (try (cases h1; done))
   rename_i hl
   cases h1
   obtain ⟨vs,q1,q2,q3⟩:=destrL_sound l cs 0 _ r h2
   have:vs=cs:=by
    apply List.ext_getElem?
    intro i
    rcases Nat.lt_or_ge i l.length with hlt | hge
    ·have:=q2 i hlt; simpa using this.symm
    ·rw [List.getElem?_eq_none (by omega),List.getElem?_eq_none (by omega)]
   subst this
   exact ⟨_,rfl,q3⟩
 | .any,o,K,r,h=>by
   simp only [destr,C0] at h
   exact Option.bind_eq_some_iff.mp h
 | .lo,o,K,r,h=>by
   simp only [destr,C0] at h
   split at h <;> (try (cases h; done))
   exact ⟨_,rfl,h⟩
 | .z,o,K,r,h=>by
   simp only [destr,C0] at h
   split at h <;> (try (cases h; done))
   exact ⟨_,rfl,h⟩
theorem destrL_sound:∀ (l:List Sh) (cs:List AV) (i:Nat) (K:List AV→Ans) (r:AV),destrL C0 l cs i K=some r→∃ vs,vs.length=l.length∧(∀ j,j < l.length→cs[i+j]?=vs[j]?)∧K vs=some r
 | [],cs,i,K,r,h=>⟨[],rfl,by simp,h⟩
 | s::l,cs,i,K,r,h=>by
   simp only [destrL] at h
   obtain ⟨v,h1,h2⟩:=destr_sound s _ _ r h
   obtain ⟨vs,q1,q2,q3⟩:=destrL_sound l cs (i+1) _ r h2
   refine ⟨v::vs,by simp [q1],fun j hj=>?_,q3⟩
   cases j with
   | zero=>simpa using h1
   | succ j =>
     have:=q2 j (by simpa using hj)
     simpa [show i+1+j=i+(j+1) by omega] using this
end

theorem cnd_some {t:Bool} {a b:Ans} {r:AV} (h:cnd t a b=some r):(t=true∧a=some r) ∨ (t=false∧b=some r):=by
 cases t <;> simp [cnd] at h <;> simp [h]

theorem destrV_sound (U0:XU) (ds da db:List Nat):∀ (l cs:List AV) (i:Nat) (K:List AV→Ans) (r:AV),destrV C0 U0 ds da db l cs i K=some r→∃ vs,vs.length=l.length∧(∀ j,j < l.length→cs[i+j]?=vs[j]?)∧K vs=some r
 | [],cs,i,K,r,h=>⟨[],rfl,by simp,h⟩
 | v::l,cs,i,K,r,h=>by
   simp only [destrV] at h
   have fin:∀ u,cs[i]?=some u→destrV C0 U0 ds da db l cs (i+1) (fun us=>K (u::us))=some r→∃ vs,vs.length=(v::l).length∧(∀ j,j < (v::l).length→cs[i+j]?=vs[j]?)∧K vs=some r:=by
    intro u h1 h2
    obtain ⟨vs,q1,q2,q3⟩:=destrV_sound U0 ds da db l cs (i+1) _ r h2
    refine ⟨u::vs,by simp [q1],fun j hj=>?_,q3⟩
    cases j with
    | zero=>simpa using h1
    | succ j =>
      have:=q2 j (by simpa using hj)
      simpa [show i+1+j=i+(j+1) by omega] using this
   split at h
   ·obtain ⟨u,h1,h2⟩:=destr_sound _ _ _ r h
    exact fin u h1 h2
   ·simp only [C0] at h
    split at h
    ·rename_i he; exact fin v he h
    ·cases h

theorem destrE_sound {u:XU} {da db:List Nat} {a:IC} {s0 s:St} {K:St→Ans} {r:AV} (h:destrE C0 u da db a s0 s K=some r):K s=some r:=by
 unfold destrE at h
 rcases cnd_some h with ⟨hl,h⟩ | ⟨_,h⟩
 ·obtain ⟨vs,q1,q2,q3⟩:=destrV_sound _ _ _ _ _ _ _ _ _ h
  have hl:s.env.length=s0.env.length:=by simpa using hl
  have:vs=s.env:=by
   apply List.ext_getElem?
   intro i
   rcases Nat.lt_or_ge i s0.env.length with hlt | hge
   ·have:=q2 i hlt; simpa using this.symm
   ·rw [List.getElem?_eq_none (by omega),List.getElem?_eq_none (by omega)]
  subst this
  split at q3
  ·split at q3
   ·exact q3
   ·simp only [C0] at q3
    split at q3
    ·rename_i he; rw [← he] at q3; exact q3
    ·cases q3
  ·exact q3
 ·cases h

theorem xgo_ok {i:Nat} {s:St} {r:AV} {f:Nat→St→Ans}:∀ ids:List Nat,xgo i ids (ids.map f) s=some r→f i s=some r
 | [],h=>by cases h
 | id::ids,h=>by
   simp only [List.map_cons,xgo] at h
   split at h
   ·rename_i he; rw [he]; exact h
   ·exact xgo_ok ids h

def XOK (x:XCall) (call:CallF):Prop:=∀ sn sh g args H K r,x sn sh g args H K=some r→∃ v H',call g args H=some (v,H')∧K v H'=some r

theorem xpure_ok (pc:PC):XOK (xpure C0 pc) (pureCall pc):=by
 intro sn sh g args H K r h
 unfold xpure at h
 unfold pureCall
 cases sn with
 | true =>
   simp only [C0] at h
   cases ha:args.all (noId DEPTH) <;> simp only [ha] at h
   ·obtain ⟨v,h1,h2⟩:=destr_sound _ _ _ _ h
    rcases cnd_some h2 with ⟨h3,h2⟩ | ⟨_,h2⟩
    ·simp only [Bool.false_or] at h3
     exact ⟨v,H,by simp [h1,h3],h2⟩
    ·cases h2
   ·obtain ⟨v,h1,h2⟩:=destr_sound _ _ _ _ h
    rcases cnd_some h2 with ⟨h3,h2⟩ | ⟨h3,h2⟩
    ·exact ⟨v,H,by simp [h1],h2⟩
    ·cases h2
 | false =>
   cases ha:args.all (noId DEPTH) <;> simp only [ha] at h
   ·obtain ⟨v,h1,h2⟩:=destr_sound _ _ _ _ h
    rcases cnd_some h2 with ⟨h3,h2⟩ | ⟨_,h2⟩
    ·exact ⟨v,H,by simp [h1,h3],h2⟩
    ·cases h2
   ·obtain ⟨v,h1,h2⟩:=destr_sound _ _ _ _ h
    exact ⟨v,H,by simp [h1],h2⟩

theorem xbound_ok {x:Option AV} {d top:Nat} {K:Nat→Ans} {r:AV} (h:xbound x d top K=some r):∃ n,bound x d top=some n∧K n=some r:=by
 unfold xbound at h
 split at h
 ·exact ⟨_,rfl,h⟩
 ·split at h <;> (try (cases h; done))
  rename_i v i hi
  rcases cnd_some h with ⟨h0,h⟩ | ⟨_,h⟩
  ·have h0:=of_decide_eq_true h0
   exact ⟨_,by simp only [bound,hi]; rw [if_pos h0],h⟩
  ·cases h

theorem xpick_ok {c x y:AV} {K:AV→Ans} {r:AV} (h:xpick c x y K=some r):∃ t,c=.bool t∧K (bif t then x else y)=some r:=by
 unfold xpick at h
 split at h <;> (try (cases h; done))
 rename_i t
 refine ⟨t,rfl,?_⟩
 split at h
 ·split at h
  ·rename_i hk
   have hk:=of_decide_eq_true hk
   subst hk
   cases t <;> exact h
  ·rcases cnd_some h with ⟨rfl,h⟩ | ⟨rfl,h⟩ <;> exact h
 ·cases t <;> exact h
 ·rcases cnd_some h with ⟨rfl,h⟩ | ⟨rfl,h⟩ <;> exact h

theorem xbin_ok {op:BinOp} {x y:AV} {K:AV→Ans} {r:AV} (h:xbin op x y K=some r):∃ v,aBin op x y=some v∧K v=some r:=by
 unfold xbin at h
 split at h
 ·rename_i k a k' b
  split at h
  ·rcases cnd_some h with ⟨_,h⟩ | ⟨hb,h⟩
   ·cases h
   ·have hb:=of_decide_eq_false hb
    exact ⟨_,by simp [aBin,hb],h⟩
  ·rcases cnd_some h with ⟨_,h⟩ | ⟨hb,h⟩
   ·cases h
   ·have hb:=of_decide_eq_false hb
    exact ⟨_,by simp [aBin,hb],h⟩
  ·split at h
   ·rename_i hk
    have hk:=of_decide_eq_true hk
    rcases cnd_some h with ⟨_,h⟩ | ⟨hb,h⟩
    ·cases h
    ·have hb:=of_decide_eq_false hb
     exact ⟨_,by simp [aBin,hk,hb],h⟩
   ·cases h
  ·split at h
   ·rename_i hk
    have hk:=of_decide_eq_true hk
    rcases cnd_some h with ⟨_,h⟩ | ⟨hb,h⟩
    ·cases h
    ·have hb:=of_decide_eq_false hb
     exact ⟨_,by simp [aBin,hk,hb],h⟩
   ·cases h
  ·split at h
   ·rename_i v hv; exact ⟨v,hv,h⟩
   ·cases h
 ·split at h
  ·split at h
   ·rcases cnd_some h with ⟨hb,h⟩ | ⟨_,h⟩
    ·have hb:=of_decide_eq_true hb
     exact ⟨_,by simp [aBin,hb],h⟩
    ·cases h
   ·cases h
  ·split at h
   ·rename_i v hv; exact ⟨v,hv,h⟩
   ·cases h
end
def sames (C:Cb) (e:List AV):Nat→List AV→Ans→Ans
 | _,[],K=>K
 | k,v::l,K=>C.same e[k]? v (sames C e (k+1) l K)
def anys (C:Cb) (e:List AV):Nat→Nat→Ans→Ans
 | _,0,K=>K
 | k,n+1,K=>C.any e[k]? fun _=>anys C e (k+1) n K
def rlx (l:List (Nat × Sh)):List (Nat × Sh):=l.map fun p=>(p.1,relax p.2)
end Go.Proofs.Ytdceaeifcniabaa.AE

namespace Go.Proofs.Ytdceaeifcniabaa.AE
set_option linter.unusedVariables false
set_option linter.unusedSimpArgs false
set_option linter.constructorNameAsVariable false
open Go

theorem aop_call_irr {call call':CallF} {ev:Opd→AV} {H:Heap} {io:IOp} (h:∀ sh f args,io ≠ .call sh f args):aop call ev H io=aop call' ev H io:=by
 cases io <;> first | rfl | exact absurd rfl (h _ _ _) | skip
 all_goals (rename_i b _; cases b <;> rfl)

theorem xop0_ok {u:XU} {x:XCall} {call:CallF} (hx:XOK x call) {ev:Opd→AV} {H:Heap} {io:IOp} {K:AV→Heap→Ans} {r:AV} (h:xop0 C0 u x ev H io K=some r):∃ v H',aop call ev H io=some (v,H')∧K v H'=some r:=by
 unfold xop0 at h
 split at h
 ·obtain ⟨t,h1,h2⟩:=xpick_ok h
  exact ⟨_,H,by simp [aop,h1],h2⟩
 ·obtain ⟨v,h1,h2⟩:=xbin_ok h
  exact ⟨v,H,by simp [aop,h1],h2⟩
 ·split at h <;> (try (cases h; done))
  rename_i b hb
  exact ⟨_,H,by simp only [aop,hb],h⟩
 ·split at h <;> (try (cases h; done))
  rename_i b hb
  exact ⟨_,H,by simp only [aop,hb],h⟩
 ·split at h
  ·rename_i l h1 h2
   rcases cnd_some h with ⟨_,h⟩ | ⟨h0,h⟩
   ·cases h
   ·cases l with
    | nil=>simp at h0
    | cons a l=>exact ⟨_,H,by simp only [aop,h1,h2,eqV,eqS],h⟩
  ·split at h <;> (try (cases h; done))
   rename_i b hb
   exact ⟨_,H,by simp only [aop,hb],h⟩
 ·split at h <;> (try (cases h; done))
  rename_i g a b hf
  split at h
  ·obtain ⟨v,H',h1,h2⟩:=hx _ _ _ _ _ _ _ h
   exact ⟨v,H',by simp only [aop,hf,h1],h2⟩
  ·obtain ⟨v,H',h1,h2⟩:=hx _ _ _ _ _ _ _ h
   exact ⟨v,H',by simp only [aop,hf,h1],h2⟩
 ·split at h <;> (try (cases h; done))
  rename_i s hs
  obtain ⟨hh,h1,h2⟩:=xbound_ok h
  obtain ⟨l,h3,h4⟩:=xbound_ok h2
  exact ⟨_,H,by simp only [aop,aSubS,hs,h1,h3],h4⟩
 ·split at h <;> (try (cases h; done))
  rename_i s q hs hq
  rcases cnd_some h with ⟨h0,h⟩ | ⟨_,h⟩
  ·have h0:=of_decide_eq_true h0
   simp only [C0] at h
   obtain ⟨n,h1,h2⟩:=Option.bind_eq_some_iff.mp h
   cases hb:s[q.toNat]? with
   | none=>simp [hb,isInt] at h1
   | some b =>
     simp [hb,isInt] at h1
     subst h1
     exact ⟨_,H,by simp [aop,hs,hq,h0,hb],h2⟩
  ·cases h
 ·split at h <;> (try (cases h; done))
  rename_i q hq
  split at h <;> (try (cases h; done))
  ·rename_i l hl
   unfold xat at h
   rcases cnd_some h with ⟨h0,h⟩ | ⟨_,h⟩
   ·have h0:=of_decide_eq_true h0
    obtain ⟨v,h1,h2⟩:=destr_sound _ _ _ _ h
    split at h2 <;> (try (cases h2; done))
    rename_i hc
    have hc:=of_decide_eq_true hc
    exact ⟨_,H,by simp [aop,hq,hl,aIx,h0,h1,hc],h2⟩
   ·cases h
  ·rename_i id o n hl
   split at h <;> (try (cases h; done))
   rename_i b hb
   split at h <;> (try (cases h; done))
   rename_i he
   have he:=of_decide_eq_true he
   rcases cnd_some h with ⟨h0,h⟩ | ⟨_,h⟩
   ·have h0:=of_decide_eq_true h0
    exact ⟨_,H,by simp [aop,hq,hl,aIx,hb,h0,he],h⟩
   ·cases h
 ·rename_i hne
  split at h <;> (try (cases h; done))
  rename_i v H' hv
  exact ⟨v,H',by rw [← hv]; exact aop_call_irr (fun sh f args he=>by subst he; simp_all),h⟩

theorem xop_ok {u:XU} {sh:Sh} {x:XCall} {call:CallF} (hx:XOK x call) {ev:Opd→AV} {H:Heap} {io:IOp} {K:AV→Heap→Ans} {r:AV} (h:xop C0 u sh x ev H io K=some r):∃ v H',aop call ev H io=some (v,H')∧K v H'=some r:=by
 unfold xop at h
 split at h
 ·split at h
  ·rename_i hi
   rw [close_okB hi]
   simp only [C0] at h
   split at h
   ·rename_i v H' hv
    split at h
    ·exact ⟨v,H',hv,h⟩
    ·obtain ⟨w,h1,h2⟩:=destr_sound _ _ _ _ h
     cases h1
     exact ⟨v,H',hv,h2⟩
   ·cases h
  ·exact xop0_ok hx h
 ·exact xop0_ok hx h

theorem set_same {env:List AV} {t:Nat} {v:AV} (h:env.getD t .undef=v) (hv:v ≠ .undef):env.set t v=env:=by
 apply List.ext_getElem?
 intro i
 by_cases hi:t=i
 ·subst hi
  rcases Nat.lt_or_ge t env.length with hlt | hge
  ·rw [List.getElem?_set_self hlt,List.getElem?_eq_getElem hlt,← h]
   simp [List.getD_eq_getElem?_getD,hlt]
  ·exact absurd (by rw [← h]; simp [List.getD_eq_getElem?_getD,List.getElem?_eq_none hge]) hv
 ·rw [List.getElem?_set_ne hi]

theorem xwant_ok {env:List AV} {g:Option (Option Nat × Bool)} {A B:List AV→Ans} {r:AV} (h:xwant env g A B=some r):(want env g=some true∧A env=some r) ∨ (want env g=some false∧B env=some r):=by
 unfold xwant at h
 split at h
 ·exact .inl ⟨rfl,h⟩
 ·rename_i t b
  split at h <;> (try (cases h; done))
  ·rename_i c hc
   split at h
   ·rcases cnd_some h with ⟨h0,h⟩ | ⟨h0,h⟩
    ·subst h0; rw [set_same hc (by simp)] at h; exact .inl ⟨by simp only [want,hc]; rfl,h⟩
    ·subst h0; rw [set_same hc (by simp)] at h; exact .inr ⟨by simp only [want,hc]; rfl,h⟩
   ·rcases cnd_some h with ⟨h0,h⟩ | ⟨h0,h⟩
    ·subst h0; rw [set_same hc (by simp)] at h; exact .inr ⟨by simp only [want,hc]; rfl,h⟩
    ·subst h0; rw [set_same hc (by simp)] at h; exact .inl ⟨by simp only [want,hc]; rfl,h⟩
  ·rename_i hc
   exact .inr ⟨by simp only [want,hc],h⟩
 ·exact .inr ⟨rfl,h⟩

theorem xrunOps_ok {u:XU} {x:XCall} {call:CallF} (hx:XOK x call):∀ (l:List IOper) (s:St) (K:St→Ans) (r:AV),xrunOps C0 u x l s K=some r→∃ s',runOps call l s=some s'∧K s'=some r
 | [],s,K,r,h=>⟨s,rfl,h⟩
 | o::l,s,K,r,h=>by
   simp only [xrunOps] at h
   rcases xwant_ok h with ⟨hw,h⟩ | ⟨hw,h⟩
   ·obtain ⟨v,H',h1,h2⟩:=xop_ok hx h
    obtain ⟨s',h3,h4⟩:=xrunOps_ok hx l _ K r h2
    exact ⟨s',by simp only [runOps,hw,h1,h3],h4⟩
   ·obtain ⟨s',h3,h4⟩:=xrunOps_ok hx l _ K r h
    exact ⟨s',by simp only [runOps,hw,h3],h4⟩

theorem XOK.sel {x y:XCall} {call callP:CallF} (hx:XOK x call) (hy:XOK y callP) (b:Bool):XOK (match b with | true=>x | false=>y) (bif b then call else callP):=by cases b <;> assumption
theorem xrunOpsD_ok {u:XU} {x y:XCall} {call callP:CallF} (hx:XOK x call) (hy:XOK y callP):∀ (l:List (IOper × List Nat)) (i:Nat) (log:List (Nat × Nat)) (s:St) (K:St→Ans) (r:AV),xrunOpsD C0 u x y l i log s K=some r→∃ s',runOpsD call callP l i log s=some s'∧K s'=some r
 | [],i,log,s,K,r,h=>⟨s,rfl,h⟩
 | (o,chk)::l,i,log,s,K,r,h=>by
   simp only [xrunOpsD] at h
   rcases xwant_ok h with ⟨hw,h⟩ | ⟨hw,h⟩
   ·split at h <;> (try (cases h; done))
    rename_i hl
    obtain ⟨v,H',h1,h2⟩:=xop_ok (hx.sel hy (isFull chk)) h
    obtain ⟨s',h3,h4⟩:=xrunOpsD_ok hx hy l _ _ _ K r h2
    refine ⟨s',?_,h4⟩
    simp only [runOpsD,hw]
    split
    ·simp only [h1,h3]
    ·rename_i hn
     rw [Bool.or_eq_true] at hl
     rcases hl with hl | hl
     ·exact absurd (by rw [List.isEmpty_iff] at hl; subst hl; simp) hn
     ·exact absurd hl hn
   ·obtain ⟨s',h3,h4⟩:=xrunOpsD_ok hx hy l _ _ _ K r h
    exact ⟨s',by simp only [runOpsD,hw,h3],h4⟩

theorem xdisj_ok {chk:List Nat} {t:TV} {K:Ans} {r:AV}:∀ {l:List (Nat × TV)},xdisj C0 chk t l K=some r→K=some r∧∀ e ∈ l,chk.contains e.1=true→disjB e.2 t=true
 | [],h=>⟨h,fun e he=>by cases he⟩
 | (i,s)::l,h=>by
   simp only [xdisj] at h
   split at h
   ·rename_i hc
    split at h
    ·obtain ⟨h1,h2⟩:=xdisj_ok h
     refine ⟨h1,fun e he hk=>?_⟩
     rcases List.mem_cons.mp he with rfl | he
     ·rfl
     ·exact h2 e he hk
    ·obtain ⟨h1,h2⟩:=xdisj_ok h
     refine ⟨h1,fun e he hk=>?_⟩
     rcases List.mem_cons.mp he with rfl | he
     ·cases s <;> rfl
     ·exact h2 e he hk
    ·simp only [C0] at h
     split at h
     ·rename_i hd
      obtain ⟨h1,h2⟩:=xdisj_ok h
      refine ⟨h1,fun e he hk=>?_⟩
      rcases List.mem_cons.mp he with rfl | he
      ·exact hd
      ·exact h2 e he hk
     ·cases h
   ·rename_i hc
    obtain ⟨h1,h2⟩:=xdisj_ok h
    refine ⟨h1,fun e he hk=>?_⟩
    rcases List.mem_cons.mp he with rfl | he
    ·rw [hc] at hk; cases hk
    ·exact h2 e he hk

def tmem (id:Nat):TV→Prop
 | .no=>False
 | .addr v=>id ∈ idsOf v
 | .all l=>l.all (noId DEPTH)=false
theorem touch_tv {ev:Opd→AV} {H:Heap} {io:IOp} {id:Nat} (h:id ∈ touch ev H io):tmem id (tvOf ev io):=by
 cases io <;> first | (cases h; done) | skip
 case load ag n a =>
  simp only [touch] at h
  simp only [tvOf,tmem]
  split at h
  ·rename_i he; rw [he]; exact h
  ·cases h
 case store n a v =>
  simp only [touch] at h
  simp only [tvOf,tmem]
  split at h
  ·rename_i he; rw [he]; exact h
  ·cases h
 case b2s x =>
  simp only [touch] at h
  simp only [tvOf,tmem]
  split at h
  ·rename_i he; rw [he]; exact h
  ·cases h
 case call sh f args =>
  simp only [touch] at h
  simp only [tvOf]
  split at h
  ·rename_i he
   rw [he]
   simp only [tmem]
   split at h
   ·cases h
   ·rename_i hn; simpa using hn
  ·cases h
theorem disj_no {id:Nat} {a b:TV} (h:disjB a b=true) (ha:tmem id a) (hb:tmem id b):False:=by
 cases a <;> cases b <;> simp only [tmem] at ha hb <;> try exact ha.elim
 all_goals (try exact hb.elim)
 ·rename_i v w
  simp only [disjB,List.all_eq_true] at h
  have:=h id ha
  simp [hb] at this
 ·simp only [disjB] at h; rw [hb] at h; cases h
 ·simp only [disjB] at h; rw [ha] at h; cases h
 ·simp only [disjB] at h; rw [ha] at h; cases h
theorem xrunOpsH_ok {u:XU} {x y:XCall} {call callP:CallF} (hx:XOK x call) (hy:XOK y callP):∀ (l:List (IOper × List Nat)) (i:Nat) (lg:List (Nat × TV)) (log:List (Nat × Nat)) (s:St) (K:St→Ans) (r:AV),(∀ p ∈ log,∃ e ∈ lg,e.1=p.1∧tmem p.2 e.2) →
 xrunOpsH C0 u x y l i lg s K=some r→∃ s',runOpsD call callP l i log s=some s'∧K s'=some r
 | [],i,lg,log,s,K,r,_,h=>⟨s,rfl,h⟩
 | (o,chk)::l,i,lg,log,s,K,r,hl,h=>by
   simp only [xrunOpsH] at h
   rcases xwant_ok h with ⟨hw,h⟩ | ⟨hw,h⟩
   ·obtain ⟨h,hd⟩:=xdisj_ok h
    obtain ⟨v,H',h1,h2⟩:=xop_ok (hx.sel hy (isFull chk)) h
    have hok:log.all (fun p=>!(chk.contains p.1) || !((touch (evO s.env) s.H o.op).contains p.2))=true:=by
     rw [List.all_eq_true]
     intro p hp
     obtain ⟨e,he,h3,h4⟩:=hl p hp
     cases hc:chk.contains p.1 with
     | false=>rfl
     | true =>
       cases ht:(touch (evO s.env) s.H o.op).contains p.2 with
       | false=>rfl
       | true=>exact (disj_no (hd e he (by rw [h3]; exact hc)) h4 (touch_tv (by simpa using ht))).elim
    obtain ⟨s',h3,h4⟩:=xrunOpsH_ok hx hy l _ _ (log ++ (touch (evO s.env) s.H o.op).map fun id=>(i,id)) _ K r (by
     intro p hp
     rcases List.mem_append.mp hp with hp | hp
     ·obtain ⟨e,he,h3,h4⟩:=hl p hp
      exact ⟨e,List.mem_cons_of_mem _ he,h3,h4⟩
     ·obtain ⟨id,hid,rfl⟩:=List.mem_map.mp hp
      exact ⟨_,List.mem_cons_self ..,rfl,touch_tv hid⟩) h2
    refine ⟨s',?_,h4⟩
    simp only [runOpsD,hw]
    rw [if_pos hok]
    simp only [h1,h3]
   ·obtain ⟨s',h3,h4⟩:=xrunOpsH_ok hx hy l _ _ log _ K r hl h
    exact ⟨s',by simp only [runOpsD,hw,h3],h4⟩

theorem xkeep_ok {A B:Heap} {l:List AV} {K:Ans} {r:AV} (h:xkeep C0 A B l K=some r):keepL A B l=true∧K=some r:=by
 unfold xkeep at h
 split at h
 ·exact ⟨rfl,h⟩
 ·simp only [C0] at h
  split at h
  ·rename_i hk; exact ⟨hk,h⟩
  ·cases h
theorem xlogS_ok {o:SOp} {ev:Opd→AV} {H H':Heap} {K:Ans} {r:AV}:∀ {log:List LogE},xlogS C0 o (namesOf ev o.op.op) H H' log K=some r→(log.all fun e=>!(o.chk.contains e.idx) || logC e o ev H H')=true∧K=some r
 | [],h=>⟨rfl,h⟩
 | e::l,h=>by
   simp only [xlogS] at h
   cases hc:o.chk.contains e.idx with
   | false =>
     rw [hc] at h
     obtain ⟨q1,q2⟩:=xlogS_ok (log:=l) h
     exact ⟨by rw [List.all_cons,q1,hc]; rfl,q2⟩
   | true =>
     rw [hc] at h
     simp only at h
     have fin:∀ {K':Ans},(match chgS o with
      | true=>xkeep C0 H H' e.nm (xlogS C0 o (namesOf ev o.op.op) H H' l K)
      | false=>xlogS C0 o (namesOf ev o.op.op) H H' l K)=some r→(match chgS o with
      | true=>keepL H H' e.nm
      | false=>true)=true∧(l.all fun e=>!(o.chk.contains e.idx) || logC e o ev H H')=true∧K=some r:=by
      intro K' h
      cases hg:chgS o with
      | true =>
        rw [hg] at h
        obtain ⟨q1,q2⟩:=xkeep_ok h
        obtain ⟨q3,q4⟩:=xlogS_ok (log:=l) q2
        exact ⟨q1,q3,q4⟩
      | false =>
        rw [hg] at h
        obtain ⟨q3,q4⟩:=xlogS_ok (log:=l) h
        exact ⟨rfl,q3,q4⟩
     have all:logC e o ev H H'=true→(l.all fun e=>!(o.chk.contains e.idx) || logC e o ev H H')=true→((e::l).all fun e=>!(o.chk.contains e.idx) || logC e o ev H H')=true:=fun h1 h2=>by rw [List.all_cons,h2,h1]; simp
     cases hch:e.chg with
     | none =>
       rw [hch] at h
       obtain ⟨q1,q2,q3⟩:=fin (K':=none) h
       exact ⟨all (by unfold logC; rw [hch]; simp only [Bool.true_and]; exact q1) q2,q3⟩
     | some p =>
       obtain ⟨A,B⟩:=p
       rw [hch] at h
       obtain ⟨q0,h⟩:=xkeep_ok h
       obtain ⟨q1,q2,q3⟩:=fin (K':=none) h
       exact ⟨all (by unfold logC; rw [hch]; simp only [q0,Bool.true_and]; exact q1) q2,q3⟩
theorem makeAt_close {ev:Opd→AV} {id:Nat} {io:IOp}:makeAt (evO []) id (close ev io)=makeAt ev id io:=by
 cases io <;> try rfl
 case mkrow e n ps=>simp only [close,makeAt,List.map_map]; rfl
theorem xstepS_ok {u:XU} {x:XCall} {call:CallF} (hx:XOK x call) {base:Nat} {o:SOp} {env:List AV} {H:Heap} {K:AV→Heap→Ans} {r:AV} (h:xstepS C0 u x base o env H K=some r):∃ v H',stepS call base o ⟨env,H⟩=some (v,H')∧K v H'=some r:=by
 unfold xstepS at h
 unfold stepS
 cases hs:o.slot with
 | none =>
   rw [hs] at h
   exact xop_ok hx h
 | some j =>
   rw [hs] at h
   simp only at h ⊢
   cases ha:allocOp o.op.op with
   | true=>rw [ha] at h; exact ⟨_,_,rfl,h⟩
   | false =>
     rw [ha] at h
     simp only [C0,makeAt_close] at h
     split at h
     ·rename_i v k hk
      exact ⟨v,_,by simp only [hk],h⟩
     ·cases h
theorem xrunOpsS_ok {u:XU} {x:XCall} {call:CallF} (hx:XOK x call) {base:Nat}:∀ (l:List SOp) (i:Nat) (log:List LogE) (s:St) (K:St→Ans) (r:AV),xrunOpsS C0 u x base l i log s K=some r→∃ s',runOpsS call base l i log s=some s'∧K s'=some r
 | [],i,log,s,K,r,h=>⟨s,rfl,h⟩
 | o::l,i,log,s,K,r,h=>by
   simp only [xrunOpsS] at h
   rcases xwant_ok h with ⟨hw,h⟩ | ⟨hw,h⟩
   ·obtain ⟨v,H',h1,h2⟩:=xstepS_ok hx h
    obtain ⟨h3,h4⟩:=xlogS_ok h2
    obtain ⟨h5,h6⟩:=xkeep_ok h4
    obtain ⟨s',h7,h8⟩:=xrunOpsS_ok hx l _ _ _ K r h6
    refine ⟨s',?_,h8⟩
    have hkp:(o.kp.all fun j=>keepB s.H H' (base+j))=true:=by
     rw [List.all_eq_true]
     intro j hj
     have:=List.all_eq_true.mp (List.all_eq_true.mp h5 (.ptr (base+j) 0 0) (List.mem_map.mpr ⟨j,hj,rfl⟩)) (base+j) (by simp [idsOf])
     exact this
    simp only [runOpsS,hw]
    have hs:stepS call base o s=some (v,H'):=h1
    simp only [hs,h3,hkp,Bool.and_self]
    exact h7
   ·obtain ⟨s',h3,h4⟩:=xrunOpsS_ok hx l _ _ _ K r h
    exact ⟨s',by simp only [runOpsS,hw,h3],h4⟩

theorem xexec_ok {x y:XCall} {call callP:CallF} (hx:XOK x call) (hy:XOK y callP) (u:XU) (fu:Nat):∀ (c:IC) (da:List Nat) (s:St) (K:Ex→St→Ans) (r:AV),xexec C0 u x y fu c da s K=some r→∃ e s',exec call callP fu c s=some (e,s')∧K e s'=some r:=by
 intro c
 induction c with
 | skip=>intro da s K r h; exact ⟨_,_,rfl,h⟩
 | reg ops =>
   intro da s K r h
   obtain ⟨s',h1,h2⟩:=xrunOps_ok hx ops s _ r h
   exact ⟨.normal,s',by simp only [exec,h1],h2⟩
 | regD ops =>
   intro da s K r h
   simp only [xexec] at h
   split at h
   ·obtain ⟨s',h1,h2⟩:=xrunOpsH_ok hx hy ops 0 [] [] s _ r (fun p hp=>by cases hp) h
    exact ⟨.normal,s',by simp only [exec,h1],h2⟩
   ·obtain ⟨s',h1,h2⟩:=xrunOpsD_ok hx hy ops 0 [] s _ r h
    exact ⟨.normal,s',by simp only [exec,h1],h2⟩
 | regS ops =>
   intro da s K r h
   simp only [xexec] at h
   split at h
   ·simp only [C0] at h
    obtain ⟨s',h1,h2⟩:=xrunOpsS_ok hx ops 0 [] _ _ r h
    exact ⟨.normal,s',by simp only [exec,h1],h2⟩
   ·cases h
 | seq a b iha ihb =>
   intro da s K r h
   simp only [xexec] at h
   split at h
   case h_2 =>
    simp only [C0,xiter] at h
    obtain ⟨e,s1,h1,h2⟩:=iha _ s _ r (destrE_sound h)
    cases e with
    | normal =>
      simp only [xgo,if_true] at h2
      obtain ⟨e,s',h3,h4⟩:=ihb _ s1 K r (destrE_sound h2)
      exact ⟨e,s',by simp only [exec,h1,h3],h4⟩
    | exit i =>
      simp only at h2
      split at h2
      ·cases h2
      ·rename_i hi
       have hi:=of_decide_eq_false hi
       simp only [xgo,if_neg hi] at h2
       exact ⟨_,s1,by simp only [exec,h1],destrE_sound (xgo_ok (f:=fun i s1=>destrE C0 u da (daX a da i) a s s1 fun s2=>K (.exit i) s2) _ h2)⟩
    | ret =>
      have h3:=destrE_sound h2
      split at h3
      ·exact ⟨_,s1,by simp only [exec,h1],h3⟩
      ·cases h3
   obtain ⟨e,s1,h1,h2⟩:=iha _ s _ r h
   cases e with
   | normal =>
     obtain ⟨e,s',h3,h4⟩:=ihb _ s1 K r h2
     exact ⟨e,s',by simp only [exec,h1,h3],h4⟩
   | exit i=>exact ⟨.exit i,s1,by simp only [exec,h1],h2⟩
   | ret=>exact ⟨.ret,s1,by simp only [exec,h1],h2⟩
 | cond c a b iha ihb =>
   intro da s K r h
   cases c with
   | t n =>
     simp only [xexec] at h
     split at h <;> (try (cases h; done))
     rename_i t ht
     rcases cnd_some h with ⟨h0,h⟩ | ⟨h0,h⟩
     ·subst h0; rw [set_same ht (by simp)] at h
      obtain ⟨e,s',h1,h2⟩:=iha _ s K r h
      exact ⟨e,s',by simp only [exec,evO,ht,cond_true,h1],h2⟩
     ·subst h0; rw [set_same ht (by simp)] at h
      obtain ⟨e,s',h1,h2⟩:=ihb _ s K r h
      exact ⟨e,s',by simp only [exec,evO,ht,cond_false,h1],h2⟩
   | v c =>
     simp only [xexec] at h
     split at h <;> (try (cases h; done))
     rename_i t
     rcases cnd_some h with ⟨h0,h⟩ | ⟨h0,h⟩
     ·subst h0
      obtain ⟨e,s',h1,h2⟩:=iha _ s K r h
      exact ⟨e,s',by simp only [exec,evO,cond_true,h1],h2⟩
     ·subst h0
      obtain ⟨e,s',h1,h2⟩:=ihb _ s K r h
      exact ⟨e,s',by simp only [exec,evO,cond_false,h1],h2⟩
 | block id a iha =>
   intro da s K r h
   obtain ⟨e,s1,h1,h2⟩:=iha _ s _ r h
   cases e with
   | normal=>exact ⟨.normal,s1,by simp only [exec,h1],h2⟩
   | ret=>exact ⟨.ret,s1,by simp only [exec,h1],h2⟩
   | exit i =>
     simp only at h2
     split at h2
     ·rename_i hi
      have hi:=of_decide_eq_true hi
      exact ⟨.normal,s1,by simp only [exec,h1,hi,if_true],h2⟩
     ·rename_i hi
      have hi:=of_decide_eq_false hi
      exact ⟨.exit i,s1,by simp only [exec,h1,hi,if_false],h2⟩
 | loop a iha =>
   intro da s K r h
   have key2:∀ (n:Nat) (s0:St) (K':Ex→St→Ans),xiter (fun s1 Kn=>xexec C0 u x y fu a da s1 Kn) n s0 K'=some r→∃ e s',iter (exec call callP fu a) n s0=some (e,s')∧K' e s'=some r:=by
    intro n
    induction n with
    | zero=>intro s0 K' h; simp [xiter] at h
    | succ n ih =>
      intro s0 K' h
      simp only [xiter] at h
      obtain ⟨e,s1,h1,h2⟩:=iha _ s0 _ r h
      cases e with
      | normal =>
        obtain ⟨e,s',h3,h4⟩:=ih s1 K' h2
        exact ⟨e,s',by simp only [iter,h1,h3],h4⟩
      | exit i=>exact ⟨.exit i,s1,by simp only [iter,h1],h2⟩
      | ret=>exact ⟨.ret,s1,by simp only [iter,h1],h2⟩
   have key:∀ (n:Nat) (s0:St) (K':Ex→St→Ans),xiter (fun s1 Kn=>destrE C0 u da [] a s s1 fun s2=>xexec C0 u x y fu a da s2 Kn) n s0 K'=some r→∃ e s',iter (exec call callP fu a) n s0=some (e,s')∧K' e s'=some r:=by
    intro n
    induction n with
    | zero=>intro s0 K' h; simp [xiter] at h
    | succ n ih =>
      intro s0 K' h
      simp only [xiter] at h
      obtain ⟨e,s1,h1,h2⟩:=iha _ s0 _ r (destrE_sound h)
      cases e with
      | normal =>
        obtain ⟨e,s',h3,h4⟩:=ih s1 K' h2
        exact ⟨e,s',by simp only [iter,h1,h3],h4⟩
      | exit i=>exact ⟨.exit i,s1,by simp only [iter,h1],h2⟩
      | ret=>exact ⟨.ret,s1,by simp only [iter,h1],h2⟩
   simp only [xexec] at h
   cases hun:u.un with
   | true=>rw [hun] at h; exact key2 fu s K h
   | false =>
     rw [hun] at h
     obtain ⟨e,s',h1,h2⟩:=key fu s _ h
     cases e with
     | normal=>cases h2
     | exit i=>exact ⟨_,s',h1,destrE_sound (xgo_ok (f:=fun i s1=>destrE C0 u da (daX a da i) a s s1 fun s2=>K (.exit i) s2) _ h2)⟩
     | ret=>exact ⟨_,s',h1,destrE_sound h2⟩
 | exit id=>intro da s K r h; exact ⟨_,_,rfl,h⟩
 | ret=>intro da s K r h; exact ⟨_,_,rfl,h⟩

theorem xresAll_ok {s:St}:∀ {l:List RV} {K:List AV→Ans} {r:AV},xresAll C0 s l K=some r→∃ vs,resAll s l=some vs∧K vs=some r
 | [],K,r,h=>⟨[],rfl,h⟩
 | .tmp t::l,K,r,h=>by
   obtain ⟨vs,h1,h2⟩:=xresAll_ok (l:=l) h
   exact ⟨_,by simp only [resAll,resOf,h1],h2⟩
 | .cell ag n t::l,K,r,h=>by
   have h:(match (match aLoad s.H ag n (s.env.getD t .undef) with
    | some v=>some (v,s.H)
    | none=>none:Option (AV × Heap)) with
    | some (v,_)=>xresAll C0 s l fun vs=>K (v::vs)
    | none=>none)=some r:=h
   cases ha:aLoad s.H ag n (s.env.getD t .undef) with
   | none=>rw [ha] at h; cases h
   | some v =>
     rw [ha] at h
     obtain ⟨vs,h1,h2⟩:=xresAll_ok (l:=l) h
     exact ⟨_,by simp only [resAll,resOf,ha,h1],h2⟩

theorem xrunFn_ok {un:XU} {x y:XCall} {call callP:CallF} (hx:XOK x call) (hy:XOK y callP) {fu:Nat} {fn:AFn} {args:List AV} {H:Heap} {K:AV→Heap→Ans} {r:AV} (h:xrunFn C0 un x y fu fn args H K=some r) :
 ∃ v H',runFn call callP fu fn args H=some (v,H')∧K v H'=some r:=by
 unfold xrunFn at h
 obtain ⟨e,s',h1,h2⟩:=xexec_ok hx hy un fu _ _ _ _ r h
 unfold runFn
 rw [h1]
 cases e with
 | exit i=>cases h2
 | normal =>
   simp only at h2 ⊢
   cases hm:un.hm <;> simp only [hm] at h2
   ·cases hr:resAll s' fn.results with
    | none=>simp [hr] at h2
    | some vs=>simp only [hr] at h2; exact ⟨_,_,rfl,h2⟩
   ·obtain ⟨vs,h3,h4⟩:=xresAll_ok h2
    simp only [h3]; exact ⟨_,_,rfl,h4⟩
 | ret =>
   simp only at h2 ⊢
   cases hm:un.hm <;> simp only [hm] at h2
   ·cases hr:resAll s' fn.results with
    | none=>simp [hr] at h2
    | some vs=>simp only [hr] at h2; exact ⟨_,_,rfl,h2⟩
   ·obtain ⟨vs,h3,h4⟩:=xresAll_ok h2
    simp only [h3]; exact ⟨_,_,rfl,h4⟩

theorem xempty_ok {M:Mod} {pc:PC} {g:FuncId} {args:List AV} {H:Heap} {K:AV→Heap→Ans} {rest:Ans} {r:AV} (h:xempty C0 M pc g args H K rest=some r) :
 (∃ v,emptyR M pc g args=some v∧K v H=some r) ∨ (emptyR M pc g args=none∧rest=some r):=by
 unfold xempty at h
 unfold emptyR
 cases hc:M.cl g with
 | false=>simp only [hc] at h; exact .inr ⟨rfl,h⟩
 | true =>
   simp only [hc] at h
   match args,h with
   | [],h=>exact .inr ⟨rfl,h⟩
   | [x],h =>
     simp only [C0] at h
     obtain ⟨b,hb,h⟩:=Option.bind_eq_some_iff.mp h
     have hx:clr x=some (.bool b):=by
      unfold isBool at hb
      split at hb <;> (try (cases hb; done))
      cases hb; assumption
     simp only [hx]
     cases b with
     | false=>exact .inr ⟨rfl,h⟩
     | true =>
       simp only [cnd] at h
       split at h
       ·rename_i he
        exact .inl ⟨_,he,h⟩
       ·cases h
   | _::_::_,h=>exact .inr ⟨rfl,h⟩

theorem xcallZ_ok (M:Mod) (pc:PC):XOK (xcallZ C0 M pc) (callZ M pc):=by
 intro sn sh g args H K r h
 unfold xcallZ at h
 unfold callZ
 cases he:M.ext g with
 | some e =>
   simp only [he,xext] at h
   obtain ⟨v,h1,h2⟩:=destr_sound _ _ _ _ h
   exact ⟨v,H,by simp [extCall,h1],h2⟩
 | none =>
   simp only [he] at h
   cases hi:M.inl g <;> simp only [hi] at h
   ·obtain ⟨v,H',h1,h2⟩:=xpure_ok pc _ _ _ _ _ _ _ h
    exact ⟨v,H',by simp [h1],h2⟩
   ·rcases xempty_ok h with ⟨v,h1,h2⟩ | ⟨h1,h⟩
    ·exact ⟨v,H,by simp [h1],h2⟩
    ·obtain ⟨v,H',h2,h3⟩:=xpure_ok pc _ _ _ _ _ _ _ h
     exact ⟨v,H',by simp [h1,h2],h3⟩

theorem xfresh_ok {un:XU} {x y:XCall} {call callP:CallF} (hx:XOK x call) (hy:XOK y callP) {fu:Nat} {fn:AFn} {args:List AV} {H:Heap} {K:AV→Heap→Ans} {r:AV} (h:xfresh C0 un x y fu fn args H K=some r) :
 ∃ v H',freshRun (runFn call callP fu fn) args H=some (v,H')∧K v H'=some r:=by
 unfold xfresh at h
 obtain ⟨v,H1,h1,h2⟩:=xrunFn_ok hx hy h
 unfold freshRun
 rw [h1]
 simp only
 cases hp:padOk H.length H1 with
 | false=>simp [hp] at h2
 | true=>simp only [hp] at h2 ⊢; exact ⟨_,_,rfl,h2⟩

theorem xcallB_ok (M:Mod) (U:FuncId→XU) (pc:PC):∀ n b,XOK (xcallB C0 M U pc n b) (callB M pc n b)
 | 0,_=>xcallZ_ok M pc
 | n+1,b=>by
   intro sn sh g args H K r h
   simp only [xcallB] at h
   cases he:M.ext g with
   | some e =>
     simp only [he,xext] at h
     obtain ⟨v,h1,h2⟩:=destr_sound _ _ _ _ h
     exact ⟨v,H,by simp [callB,he,extCall,h1],h2⟩
   | none =>
     simp only [he] at h
     cases hi:M.inl g <;> simp only [hi] at h
     ·obtain ⟨v,H',h1,h2⟩:=xpure_ok pc _ _ _ _ _ _ _ h
      exact ⟨v,H',by simp [callB,he,hi,h1],h2⟩
     ·split at h
      ·change (match callB M pc (n+1) b g args H with
        | some (v,H')=>destr C0 sh (some v) fun v'=>K v' H'
        | none=>none)=some r at h
       cases hc:callB M pc (n+1) b g args H with
       | none=>rw [hc] at h; cases h
       | some p =>
         rw [hc] at h
         obtain ⟨v',h1,h2⟩:=destr_sound _ _ _ _ h
         cases h1
         exact ⟨p.1,p.2,rfl,h2⟩
      ·rcases xempty_ok h with ⟨v,hv,h2⟩ | ⟨hn,h⟩
       ·exact ⟨v,H,by simp [callB,he,hi,hv],h2⟩
       ·cases b with
        | true =>
          cases hc:M.code g args.length with
          | none=>simp [hc] at h
          | some fn =>
            simp only [hc] at h
            obtain ⟨v,H',h1,h2⟩:=xrunFn_ok (xcallB_ok M U pc n true) (xcallB_ok M U pc n false) h
            exact ⟨v,H',by simp [callB,he,hi,hn,hc,h1],h2⟩
        | false =>
          simp only at h
          cases hf:(M.fr g && args.all (noId DEPTH)) with
          | false =>
            simp only [hf] at h
            obtain ⟨v,H',h1,h2⟩:=xpure_ok pc _ _ _ _ _ _ _ h
            exact ⟨v,H',by simp only [callB,he,hi,hn,hf,h1]; rfl,h2⟩
          | true =>
            simp only [hf] at h
            cases hc:M.code g args.length with
            | none=>simp [hc] at h
            | some fn =>
              simp only [hc] at h
              obtain ⟨v,H',h1,h2⟩:=xfresh_ok (xcallB_ok M U pc n true) (xcallB_ok M U pc n false) h
              exact ⟨v,H',by simp only [callB,he,hi,hn,hf,hc,h1]; rfl,h2⟩

theorem xcall_ok {M:Mod} {U:FuncId→XU} {d:Nat} {g:FuncId} {args:List AV} {r:AV} (h:xcall C0 M U d g args=some r):pcall M (d+1) g args=some r:=by
 unfold xcall at h
 simp only [pcall]
 cases hc:M.code g args.length with
 | none=>simp [hc] at h
 | some fn =>
   simp only [hc] at h
   obtain ⟨v,H',h1,h2⟩:=xrunFn_ok (xcallB_ok M U (pcall M d) IDEPTH true) (xcallB_ok M U (pcall M d) IDEPTH false) h
   simp only [h1]
   split at h2
   ·exact h2
   ·exact h2
theorem xmeth_ok {M:Mod} {U:FuncId→XU} {d n:Nat} {g:FuncId} {args:List AV} {H H':Heap} {v:AV} (he:M.ext g=none) (hi:M.inl g=true) (hn:M.cl g=false) (h:∀ K,xmeth C0 M U d n g args H K=K v H'):callB M (pcall M d) (n+1) true g args H=some (v,H'):=by
 classical
 have hk:=h fun v' H1=>if v'=v∧H1=H' then some .undef else none
 rw [if_pos ⟨rfl,rfl⟩] at hk
 unfold xmeth at hk
 have hem:emptyR M (pcall M d) g args=none:=by simp [emptyR,hn]
 simp only [callB,he,hi,hem,if_true]
 cases hc:M.code g args.length with
 | none=>simp [hc] at hk
 | some fn =>
   simp only [hc] at hk ⊢
   obtain ⟨v',H1,h1,h2⟩:=xrunFn_ok (xcallB_ok M U (pcall M d) n true) (xcallB_ok M U (pcall M d) n false) hk
   split at h2
   ·rename_i hh
    obtain ⟨rfl,rfl⟩:=hh
    exact h1
   ·cases h2
end Go.Proofs.Ytdceaeifcniabaa.AE

namespace Go.Proofs.Ytdceaeifcniabaa.AE
set_option linter.unusedVariables false
set_option linter.unusedSimpArgs false
set_option linter.constructorNameAsVariable false
open Go Go.RowKit
set_option maxRecDepth 100000
theorem szT:∃ i,Try.prog.info? 2=some i∧i.size=1:=⟨_,rfl,rfl⟩
def codes:FuncId→Nat→Option AFn
 | 3,_=>some c3
 | 7,_=>some c7
 | 8,_=>some c8
 | 9,_=>some c9
 | 10,_=>some c10
 | 11,_=>some c11
 | 12,_=>some c12
 | 13,_=>some c13
 | 14,_=>some c14
 | 15,_=>some c15
 | 16,_=>some c16
 | 17,_=>some c17
 | 18,_=>some c18
 | 19,_=>some c19
 | 20,_=>some c20
 | 21,_=>some c21
 | 22,_=>some c22
 | 23,_=>some c23
 | 24,_=>some c24
 | 25,_=>some c25
 | 26,_=>some c26
 | 27,_=>some c27
 | 28,_=>some c28
 | 29,_=>some c29
 | 30,_=>some c30
 | 31,_=>some c31
 | 32,_=>some c32
 | 33,_=>some c33
 | 34,_=>some c34
 | 35,_=>some c35
 | 36,_=>some c36
 | 37,_=>some c37
 | 38,_=>some c38
 | 39,_=>some c39
 | 40,_=>some c40
 | 41,_=>some c41
 | 42,_=>some c42
 | 43,_=>some c43
 | 44,_=>some c44
 | 45,_=>some c45
 | 46,_=>some c46
 | 47,_=>some c47
 | 50,_=>some c50
 | 51,_=>some c51
 | 52,_=>some c52
 | 53,_=>some c53
 | 54,_=>some c54
 | 55,_=>some c55
 | 57,_=>some c57
 | 58,_=>some c58
 | 59,_=>some c59
 | 60,_=>some c60
 | 61,_=>some c61
 | 62,_=>some c62
 | 63,_=>some c63
 | 64,_=>some c64
 | 65,_=>some c65
 | 66,_=>some c66
 | 67,_=>some c67
 | 68,_=>some c68
 | 69,_=>some c69
 | 70,_=>some c70
 | 71,_=>some c71
 | 72,_=>some c72
 | 73,_=>some c73
 | 74,_=>some c74
 | 75,_=>some c75
 | 76,_=>some c76
 | 77,_=>some c77
 | 78,_=>some c78
 | 79,_=>some c79
 | 80,_=>some c80
 | 81,_=>some c81
 | 82,_=>some c82
 | 83,_=>some c83
 | 84,_=>some c84
 | 85,_=>some c85
 | 86,_=>some c86
 | 87,_=>some c87
 | 48,2=>some (storeC .i64)
 | 49,1=>some (loadC .i64)
 | 56,3=>some (casC .i64)
 | _,_=>none
def exts:FuncId→Option (List AV→Option AV)
 | _=>none
def clF (g:FuncId):Bool:=[34,35].contains g
def frF (g:FuncId):Bool:=[23,35,24,9].contains g
def M:Mod:={ code:=codes,inl:=inlF,ext:=exts,fu:=10000000000000000000,cl:=clF,fr:=frF }
def hm34:List (Nat × Sh):=rlx h34
def hm3:List (Nat × Sh):=rlx h3
def hm7:List (Nat × Sh):=rlx h7
def hm38:List (Nat × Sh):=rlx h38
def hm39:List (Nat × Sh):=rlx h39
def hm47:List (Nat × Sh):=rlx h47
def hm9:List (Nat × Sh):=rlx h9
def hm11:List (Nat × Sh):=rlx h11
def hm13:List (Nat × Sh):=rlx h13
def hm15:List (Nat × Sh):=rlx h15
def hm16:List (Nat × Sh):=rlx h16
def hm17:List (Nat × Sh):=rlx h17
def hm18:List (Nat × Sh):=rlx h18
def hm20:List (Nat × Sh):=rlx h20
def hm23:List (Nat × Sh):=rlx h23
def hm32:List (Nat × Sh):=rlx h32
def hm35:List (Nat × Sh):=rlx h35
def hm24:List (Nat × Sh):=rlx h24
def hm27:List (Nat × Sh):=rlx h27
def hm28:List (Nat × Sh):=rlx h28
def hm29:List (Nat × Sh):=rlx h29
def hm30:List (Nat × Sh):=rlx h30
def hm37:List (Nat × Sh):=rlx h37
def hm12:List (Nat × Sh):=rlx h12
def hm14:List (Nat × Sh):=rlx h14
def hm21:List (Nat × Sh):=rlx h21
def hm46:List (Nat × Sh):=rlx h46
def hm66:List (Nat × Sh):=rlx h66
def hm72:List (Nat × Sh):=rlx h72
def hm77:List (Nat × Sh):=rlx h77
def hm78:List (Nat × Sh):=rlx h78
def unr:FuncId→XU
 | 3=>⟨false,true,hm3,true,false⟩
 | 7=>⟨false,true,hm7,false,false⟩
 | 8=>⟨false,false,h8,false,false⟩
 | 9=>⟨false,true,hm9,false,true⟩
 | 10=>⟨false,false,h10,false,false⟩
 | 11=>⟨false,true,hm11,false,true⟩
 | 12=>⟨false,true,hm12,false,true⟩
 | 13=>⟨false,true,hm13,false,true⟩
 | 14=>⟨false,true,hm14,false,true⟩
 | 15=>⟨false,true,hm15,false,true⟩
 | 16=>⟨false,true,hm16,false,true⟩
 | 17=>⟨false,true,hm17,false,true⟩
 | 18=>⟨false,true,hm18,false,true⟩
 | 19=>⟨false,false,h19,false,false⟩
 | 20=>⟨false,true,hm20,false,true⟩
 | 21=>⟨false,true,hm21,false,false⟩
 | 22=>⟨false,false,h22,false,false⟩
 | 23=>⟨false,true,hm23,false,true⟩
 | 24=>⟨false,true,hm24,false,true⟩
 | 25=>⟨false,false,h25,false,false⟩
 | 26=>⟨false,false,h26,false,false⟩
 | 27=>⟨false,true,hm27,false,true⟩
 | 28=>⟨false,true,hm28,false,true⟩
 | 29=>⟨false,true,hm29,false,true⟩
 | 30=>⟨false,true,hm30,false,true⟩
 | 31=>⟨false,false,h31,false,false⟩
 | 32=>⟨false,true,hm32,false,true⟩
 | 33=>⟨false,false,h33,false,false⟩
 | 34=>⟨false,true,hm34,false,false⟩
 | 35=>⟨false,true,hm35,false,true⟩
 | 36=>⟨false,false,h36,false,false⟩
 | 37=>⟨false,true,hm37,false,true⟩
 | 38=>⟨false,true,hm38,false,false⟩
 | 39=>⟨false,true,hm39,false,false⟩
 | 40=>⟨false,false,h40,false,false⟩
 | 41=>⟨false,false,h41,false,false⟩
 | 42=>⟨false,false,h42,false,false⟩
 | 43=>⟨false,false,h43,false,false⟩
 | 44=>⟨false,false,h44,false,false⟩
 | 45=>⟨false,false,h45,false,false⟩
 | 46=>⟨false,true,hm46,false,false⟩
 | 47=>⟨false,true,hm47,false,false⟩
 | 50=>⟨false,false,h50,false,false⟩
 | 51=>⟨false,false,h51,false,false⟩
 | 52=>⟨false,false,h52,false,false⟩
 | 53=>⟨false,false,h53,false,false⟩
 | 54=>⟨false,false,h54,false,false⟩
 | 55=>⟨false,false,h55,false,false⟩
 | 57=>⟨false,false,h57,false,false⟩
 | 58=>⟨false,false,h58,false,false⟩
 | 59=>⟨false,false,h59,false,false⟩
 | 60=>⟨false,false,h60,false,false⟩
 | 61=>⟨false,false,h61,false,false⟩
 | 62=>⟨false,false,h62,false,false⟩
 | 63=>⟨false,false,h63,false,false⟩
 | 64=>⟨false,false,h64,false,false⟩
 | 65=>⟨false,false,h65,false,false⟩
 | 66=>⟨false,true,hm66,false,false⟩
 | 67=>⟨false,false,h67,false,false⟩
 | 68=>⟨false,false,h68,false,false⟩
 | 69=>⟨false,false,h69,false,false⟩
 | 70=>⟨false,false,h70,false,false⟩
 | 71=>⟨false,false,h71,false,false⟩
 | 72=>⟨false,true,hm72,false,false⟩
 | 73=>⟨false,false,h73,false,false⟩
 | 74=>⟨false,false,h74,false,false⟩
 | 75=>⟨false,false,h75,false,false⟩
 | 76=>⟨false,false,h76,false,false⟩
 | 77=>⟨false,true,hm77,false,false⟩
 | 78=>⟨false,true,hm78,false,false⟩
 | 79=>⟨false,false,h79,false,false⟩
 | 80=>⟨false,false,h80,false,false⟩
 | 81=>⟨false,false,h81,false,false⟩
 | 82=>⟨false,false,h82,false,false⟩
 | 83=>⟨false,false,h83,false,false⟩
 | 84=>⟨false,false,h84,false,false⟩
 | 85=>⟨false,false,h85,false,false⟩
 | 86=>⟨false,false,h86,false,false⟩
 | 87=>⟨false,false,h87,false,false⟩
 | 48=>⟨false,true,[],false,false⟩
 | 49=>⟨false,true,[(1,.i .i64)],false,false⟩
 | 56=>⟨false,true,[(3,.i .i64)],false,false⟩
 | _=>⟨false,false,[],false,false⟩
theorem modOK:ModOK Try.prog M:=by
 constructor
 ·intro g n fn h
  change codes g n=some fn at h
  unfold codes at h
  split at h <;> (try (cases h; done))
  ·cases h; exact fnOK_of c3_ok
  ·cases h; exact fnOK_of c7_ok
  ·cases h; exact fnOK_of c8_ok
  ·cases h; exact fnOK_of c9_ok
  ·cases h; exact fnOK_of c10_ok
  ·cases h; exact fnOK_of c11_ok
  ·cases h; exact fnOK_of c12_ok
  ·cases h; exact fnOK_of c13_ok
  ·cases h; exact fnOK_of c14_ok
  ·cases h; exact fnOK_of c15_ok
  ·cases h; exact fnOK_of c16_ok
  ·cases h; exact fnOK_of c17_ok
  ·cases h; exact fnOK_of c18_ok
  ·cases h; exact fnOK_of c19_ok
  ·cases h; exact fnOK_of c20_ok
  ·cases h; exact fnOK_of c21_ok
  ·cases h; exact fnOK_of c22_ok
  ·cases h; exact fnOK_of c23_ok
  ·cases h; exact fnOK_of c24_ok
  ·cases h; exact fnOK_of c25_ok
  ·cases h; exact fnOK_of c26_ok
  ·cases h; exact fnOK_of c27_ok
  ·cases h; exact fnOK_of c28_ok
  ·cases h; exact fnOK_of c29_ok
  ·cases h; exact fnOK_of c30_ok
  ·cases h; exact fnOK_of c31_ok
  ·cases h; exact fnOK_of c32_ok
  ·cases h; exact fnOK_of c33_ok
  ·cases h; exact fnOK_of c34_ok
  ·cases h; exact fnOK_of c35_ok
  ·cases h; exact fnOK_of c36_ok
  ·cases h; exact fnOK_of c37_ok
  ·cases h; exact fnOK_of c38_ok
  ·cases h; exact fnOK_of c39_ok
  ·cases h; exact fnOK_of c40_ok
  ·cases h; exact fnOK_of c41_ok
  ·cases h; exact fnOK_of c42_ok
  ·cases h; exact fnOK_of c43_ok
  ·cases h; exact fnOK_of c44_ok
  ·cases h; exact fnOK_of c45_ok
  ·cases h; exact fnOK_of c46_ok
  ·cases h; exact fnOK_of c47_ok
  ·cases h; exact fnOK_of c50_ok
  ·cases h; exact fnOK_of c51_ok
  ·cases h; exact fnOK_of c52_ok
  ·cases h; exact fnOK_of c53_ok
  ·cases h; exact fnOK_of c54_ok
  ·cases h; exact fnOK_of c55_ok
  ·cases h; exact fnOK_of c57_ok
  ·cases h; exact fnOK_of c58_ok
  ·cases h; exact fnOK_of c59_ok
  ·cases h; exact fnOK_of c60_ok
  ·cases h; exact fnOK_of c61_ok
  ·cases h; exact fnOK_of c62_ok
  ·cases h; exact fnOK_of c63_ok
  ·cases h; exact fnOK_of c64_ok
  ·cases h; exact fnOK_of c65_ok
  ·cases h; exact fnOK_of c66_ok
  ·cases h; exact fnOK_of c67_ok
  ·cases h; exact fnOK_of c68_ok
  ·cases h; exact fnOK_of c69_ok
  ·cases h; exact fnOK_of c70_ok
  ·cases h; exact fnOK_of c71_ok
  ·cases h; exact fnOK_of c72_ok
  ·cases h; exact fnOK_of c73_ok
  ·cases h; exact fnOK_of c74_ok
  ·cases h; exact fnOK_of c75_ok
  ·cases h; exact fnOK_of c76_ok
  ·cases h; exact fnOK_of c77_ok
  ·cases h; exact fnOK_of c78_ok
  ·cases h; exact fnOK_of c79_ok
  ·cases h; exact fnOK_of c80_ok
  ·cases h; exact fnOK_of c81_ok
  ·cases h; exact fnOK_of c82_ok
  ·cases h; exact fnOK_of c83_ok
  ·cases h; exact fnOK_of c84_ok
  ·cases h; exact fnOK_of c85_ok
  ·cases h; exact fnOK_of c86_ok
  ·cases h; exact fnOK_of c87_ok
  ·cases h; exact store_fnOK Try.func48 (by kernel_rfl) (by kernel_rfl) (by kernel_rfl) szT (by kernel_rfl)
  ·cases h; exact load_fnOK Try.func49 (by kernel_rfl) (by kernel_rfl) (by kernel_rfl) (by kernel_rfl)
  ·cases h; exact cas_fnOK Try.func56 (by kernel_rfl) (by kernel_rfl) (by kernel_rfl) szT (by kernel_rfl)
 ·intro g e h
  change exts g=some e at h
  unfold exts at h
  split at h <;> (try (cases h; done))
end Go.Proofs.Ytdceaeifcniabaa.AE

namespace Go.Proofs.Ytdceaeifcniabaa.AE
set_option linter.unusedVariables false
set_option linter.unusedSimpArgs false
set_option linter.constructorNameAsVariable false
open Go

theorem C0_int (k:IntKind) (n:Int) (K:Int→Ans):C0.int k (some (.int k n)) K=K n:=by simp [C0,isInt]
theorem C0_bool (b:Bool) (K:Bool→Ans):C0.bool (some (.bool b)) K=K b:=by simp [C0,isBool]
theorem C0_str (b:List UInt8) (K:List UInt8→Ans):C0.str (some (.str b)) K=K b:=by simp [C0,isStr]
theorem C0_lst (l:List AV) (K:List AV→Ans) (Z:Bool→Ans):C0.lst (some (.lst l)) K Z=K l:=rfl
theorem C0_lstz (b:Bool) (K:List AV→Ans) (Z:Bool→Ans):C0.lst (some (.zsl b)) K Z=Z b:=rfl
theorem C0_agg (n:Nat) (l:List AV) (h:l.length=n) (K:List AV→Ans):C0.agg n (some (.agg l)) K=K l:=by simp [C0,isAgg,h]
theorem C0_tup (n:Nat) (l:List AV) (h:l.length=n) (K:List AV→Ans):C0.tup n (some (.tup l)) K=K l:=by simp [C0,isTup,h]
theorem C0_agg2 (a b:AV) (K:List AV→Ans):C0.agg 2 (some (.agg [a,b])) K=K [a,b]:=C0_agg 2 _ rfl K
theorem C0_tup2 (a b:AV) (K:List AV→Ans):C0.tup 2 (some (.tup [a,b])) K=K [a,b]:=C0_tup 2 _ rfl K
theorem C0_any (v:AV) (K:AV→Ans):C0.any (some v) K=K v:=by simp [C0]
theorem C0_same (v:AV) (K:Ans):C0.same (some v) v K=K:=by simp [C0]
theorem C0_sameH (H:Heap) (K:Ans):C0.sameH H H K=K:=by simp [C0]
theorem cnd_t (a b:Ans):cnd true a b=a:=rfl
theorem cnd_f (a b:Ans):cnd false a b=b:=rfl
theorem pl_len {t:Bool} {a b:Ans} (h:t=true):cnd t a b=a:=by subst h; rfl
theorem pl_f {t:Bool} {a b:Ans} (h:t=false):cnd t a b=b:=by subst h; rfl
theorem pl_same {o:Option AV} {v:AV} {K:Ans} (h:o=some v):C0.same o v K=K:=by subst h; simp [C0]
theorem pl_sameH {H:Heap} {K:Ans}:C0.sameH H H K=K:=by simp [C0]
theorem pl_int {k:IntKind} {o:Option AV} {n:Int} {K:Int→Ans} (h:o=some (.int k n)):C0.int k o K=K n:=by subst h; simp [C0,isInt]
theorem pl_bool {o:Option AV} {n:Bool} {K:Bool→Ans} (h:o=some (.bool n)):C0.bool o K=K n:=by subst h; simp [C0,isBool]
theorem pl_str {o:Option AV} {n:List UInt8} {K:List UInt8→Ans} (h:o=some (.str n)):C0.str o K=K n:=by subst h; simp [C0,isStr]
theorem pl_any {o:Option AV} {v:AV} {K:AV→Ans} (h:o=some v):C0.any o K=K v:=by subst h; simp [C0]
theorem pl_agg {n:Nat} {o:Option AV} {l:List AV} {K:List AV→Ans} (h:o=some (.agg l)) (h2:l.length=n):C0.agg n o K=K l:=by subst h; simp [C0,isAgg,h2]
theorem pl_tup {n:Nat} {o:Option AV} {l:List AV} {K:List AV→Ans} (h:o=some (.tup l)) (h2:l.length=n):C0.tup n o K=K l:=by subst h; simp [C0,isTup,h2]
theorem pl_lst {o:Option AV} {l:List AV} {K:List AV→Ans} {Z:Bool→Ans} (h:o=some (.lst l)):C0.lst o K Z=K l:=by subst h; rfl
def kIter (R:St→(Ex→St→Ans)→Ans) (n:Nat) (K:Ex→St→Ans):Ex→St→Ans:=fun e s'=>match e with
 | .normal=>xiter R n s' K
 | .exit i=>K (.exit i) s'
 | .ret=>K .ret s'
def kOut (ids:List Nat) (ks:List (St→Ans)) (kr:St→Ans):Ex→St→Ans:=fun e s'=>match e with
 | .ret=>kr s'
 | .exit i=>xgo i ids ks s'
 | .normal=>none
theorem kIter_n (R:St→(Ex→St→Ans)→Ans) (n:Nat) (K:Ex→St→Ans) (s:St):kIter R n K .normal s=xiter R n s K:=rfl
theorem kIter_x (R:St→(Ex→St→Ans)→Ans) (n:Nat) (K:Ex→St→Ans) (i:Nat) (s:St):kIter R n K (.exit i) s=K (.exit i) s:=rfl
theorem kIter_r (R:St→(Ex→St→Ans)→Ans) (n:Nat) (K:Ex→St→Ans) (s:St):kIter R n K .ret s=K .ret s:=rfl
theorem kOut_x (ids:List Nat) (ks:List (St→Ans)) (kr:St→Ans) (i:Nat) (s:St):kOut ids ks kr (.exit i) s=xgo i ids ks s:=rfl
theorem kOut_r (ids:List Nat) (ks:List (St→Ans)) (kr:St→Ans) (s:St):kOut ids ks kr .ret s=kr s:=rfl
theorem it_ret (R:St→(Ex→St→Ans)→Ans) (n:Nat) (s:St) (ids:List Nat) (ks:List (St→Ans)) (kr:St→Ans):C0.iter R n s ids ks kr=xiter R n s (kOut ids ks kr):=rfl
theorem xiter_s (R:St→(Ex→St→Ans)→Ans) (n:Nat) (s:St) (K:Ex→St→Ans):xiter R (n+1) s K=R s (kIter R n K):=rfl
theorem xgo_hit (i:Nat) (ids:List Nat) (k:St→Ans) (ks:List (St→Ans)) (s:St):xgo i (i::ids) (k::ks) s=k s:=by simp [xgo]
theorem xgo_miss {i j:Nat} (ids:List Nat) (k:St→Ans) (ks:List (St→Ans)) (s:St) (h:(i == j)=false):xgo i (j::ids) (k::ks) s=xgo i ids ks s:=by
 simp only [xgo]; rw [if_neg]; intro he; subst he; simp at h
theorem C0_hop (H:Heap) (io:IOp) (K:AV→Heap→Ans):C0.hop H io K=match aop noCall (evO []) H io with
 | some (v,H')=>K v H'
 | none=>none:=rfl
theorem hop_eq {H H':Heap} {io:IOp} {v:AV} {K:AV→Heap→Ans} (h:aop noCall (evO []) H io=some (v,H')):C0.hop H io K=K v H':=by rw [C0_hop,h]
theorem cal_eq {M:Mod} {pc:FuncId→List AV→Option AV} {n:Nat} {b:Bool} {g:FuncId} {args:List AV} {H H':Heap} {v:AV} {K:AV→Heap→Ans} (h:callB M pc n b g args H=some (v,H')):C0.cal M pc n b g args H K=K v H':=by
 change (match callB M pc n b g args H with
  | some (v,H')=>K v H'
  | none=>none)=_
 rw [h]
theorem C0_fin (H:Heap) (v:AV):C0.fin H v=some (snap 12 H v):=rfl
theorem C0_disj {a b:TV} {K:Ans} (h:disjB a b=true):C0.disj a b K=K:=by simp only [C0,h]
theorem snp_free {H:Heap} {args:List AV} {K:List AV→Bool→Ans} (h:args.all (noId DEPTH)=true):C0.snp H args K=K args true:=by simp [C0,h]
theorem snp_id {H:Heap} {args:List AV} {K:List AV→Bool→Ans} (h:args.all (noId DEPTH)=false):C0.snp H args K=K (args.map (snap DEPTH H)) false:=by simp [C0,h]
theorem at0 (a:AV) (l:List AV):(a::l)[0]?=some a:=rfl
theorem at1 (a b:AV) (l:List AV):(a::b::l)[1]?=some b:=rfl
theorem at2 (a b c:AV) (l:List AV):(a::b::c::l)[2]?=some c:=rfl
theorem at3 (a b c d:AV) (l:List AV):(a::b::c::d::l)[3]?=some d:=rfl
theorem at4 (a b c d e:AV) (l:List AV):(a::b::c::d::e::l)[4]?=some e:=rfl
theorem at5 (a b c d e f:AV) (l:List AV):(a::b::c::d::e::f::l)[5]?=some f:=rfl
theorem at6 (a b c d e f g:AV) (l:List AV):(a::b::c::d::e::f::g::l)[6]?=some g:=rfl
theorem at7 (a b c d e f g h:AV) (l:List AV):(a::b::c::d::e::f::g::h::l)[7]?=some h:=rfl
theorem told {d g:Nat} {args:List AV} {r:AV} {t:Ans} (h:xcall C0 M unr d g args=t) (h2:t=some r):pcall M (d+1) g args=some r:=xcall_ok (h.trans h2)
theorem up {k d:Nat} {p:Nat→Prop} (h:∀ d,p (d+k)) (hd:k≤d):p d:=by
 have:=h (d - k)
 rwa [Nat.sub_add_cancel hd] at this
/-! The steps over printed prefixes -/
theorem yt {a b c:Ans} (h:a=b) (k:b=c):a=c:=h.trans k
theorem yS {o:Option AV} {v:AV} {K:Ans} (h:o=some v:=by rfl):C0.same o v K=K:=pl_same h
theorem ySs {e:List AV} {k:Nat} {l:List AV} {K:Ans} (h:(e.drop k).take l.length=l:=by rfl):sames C0 e k l K=K:=by
 induction l generalizing k with
 | nil=>rfl
 | cons v l ih =>
   cases hd:e.drop k with
   | nil=>rw [hd] at h; cases h
   | cons w t =>
     rw [hd,List.length_cons,List.take_succ_cons] at h
     injection h with h1 h2
     have e1:e[k]?=some w:=by have:=List.getElem?_drop (xs:=e) (i:=k) (j:=0); rw [hd] at this; simpa using this.symm
     have e2:e.drop (k+1)=t:=by rw [← List.drop_drop,hd]; rfl
     subst h1
     exact (pl_same e1).trans (ih (by rw [e2]; exact h2))
theorem yA {o:Option AV} {v:AV} {K:AV→Ans} (h:o=some v:=by rfl):C0.any o K=K v:=pl_any h
theorem yAs {e:List AV} {k n:Nat} {K:Ans} (h:Nat.ble (k+n) e.length=true:=by rfl):anys C0 e k n K=K:=by
 induction n generalizing k with
 | zero=>rfl
 | succ n ih =>
   have h:=Nat.le_of_ble_eq_true h
   exact (pl_any (List.getElem?_eq_getElem (show k < e.length by omega))).trans (ih (by rw [Nat.ble_eq]; omega))
theorem yI {k:IntKind} {o:Option AV} {n:Int} {K:Int→Ans} (h:o=some (.int k n):=by rfl):C0.int k o K=K n:=pl_int h
theorem yB {o:Option AV} {n:Bool} {K:Bool→Ans} (h:o=some (.bool n):=by rfl):C0.bool o K=K n:=pl_bool h
theorem yG {n:Nat} {o:Option AV} {l:List AV} {K:List AV→Ans} (h:o=some (.agg l):=by rfl) (h2:l.length=n:=by rfl):C0.agg n o K=K l:=pl_agg h h2
theorem yT {n:Nat} {o:Option AV} {l:List AV} {K:List AV→Ans} (h:o=some (.tup l):=by rfl) (h2:l.length=n:=by rfl):C0.tup n o K=K l:=pl_tup h h2
end Go.Proofs.Ytdceaeifcniabaa.AE

namespace Go.Proofs.Ytdceaeifcniabaa.AE
set_option linter.unusedVariables false
set_option linter.unusedSimpArgs false
set_option linter.constructorNameAsVariable false
open Go
set_option maxRecDepth 100000
set_option maxHeartbeats 0
def r31R0 (C:Cb) (d:Nat) (a0 a1:List AV):St→(Ex→St→Ans)→Ans:=fun s0 k1 =>
 cnd ((List.length s0.env) == 26)
 (sames C s0.env 0 [(.lst a0),(.lst a1),tz,tz] <|
 C.bool s0.env[4]? fun b3 =>
 C.int .i64 s0.env[5]? fun x4 =>
 sames C s0.env 6 [(.lst a0),(iz (((List.length a0):Nat):Int)),(.lst a1),(iz (((List.length a1):Nat):Int)),bf] <|
 anys C s0.env 11 4 <|
 C.any s0.env[15]? fun v9 =>
 C.any s0.env[16]? fun v10 =>
 C.any s0.env[17]? fun v11 =>
 C.any s0.env[18]? fun v12 =>
 C.any s0.env[19]? fun v13 =>
 C.any s0.env[20]? fun v14 =>
 C.any s0.env[21]? fun v15 =>
 C.any s0.env[22]? fun v16 =>
 C.any s0.env[23]? fun v17 =>
 C.any s0.env[24]? fun v18 =>
 C.any s0.env[25]? fun v19 =>
 C.sameH (St.H s0) [] <|
 cnd (decide (x4 < (((List.length a0):Nat):Int)))
 (cnd (decide ((0:Int)≤x4))
 (C.agg 2 a0[(Int.toNat x4)]? fun l20 =>
 C.int .i64 l20[0]? fun x21 =>
 C.int .i64 l20[1]? fun x22 =>
 cnd (decide ((0:Int)≤x4))
 (C.agg 2 a1[(Int.toNat x4)]? fun l23 =>
 C.int .i64 l23[0]? fun x24 =>
 C.int .i64 l23[1]? fun x25 =>
 cnd (xor true ((x21 == x24) && ((x22 == x25) && true)))
 (k1 .ret ⟨[(.lst a0),(.lst a1),tz,tz,bf,(iz x4),(.lst a0),(iz (((List.length a0):Nat):Int)),(.lst a1),(iz (((List.length a1):Nat):Int)),bf,(iz x4),(.lst a0),(iz (((List.length a0):Nat):Int)),bt,v9,v10,(.lst a0),(iz x4),(.fptr (.agg [(iz x21),(iz x22)]) 0),(.agg [(iz x21),(iz x22)]),(.lst a1),(iz x4),(.fptr (.agg [(iz x24),(iz x25)]) 0),(.agg [(iz x24),(iz x25)]),bt],[]⟩)
 (k1 .normal ⟨[(.lst a0),(.lst a1),tz,tz,(.bool b3),(iz (IntKind.wrap .i64 (x4+1))),(.lst a0),(iz (((List.length a0):Nat):Int)),(.lst a1),(iz (((List.length a1):Nat):Int)),bf,(iz x4),(.lst a0),(iz (((List.length a0):Nat):Int)),bt,(iz x4),(iz (IntKind.wrap .i64 (x4+1))),(.lst a0),(iz x4),(.fptr (.agg [(iz x21),(iz x22)]) 0),(.agg [(iz x21),(iz x22)]),(.lst a1),(iz x4),(.fptr (.agg [(iz x24),(iz x25)]) 0),(.agg [(iz x24),(iz x25)]),bf],[]⟩))
 (none))
 (none))
 (k1 (.exit 0) ⟨[(.lst a0),(.lst a1),tz,tz,(.bool b3),(iz x4),(.lst a0),(iz (((List.length a0):Nat):Int)),(.lst a1),(iz (((List.length a1):Nat):Int)),bf,(iz x4),(.lst a0),(iz (((List.length a0):Nat):Int)),bf,v9,v10,v11,v12,v13,v14,v15,v16,v17,v18,v19],[]⟩))
 (none)
def r31X0_0 (C:Cb) (d:Nat) (a0 a1:List AV):St→Ans:=fun s26 =>
 cnd ((List.length s26.env) == 26)
 (sames C s26.env 0 [(.lst a0),(.lst a1),tz,tz] <|
 C.bool s26.env[4]? fun b27 =>
 C.int .i64 s26.env[5]? fun x28 =>
 sames C s26.env 6 [(.lst a0),(iz (((List.length a0):Nat):Int)),(.lst a1),(iz (((List.length a1):Nat):Int)),bf] <|
 C.int .i64 s26.env[11]? fun x29 =>
 C.any s26.env[12]? fun v30 =>
 C.int .i64 s26.env[13]? fun x31 =>
 C.bool s26.env[14]? fun b32 =>
 anys C s26.env 15 11 <|
 C.sameH (St.H s26) [] <|
 some bt)
 (none)
def r31E0 (C:Cb) (d:Nat) (a0 a1:List AV):St→Ans:=fun s2 =>
 cnd ((List.length s2.env) == 26)
 (sames C s2.env 0 [(.lst a0),(.lst a1),tz,tz] <|
 C.bool s2.env[4]? fun b44 =>
 C.int .i64 s2.env[5]? fun x45 =>
 sames C s2.env 6 [(.lst a0),(iz (((List.length a0):Nat):Int)),(.lst a1),(iz (((List.length a1):Nat):Int)),bf] <|
 C.int .i64 s2.env[11]? fun x46 =>
 C.any s2.env[12]? fun v47 =>
 C.int .i64 s2.env[13]? fun x48 =>
 C.bool s2.env[14]? fun b49 =>
 anys C s2.env 15 3 <|
 C.int .i64 s2.env[18]? fun x53 =>
 C.any s2.env[19]? fun v54 =>
 C.agg 2 s2.env[20]? fun l55 =>
 C.int .i64 l55[0]? fun x56 =>
 C.int .i64 l55[1]? fun x57 =>
 C.any s2.env[21]? fun v58 =>
 C.int .i64 s2.env[22]? fun x59 =>
 C.any s2.env[23]? fun v60 =>
 C.agg 2 s2.env[24]? fun l61 =>
 C.int .i64 l61[0]? fun x62 =>
 C.int .i64 l61[1]? fun x63 =>
 C.bool s2.env[25]? fun b64 =>
 C.sameH (St.H s2) [] <|
 some (.bool b44))
 (none)
theorem r31 (C:Cb) (d:Nat) (a0 a1:List AV):xcall C M unr d 31 [(.lst a0),(.lst a1)] =
 cnd ((((List.length a0):Nat):Int) != (((List.length a1):Nat):Int))
 (some bf)
 (C.iter (r31R0 C d a0 a1) 10000000000000000000 ⟨[(.lst a0),(.lst a1),tz,tz,bf,(iz 0),(.lst a0),(iz (((List.length a0):Nat):Int)),(.lst a1),(iz (((List.length a1):Nat):Int)),bf,tz,tz,tz,tz,tz,tz,tz,tz,tz,tz,tz,tz,tz,tz,tz],[]⟩ [0] [r31X0_0 C d a0 a1] (r31E0 C d a0 a1)):=by kernel_rfl
theorem r35 (C:Cb) (d:Nat) (a0:AV) (n0:Nat) (H0:Heap) (K0:AV→Heap→Ans):xmeth C M unr d (n0+8) 35 [a0] H0 K0 =
 C.hop H0 (.eqv false 2 [] (.v a0) (.v (.zsl true))) fun v0 h1 =>
 C.bool (some v0) fun b2 =>
 cnd b2
 (K0 (.zsl true) h1)
 (C.hop h1 (.mkrow E62 0 []) fun v3 h4 =>
 C.hop h4 (.app E62 (.v v3) (.v a0)) fun v5 h6 =>
 K0 v5 h6):=by kernel_rfl
theorem r52 (C:Cb) (d:Nat) (a0 a1:Int):xcall C M unr d 52 [(.agg [(iz a0),(iz a1)])] =
 cnd (decide (a0 ≥ (-1099511627776)))
 (cnd (decide (a0≤1099511627776))
 (cnd (decide (a1 ≥ (-1099511627776)))
 (some (.bool (decide (a1≤1099511627776))))
 (some bf))
 (some bf))
 (some bf):=by kernel_rfl
theorem r54 (C:Cb) (d:Nat) (a0 a1 a2 a3 a4 a5:Int):xcall C M unr d 54 [(.agg [(iz a0),(iz a1)]),(.agg [(iz a2),(iz a3)]),(.agg [(iz a4),(iz a5)])] =
 C.bool (pcall M d 52 [(.agg [(iz a2),(iz a3)])]) fun b0 =>
 cnd (!b0)
 (some bf)
 (C.bool (pcall M d 52 [(.agg [(iz a4),(iz a5)])]) fun b1 =>
 cnd (!b1)
 (some bf)
 (C.bool (pcall M d 52 [(.agg [(iz a0),(iz a1)])]) fun b2 =>
 cnd (!b2)
 (some bf)
 (C.int .i64 (pcall M d 60 [(.agg [(iz a2),(iz a3)]),(.agg [(iz a4),(iz a5)]),(.agg [(iz a0),(iz a1)])]) fun x3 =>
 cnd (x3 != 0)
 (some bf)
 (cnd (decide (a0 ≥ (if (a4 < a2) then a4 else a2)))
 (cnd (decide (a0≤(if (a4 > a2) then a4 else a2)))
 (cnd (decide (a1 ≥ (if (a5 < a3) then a5 else a3)))
 (some (.bool (decide (a1≤(if (a5 > a3) then a5 else a3)))))
 (some bf))
 (some bf))
 (some bf))))):=by kernel_rfl
theorem r55 (C:Cb) (d:Nat) (a0 a1 a2 a3 a4 a5 a6 a7:Int):xcall C M unr d 55 [(.agg [(iz a0),(iz a1)]),(.agg [(iz a2),(iz a3)]),(.agg [(iz a4),(iz a5)]),(.agg [(iz a6),(iz a7)])] =
 C.bool (pcall M d 52 [(.agg [(iz a0),(iz a1)])]) fun b0 =>
 cnd (!b0)
 (some bf)
 (C.bool (pcall M d 52 [(.agg [(iz a2),(iz a3)])]) fun b1 =>
 cnd (!b1)
 (some bf)
 (C.bool (pcall M d 52 [(.agg [(iz a4),(iz a5)])]) fun b2 =>
 cnd (!b2)
 (some bf)
 (C.bool (pcall M d 52 [(.agg [(iz a6),(iz a7)])]) fun b3 =>
 cnd (!b3)
 (some bf)
 (C.bool (pcall M d 54 [(.agg [(iz a0),(iz a1)]),(.agg [(iz a4),(iz a5)]),(.agg [(iz a6),(iz a7)])]) fun b4 =>
 cnd b4
 (some bt)
 (C.bool (pcall M d 54 [(.agg [(iz a2),(iz a3)]),(.agg [(iz a4),(iz a5)]),(.agg [(iz a6),(iz a7)])]) fun b5 =>
 cnd b5
 (some bt)
 (C.bool (pcall M d 54 [(.agg [(iz a4),(iz a5)]),(.agg [(iz a0),(iz a1)]),(.agg [(iz a2),(iz a3)])]) fun b6 =>
 cnd b6
 (some bt)
 (C.bool (pcall M d 54 [(.agg [(iz a6),(iz a7)]),(.agg [(iz a0),(iz a1)]),(.agg [(iz a2),(iz a3)])]) fun b7 =>
 cnd b7
 (some bt)
 (C.int .i64 (pcall M d 60 [(.agg [(iz a0),(iz a1)]),(.agg [(iz a2),(iz a3)]),(.agg [(iz a4),(iz a5)])]) fun x8 =>
 C.int .i64 (pcall M d 60 [(.agg [(iz a0),(iz a1)]),(.agg [(iz a2),(iz a3)]),(.agg [(iz a6),(iz a7)])]) fun x9 =>
 cnd (decide ((IntKind.wrap .i64 (x8 * x9)) < 0))
 (C.int .i64 (pcall M d 60 [(.agg [(iz a4),(iz a5)]),(.agg [(iz a6),(iz a7)]),(.agg [(iz a0),(iz a1)])]) fun x10 =>
 C.int .i64 (pcall M d 60 [(.agg [(iz a4),(iz a5)]),(.agg [(iz a6),(iz a7)]),(.agg [(iz a2),(iz a3)])]) fun x11 =>
 some (.bool (decide ((IntKind.wrap .i64 (x10 * x11)) < 0))))
 (some bf))))))))):=by kernel_rfl
theorem r58f79 (C:Cb) (d:Nat) (a0:List AV) (a1:AV):xcall C M unr d 58 [(.lst a0),(.fn 79 [] [])] =
 C.int .i64 (pcall M d 64 [(.lst a0),(.fn 79 [] [])]) fun x0 =>
 some (.bool (decide (x0 ≥ 0))):=by kernel_rfl
theorem r60 (C:Cb) (d:Nat) (a0 a1 a2 a3 a4 a5:Int):xcall C M unr d 60 [(.agg [(iz a0),(iz a1)]),(.agg [(iz a2),(iz a3)]),(.agg [(iz a4),(iz a5)])] =
 C.bool (pcall M d 52 [(.agg [(iz a0),(iz a1)])]) fun b0 =>
 cnd (!b0)
 (some (iz 0))
 (C.bool (pcall M d 52 [(.agg [(iz a2),(iz a3)])]) fun b1 =>
 cnd (!b1)
 (some (iz 0))
 (C.bool (pcall M d 52 [(.agg [(iz a4),(iz a5)])]) fun b2 =>
 cnd (!b2)
 (some (iz 0))
 (C.agg 2 (pcall M d 66 [(iz (IntKind.wrap .i64 (a2 - a0))),(iz (IntKind.wrap .i64 (a5 - a1)))]) fun l3 =>
 C.int .i64 l3[0]? fun x4 =>
 C.int .u64 l3[1]? fun x5 =>
 C.agg 2 (pcall M d 66 [(iz (IntKind.wrap .i64 (a3 - a1))),(iz (IntKind.wrap .i64 (a4 - a0)))]) fun l6 =>
 C.int .i64 l6[0]? fun x7 =>
 C.int .u64 l6[1]? fun x8 =>
 C.int .i64 (pcall M d 65 [(.agg [(iz x4),(.int .u64 x5)]),(.agg [(iz x7),(.int .u64 x8)])]) fun x9 =>
 some (iz x9)))):=by kernel_rfl
theorem r62 (C:Cb) (d:Nat) (a0 a1:Int):xcall C M unr d 62 [(.agg [(iz a0),(iz a1)])] =
 C.bool (pcall M d 67 [(iz a0)]) fun b0 =>
 cnd b0
 (C.bool (pcall M d 67 [(iz a1)]) fun b1 =>
 some (.bool b1))
 (some bf):=by kernel_rfl
def r64f79R0 (C:Cb) (d:Nat) (a0:List AV):St→(Ex→St→Ans)→Ans:=fun s0 k1 =>
 cnd ((List.length s0.env) == 19)
 (sames C s0.env 0 [(.lst a0),(.fn 79 [] []),tz,tz] <|
 C.int .i64 s0.env[4]? fun x3 =>
 C.any s0.env[5]? fun v4 =>
 sames C s0.env 6 [(.lst a0),(iz (((List.length a0):Nat):Int))] <|
 C.int .i64 s0.env[8]? fun x5 =>
 C.any s0.env[9]? fun v6 =>
 C.any s0.env[10]? fun v7 =>
 C.any s0.env[11]? fun v8 =>
 C.any s0.env[12]? fun v9 =>
 C.any s0.env[13]? fun v10 =>
 C.any s0.env[14]? fun v11 =>
 C.any s0.env[15]? fun v12 =>
 C.any s0.env[16]? fun v13 =>
 C.any s0.env[17]? fun v14 =>
 C.any s0.env[18]? fun v15 =>
 C.sameH (St.H s0) [] <|
 cnd (decide (x5 < (((List.length a0):Nat):Int)))
 (cnd (decide ((0:Int)≤x5))
 (C.agg 2 a0[(Int.toNat x5)]? fun l16 =>
 C.int .i64 l16[0]? fun x17 =>
 C.int .i64 l16[1]? fun x18 =>
 C.bool (pcall M d 79 [(.agg [(iz x17),(iz x18)])]) fun b19 =>
 cnd b19
 (k1 .ret ⟨[(.lst a0),(.fn 79 [] []),tz,tz,(iz x5),(iz x5),(.lst a0),(iz (((List.length a0):Nat):Int)),(iz x5),bt,(iz x5),(.fn 79 [] []),(.lst a0),(iz x5),(.fptr (.agg [(iz x17),(iz x18)]) 0),(.agg [(iz x17),(iz x18)]),bt,(iz x5),v15],[]⟩)
 (k1 .normal ⟨[(.lst a0),(.fn 79 [] []),tz,tz,(iz x3),(iz x5),(.lst a0),(iz (((List.length a0):Nat):Int)),(iz (IntKind.wrap .i64 (x5+1))),bt,(iz x5),(.fn 79 [] []),(.lst a0),(iz x5),(.fptr (.agg [(iz x17),(iz x18)]) 0),(.agg [(iz x17),(iz x18)]),bf,v14,(iz (IntKind.wrap .i64 (x5+1)))],[]⟩))
 (none))
 (k1 (.exit 0) ⟨[(.lst a0),(.fn 79 [] []),tz,tz,(iz x3),v4,(.lst a0),(iz (((List.length a0):Nat):Int)),(iz x5),bf,v7,v8,v9,v10,v11,v12,v13,v14,v15],[]⟩))
 (none)
def r64f79X0_0 (C:Cb) (d:Nat) (a0:List AV):St→Ans:=fun s20 =>
 cnd ((List.length s20.env) == 19)
 (sames C s20.env 0 [(.lst a0),(.fn 79 [] []),tz,tz] <|
 C.int .i64 s20.env[4]? fun x21 =>
 C.any s20.env[5]? fun v22 =>
 sames C s20.env 6 [(.lst a0),(iz (((List.length a0):Nat):Int))] <|
 C.int .i64 s20.env[8]? fun x23 =>
 anys C s20.env 9 10 <|
 C.sameH (St.H s20) [] <|
 some (iz (-1)))
 (none)
def r64f79E0 (C:Cb) (d:Nat) (a0:List AV):St→Ans:=fun s2 =>
 cnd ((List.length s2.env) == 19)
 (sames C s2.env 0 [(.lst a0),(.fn 79 [] []),tz,tz] <|
 C.int .i64 s2.env[4]? fun x34 =>
 C.int .i64 s2.env[5]? fun x35 =>
 sames C s2.env 6 [(.lst a0),(iz (((List.length a0):Nat):Int))] <|
 C.int .i64 s2.env[8]? fun x36 =>
 C.any s2.env[9]? fun v37 =>
 C.int .i64 s2.env[10]? fun x38 =>
 anys C s2.env 11 2 <|
 C.int .i64 s2.env[13]? fun x41 =>
 C.any s2.env[14]? fun v42 =>
 C.agg 2 s2.env[15]? fun l43 =>
 C.int .i64 l43[0]? fun x44 =>
 C.int .i64 l43[1]? fun x45 =>
 C.bool s2.env[16]? fun b46 =>
 C.int .i64 s2.env[17]? fun x47 =>
 C.any s2.env[18]? fun v48 =>
 C.sameH (St.H s2) [] <|
 some (iz x34))
 (none)
theorem r64f79 (C:Cb) (d:Nat) (a0:List AV) (a1:AV):xcall C M unr d 64 [(.lst a0),(.fn 79 [] [])] =
 C.iter (r64f79R0 C d a0) 10000000000000000000 ⟨[(.lst a0),(.fn 79 [] []),tz,tz,(iz 0),tz,(.lst a0),(iz (((List.length a0):Nat):Int)),(iz 0),tz,tz,tz,tz,tz,tz,tz,tz,tz,tz],[]⟩ [0] [r64f79X0_0 C d a0] (r64f79E0 C d a0):=by kernel_rfl
theorem r65 (C:Cb) (d:Nat) (a0 a1 a2 a3:Int):xcall C M unr d 65 [(.agg [(iz a0),(.int .u64 a1)]),(.agg [(iz a2),(.int .u64 a3)])] =
 cnd (decide (a0 < a2))
 (some (iz (-1)))
 (cnd (a0 == a2)
 (cnd (decide (a1 < a3))
 (some (iz (-1)))
 (cnd (xor false ((a0 == a2) && ((a1 == a3) && true)))
 (some (iz 0))
 (some (iz 1))))
 (cnd (xor false ((a0 == a2) && ((a1 == a3) && true)))
 (some (iz 0))
 (some (iz 1)))):=by kernel_rfl
def r66R0 (C:Cb) (d:Nat) (a0 a1:Int) (v0:AV) (x3 x4:Int) (v5 v9:AV):St→(Ex→St→Ans)→Ans:=fun s13 k14 =>
 cnd ((List.length s13.env) == 36)
 (sames C s13.env 0 [(iz a0),(iz a1),tz,tz,v0,v5,v9,(.int .u64 (IntKind.wrap .u64 a1))] <|
 C.int .i64 s13.env[8]? fun x16 =>
 sames C s13.env 9 [(iz a0),(.agg [(iz x3),(.int .u64 x4)]),(.agg [(iz 0),(.int .u64 0)]),(iz a1),(.int .u64 (IntKind.wrap .u64 a1))] <|
 anys C s13.env 14 2 <|
 C.any s13.env[16]? fun v19 =>
 C.any s13.env[17]? fun v20 =>
 C.any s13.env[18]? fun v21 =>
 C.any s13.env[19]? fun v22 =>
 C.any s13.env[20]? fun v23 =>
 C.any s13.env[21]? fun v24 =>
 C.any s13.env[22]? fun v25 =>
 C.any s13.env[23]? fun v26 =>
 C.any s13.env[24]? fun v27 =>
 C.any s13.env[25]? fun v28 =>
 C.any s13.env[26]? fun v29 =>
 C.any s13.env[27]? fun v30 =>
 C.any s13.env[28]? fun v31 =>
 sames C s13.env 29 [tz,tz,tz,tz,tz,tz,tz] <|
 cnd (decide (x16 < 64))
 (cnd (decide (x16 < 0))
 (none)
 (cnd ((bits .and .u64 (Int.fdiv (IntKind.wrap .u64 a1) (2 ^ (min (Int.toNat x16) 64))) 1) == 1)
 (C.hop (St.H s13) (.load true 2 (.v v9)) fun v32 h33 =>
 C.agg 2 (some v32) fun l34 =>
 C.int .i64 l34[0]? fun x35 =>
 C.int .u64 l34[1]? fun x36 =>
 C.hop h33 (.load true 2 (.v v5)) fun v37 h38 =>
 C.agg 2 (some v37) fun l39 =>
 C.int .i64 l39[0]? fun x40 =>
 C.int .u64 l39[1]? fun x41 =>
 C.agg 2 (pcall M d 72 [(.agg [(iz x35),(.int .u64 x36)]),(.agg [(iz x40),(.int .u64 x41)])]) fun l42 =>
 C.int .i64 l42[0]? fun x43 =>
 C.int .u64 l42[1]? fun x44 =>
 C.hop h38 (.store 2 (.v v9) (.v (.agg [(iz x43),(.int .u64 x44)]))) fun v45 h46 =>
 C.hop h46 (.load true 2 (.v v5)) fun v47 h48 =>
 C.agg 2 (some v47) fun l49 =>
 C.int .i64 l49[0]? fun x50 =>
 C.int .u64 l49[1]? fun x51 =>
 C.hop h48 (.load true 2 (.v v5)) fun v52 h53 =>
 C.agg 2 (some v52) fun l54 =>
 C.int .i64 l54[0]? fun x55 =>
 C.int .u64 l54[1]? fun x56 =>
 C.agg 2 (pcall M d 72 [(.agg [(iz x50),(.int .u64 x51)]),(.agg [(iz x55),(.int .u64 x56)])]) fun l57 =>
 C.int .i64 l57[0]? fun x58 =>
 C.int .u64 l57[1]? fun x59 =>
 C.hop h53 (.store 2 (.v v5) (.v (.agg [(iz x58),(.int .u64 x59)]))) fun v60 h61 =>
 k14 .normal ⟨[(iz a0),(iz a1),tz,tz,v0,v5,v9,(.int .u64 (IntKind.wrap .u64 a1)),(iz (IntKind.wrap .i64 (x16+1))),(iz a0),(.agg [(iz x3),(.int .u64 x4)]),(.agg [(iz 0),(.int .u64 0)]),(iz a1),(.int .u64 (IntKind.wrap .u64 a1)),(iz x16),bt,(iz x16),(iz (IntKind.wrap .i64 (x16+1))),(.int .u64 (IntKind.wrap .u64 a1)),(iz x16),(.int .u64 (Int.fdiv (IntKind.wrap .u64 a1) (2 ^ (min (Int.toNat x16) 64)))),(.int .u64 (bits .and .u64 (Int.fdiv (IntKind.wrap .u64 a1) (2 ^ (min (Int.toNat x16) 64))) 1)),bt,(.agg [(iz x35),(.int .u64 x36)]),(.agg [(iz x40),(.int .u64 x41)]),(.agg [(iz x43),(.int .u64 x44)]),(.agg [(iz x50),(.int .u64 x51)]),(.agg [(iz x55),(.int .u64 x56)]),(.agg [(iz x58),(.int .u64 x59)]),tz,tz,tz,tz,tz,tz,tz],h61⟩)
 (C.hop (St.H s13) (.load true 2 (.v v5)) fun v62 h63 =>
 C.agg 2 (some v62) fun l64 =>
 C.int .i64 l64[0]? fun x65 =>
 C.int .u64 l64[1]? fun x66 =>
 C.hop h63 (.load true 2 (.v v5)) fun v67 h68 =>
 C.agg 2 (some v67) fun l69 =>
 C.int .i64 l69[0]? fun x70 =>
 C.int .u64 l69[1]? fun x71 =>
 C.agg 2 (pcall M d 72 [(.agg [(iz x65),(.int .u64 x66)]),(.agg [(iz x70),(.int .u64 x71)])]) fun l72 =>
 C.int .i64 l72[0]? fun x73 =>
 C.int .u64 l72[1]? fun x74 =>
 C.hop h68 (.store 2 (.v v5) (.v (.agg [(iz x73),(.int .u64 x74)]))) fun v75 h76 =>
 k14 .normal ⟨[(iz a0),(iz a1),tz,tz,v0,v5,v9,(.int .u64 (IntKind.wrap .u64 a1)),(iz (IntKind.wrap .i64 (x16+1))),(iz a0),(.agg [(iz x3),(.int .u64 x4)]),(.agg [(iz 0),(.int .u64 0)]),(iz a1),(.int .u64 (IntKind.wrap .u64 a1)),(iz x16),bt,(iz x16),(iz (IntKind.wrap .i64 (x16+1))),(.int .u64 (IntKind.wrap .u64 a1)),(iz x16),(.int .u64 (Int.fdiv (IntKind.wrap .u64 a1) (2 ^ (min (Int.toNat x16) 64)))),(.int .u64 (bits .and .u64 (Int.fdiv (IntKind.wrap .u64 a1) (2 ^ (min (Int.toNat x16) 64))) 1)),bf,v26,v27,v28,(.agg [(iz x65),(.int .u64 x66)]),(.agg [(iz x70),(.int .u64 x71)]),(.agg [(iz x73),(.int .u64 x74)]),tz,tz,tz,tz,tz,tz,tz],h76⟩)))
 (k14 (.exit 0) ⟨[(iz a0),(iz a1),tz,tz,v0,v5,v9,(.int .u64 (IntKind.wrap .u64 a1)),(iz x16),(iz a0),(.agg [(iz x3),(.int .u64 x4)]),(.agg [(iz 0),(.int .u64 0)]),(iz a1),(.int .u64 (IntKind.wrap .u64 a1)),(iz x16),bf,v19,v20,v21,v22,v23,v24,v25,v26,v27,v28,v29,v30,v31,tz,tz,tz,tz,tz,tz,tz],(St.H s13)⟩))
 (none)
def r66X0_0 (C:Cb) (d:Nat) (a0 a1:Int) (v0:AV) (x3 x4:Int) (v5 v9:AV):St→Ans:=fun s77 =>
 cnd ((List.length s77.env) == 36)
 (sames C s77.env 0 [(iz a0),(iz a1),tz,tz,v0,v5,v9,(.int .u64 (IntKind.wrap .u64 a1))] <|
 C.int .i64 s77.env[8]? fun x78 =>
 sames C s77.env 9 [(iz a0),(.agg [(iz x3),(.int .u64 x4)]),(.agg [(iz 0),(.int .u64 0)]),(iz a1),(.int .u64 (IntKind.wrap .u64 a1))] <|
 C.int .i64 s77.env[14]? fun x79 =>
 C.bool s77.env[15]? fun b80 =>
 anys C s77.env 16 13 <|
 sames C s77.env 29 [tz,tz,tz,tz,tz,tz,tz] <|
 cnd (decide (a1 < 0))
 (C.hop (St.H s77) (.load true 2 (.v v9)) fun v94 h95 =>
 C.agg 2 (some v94) fun l96 =>
 C.int .i64 l96[0]? fun x97 =>
 C.int .u64 l96[1]? fun x98 =>
 C.hop h95 (.load true 2 (.v v5)) fun v99 h100 =>
 C.agg 2 (some v99) fun l101 =>
 C.int .i64 l101[0]? fun x102 =>
 C.int .u64 l101[1]? fun x103 =>
 C.agg 2 (pcall M d 73 [(.agg [(iz x102),(.int .u64 x103)])]) fun l104 =>
 C.int .i64 l104[0]? fun x105 =>
 C.int .u64 l104[1]? fun x106 =>
 C.agg 2 (pcall M d 72 [(.agg [(iz x97),(.int .u64 x98)]),(.agg [(iz x105),(.int .u64 x106)])]) fun l107 =>
 C.int .i64 l107[0]? fun x108 =>
 C.int .u64 l107[1]? fun x109 =>
 C.hop h100 (.store 2 (.v v9) (.v (.agg [(iz x108),(.int .u64 x109)]))) fun v110 h111 =>
 C.hop h111 (.load true 2 (.v v9)) fun v112 h113 =>
 C.agg 2 (some v112) fun l114 =>
 C.int .i64 l114[0]? fun x115 =>
 C.int .u64 l114[1]? fun x116 =>
 C.hop h113 (.store 2 (.v v0) (.v (.agg [(iz x115),(.int .u64 x116)]))) fun v117 h118 =>
 C.hop h118 (.load true 2 (.v v0)) fun v119 h120 =>
 C.fin h118 v119)
 (C.hop (St.H s77) (.load true 2 (.v v9)) fun v121 h122 =>
 C.agg 2 (some v121) fun l123 =>
 C.int .i64 l123[0]? fun x124 =>
 C.int .u64 l123[1]? fun x125 =>
 C.hop h122 (.store 2 (.v v0) (.v (.agg [(iz x124),(.int .u64 x125)]))) fun v126 h127 =>
 C.hop h127 (.load true 2 (.v v0)) fun v128 h129 =>
 C.fin h127 v128))
 (none)
def r66E0 (C:Cb) (d:Nat) (a0 a1:Int) (v0:AV) (x3 x4:Int) (v5 v9:AV):St→Ans:=fun s15 =>
 cnd ((List.length s15.env) == 36)
 (sames C s15.env 0 [(iz a0),(iz a1),tz,tz,v0,v5,v9,(.int .u64 (IntKind.wrap .u64 a1))] <|
 C.int .i64 s15.env[8]? fun x130 =>
 sames C s15.env 9 [(iz a0),(.agg [(iz x3),(.int .u64 x4)]),(.agg [(iz 0),(.int .u64 0)]),(iz a1),(.int .u64 (IntKind.wrap .u64 a1))] <|
 anys C s15.env 14 15 <|
 sames C s15.env 29 [tz,tz,tz,tz,tz,tz,tz] <|
 C.hop (St.H s15) (.load true 2 (.v v0)) fun v146 h147 =>
 C.fin (St.H s15) v146)
 (none)
theorem r66 (C:Cb) (d:Nat) (a0 a1:Int):xcall C M unr d 66 [(iz a0),(iz a1)] =
 C.hop [] (.alloc E98) fun v0 h1 =>
 C.agg 2 (pcall M d 71 [(iz a0)]) fun l2 =>
 C.int .i64 l2[0]? fun x3 =>
 C.int .u64 l2[1]? fun x4 =>
 C.hop h1 (.alloc E98) fun v5 h6 =>
 C.hop h6 (.store 2 (.v v5) (.v (.agg [(iz x3),(.int .u64 x4)]))) fun v7 h8 =>
 C.hop h8 (.alloc E98) fun v9 h10 =>
 C.hop h10 (.store 2 (.v v9) (.v (.agg [(iz 0),(.int .u64 0)]))) fun v11 h12 =>
 C.iter (r66R0 C d a0 a1 v0 x3 x4 v5 v9) 10000000000000000000 ⟨[(iz a0),(iz a1),tz,tz,v0,v5,v9,(.int .u64 (IntKind.wrap .u64 a1)),(iz 0),(iz a0),(.agg [(iz x3),(.int .u64 x4)]),(.agg [(iz 0),(.int .u64 0)]),(iz a1),(.int .u64 (IntKind.wrap .u64 a1)),tz,tz,tz,tz,tz,tz,tz,tz,tz,tz,tz,tz,tz,tz,tz,tz,tz,tz,tz,tz,tz,tz],h12⟩ [0] [r66X0_0 C d a0 a1 v0 x3 x4 v5 v9] (r66E0 C d a0 a1 v0 x3 x4 v5 v9):=by kernel_rfl
theorem r67 (C:Cb) (d:Nat) (a0:Int):xcall C M unr d 67 [(iz a0)] =
 cnd (decide (a0 ≥ (-1099511627776)))
 (some (.bool (decide (a0≤1099511627776))))
 (some bf):=by kernel_rfl
theorem r69 (C:Cb) (d:Nat) (a0 a1 a2 a3 a4 a5:Int):xcall C M unr d 69 [(.agg [(iz a0),(iz a1)]),(.agg [(iz a2),(iz a3)]),(.agg [(iz a4),(iz a5)])] =
 C.bool (pcall M d 74 [(.lst [(.agg [(iz a0),(iz a1)]),(.agg [(iz a2),(iz a3)]),(.agg [(iz a4),(iz a5)])])]) fun b0 =>
 cnd b0
 (C.int .i64 (pcall M d 75 [(.agg [(iz a2),(iz a3)]),(.agg [(iz a4),(iz a5)]),(.agg [(iz a0),(iz a1)])]) fun x1 =>
 cnd (x1 == 0)
 (C.bool (pcall M d 76 [(iz a0),(iz a2),(iz a4)]) fun b2 =>
 cnd b2
 (C.bool (pcall M d 76 [(iz a1),(iz a3),(iz a5)]) fun b3 =>
 some (.bool b3))
 (some bf))
 (some bf))
 (some bf):=by kernel_rfl
theorem r70 (C:Cb) (d:Nat) (a0 a1 a2 a3 a4 a5 a6 a7:Int):xcall C M unr d 70 [(.agg [(iz a0),(iz a1)]),(.agg [(iz a2),(iz a3)]),(.agg [(iz a4),(iz a5)]),(.agg [(iz a6),(iz a7)])] =
 C.bool (pcall M d 74 [(.lst [(.agg [(iz a0),(iz a1)]),(.agg [(iz a2),(iz a3)]),(.agg [(iz a4),(iz a5)]),(.agg [(iz a6),(iz a7)])])]) fun b0 =>
 cnd (!b0)
 (some bf)
 (C.bool (pcall M d 69 [(.agg [(iz a0),(iz a1)]),(.agg [(iz a4),(iz a5)]),(.agg [(iz a6),(iz a7)])]) fun b1 =>
 cnd b1
 (some bt)
 (C.bool (pcall M d 69 [(.agg [(iz a2),(iz a3)]),(.agg [(iz a4),(iz a5)]),(.agg [(iz a6),(iz a7)])]) fun b2 =>
 cnd b2
 (some bt)
 (C.bool (pcall M d 69 [(.agg [(iz a4),(iz a5)]),(.agg [(iz a0),(iz a1)]),(.agg [(iz a2),(iz a3)])]) fun b3 =>
 cnd b3
 (some bt)
 (C.bool (pcall M d 69 [(.agg [(iz a6),(iz a7)]),(.agg [(iz a0),(iz a1)]),(.agg [(iz a2),(iz a3)])]) fun b4 =>
 cnd b4
 (some bt)
 (C.int .i64 (pcall M d 75 [(.agg [(iz a0),(iz a1)]),(.agg [(iz a2),(iz a3)]),(.agg [(iz a4),(iz a5)])]) fun x5 =>
 C.int .i64 (pcall M d 75 [(.agg [(iz a0),(iz a1)]),(.agg [(iz a2),(iz a3)]),(.agg [(iz a6),(iz a7)])]) fun x6 =>
 cnd (decide ((IntKind.wrap .i64 (x5 * x6)) < 0))
 (C.int .i64 (pcall M d 75 [(.agg [(iz a4),(iz a5)]),(.agg [(iz a6),(iz a7)]),(.agg [(iz a0),(iz a1)])]) fun x7 =>
 C.int .i64 (pcall M d 75 [(.agg [(iz a4),(iz a5)]),(.agg [(iz a6),(iz a7)]),(.agg [(iz a2),(iz a3)])]) fun x8 =>
 some (.bool (decide ((IntKind.wrap .i64 (x7 * x8)) < 0))))
 (some bf)))))):=by kernel_rfl
theorem r71 (C:Cb) (d:Nat) (a0:Int):xcall C M unr d 71 [(iz a0)] =
 cnd (decide (a0 < 0))
 (some (.agg [(iz (-1)),(.int .u64 (IntKind.wrap .u64 a0))]))
 (some (.agg [(iz 0),(.int .u64 (IntKind.wrap .u64 a0))])):=by kernel_rfl
def r72R0 (C:Cb) (d:Nat) (a0 a1 a2 a3:Int) (v0 v2 v4:AV) (x9 x10:Int) (v11:AV) (x15 x16:Int) (v17:AV):St→(Ex→St→Ans)→Ans:=fun s18 k19 =>
 cnd ((List.length s18.env) == 39)
 (sames C s18.env 0 [(.agg [(iz a0),(.int .u64 a1)]),(.agg [(iz a2),(.int .u64 a3)]),v0,v2,v4,v11,v17] <|
 C.any s18.env[7]? fun v21 =>
 C.int .i64 s18.env[8]? fun x22 =>
 C.int .i64 s18.env[9]? fun x23 =>
 C.any s18.env[10]? fun v24 =>
 sames C s18.env 11 [(.agg [(iz x9),(.int .u64 x10)]),v11,(.agg [(iz x15),(.int .u64 x16)]),v17] <|
 anys C s18.env 15 2 <|
 C.any s18.env[17]? fun v27 =>
 C.any s18.env[18]? fun v28 =>
 C.any s18.env[19]? fun v29 =>
 C.any s18.env[20]? fun v30 =>
 C.any s18.env[21]? fun v31 =>
 C.any s18.env[22]? fun v32 =>
 C.any s18.env[23]? fun v33 =>
 C.any s18.env[24]? fun v34 =>
 C.any s18.env[25]? fun v35 =>
 C.any s18.env[26]? fun v36 =>
 C.any s18.env[27]? fun v37 =>
 C.any s18.env[28]? fun v38 =>
 C.any s18.env[29]? fun v39 =>
 C.any s18.env[30]? fun v40 =>
 C.any s18.env[31]? fun v41 =>
 C.any s18.env[32]? fun v42 =>
 C.any s18.env[33]? fun v43 =>
 C.any s18.env[34]? fun v44 =>
 C.any s18.env[35]? fun v45 =>
 C.any s18.env[36]? fun v46 =>
 sames C s18.env 37 [tz,tz] <|
 cnd (decide (x23 < 128))
 (C.hop (St.H s18) (.ixAS .any 1 (.v v11) (.v (iz x23))) fun v47 h48 =>
 C.hop h48 (.load false 1 (.v v47)) fun v49 h50 =>
 C.int .i64 (some v49) fun x51 =>
 C.hop h50 (.ixAS .any 1 (.v v17) (.v (iz x23))) fun v52 h53 =>
 C.hop h53 (.load false 1 (.v v52)) fun v54 h55 =>
 C.int .i64 (some v54) fun x56 =>
 C.hop h55 (.mkrow E3 1 [(0,(.v (iz (Int.tmod (IntKind.wrap .i64 ((IntKind.wrap .i64 (x51+x56))+x22)) 2))))]) fun v57 h58 =>
 C.hop h58 (.app E3 (.v v21) (.v v57)) fun v59 h60 =>
 k19 .normal ⟨[(.agg [(iz a0),(.int .u64 a1)]),(.agg [(iz a2),(.int .u64 a3)]),v0,v2,v4,v11,v17,v59,(iz (IntKind.wrap .i64 (Int.tdiv (IntKind.wrap .i64 ((IntKind.wrap .i64 (x51+x56))+x22)) 2))),(iz (IntKind.wrap .i64 (x23+1))),(iz (IntKind.wrap .i64 ((IntKind.wrap .i64 (x51+x56))+x22))),(.agg [(iz x9),(.int .u64 x10)]),v11,(.agg [(iz x15),(.int .u64 x16)]),v17,(iz x23),bt,(iz x23),(iz (IntKind.wrap .i64 (x23+1))),v11,(iz x23),v47,(iz x51),v17,(iz x23),v52,(iz x56),(iz (IntKind.wrap .i64 (x51+x56))),(iz x22),(iz (IntKind.wrap .i64 ((IntKind.wrap .i64 (x51+x56))+x22))),v21,(iz (IntKind.wrap .i64 ((IntKind.wrap .i64 (x51+x56))+x22))),(iz (Int.tmod (IntKind.wrap .i64 ((IntKind.wrap .i64 (x51+x56))+x22)) 2)),v57,v59,(iz (IntKind.wrap .i64 ((IntKind.wrap .i64 (x51+x56))+x22))),(iz (IntKind.wrap .i64 (Int.tdiv (IntKind.wrap .i64 ((IntKind.wrap .i64 (x51+x56))+x22)) 2))),tz,tz],h60⟩)
 (k19 (.exit 0) ⟨[(.agg [(iz a0),(.int .u64 a1)]),(.agg [(iz a2),(.int .u64 a3)]),v0,v2,v4,v11,v17,v21,(iz x22),(iz x23),v24,(.agg [(iz x9),(.int .u64 x10)]),v11,(.agg [(iz x15),(.int .u64 x16)]),v17,(iz x23),bf,v27,v28,v29,v30,v31,v32,v33,v34,v35,v36,v37,v38,v39,v40,v41,v42,v43,v44,v45,v46,tz,tz],(St.H s18)⟩))
 (none)
def r72X0_0 (C:Cb) (d:Nat) (a0 a1 a2 a3:Int) (v0 v2 v4:AV) (x9 x10:Int) (v11:AV) (x15 x16:Int) (v17:AV):St→Ans:=fun s61 =>
 cnd ((List.length s61.env) == 39)
 (sames C s61.env 0 [(.agg [(iz a0),(.int .u64 a1)]),(.agg [(iz a2),(.int .u64 a3)]),v0,v2,v4,v11,v17] <|
 C.any s61.env[7]? fun v62 =>
 C.int .i64 s61.env[8]? fun x63 =>
 C.int .i64 s61.env[9]? fun x64 =>
 C.any s61.env[10]? fun v65 =>
 sames C s61.env 11 [(.agg [(iz x9),(.int .u64 x10)]),v11,(.agg [(iz x15),(.int .u64 x16)]),v17] <|
 C.int .i64 s61.env[15]? fun x66 =>
 C.bool s61.env[16]? fun b67 =>
 anys C s61.env 17 20 <|
 sames C s61.env 37 [tz,tz] <|
 C.snp (St.H s61) [v62] fun l88 b89 =>
 C.agg 2 (pcall M d 78 l88) fun l90 =>
 C.int .i64 l90[0]? fun x91 =>
 C.int .u64 l90[1]? fun x92 =>
 cnd (b89 || true)
 (C.hop (St.H s61) (.store 2 (.v v4) (.v (.agg [(iz x91),(.int .u64 x92)]))) fun v93 h94 =>
 C.hop h94 (.load true 2 (.v v4)) fun v95 h96 =>
 C.fin h94 v95)
 (none))
 (none)
def r72E0 (C:Cb) (d:Nat) (a0 a1 a2 a3:Int) (v0 v2 v4:AV) (x9 x10:Int) (v11:AV) (x15 x16:Int) (v17:AV):St→Ans:=fun s20 =>
 cnd ((List.length s20.env) == 39)
 (sames C s20.env 0 [(.agg [(iz a0),(.int .u64 a1)]),(.agg [(iz a2),(.int .u64 a3)]),v0,v2,v4,v11,v17] <|
 C.any s20.env[7]? fun v97 =>
 C.int .i64 s20.env[8]? fun x98 =>
 C.int .i64 s20.env[9]? fun x99 =>
 C.any s20.env[10]? fun v100 =>
 sames C s20.env 11 [(.agg [(iz x9),(.int .u64 x10)]),v11,(.agg [(iz x15),(.int .u64 x16)]),v17] <|
 anys C s20.env 15 22 <|
 sames C s20.env 37 [tz,tz] <|
 C.hop (St.H s20) (.load true 2 (.v v4)) fun v123 h124 =>
 C.fin (St.H s20) v123)
 (none)
theorem r72 (C:Cb) (d:Nat) (a0 a1 a2 a3:Int):xcall C M unr d 72 [(.agg [(iz a0),(.int .u64 a1)]),(.agg [(iz a2),(.int .u64 a3)])] =
 C.hop [] (.box E98 (.v (.agg [(iz a0),(.int .u64 a1)]))) fun v0 h1 =>
 C.hop h1 (.box E98 (.v (.agg [(iz a2),(.int .u64 a3)]))) fun v2 h3 =>
 C.hop h3 (.alloc E98) fun v4 h5 =>
 C.hop h5 (.load true 2 (.v v0)) fun v6 h7 =>
 C.agg 2 (some v6) fun l8 =>
 C.int .i64 l8[0]? fun x9 =>
 C.int .u64 l8[1]? fun x10 =>
 C.any (pcall M d 77 [(.agg [(iz x9),(.int .u64 x10)])]) fun v11 =>
 C.hop h7 (.load true 2 (.v v2)) fun v12 h13 =>
 C.agg 2 (some v12) fun l14 =>
 C.int .i64 l14[0]? fun x15 =>
 C.int .u64 l14[1]? fun x16 =>
 C.any (pcall M d 77 [(.agg [(iz x15),(.int .u64 x16)])]) fun v17 =>
 C.iter (r72R0 C d a0 a1 a2 a3 v0 v2 v4 x9 x10 v11 x15 x16 v17) 10000000000000000000 ⟨[(.agg [(iz a0),(.int .u64 a1)]),(.agg [(iz a2),(.int .u64 a3)]),v0,v2,v4,v11,v17,(.zsl true),(iz 0),(iz 0),tz,(.agg [(iz x9),(.int .u64 x10)]),v11,(.agg [(iz x15),(.int .u64 x16)]),v17,tz,tz,tz,tz,tz,tz,tz,tz,tz,tz,tz,tz,tz,tz,tz,tz,tz,tz,tz,tz,tz,tz,tz,tz],h13⟩ [0] [r72X0_0 C d a0 a1 a2 a3 v0 v2 v4 x9 x10 v11 x15 x16 v17] (r72E0 C d a0 a1 a2 a3 v0 v2 v4 x9 x10 v11 x15 x16 v17):=by kernel_rfl
theorem r73 (C:Cb) (d:Nat) (a0 a1:Int):xcall C M unr d 73 [(.agg [(iz a0),(.int .u64 a1)])] =
 C.agg 2 (pcall M d 72 [(.agg [(iz (bits .xor .i64 (if (true=true) then (-1) else (IntKind.max .i64)) a0)),(.int .u64 (bits .xor .u64 (if (false=true) then (-1) else (IntKind.max .u64)) a1))]),(.agg [(iz 0),(.int .u64 1)])]) fun l0 =>
 C.int .i64 l0[0]? fun x1 =>
 C.int .u64 l0[1]? fun x2 =>
 some (.agg [(iz x1),(.int .u64 x2)]):=by kernel_rfl
theorem r74 (C:Cb) (d:Nat) (a0:List AV):xcall C M unr d 74 [(.lst a0)] =
 C.bool (pcall M d 58 [(.lst a0),(.fn 79 [] [])]) fun b0 =>
 some (.bool (!b0)):=by kernel_rfl
theorem r75 (C:Cb) (d:Nat) (a0 a1 a2 a3 a4 a5:Int):xcall C M unr d 75 [(.agg [(iz a0),(iz a1)]),(.agg [(iz a2),(iz a3)]),(.agg [(iz a4),(iz a5)])] =
 C.bool (pcall M d 74 [(.lst [(.agg [(iz a0),(iz a1)]),(.agg [(iz a2),(iz a3)]),(.agg [(iz a4),(iz a5)])])]) fun b0 =>
 cnd (!b0)
 (some (iz 0))
 (C.agg 2 (pcall M d 80 [(iz (IntKind.wrap .i64 (a2 - a0))),(iz (IntKind.wrap .i64 (a5 - a1)))]) fun l1 =>
 C.int .i64 l1[0]? fun x2 =>
 C.int .u64 l1[1]? fun x3 =>
 C.agg 2 (pcall M d 80 [(iz (IntKind.wrap .i64 (a3 - a1))),(iz (IntKind.wrap .i64 (a4 - a0)))]) fun l4 =>
 C.int .i64 l4[0]? fun x5 =>
 C.int .u64 l4[1]? fun x6 =>
 C.int .i64 (pcall M d 81 [(.agg [(iz x2),(.int .u64 x3)]),(.agg [(iz x5),(.int .u64 x6)])]) fun x7 =>
 some (iz x7)):=by kernel_rfl
theorem r76 (C:Cb) (d:Nat) (a0 a1 a2:Int):xcall C M unr d 76 [(iz a0),(iz a1),(iz a2)] =
 cnd (decide ((if (a2 < a1) then a2 else a1)≤a0))
 (some (.bool (decide (a0≤(if (a2 > a1) then a2 else a1)))))
 (some bf):=by kernel_rfl
def r77R1 (C:Cb) (d:Nat) (a0 a1:Int) (v0:AV) (x31 x32:Int) (b33:Bool) (v34 v35 v36 v37 v38 v39 v40 v41 v42 v43 v44:AV):St→(Ex→St→Ans)→Ans:=fun s45 k46 =>
 cnd ((List.length s45.env) == 34)
 (sames C s45.env 0 [(.agg [(iz a0),(.int .u64 a1)]),v0,(.zsl true)] <|
 C.any s45.env[3]? fun v48 =>
 C.same s45.env[4]? (iz x31) <|
 C.int .i64 s45.env[5]? fun x49 =>
 sames C s45.env 6 [(iz x32),(.bool b33),v34,v35,v36,v37,v38,v39,v40,v41,v42,v43,v44] <|
 anys C s45.env 19 2 <|
 C.any s45.env[21]? fun v52 =>
 C.any s45.env[22]? fun v53 =>
 C.any s45.env[23]? fun v54 =>
 C.any s45.env[24]? fun v55 =>
 C.any s45.env[25]? fun v56 =>
 C.any s45.env[26]? fun v57 =>
 C.any s45.env[27]? fun v58 =>
 C.any s45.env[28]? fun v59 =>
 C.any s45.env[29]? fun v60 =>
 C.any s45.env[30]? fun v61 =>
 C.any s45.env[31]? fun v62 =>
 C.any s45.env[32]? fun v63 =>
 C.same s45.env[33]? tz <|
 cnd (decide (x49 < 64))
 (C.hop (St.H s45) (.fldA 0 (.v v0)) fun v64 h65 =>
 C.hop h65 (.load false 1 (.v v64)) fun v66 h67 =>
 C.int .i64 (some v66) fun x68 =>
 cnd (decide (x49 < 0))
 (none)
 (C.hop h67 (.mkrow E3 1 [(0,(.v (iz (IntKind.wrap .i64 (bits .and .u64 (Int.fdiv (IntKind.wrap .u64 x68) (2 ^ (min (Int.toNat x49) 64))) 1)))))]) fun v69 h70 =>
 C.hop h70 (.app E3 (.v v48) (.v v69)) fun v71 h72 =>
 k46 .normal ⟨[(.agg [(iz a0),(.int .u64 a1)]),v0,(.zsl true),v71,(iz x31),(iz (IntKind.wrap .i64 (x49+1))),(iz x32),(bz b33),v34,v35,v36,v37,v38,v39,v40,v41,v42,v43,v44,(iz x49),bt,(iz x49),(iz (IntKind.wrap .i64 (x49+1))),v48,v64,(iz x68),(.int .u64 (IntKind.wrap .u64 x68)),(iz x49),(.int .u64 (Int.fdiv (IntKind.wrap .u64 x68) (2 ^ (min (Int.toNat x49) 64)))),(.int .u64 (bits .and .u64 (Int.fdiv (IntKind.wrap .u64 x68) (2 ^ (min (Int.toNat x49) 64))) 1)),(iz (IntKind.wrap .i64 (bits .and .u64 (Int.fdiv (IntKind.wrap .u64 x68) (2 ^ (min (Int.toNat x49) 64))) 1))),v69,v71,tz],h72⟩))
 (k46 (.exit 2) ⟨[(.agg [(iz a0),(.int .u64 a1)]),v0,(.zsl true),v48,(iz x31),(iz x49),(iz x32),(bz b33),v34,v35,v36,v37,v38,v39,v40,v41,v42,v43,v44,(iz x49),bf,v52,v53,v54,v55,v56,v57,v58,v59,v60,v61,v62,v63,tz],(St.H s45)⟩))
 (none)
def r77X1_0 (C:Cb) (d:Nat) (a0 a1:Int) (v0:AV) (x31 x32:Int) (b33:Bool) (v34 v35 v36 v37 v38 v39 v40 v41 v42 v43 v44:AV):St→Ans:=fun s73 =>
 cnd ((List.length s73.env) == 34)
 (sames C s73.env 0 [(.agg [(iz a0),(.int .u64 a1)]),v0,(.zsl true)] <|
 C.any s73.env[3]? fun v74 =>
 C.same s73.env[4]? (iz x31) <|
 C.int .i64 s73.env[5]? fun x75 =>
 sames C s73.env 6 [(iz x32),(.bool b33),v34,v35,v36,v37,v38,v39,v40,v41,v42,v43,v44] <|
 C.int .i64 s73.env[19]? fun x76 =>
 C.bool s73.env[20]? fun b77 =>
 anys C s73.env 21 12 <|
 C.same s73.env[33]? tz <|
 C.fin (St.H s73) v74)
 (none)
def r77E1 (C:Cb) (d:Nat) (a0 a1:Int) (v0:AV) (x31 x32:Int) (b33:Bool) (v34 v35 v36 v37 v38 v39 v40 v41 v42 v43 v44:AV):St→Ans:=fun s47 =>
 cnd ((List.length s47.env) == 34)
 (sames C s47.env 0 [(.agg [(iz a0),(.int .u64 a1)]),v0,(.zsl true)] <|
 C.any s47.env[3]? fun v90 =>
 C.same s47.env[4]? (iz x31) <|
 C.int .i64 s47.env[5]? fun x91 =>
 sames C s47.env 6 [(iz x32),(.bool b33),v34,v35,v36,v37,v38,v39,v40,v41,v42,v43,v44] <|
 anys C s47.env 19 14 <|
 C.same s47.env[33]? tz <|
 C.fin (St.H s47) (.zsl true))
 (none)
def r77R0 (C:Cb) (d:Nat) (a0 a1:Int) (v0:AV):St→(Ex→St→Ans)→Ans:=fun s2 k3 =>
 cnd ((List.length s2.env) == 34)
 (sames C s2.env 0 [(.agg [(iz a0),(.int .u64 a1)]),v0,(.zsl true)] <|
 C.any s2.env[3]? fun v5 =>
 C.int .i64 s2.env[4]? fun x6 =>
 C.same s2.env[5]? tz <|
 anys C s2.env 6 2 <|
 C.any s2.env[8]? fun v9 =>
 C.any s2.env[9]? fun v10 =>
 C.any s2.env[10]? fun v11 =>
 C.any s2.env[11]? fun v12 =>
 C.any s2.env[12]? fun v13 =>
 C.any s2.env[13]? fun v14 =>
 C.any s2.env[14]? fun v15 =>
 C.any s2.env[15]? fun v16 =>
 C.any s2.env[16]? fun v17 =>
 C.any s2.env[17]? fun v18 =>
 C.any s2.env[18]? fun v19 =>
 sames C s2.env 19 [tz,tz,tz,tz,tz,tz,tz,tz,tz,tz,tz,tz,tz,tz,tz] <|
 cnd (decide (x6 < 64))
 (C.hop (St.H s2) (.fldA 1 (.v v0)) fun v20 h21 =>
 C.hop h21 (.load false 1 (.v v20)) fun v22 h23 =>
 C.int .u64 (some v22) fun x24 =>
 cnd (decide (x6 < 0))
 (none)
 (C.hop h23 (.mkrow E3 1 [(0,(.v (iz (IntKind.wrap .i64 (bits .and .u64 (Int.fdiv x24 (2 ^ (min (Int.toNat x6) 64))) 1)))))]) fun v25 h26 =>
 C.hop h26 (.app E3 (.v v5) (.v v25)) fun v27 h28 =>
 k3 .normal ⟨[(.agg [(iz a0),(.int .u64 a1)]),v0,(.zsl true),v27,(iz (IntKind.wrap .i64 (x6+1))),tz,(iz x6),bt,(iz x6),(iz (IntKind.wrap .i64 (x6+1))),v5,v20,(.int .u64 x24),(iz x6),(.int .u64 (Int.fdiv x24 (2 ^ (min (Int.toNat x6) 64)))),(.int .u64 (bits .and .u64 (Int.fdiv x24 (2 ^ (min (Int.toNat x6) 64))) 1)),(iz (IntKind.wrap .i64 (bits .and .u64 (Int.fdiv x24 (2 ^ (min (Int.toNat x6) 64))) 1))),v25,v27,tz,tz,tz,tz,tz,tz,tz,tz,tz,tz,tz,tz,tz,tz,tz],h28⟩))
 (k3 (.exit 0) ⟨[(.agg [(iz a0),(.int .u64 a1)]),v0,(.zsl true),v5,(iz x6),tz,(iz x6),bf,v9,v10,v11,v12,v13,v14,v15,v16,v17,v18,v19,tz,tz,tz,tz,tz,tz,tz,tz,tz,tz,tz,tz,tz,tz,tz],(St.H s2)⟩))
 (none)
def r77X0_0 (C:Cb) (d:Nat) (a0 a1:Int) (v0:AV):St→Ans:=fun s29 =>
 cnd ((List.length s29.env) == 34)
 (sames C s29.env 0 [(.agg [(iz a0),(.int .u64 a1)]),v0,(.zsl true)] <|
 C.any s29.env[3]? fun v30 =>
 C.int .i64 s29.env[4]? fun x31 =>
 C.same s29.env[5]? tz <|
 C.int .i64 s29.env[6]? fun x32 =>
 C.bool s29.env[7]? fun b33 =>
 C.any s29.env[8]? fun v34 =>
 C.any s29.env[9]? fun v35 =>
 C.any s29.env[10]? fun v36 =>
 C.any s29.env[11]? fun v37 =>
 C.any s29.env[12]? fun v38 =>
 C.any s29.env[13]? fun v39 =>
 C.any s29.env[14]? fun v40 =>
 C.any s29.env[15]? fun v41 =>
 C.any s29.env[16]? fun v42 =>
 C.any s29.env[17]? fun v43 =>
 C.any s29.env[18]? fun v44 =>
 sames C s29.env 19 [tz,tz,tz,tz,tz,tz,tz,tz,tz,tz,tz,tz,tz,tz,tz] <|
 C.iter (r77R1 C d a0 a1 v0 x31 x32 b33 v34 v35 v36 v37 v38 v39 v40 v41 v42 v43 v44) 10000000000000000000 ⟨[(.agg [(iz a0),(.int .u64 a1)]),v0,(.zsl true),v30,(iz x31),(iz 0),(iz x32),(bz b33),v34,v35,v36,v37,v38,v39,v40,v41,v42,v43,v44,tz,tz,tz,tz,tz,tz,tz,tz,tz,tz,tz,tz,tz,tz,tz],(St.H s29)⟩ [2] [r77X1_0 C d a0 a1 v0 x31 x32 b33 v34 v35 v36 v37 v38 v39 v40 v41 v42 v43 v44] (r77E1 C d a0 a1 v0 x31 x32 b33 v34 v35 v36 v37 v38 v39 v40 v41 v42 v43 v44))
 (none)
def r77E0 (C:Cb) (d:Nat) (a0 a1:Int) (v0:AV):St→Ans:=fun s4 =>
 cnd ((List.length s4.env) == 34)
 (sames C s4.env 0 [(.agg [(iz a0),(.int .u64 a1)]),v0,(.zsl true)] <|
 C.any s4.env[3]? fun v106 =>
 C.int .i64 s4.env[4]? fun x107 =>
 C.same s4.env[5]? tz <|
 anys C s4.env 6 13 <|
 sames C s4.env 19 [tz,tz,tz,tz,tz,tz,tz,tz,tz,tz,tz,tz,tz,tz,tz] <|
 C.fin (St.H s4) (.zsl true))
 (none)
theorem r77 (C:Cb) (d:Nat) (a0 a1:Int):xcall C M unr d 77 [(.agg [(iz a0),(.int .u64 a1)])] =
 C.hop [] (.box E98 (.v (.agg [(iz a0),(.int .u64 a1)]))) fun v0 h1 =>
 C.iter (r77R0 C d a0 a1 v0) 10000000000000000000 ⟨[(.agg [(iz a0),(.int .u64 a1)]),v0,(.zsl true),(.zsl true),(iz 0),tz,tz,tz,tz,tz,tz,tz,tz,tz,tz,tz,tz,tz,tz,tz,tz,tz,tz,tz,tz,tz,tz,tz,tz,tz,tz,tz,tz,tz],h1⟩ [0] [r77X0_0 C d a0 a1 v0] (r77E0 C d a0 a1 v0):=by kernel_rfl
def r78R0 (C:Cb) (d:Nat) (a0:List AV) (v0 v2:AV):St→(Ex→St→Ans)→Ans:=fun s6 k7 =>
 cnd ((List.length s6.env) == 36)
 (sames C s6.env 0 [(.lst a0),tz,v0,v2] <|
 C.int .u64 s6.env[4]? fun x9 =>
 C.int .i64 s6.env[5]? fun x10 =>
 C.same s6.env[6]? (.agg [(iz 0),(.int .u64 0)]) <|
 anys C s6.env 7 2 <|
 C.any s6.env[9]? fun v13 =>
 C.any s6.env[10]? fun v14 =>
 C.any s6.env[11]? fun v15 =>
 C.any s6.env[12]? fun v16 =>
 C.any s6.env[13]? fun v17 =>
 C.any s6.env[14]? fun v18 =>
 C.any s6.env[15]? fun v19 =>
 C.any s6.env[16]? fun v20 =>
 C.any s6.env[17]? fun v21 =>
 C.any s6.env[18]? fun v22 =>
 C.any s6.env[19]? fun v23 =>
 C.any s6.env[20]? fun v24 =>
 C.any s6.env[21]? fun v25 =>
 C.any s6.env[22]? fun v26 =>
 C.any s6.env[23]? fun v27 =>
 C.any s6.env[24]? fun v28 =>
 C.any s6.env[25]? fun v29 =>
 C.any s6.env[26]? fun v30 =>
 C.any s6.env[27]? fun v31 =>
 C.any s6.env[28]? fun v32 =>
 C.any s6.env[29]? fun v33 =>
 C.any s6.env[30]? fun v34 =>
 C.any s6.env[31]? fun v35 =>
 sames C s6.env 32 [tz,tz,tz,tz] <|
 cnd (decide (x10 < 64))
 (C.hop (St.H s6) (.ixAS .any 1 (.v (.lst a0)) (.v (iz x10))) fun v36 h37 =>
 C.hop h37 (.load false 1 (.v v36)) fun v38 h39 =>
 C.int .i64 (some v38) fun x40 =>
 cnd (x40 == 1)
 (C.hop h39 (.fldA 1 (.v v2)) fun v41 h42 =>
 C.hop h42 (.load false 1 (.v v41)) fun v43 h44 =>
 C.int .u64 (some v43) fun x45 =>
 cnd (decide (x10 < 0))
 (none)
 (C.hop h44 (.fldA 1 (.v v2)) fun v46 h47 =>
 C.hop h47 (.store 1 (.v v46) (.v (.int .u64 (bits .or .u64 x45 (IntKind.wrap .u64 (1 * (2 ^ (min (Int.toNat x10) 64)))))))) fun v48 h49 =>
 C.hop h49 (.ixAS .any 1 (.v (.lst a0)) (.v (iz (IntKind.wrap .i64 (64+x10))))) fun v50 h51 =>
 C.hop h51 (.load false 1 (.v v50)) fun v52 h53 =>
 C.int .i64 (some v52) fun x54 =>
 cnd (x54 == 1)
 (cnd (decide (x10 < 0))
 (none)
 (k7 .normal ⟨[(.lst a0),tz,v0,v2,(.int .u64 (bits .or .u64 x9 (IntKind.wrap .u64 (1 * (2 ^ (min (Int.toNat x10) 64)))))),(iz (IntKind.wrap .i64 (x10+1))),(.agg [(iz 0),(.int .u64 0)]),(iz x10),bt,(iz x10),(iz (IntKind.wrap .i64 (x10+1))),(.lst a0),(iz x10),v36,(iz x40),bt,v41,(.int .u64 x45),(iz x10),(.int .u64 (IntKind.wrap .u64 (1 * (2 ^ (min (Int.toNat x10) 64))))),(.int .u64 (bits .or .u64 x45 (IntKind.wrap .u64 (1 * (2 ^ (min (Int.toNat x10) 64)))))),v46,(.lst a0),(iz x10),(iz (IntKind.wrap .i64 (64+x10))),v50,(iz x54),bt,(.int .u64 x9),(iz x10),(.int .u64 (IntKind.wrap .u64 (1 * (2 ^ (min (Int.toNat x10) 64))))),(.int .u64 (bits .or .u64 x9 (IntKind.wrap .u64 (1 * (2 ^ (min (Int.toNat x10) 64)))))),tz,tz,tz,tz],h53⟩))
 (k7 .normal ⟨[(.lst a0),tz,v0,v2,(.int .u64 x9),(iz (IntKind.wrap .i64 (x10+1))),(.agg [(iz 0),(.int .u64 0)]),(iz x10),bt,(iz x10),(iz (IntKind.wrap .i64 (x10+1))),(.lst a0),(iz x10),v36,(iz x40),bt,v41,(.int .u64 x45),(iz x10),(.int .u64 (IntKind.wrap .u64 (1 * (2 ^ (min (Int.toNat x10) 64))))),(.int .u64 (bits .or .u64 x45 (IntKind.wrap .u64 (1 * (2 ^ (min (Int.toNat x10) 64)))))),v46,(.lst a0),(iz x10),(iz (IntKind.wrap .i64 (64+x10))),v50,(iz x54),bf,v32,v33,v34,v35,tz,tz,tz,tz],h53⟩)))
 (C.hop h39 (.ixAS .any 1 (.v (.lst a0)) (.v (iz (IntKind.wrap .i64 (64+x10))))) fun v55 h56 =>
 C.hop h56 (.load false 1 (.v v55)) fun v57 h58 =>
 C.int .i64 (some v57) fun x59 =>
 cnd (x59 == 1)
 (cnd (decide (x10 < 0))
 (none)
 (k7 .normal ⟨[(.lst a0),tz,v0,v2,(.int .u64 (bits .or .u64 x9 (IntKind.wrap .u64 (1 * (2 ^ (min (Int.toNat x10) 64)))))),(iz (IntKind.wrap .i64 (x10+1))),(.agg [(iz 0),(.int .u64 0)]),(iz x10),bt,(iz x10),(iz (IntKind.wrap .i64 (x10+1))),(.lst a0),(iz x10),v36,(iz x40),bf,v20,v21,v22,v23,v24,v25,(.lst a0),(iz x10),(iz (IntKind.wrap .i64 (64+x10))),v55,(iz x59),bt,(.int .u64 x9),(iz x10),(.int .u64 (IntKind.wrap .u64 (1 * (2 ^ (min (Int.toNat x10) 64))))),(.int .u64 (bits .or .u64 x9 (IntKind.wrap .u64 (1 * (2 ^ (min (Int.toNat x10) 64)))))),tz,tz,tz,tz],h58⟩))
 (k7 .normal ⟨[(.lst a0),tz,v0,v2,(.int .u64 x9),(iz (IntKind.wrap .i64 (x10+1))),(.agg [(iz 0),(.int .u64 0)]),(iz x10),bt,(iz x10),(iz (IntKind.wrap .i64 (x10+1))),(.lst a0),(iz x10),v36,(iz x40),bf,v20,v21,v22,v23,v24,v25,(.lst a0),(iz x10),(iz (IntKind.wrap .i64 (64+x10))),v55,(iz x59),bf,v32,v33,v34,v35,tz,tz,tz,tz],h58⟩)))
 (k7 (.exit 0) ⟨[(.lst a0),tz,v0,v2,(.int .u64 x9),(iz x10),(.agg [(iz 0),(.int .u64 0)]),(iz x10),bf,v13,v14,v15,v16,v17,v18,v19,v20,v21,v22,v23,v24,v25,v26,v27,v28,v29,v30,v31,v32,v33,v34,v35,tz,tz,tz,tz],(St.H s6)⟩))
 (none)
def r78X0_0 (C:Cb) (d:Nat) (a0:List AV) (v0 v2:AV):St→Ans:=fun s60 =>
 cnd ((List.length s60.env) == 36)
 (sames C s60.env 0 [(.lst a0),tz,v0,v2] <|
 C.int .u64 s60.env[4]? fun x61 =>
 C.int .i64 s60.env[5]? fun x62 =>
 C.same s60.env[6]? (.agg [(iz 0),(.int .u64 0)]) <|
 C.int .i64 s60.env[7]? fun x63 =>
 C.bool s60.env[8]? fun b64 =>
 anys C s60.env 9 23 <|
 sames C s60.env 32 [tz,tz,tz,tz] <|
 C.hop (St.H s60) (.fldA 0 (.v v2)) fun v88 h89 =>
 C.hop h89 (.store 1 (.v v88) (.v (iz (IntKind.wrap .i64 x61)))) fun v90 h91 =>
 C.hop h91 (.load true 2 (.v v2)) fun v92 h93 =>
 C.agg 2 (some v92) fun l94 =>
 C.int .i64 l94[0]? fun x95 =>
 C.int .u64 l94[1]? fun x96 =>
 C.hop h93 (.store 2 (.v v0) (.v (.agg [(iz x95),(.int .u64 x96)]))) fun v97 h98 =>
 C.hop h98 (.load true 2 (.v v0)) fun v99 h100 =>
 C.fin h98 v99)
 (none)
def r78E0 (C:Cb) (d:Nat) (a0:List AV) (v0 v2:AV):St→Ans:=fun s8 =>
 cnd ((List.length s8.env) == 36)
 (sames C s8.env 0 [(.lst a0),tz,v0,v2] <|
 C.int .u64 s8.env[4]? fun x101 =>
 C.int .i64 s8.env[5]? fun x102 =>
 C.same s8.env[6]? (.agg [(iz 0),(.int .u64 0)]) <|
 anys C s8.env 7 25 <|
 sames C s8.env 32 [tz,tz,tz,tz] <|
 C.hop (St.H s8) (.load true 2 (.v v0)) fun v128 h129 =>
 C.fin (St.H s8) v128)
 (none)
theorem r78 (C:Cb) (d:Nat) (a0:List AV):xcall C M unr d 78 [(.lst a0)] =
 C.hop [] (.alloc E98) fun v0 h1 =>
 C.hop h1 (.alloc E98) fun v2 h3 =>
 C.hop h3 (.store 2 (.v v2) (.v (.agg [(iz 0),(.int .u64 0)]))) fun v4 h5 =>
 C.iter (r78R0 C d a0 v0 v2) 10000000000000000000 ⟨[(.lst a0),tz,v0,v2,(.int .u64 0),(iz 0),(.agg [(iz 0),(.int .u64 0)]),tz,tz,tz,tz,tz,tz,tz,tz,tz,tz,tz,tz,tz,tz,tz,tz,tz,tz,tz,tz,tz,tz,tz,tz,tz,tz,tz,tz,tz],h5⟩ [0] [r78X0_0 C d a0 v0 v2] (r78E0 C d a0 v0 v2):=by kernel_rfl
theorem r79 (C:Cb) (d:Nat) (a0 a1:Int):xcall C M unr d 79 [(.agg [(iz a0),(iz a1)])] =
 C.bool (pcall M d 62 [(.agg [(iz a0),(iz a1)])]) fun b0 =>
 some (.bool (!b0)):=by kernel_rfl
theorem r80 (C:Cb) (d:Nat) (a0 a1:Int):xcall C M unr d 80 [(iz a0),(iz a1)] =
 C.tup 2 (pcall M d 82 [(.int .u64 (IntKind.wrap .u64 a0)),(.int .u64 (IntKind.wrap .u64 a1))]) fun l0 =>
 C.int .u64 l0[0]? fun x1 =>
 C.int .u64 l0[1]? fun x2 =>
 cnd (decide (a0 < 0))
 (cnd (decide (a1 < 0))
 (some (.agg [(iz (IntKind.wrap .i64 (IntKind.wrap .u64 ((IntKind.wrap .u64 (x1 - (IntKind.wrap .u64 a1))) - (IntKind.wrap .u64 a0))))),(.int .u64 x2)]))
 (some (.agg [(iz (IntKind.wrap .i64 (IntKind.wrap .u64 (x1 - (IntKind.wrap .u64 a1))))),(.int .u64 x2)])))
 (cnd (decide (a1 < 0))
 (some (.agg [(iz (IntKind.wrap .i64 (IntKind.wrap .u64 (x1 - (IntKind.wrap .u64 a0))))),(.int .u64 x2)]))
 (some (.agg [(iz (IntKind.wrap .i64 x1)),(.int .u64 x2)]))):=by kernel_rfl
theorem r81 (C:Cb) (d:Nat) (a0 a1 a2 a3:Int):xcall C M unr d 81 [(.agg [(iz a0),(.int .u64 a1)]),(.agg [(iz a2),(.int .u64 a3)])] =
 C.int .i64 (pcall M d 84 [(iz a0),(iz a2)]) fun x0 =>
 C.int .i64 (pcall M d 85 [(.int .u64 a1),(.int .u64 a3)]) fun x1 =>
 C.int .i64 (pcall M d 83 [(.lst [(iz x0),(iz x1)])]) fun x2 =>
 some (iz x2):=by kernel_rfl
theorem r82 (C:Cb) (d:Nat) (a0 a1:Int):xcall C M unr d 82 [(.int .u64 a0),(.int .u64 a1)] =
 some (.tup [(.int .u64 (IntKind.wrap .u64 ((IntKind.wrap .u64 ((IntKind.wrap .u64 ((Int.fdiv a0 (2 ^ (min (Int.toNat 32) 64))) * (Int.fdiv a1 (2 ^ (min (Int.toNat 32) 64)))))+(Int.fdiv (IntKind.wrap .u64 ((IntKind.wrap .u64 ((Int.fdiv a0 (2 ^ (min (Int.toNat 32) 64))) * (bits .and .u64 a1 4294967295)))+(Int.fdiv (IntKind.wrap .u64 ((bits .and .u64 a0 4294967295) * (bits .and .u64 a1 4294967295))) (2 ^ (min (Int.toNat 32) 64))))) (2 ^ (min (Int.toNat 32) 64)))))+(Int.fdiv (IntKind.wrap .u64 ((bits .and .u64 (IntKind.wrap .u64 ((IntKind.wrap .u64 ((Int.fdiv a0 (2 ^ (min (Int.toNat 32) 64))) * (bits .and .u64 a1 4294967295)))+(Int.fdiv (IntKind.wrap .u64 ((bits .and .u64 a0 4294967295) * (bits .and .u64 a1 4294967295))) (2 ^ (min (Int.toNat 32) 64))))) 4294967295)+(IntKind.wrap .u64 ((bits .and .u64 a0 4294967295) * (Int.fdiv a1 (2 ^ (min (Int.toNat 32) 64))))))) (2 ^ (min (Int.toNat 32) 64)))))),(.int .u64 (IntKind.wrap .u64 (a0 * a1)))]):=by kernel_rfl
def r83R0 (C:Cb) (d:Nat) (a0:List AV):St→(Ex→St→Ans)→Ans:=fun s0 k1 =>
 cnd ((List.length s0.env) == 18)
 (sames C s0.env 0 [(.lst a0),tz] <|
 C.int .i64 s0.env[2]? fun x3 =>
 sames C s0.env 3 [(iz 0),tz] <|
 C.any s0.env[5]? fun v4 =>
 sames C s0.env 6 [(.lst a0),(iz (((List.length a0):Nat):Int))] <|
 C.int .i64 s0.env[8]? fun x5 =>
 C.any s0.env[9]? fun v6 =>
 C.any s0.env[10]? fun v7 =>
 C.any s0.env[11]? fun v8 =>
 C.any s0.env[12]? fun v9 =>
 C.any s0.env[13]? fun v10 =>
 C.any s0.env[14]? fun v11 =>
 C.any s0.env[15]? fun v12 =>
 C.any s0.env[16]? fun v13 =>
 C.same s0.env[17]? tz <|
 C.sameH (St.H s0) [] <|
 cnd (decide (x5 < (((List.length a0):Nat):Int)))
 (cnd (decide ((0:Int)≤x5))
 (C.int .i64 a0[(Int.toNat x5)]? fun x14 =>
 cnd (x14 != 0)
 (k1 .ret ⟨[(.lst a0),tz,(iz x14),(iz 0),tz,(iz x14),(.lst a0),(iz (((List.length a0):Nat):Int)),(iz x5),bt,(.fptr (iz x14) 0),(iz x14),(iz x14),(iz 0),bt,(iz x14),v13,tz],[]⟩)
 (k1 .normal ⟨[(.lst a0),tz,(iz x3),(iz 0),tz,(iz x14),(.lst a0),(iz (((List.length a0):Nat):Int)),(iz (IntKind.wrap .i64 (x5+1))),bt,(.fptr (iz x14) 0),(iz x14),(iz x14),(iz 0),bf,v12,(iz (IntKind.wrap .i64 (x5+1))),tz],[]⟩))
 (none))
 (k1 (.exit 0) ⟨[(.lst a0),tz,(iz x3),(iz 0),tz,v4,(.lst a0),(iz (((List.length a0):Nat):Int)),(iz x5),bf,v7,v8,v9,v10,v11,v12,v13,tz],[]⟩))
 (none)
def r83X0_0 (C:Cb) (d:Nat) (a0:List AV):St→Ans:=fun s15 =>
 cnd ((List.length s15.env) == 18)
 (sames C s15.env 0 [(.lst a0),tz] <|
 C.int .i64 s15.env[2]? fun x16 =>
 sames C s15.env 3 [(iz 0),tz] <|
 C.any s15.env[5]? fun v17 =>
 sames C s15.env 6 [(.lst a0),(iz (((List.length a0):Nat):Int))] <|
 C.int .i64 s15.env[8]? fun x18 =>
 anys C s15.env 9 8 <|
 C.same s15.env[17]? tz <|
 C.sameH (St.H s15) [] <|
 some (iz 0))
 (none)
def r83E0 (C:Cb) (d:Nat) (a0:List AV):St→Ans:=fun s2 =>
 cnd ((List.length s2.env) == 18)
 (sames C s2.env 0 [(.lst a0),tz] <|
 C.int .i64 s2.env[2]? fun x27 =>
 sames C s2.env 3 [(iz 0),tz] <|
 C.int .i64 s2.env[5]? fun x28 =>
 sames C s2.env 6 [(.lst a0),(iz (((List.length a0):Nat):Int))] <|
 C.int .i64 s2.env[8]? fun x29 =>
 anys C s2.env 9 2 <|
 C.int .i64 s2.env[11]? fun x32 =>
 C.int .i64 s2.env[12]? fun x33 =>
 C.int .i64 s2.env[13]? fun x34 =>
 C.bool s2.env[14]? fun b35 =>
 C.int .i64 s2.env[15]? fun x36 =>
 C.any s2.env[16]? fun v37 =>
 C.same s2.env[17]? tz <|
 C.sameH (St.H s2) [] <|
 some (iz x27))
 (none)
theorem r83 (C:Cb) (d:Nat) (a0:List AV):xcall C M unr d 83 [(.lst a0)] =
 C.iter (r83R0 C d a0) 10000000000000000000 ⟨[(.lst a0),tz,(iz 0),(iz 0),tz,tz,(.lst a0),(iz (((List.length a0):Nat):Int)),(iz 0),tz,tz,tz,tz,tz,tz,tz,tz,tz],[]⟩ [0] [r83X0_0 C d a0] (r83E0 C d a0):=by kernel_rfl
theorem r84 (C:Cb) (d:Nat) (a0 a1:Int):xcall C M unr d 84 [(iz a0),(iz a1)] =
 C.bool (pcall M d 86 [(iz a0)]) fun b0 =>
 C.bool (pcall M d 86 [(iz a1)]) fun b1 =>
 cnd b0
 (cnd b1
 (some (iz 0))
 (some (iz (-1))))
 (cnd b1
 (some (iz 1))
 (cnd (decide (a0 < a1))
 (some (iz (-1)))
 (cnd (decide (a0 > a1))
 (some (iz 1))
 (some (iz 0))))):=by kernel_rfl
theorem r85 (C:Cb) (d:Nat) (a0 a1:Int):xcall C M unr d 85 [(.int .u64 a0),(.int .u64 a1)] =
 C.bool (pcall M d 87 [(.int .u64 a0)]) fun b0 =>
 C.bool (pcall M d 87 [(.int .u64 a1)]) fun b1 =>
 cnd b0
 (cnd b1
 (some (iz 0))
 (some (iz (-1))))
 (cnd b1
 (some (iz 1))
 (cnd (decide (a0 < a1))
 (some (iz (-1)))
 (cnd (decide (a0 > a1))
 (some (iz 1))
 (some (iz 0))))):=by kernel_rfl
theorem r86 (C:Cb) (d:Nat) (a0:Int):xcall C M unr d 86 [(iz a0)] =
 some (.bool (a0 != a0)):=by kernel_rfl
theorem r87 (C:Cb) (d:Nat) (a0:Int):xcall C M unr d 87 [(.int .u64 a0)] =
 some (.bool (a0 != a0)):=by kernel_rfl
noncomputable def X31_0_0 (d:Nat) (a0 a1:List AV) :Ans :=
 some bt
theorem X31_0_0_ok (d:Nat) (a0 a1:List AV) (b27:Bool) (x28 x29:Int) (v30:AV) (x31:Int) (b32:Bool) (v33 v34 v35 v36 v37 v38 v39 v40 v41 v42 v43:AV):r31X0_0 C0 d a0 a1 ⟨[(.lst a0),(.lst a1),tz,tz,(.bool b27),(iz x28),(.lst a0),(iz (((List.length a0):Nat):Int)),(.lst a1),(iz (((List.length a1):Nat):Int)),bf,(iz x29),v30,(iz x31),(.bool b32),v33,v34,v35,v36,v37,v38,v39,v40,v41,v42,v43],[]⟩=X31_0_0 d a0 a1 :=by
 unfold r31X0_0; refine Eq.trans (pl_len (by rfl)) ?_; refine yt ySs ?_; refine yt yB ?_; refine yt yI ?_; refine yt ySs ?_; refine yt yI ?_; refine yt yA ?_; refine yt yI ?_; refine yt yB ?_; refine yt yAs ?_; refine Eq.trans (pl_sameH) ?_
 rfl
noncomputable def E31_0 (d:Nat) (a0 a1:List AV) (b44:Bool):Ans :=
 some (.bool b44)
theorem E31_0_ok (d:Nat) (a0 a1:List AV) (b44:Bool) (x45 x46:Int) (v47:AV) (x48:Int) (b49:Bool) (v50 v51 v52:AV) (x53:Int) (v54:AV) (x56 x57:Int) (v58:AV) (x59:Int) (v60:AV) (x62 x63:Int) (b64:Bool):r31E0 C0 d a0 a1 ⟨[(.lst a0),(.lst a1),tz,tz,(.bool b44),(iz x45),(.lst a0),(iz (((List.length a0):Nat):Int)),(.lst a1),(iz (((List.length a1):Nat):Int)),bf,(iz x46),v47,(iz x48),(.bool b49),v50,v51,v52,(iz x53),v54,(.agg [(iz x56),(iz x57)]),v58,(iz x59),v60,(.agg [(iz x62),(iz x63)]),(.bool b64)],[]⟩=E31_0 d a0 a1 b44:=by
 unfold r31E0; refine Eq.trans (pl_len (by rfl)) ?_; refine yt ySs ?_; refine yt yB ?_; refine yt yI ?_; refine yt ySs ?_; refine yt yI ?_; refine yt yA ?_; refine yt yI ?_; refine yt yB ?_; refine yt yAs ?_; refine yt yI ?_; refine yt yA ?_; refine yt yG ?_; (iterate 2 (refine yt yI ?_)); refine yt yA ?_; refine yt yI ?_; refine yt yA ?_; refine yt yG ?_; (iterate 2 (refine yt yI ?_)); refine yt yB ?_; refine Eq.trans (pl_sameH) ?_
 rfl
noncomputable def L31_0 (d:Nat) (a0 a1:List AV):Nat→Int→Ans
 | 0,_=>none
 | n+1,x4 =>
 cnd (decide (x4 < (((List.length a0):Nat):Int)))
  (cnd (decide ((0:Int)≤x4))
  (C0.agg 2 a0[(Int.toNat x4)]? fun l20 =>
  C0.int .i64 l20[0]? fun x21 =>
  C0.int .i64 l20[1]? fun x22 =>
  cnd (decide ((0:Int)≤x4))
  (C0.agg 2 a1[(Int.toNat x4)]? fun l23 =>
  C0.int .i64 l23[0]? fun x24 =>
  C0.int .i64 l23[1]? fun x25 =>
  cnd (xor true ((x21 == x24) && ((x22 == x25) && true)))
  (E31_0 d a0 a1 false)
  (L31_0 d a0 a1 n (IntKind.wrap .i64 (x4+1))))
  (none))
  (none))
  (X31_0_0 d a0 a1)
theorem L31_0_s (d:Nat) (a0 a1:List AV) (n:Nat) (x4:Int):L31_0 d a0 a1 (n+1) x4=(cnd (decide (x4 < (((List.length a0):Nat):Int)))
 (cnd (decide ((0:Int)≤x4))
 (C0.agg 2 a0[(Int.toNat x4)]? fun l20 =>
 C0.int .i64 l20[0]? fun x21 =>
 C0.int .i64 l20[1]? fun x22 =>
 cnd (decide ((0:Int)≤x4))
 (C0.agg 2 a1[(Int.toNat x4)]? fun l23 =>
 C0.int .i64 l23[0]? fun x24 =>
 C0.int .i64 l23[1]? fun x25 =>
 cnd (xor true ((x21 == x24) && ((x22 == x25) && true)))
 (E31_0 d a0 a1 false)
 (L31_0 d a0 a1 n (IntKind.wrap .i64 (x4+1))))
 (none))
 (none))
 (X31_0_0 d a0 a1)):=by kernel_rfl
theorem it31_0 (d:Nat) (a0 a1:List AV)  :∀ (n:Nat) (b3:Bool) (x4:Int) (v5 v6 v7 v8 v9 v10 v11 v12 v13 v14 v15 v16 v17 v18 v19:AV),C0.iter (r31R0 C0 d a0 a1) n ⟨[(.lst a0),(.lst a1),tz,tz,(.bool b3),(iz x4),(.lst a0),(iz (((List.length a0):Nat):Int)),(.lst a1),(iz (((List.length a1):Nat):Int)),bf,v5,v6,v7,v8,v9,v10,v11,v12,v13,v14,v15,v16,v17,v18,v19],[]⟩ [0] [r31X0_0 C0 d a0 a1] (r31E0 C0 d a0 a1)=L31_0 d a0 a1 n x4:=by
 generalize hR:r31R0 C0 d a0 a1=R
 intro n
 induction n with
 | zero=>intros; rfl
 | succ n ih =>
   intro b3 x4 v5 v6 v7 v8 v9 v10 v11 v12 v13 v14 v15 v16 v17 v18 v19
   simp only [it_ret] at ih
   rw [it_ret,xiter_s]
   refine Eq.trans (congrFun (congrFun hR.symm _) _) ?_
   unfold r31R0
   refine Eq.trans (pl_len (by rfl)) ?_; refine yt ySs ?_; refine yt yB ?_; refine yt yI ?_; refine yt ySs ?_; refine yt yAs ?_; (iterate 11 (refine yt yA ?_)); refine Eq.trans (pl_sameH) ?_
   simp only [kIter_n,kIter_x,kIter_r,kOut_x,kOut_r,xgo_hit,xgo_miss,ih,X31_0_0_ok d a0 a1  ,E31_0_ok d a0 a1  ]
   exact (L31_0_s d a0 a1 n x4).symm
theorem q31 (d:Nat) (a0 a1:List AV):xcall C0 M unr d 31 [(.lst a0),(.lst a1)] =
 cnd ((((List.length a0):Nat):Int) != (((List.length a1):Nat):Int))
  (some bf)
  (L31_0 d a0 a1 10000000000000000000 0):=(r31 C0 d a0 a1).trans (by simp only [it31_0])
noncomputable def X64f79_0_0 (d:Nat) (a0:List AV) :Ans :=
 some (iz (-1))
theorem X64f79_0_0_ok (d:Nat) (a0:List AV) (x21:Int) (v22:AV) (x23:Int) (v24 v25 v26 v27 v28 v29 v30 v31 v32 v33:AV):r64f79X0_0 C0 d a0 ⟨[(.lst a0),(.fn 79 [] []),tz,tz,(iz x21),v22,(.lst a0),(iz (((List.length a0):Nat):Int)),(iz x23),v24,v25,v26,v27,v28,v29,v30,v31,v32,v33],[]⟩=X64f79_0_0 d a0 :=by
 unfold r64f79X0_0; refine Eq.trans (pl_len (by rfl)) ?_; refine yt ySs ?_; refine yt yI ?_; refine yt yA ?_; refine yt ySs ?_; refine yt yI ?_; refine yt yAs ?_; refine Eq.trans (pl_sameH) ?_
 rfl
noncomputable def E64f79_0 (d:Nat) (a0:List AV) (x34:Int):Ans :=
 some (iz x34)
theorem E64f79_0_ok (d:Nat) (a0:List AV) (x34 x35 x36:Int) (v37:AV) (x38:Int) (v39 v40:AV) (x41:Int) (v42:AV) (x44 x45:Int) (b46:Bool) (x47:Int) (v48:AV):r64f79E0 C0 d a0 ⟨[(.lst a0),(.fn 79 [] []),tz,tz,(iz x34),(iz x35),(.lst a0),(iz (((List.length a0):Nat):Int)),(iz x36),v37,(iz x38),v39,v40,(iz x41),v42,(.agg [(iz x44),(iz x45)]),(.bool b46),(iz x47),v48],[]⟩=E64f79_0 d a0 x34:=by
 unfold r64f79E0; refine Eq.trans (pl_len (by rfl)) ?_; refine yt ySs ?_; (iterate 2 (refine yt yI ?_)); refine yt ySs ?_; refine yt yI ?_; refine yt yA ?_; refine yt yI ?_; refine yt yAs ?_; refine yt yI ?_; refine yt yA ?_; refine yt yG ?_; (iterate 2 (refine yt yI ?_)); refine yt yB ?_; refine yt yI ?_; refine yt yA ?_; refine Eq.trans (pl_sameH) ?_
 rfl
noncomputable def L64f79_0 (d:Nat) (a0:List AV):Nat→Int→Ans
 | 0,_=>none
 | n+1,x5 =>
 cnd (decide (x5 < (((List.length a0):Nat):Int)))
  (cnd (decide ((0:Int)≤x5))
  (C0.agg 2 a0[(Int.toNat x5)]? fun l16 =>
  C0.int .i64 l16[0]? fun x17 =>
  C0.int .i64 l16[1]? fun x18 =>
  C0.bool (pcall M d 79 [(.agg [(iz x17),(iz x18)])]) fun b19 =>
  cnd b19
  (E64f79_0 d a0 x5)
  (L64f79_0 d a0 n (IntKind.wrap .i64 (x5+1))))
  (none))
  (X64f79_0_0 d a0)
theorem L64f79_0_s (d:Nat) (a0:List AV) (n:Nat) (x5:Int):L64f79_0 d a0 (n+1) x5=(cnd (decide (x5 < (((List.length a0):Nat):Int)))
 (cnd (decide ((0:Int)≤x5))
 (C0.agg 2 a0[(Int.toNat x5)]? fun l16 =>
 C0.int .i64 l16[0]? fun x17 =>
 C0.int .i64 l16[1]? fun x18 =>
 C0.bool (pcall M d 79 [(.agg [(iz x17),(iz x18)])]) fun b19 =>
 cnd b19
 (E64f79_0 d a0 x5)
 (L64f79_0 d a0 n (IntKind.wrap .i64 (x5+1))))
 (none))
 (X64f79_0_0 d a0)):=by kernel_rfl
theorem it64f79_0 (d:Nat) (a0:List AV)  :∀ (n:Nat) (x3:Int) (v4:AV) (x5:Int) (v6 v7 v8 v9 v10 v11 v12 v13 v14 v15:AV),C0.iter (r64f79R0 C0 d a0) n ⟨[(.lst a0),(.fn 79 [] []),tz,tz,(iz x3),v4,(.lst a0),(iz (((List.length a0):Nat):Int)),(iz x5),v6,v7,v8,v9,v10,v11,v12,v13,v14,v15],[]⟩ [0] [r64f79X0_0 C0 d a0] (r64f79E0 C0 d a0)=L64f79_0 d a0 n x5:=by
 generalize hR:r64f79R0 C0 d a0=R
 intro n
 induction n with
 | zero=>intros; rfl
 | succ n ih =>
   intro x3 v4 x5 v6 v7 v8 v9 v10 v11 v12 v13 v14 v15
   simp only [it_ret] at ih
   rw [it_ret,xiter_s]
   refine Eq.trans (congrFun (congrFun hR.symm _) _) ?_
   unfold r64f79R0
   refine Eq.trans (pl_len (by rfl)) ?_; refine yt ySs ?_; refine yt yI ?_; refine yt yA ?_; refine yt ySs ?_; refine yt yI ?_; (iterate 10 (refine yt yA ?_)); refine Eq.trans (pl_sameH) ?_
   simp only [kIter_n,kIter_x,kIter_r,kOut_x,kOut_r,xgo_hit,xgo_miss,ih,X64f79_0_0_ok d a0  ,E64f79_0_ok d a0  ]
   exact (L64f79_0_s d a0 n x5).symm
theorem q64f79 (d:Nat) (a0:List AV) (a1:AV):xcall C0 M unr d 64 [(.lst a0),(.fn 79 [] [])] =
 L64f79_0 d a0 10000000000000000000 0:=(r64f79 C0 d a0 a1).trans (by simp only [it64f79_0])
noncomputable def X66_0_0 (d:Nat) (a1:Int) (v0 v5 v9:AV) (H:Heap):Ans :=
 cnd (decide (a1 < 0))
  (C0.hop H (.load true 2 (.v v9)) fun v94 h95 =>
  C0.agg 2 (some v94) fun l96 =>
  C0.int .i64 l96[0]? fun x97 =>
  C0.int .u64 l96[1]? fun x98 =>
  C0.hop h95 (.load true 2 (.v v5)) fun v99 h100 =>
  C0.agg 2 (some v99) fun l101 =>
  C0.int .i64 l101[0]? fun x102 =>
  C0.int .u64 l101[1]? fun x103 =>
  C0.agg 2 (pcall M d 73 [(.agg [(iz x102),(.int .u64 x103)])]) fun l104 =>
  C0.int .i64 l104[0]? fun x105 =>
  C0.int .u64 l104[1]? fun x106 =>
  C0.agg 2 (pcall M d 72 [(.agg [(iz x97),(.int .u64 x98)]),(.agg [(iz x105),(.int .u64 x106)])]) fun l107 =>
  C0.int .i64 l107[0]? fun x108 =>
  C0.int .u64 l107[1]? fun x109 =>
  C0.hop h100 (.store 2 (.v v9) (.v (.agg [(iz x108),(.int .u64 x109)]))) fun v110 h111 =>
  C0.hop h111 (.load true 2 (.v v9)) fun v112 h113 =>
  C0.agg 2 (some v112) fun l114 =>
  C0.int .i64 l114[0]? fun x115 =>
  C0.int .u64 l114[1]? fun x116 =>
  C0.hop h113 (.store 2 (.v v0) (.v (.agg [(iz x115),(.int .u64 x116)]))) fun v117 h118 =>
  C0.hop h118 (.load true 2 (.v v0)) fun v119 h120 =>
  C0.fin h118 v119)
  (C0.hop H (.load true 2 (.v v9)) fun v121 h122 =>
  C0.agg 2 (some v121) fun l123 =>
  C0.int .i64 l123[0]? fun x124 =>
  C0.int .u64 l123[1]? fun x125 =>
  C0.hop h122 (.store 2 (.v v0) (.v (.agg [(iz x124),(.int .u64 x125)]))) fun v126 h127 =>
  C0.hop h127 (.load true 2 (.v v0)) fun v128 h129 =>
  C0.fin h127 v128)
theorem X66_0_0_ok (d:Nat) (a0 a1:Int) (v0:AV) (x3 x4:Int) (v5 v9:AV) (x78 x79:Int) (b80:Bool) (v81 v82 v83 v84 v85 v86 v87 v88 v89 v90 v91 v92 v93:AV) (H:Heap):r66X0_0 C0 d a0 a1 v0 x3 x4 v5 v9 ⟨[(iz a0),(iz a1),tz,tz,v0,v5,v9,(.int .u64 (IntKind.wrap .u64 a1)),(iz x78),(iz a0),(.agg [(iz x3),(.int .u64 x4)]),(.agg [(iz 0),(.int .u64 0)]),(iz a1),(.int .u64 (IntKind.wrap .u64 a1)),(iz x79),(bz b80),v81,v82,v83,v84,v85,v86,v87,v88,v89,v90,v91,v92,v93,tz,tz,tz,tz,tz,tz,tz],H⟩=X66_0_0 d a1 v0 v5 v9 H:=by
 unfold r66X0_0; refine Eq.trans (pl_len (by rfl)) ?_; refine yt ySs ?_; refine yt yI ?_; refine yt ySs ?_; refine yt yI ?_; refine yt yB ?_; refine yt yAs ?_; refine yt ySs ?_
 rfl
noncomputable def L66_0 (d:Nat) (a1:Int) (v0 v5 v9:AV):Nat→Int→Heap→Ans
 | 0,_,_=>none
 | n+1,x16,H =>
 cnd (decide (x16 < 64))
  (cnd (decide (x16 < 0))
  (none)
  (cnd ((bits .and .u64 (Int.fdiv (IntKind.wrap .u64 a1) (2 ^ (min (Int.toNat x16) 64))) 1) == 1)
  (C0.hop H (.load true 2 (.v v9)) fun v32 h33 =>
  C0.agg 2 (some v32) fun l34 =>
  C0.int .i64 l34[0]? fun x35 =>
  C0.int .u64 l34[1]? fun x36 =>
  C0.hop h33 (.load true 2 (.v v5)) fun v37 h38 =>
  C0.agg 2 (some v37) fun l39 =>
  C0.int .i64 l39[0]? fun x40 =>
  C0.int .u64 l39[1]? fun x41 =>
  C0.agg 2 (pcall M d 72 [(.agg [(iz x35),(.int .u64 x36)]),(.agg [(iz x40),(.int .u64 x41)])]) fun l42 =>
  C0.int .i64 l42[0]? fun x43 =>
  C0.int .u64 l42[1]? fun x44 =>
  C0.hop h38 (.store 2 (.v v9) (.v (.agg [(iz x43),(.int .u64 x44)]))) fun v45 h46 =>
  C0.hop h46 (.load true 2 (.v v5)) fun v47 h48 =>
  C0.agg 2 (some v47) fun l49 =>
  C0.int .i64 l49[0]? fun x50 =>
  C0.int .u64 l49[1]? fun x51 =>
  C0.hop h48 (.load true 2 (.v v5)) fun v52 h53 =>
  C0.agg 2 (some v52) fun l54 =>
  C0.int .i64 l54[0]? fun x55 =>
  C0.int .u64 l54[1]? fun x56 =>
  C0.agg 2 (pcall M d 72 [(.agg [(iz x50),(.int .u64 x51)]),(.agg [(iz x55),(.int .u64 x56)])]) fun l57 =>
  C0.int .i64 l57[0]? fun x58 =>
  C0.int .u64 l57[1]? fun x59 =>
  C0.hop h53 (.store 2 (.v v5) (.v (.agg [(iz x58),(.int .u64 x59)]))) fun v60 h61 =>
  L66_0 d a1 v0 v5 v9 n (IntKind.wrap .i64 (x16+1)) h61)
  (C0.hop H (.load true 2 (.v v5)) fun v62 h63 =>
  C0.agg 2 (some v62) fun l64 =>
  C0.int .i64 l64[0]? fun x65 =>
  C0.int .u64 l64[1]? fun x66 =>
  C0.hop h63 (.load true 2 (.v v5)) fun v67 h68 =>
  C0.agg 2 (some v67) fun l69 =>
  C0.int .i64 l69[0]? fun x70 =>
  C0.int .u64 l69[1]? fun x71 =>
  C0.agg 2 (pcall M d 72 [(.agg [(iz x65),(.int .u64 x66)]),(.agg [(iz x70),(.int .u64 x71)])]) fun l72 =>
  C0.int .i64 l72[0]? fun x73 =>
  C0.int .u64 l72[1]? fun x74 =>
  C0.hop h68 (.store 2 (.v v5) (.v (.agg [(iz x73),(.int .u64 x74)]))) fun v75 h76 =>
  L66_0 d a1 v0 v5 v9 n (IntKind.wrap .i64 (x16+1)) h76)))
  (X66_0_0 d a1 v0 v5 v9 H)
theorem L66_0_s (d:Nat) (a1:Int) (v0 v5 v9:AV) (n:Nat) (x16:Int) (H:Heap):L66_0 d a1 v0 v5 v9 (n+1) x16 H=(cnd (decide (x16 < 64))
 (cnd (decide (x16 < 0))
 (none)
 (cnd ((bits .and .u64 (Int.fdiv (IntKind.wrap .u64 a1) (2 ^ (min (Int.toNat x16) 64))) 1) == 1)
 (C0.hop H (.load true 2 (.v v9)) fun v32 h33 =>
 C0.agg 2 (some v32) fun l34 =>
 C0.int .i64 l34[0]? fun x35 =>
 C0.int .u64 l34[1]? fun x36 =>
 C0.hop h33 (.load true 2 (.v v5)) fun v37 h38 =>
 C0.agg 2 (some v37) fun l39 =>
 C0.int .i64 l39[0]? fun x40 =>
 C0.int .u64 l39[1]? fun x41 =>
 C0.agg 2 (pcall M d 72 [(.agg [(iz x35),(.int .u64 x36)]),(.agg [(iz x40),(.int .u64 x41)])]) fun l42 =>
 C0.int .i64 l42[0]? fun x43 =>
 C0.int .u64 l42[1]? fun x44 =>
 C0.hop h38 (.store 2 (.v v9) (.v (.agg [(iz x43),(.int .u64 x44)]))) fun v45 h46 =>
 C0.hop h46 (.load true 2 (.v v5)) fun v47 h48 =>
 C0.agg 2 (some v47) fun l49 =>
 C0.int .i64 l49[0]? fun x50 =>
 C0.int .u64 l49[1]? fun x51 =>
 C0.hop h48 (.load true 2 (.v v5)) fun v52 h53 =>
 C0.agg 2 (some v52) fun l54 =>
 C0.int .i64 l54[0]? fun x55 =>
 C0.int .u64 l54[1]? fun x56 =>
 C0.agg 2 (pcall M d 72 [(.agg [(iz x50),(.int .u64 x51)]),(.agg [(iz x55),(.int .u64 x56)])]) fun l57 =>
 C0.int .i64 l57[0]? fun x58 =>
 C0.int .u64 l57[1]? fun x59 =>
 C0.hop h53 (.store 2 (.v v5) (.v (.agg [(iz x58),(.int .u64 x59)]))) fun v60 h61 =>
 L66_0 d a1 v0 v5 v9 n (IntKind.wrap .i64 (x16+1)) h61)
 (C0.hop H (.load true 2 (.v v5)) fun v62 h63 =>
 C0.agg 2 (some v62) fun l64 =>
 C0.int .i64 l64[0]? fun x65 =>
 C0.int .u64 l64[1]? fun x66 =>
 C0.hop h63 (.load true 2 (.v v5)) fun v67 h68 =>
 C0.agg 2 (some v67) fun l69 =>
 C0.int .i64 l69[0]? fun x70 =>
 C0.int .u64 l69[1]? fun x71 =>
 C0.agg 2 (pcall M d 72 [(.agg [(iz x65),(.int .u64 x66)]),(.agg [(iz x70),(.int .u64 x71)])]) fun l72 =>
 C0.int .i64 l72[0]? fun x73 =>
 C0.int .u64 l72[1]? fun x74 =>
 C0.hop h68 (.store 2 (.v v5) (.v (.agg [(iz x73),(.int .u64 x74)]))) fun v75 h76 =>
 L66_0 d a1 v0 v5 v9 n (IntKind.wrap .i64 (x16+1)) h76)))
 (X66_0_0 d a1 v0 v5 v9 H)):=by kernel_rfl
theorem it66_0 (d:Nat) (a0 a1:Int) (v0:AV) (x3 x4:Int) (v5 v9:AV)  :∀ (n:Nat) (x16:Int) (v17 v18 v19 v20 v21 v22 v23 v24 v25 v26 v27 v28 v29 v30 v31:AV) (H:Heap),C0.iter (r66R0 C0 d a0 a1 v0 x3 x4 v5 v9) n ⟨[(iz a0),(iz a1),tz,tz,v0,v5,v9,(.int .u64 (IntKind.wrap .u64 a1)),(iz x16),(iz a0),(.agg [(iz x3),(.int .u64 x4)]),(.agg [(iz 0),(.int .u64 0)]),(iz a1),(.int .u64 (IntKind.wrap .u64 a1)),v17,v18,v19,v20,v21,v22,v23,v24,v25,v26,v27,v28,v29,v30,v31,tz,tz,tz,tz,tz,tz,tz],H⟩ [0] [r66X0_0 C0 d a0 a1 v0 x3 x4 v5 v9] (r66E0 C0 d a0 a1 v0 x3 x4 v5 v9)=L66_0 d a1 v0 v5 v9 n x16 H:=by
 generalize hR:r66R0 C0 d a0 a1 v0 x3 x4 v5 v9=R
 intro n
 induction n with
 | zero=>intros; rfl
 | succ n ih =>
   intro x16 v17 v18 v19 v20 v21 v22 v23 v24 v25 v26 v27 v28 v29 v30 v31 H
   simp only [it_ret] at ih
   rw [it_ret,xiter_s]
   refine Eq.trans (congrFun (congrFun hR.symm _) _) ?_
   unfold r66R0
   refine Eq.trans (pl_len (by rfl)) ?_; refine yt ySs ?_; refine yt yI ?_; refine yt ySs ?_; refine yt yAs ?_; (iterate 13 (refine yt yA ?_)); refine yt ySs ?_
   simp only [kIter_n,kIter_x,kIter_r,kOut_x,kOut_r,xgo_hit,xgo_miss,ih,X66_0_0_ok d a0 a1 v0 x3 x4 v5 v9  ]
   exact (L66_0_s d a1 v0 v5 v9 n x16 H).symm
theorem q66 (d:Nat) (a0 a1:Int):xcall C0 M unr d 66 [(iz a0),(iz a1)] =
 C0.hop [] (.alloc E98) fun v0 h1 =>
 C0.agg 2 (pcall M d 71 [(iz a0)]) fun l2 =>
 C0.int .i64 l2[0]? fun x3 =>
 C0.int .u64 l2[1]? fun x4 =>
 C0.hop h1 (.alloc E98) fun v5 h6 =>
 C0.hop h6 (.store 2 (.v v5) (.v (.agg [(iz x3),(.int .u64 x4)]))) fun v7 h8 =>
 C0.hop h8 (.alloc E98) fun v9 h10 =>
 C0.hop h10 (.store 2 (.v v9) (.v (.agg [(iz 0),(.int .u64 0)]))) fun v11 h12 =>
 L66_0 d a1 v0 v5 v9 10000000000000000000 0 h12:=(r66 C0 d a0 a1).trans (by simp only [it66_0])
noncomputable def X72_0_0 (d:Nat) (v4 v11 v17 v62:AV) (H:Heap):Ans :=
 C0.snp H [v62] fun l88 b89 =>
  C0.agg 2 (pcall M d 78 l88) fun l90 =>
  C0.int .i64 l90[0]? fun x91 =>
  C0.int .u64 l90[1]? fun x92 =>
  cnd (b89 || true)
  (C0.hop H (.store 2 (.v v4) (.v (.agg [(iz x91),(.int .u64 x92)]))) fun v93 h94 =>
  C0.hop h94 (.load true 2 (.v v4)) fun v95 h96 =>
  C0.fin h94 v95)
  (none)
theorem X72_0_0_ok (d:Nat) (a0 a1 a2 a3:Int) (v0 v2 v4:AV) (x9 x10:Int) (v11:AV) (x15 x16:Int) (v17 v62:AV) (x63 x64:Int) (v65:AV) (x66:Int) (b67:Bool) (v68 v69 v70 v71 v72 v73 v74 v75 v76 v77 v78 v79 v80 v81 v82 v83 v84 v85 v86 v87:AV) (H:Heap):r72X0_0 C0 d a0 a1 a2 a3 v0 v2 v4 x9 x10 v11 x15 x16 v17 ⟨[(.agg [(iz a0),(.int .u64 a1)]),(.agg [(iz a2),(.int .u64 a3)]),v0,v2,v4,v11,v17,v62,(iz x63),(iz x64),v65,(.agg [(iz x9),(.int .u64 x10)]),v11,(.agg [(iz x15),(.int .u64 x16)]),v17,(iz x66),(bz b67),v68,v69,v70,v71,v72,v73,v74,v75,v76,v77,v78,v79,v80,v81,v82,v83,v84,v85,v86,v87,tz,tz],H⟩=X72_0_0 d v4 v11 v17 v62 H:=by
 unfold r72X0_0; refine Eq.trans (pl_len (by rfl)) ?_; refine yt ySs ?_; refine yt yA ?_; (iterate 2 (refine yt yI ?_)); refine yt yA ?_; refine yt ySs ?_; refine yt yI ?_; refine yt yB ?_; refine yt yAs ?_; refine yt ySs ?_
 rfl
noncomputable def L72_0 (d:Nat) (v4 v11 v17:AV):Nat→AV→Int→Int→Heap→Ans
 | 0,_,_,_,_=>none
 | n+1,v21,x22,x23,H =>
 cnd (decide (x23 < 128))
  (C0.hop H (.ixAS .any 1 (.v v11) (.v (iz x23))) fun v47 h48 =>
  C0.hop h48 (.load false 1 (.v v47)) fun v49 h50 =>
  C0.int .i64 (some v49) fun x51 =>
  C0.hop h50 (.ixAS .any 1 (.v v17) (.v (iz x23))) fun v52 h53 =>
  C0.hop h53 (.load false 1 (.v v52)) fun v54 h55 =>
  C0.int .i64 (some v54) fun x56 =>
  C0.hop h55 (.mkrow E3 1 [(0,(.v (iz (Int.tmod (IntKind.wrap .i64 ((IntKind.wrap .i64 (x51+x56))+x22)) 2))))]) fun v57 h58 =>
  C0.hop h58 (.app E3 (.v v21) (.v v57)) fun v59 h60 =>
  L72_0 d v4 v11 v17 n v59 (IntKind.wrap .i64 (Int.tdiv (IntKind.wrap .i64 ((IntKind.wrap .i64 (x51+x56))+x22)) 2)) (IntKind.wrap .i64 (x23+1)) h60)
  (X72_0_0 d v4 v11 v17 v21 H)
theorem L72_0_s (d:Nat) (v4 v11 v17:AV) (n:Nat) (v21:AV) (x22 x23:Int) (H:Heap):L72_0 d v4 v11 v17 (n+1) v21 x22 x23 H=(cnd (decide (x23 < 128))
 (C0.hop H (.ixAS .any 1 (.v v11) (.v (iz x23))) fun v47 h48 =>
 C0.hop h48 (.load false 1 (.v v47)) fun v49 h50 =>
 C0.int .i64 (some v49) fun x51 =>
 C0.hop h50 (.ixAS .any 1 (.v v17) (.v (iz x23))) fun v52 h53 =>
 C0.hop h53 (.load false 1 (.v v52)) fun v54 h55 =>
 C0.int .i64 (some v54) fun x56 =>
 C0.hop h55 (.mkrow E3 1 [(0,(.v (iz (Int.tmod (IntKind.wrap .i64 ((IntKind.wrap .i64 (x51+x56))+x22)) 2))))]) fun v57 h58 =>
 C0.hop h58 (.app E3 (.v v21) (.v v57)) fun v59 h60 =>
 L72_0 d v4 v11 v17 n v59 (IntKind.wrap .i64 (Int.tdiv (IntKind.wrap .i64 ((IntKind.wrap .i64 (x51+x56))+x22)) 2)) (IntKind.wrap .i64 (x23+1)) h60)
 (X72_0_0 d v4 v11 v17 v21 H)):=by kernel_rfl
theorem it72_0 (d:Nat) (a0 a1 a2 a3:Int) (v0 v2 v4:AV) (x9 x10:Int) (v11:AV) (x15 x16:Int) (v17:AV)  :∀ (n:Nat) (v21:AV) (x22 x23:Int) (v24 v25 v26 v27 v28 v29 v30 v31 v32 v33 v34 v35 v36 v37 v38 v39 v40 v41 v42 v43 v44 v45 v46:AV) (H:Heap),C0.iter (r72R0 C0 d a0 a1 a2 a3 v0 v2 v4 x9 x10 v11 x15 x16 v17) n ⟨[(.agg [(iz a0),(.int .u64 a1)]),(.agg [(iz a2),(.int .u64 a3)]),v0,v2,v4,v11,v17,v21,(iz x22),(iz x23),v24,(.agg [(iz x9),(.int .u64 x10)]),v11,(.agg [(iz x15),(.int .u64 x16)]),v17,v25,v26,v27,v28,v29,v30,v31,v32,v33,v34,v35,v36,v37,v38,v39,v40,v41,v42,v43,v44,v45,v46,tz,tz],H⟩ [0] [r72X0_0 C0 d a0 a1 a2 a3 v0 v2 v4 x9 x10 v11 x15 x16 v17] (r72E0 C0 d a0 a1 a2 a3 v0 v2 v4 x9 x10 v11 x15 x16 v17)=L72_0 d v4 v11 v17 n v21 x22 x23 H:=by
 generalize hR:r72R0 C0 d a0 a1 a2 a3 v0 v2 v4 x9 x10 v11 x15 x16 v17=R
 intro n
 induction n with
 | zero=>intros; rfl
 | succ n ih =>
   intro v21 x22 x23 v24 v25 v26 v27 v28 v29 v30 v31 v32 v33 v34 v35 v36 v37 v38 v39 v40 v41 v42 v43 v44 v45 v46 H
   simp only [it_ret] at ih
   rw [it_ret,xiter_s]
   refine Eq.trans (congrFun (congrFun hR.symm _) _) ?_
   unfold r72R0
   refine Eq.trans (pl_len (by rfl)) ?_; refine yt ySs ?_; refine yt yA ?_; (iterate 2 (refine yt yI ?_)); refine yt yA ?_; refine yt ySs ?_; refine yt yAs ?_; (iterate 20 (refine yt yA ?_)); refine yt ySs ?_
   simp only [kIter_n,kIter_x,kIter_r,kOut_x,kOut_r,xgo_hit,xgo_miss,ih,X72_0_0_ok d a0 a1 a2 a3 v0 v2 v4 x9 x10 v11 x15 x16 v17  ]
   exact (L72_0_s d v4 v11 v17 n v21 x22 x23 H).symm
theorem q72 (d:Nat) (a0 a1 a2 a3:Int):xcall C0 M unr d 72 [(.agg [(iz a0),(.int .u64 a1)]),(.agg [(iz a2),(.int .u64 a3)])] =
 C0.hop [] (.box E98 (.v (.agg [(iz a0),(.int .u64 a1)]))) fun v0 h1 =>
 C0.hop h1 (.box E98 (.v (.agg [(iz a2),(.int .u64 a3)]))) fun v2 h3 =>
 C0.hop h3 (.alloc E98) fun v4 h5 =>
 C0.hop h5 (.load true 2 (.v v0)) fun v6 h7 =>
 C0.agg 2 (some v6) fun l8 =>
 C0.int .i64 l8[0]? fun x9 =>
 C0.int .u64 l8[1]? fun x10 =>
 C0.any (pcall M d 77 [(.agg [(iz x9),(.int .u64 x10)])]) fun v11 =>
 C0.hop h7 (.load true 2 (.v v2)) fun v12 h13 =>
 C0.agg 2 (some v12) fun l14 =>
 C0.int .i64 l14[0]? fun x15 =>
 C0.int .u64 l14[1]? fun x16 =>
 C0.any (pcall M d 77 [(.agg [(iz x15),(.int .u64 x16)])]) fun v17 =>
 L72_0 d v4 v11 v17 10000000000000000000 (.zsl true) 0 0 h13:=(r72 C0 d a0 a1 a2 a3).trans (by simp only [it72_0])
noncomputable def X77_1_0 (d:Nat) (v0 v74:AV) (H:Heap):Ans :=
 C0.fin H v74
theorem X77_1_0_ok (d:Nat) (a0 a1:Int) (v0:AV) (x31 x32:Int) (b33:Bool) (v34 v35 v36 v37 v38 v39 v40 v41 v42 v43 v44 v74:AV) (x75 x76:Int) (b77:Bool) (v78 v79 v80 v81 v82 v83 v84 v85 v86 v87 v88 v89:AV) (H:Heap):r77X1_0 C0 d a0 a1 v0 x31 x32 b33 v34 v35 v36 v37 v38 v39 v40 v41 v42 v43 v44 ⟨[(.agg [(iz a0),(.int .u64 a1)]),v0,(.zsl true),v74,(iz x31),(iz x75),(iz x32),(bz b33),v34,v35,v36,v37,v38,v39,v40,v41,v42,v43,v44,(iz x76),(bz b77),v78,v79,v80,v81,v82,v83,v84,v85,v86,v87,v88,v89,tz],H⟩=X77_1_0 d v0 v74 H:=by
 unfold r77X1_0; refine Eq.trans (pl_len (by rfl)) ?_; refine yt ySs ?_; refine yt yA ?_; refine yt yS ?_; refine yt yI ?_; refine yt ySs ?_; refine yt yI ?_; refine yt yB ?_; refine yt yAs ?_; refine yt yS ?_
 rfl
noncomputable def L77_1 (d:Nat) (v0:AV):Nat→AV→Int→Heap→Ans
 | 0,_,_,_=>none
 | n+1,v48,x49,H =>
 cnd (decide (x49 < 64))
  (C0.hop H (.fldA 0 (.v v0)) fun v64 h65 =>
  C0.hop h65 (.load false 1 (.v v64)) fun v66 h67 =>
  C0.int .i64 (some v66) fun x68 =>
  cnd (decide (x49 < 0))
  (none)
  (C0.hop h67 (.mkrow E3 1 [(0,(.v (iz (IntKind.wrap .i64 (bits .and .u64 (Int.fdiv (IntKind.wrap .u64 x68) (2 ^ (min (Int.toNat x49) 64))) 1)))))]) fun v69 h70 =>
  C0.hop h70 (.app E3 (.v v48) (.v v69)) fun v71 h72 =>
  L77_1 d v0 n v71 (IntKind.wrap .i64 (x49+1)) h72))
  (X77_1_0 d v0 v48 H)
theorem L77_1_s (d:Nat) (v0:AV) (n:Nat) (v48:AV) (x49:Int) (H:Heap):L77_1 d v0 (n+1) v48 x49 H=(cnd (decide (x49 < 64))
 (C0.hop H (.fldA 0 (.v v0)) fun v64 h65 =>
 C0.hop h65 (.load false 1 (.v v64)) fun v66 h67 =>
 C0.int .i64 (some v66) fun x68 =>
 cnd (decide (x49 < 0))
 (none)
 (C0.hop h67 (.mkrow E3 1 [(0,(.v (iz (IntKind.wrap .i64 (bits .and .u64 (Int.fdiv (IntKind.wrap .u64 x68) (2 ^ (min (Int.toNat x49) 64))) 1)))))]) fun v69 h70 =>
 C0.hop h70 (.app E3 (.v v48) (.v v69)) fun v71 h72 =>
 L77_1 d v0 n v71 (IntKind.wrap .i64 (x49+1)) h72))
 (X77_1_0 d v0 v48 H)):=by kernel_rfl
theorem it77_1 (d:Nat) (a0 a1:Int) (v0:AV) (x31 x32:Int) (b33:Bool) (v34 v35 v36 v37 v38 v39 v40 v41 v42 v43 v44:AV)  :∀ (n:Nat) (v48:AV) (x49:Int) (v50 v51 v52 v53 v54 v55 v56 v57 v58 v59 v60 v61 v62 v63:AV) (H:Heap),C0.iter (r77R1 C0 d a0 a1 v0 x31 x32 b33 v34 v35 v36 v37 v38 v39 v40 v41 v42 v43 v44) n ⟨[(.agg [(iz a0),(.int .u64 a1)]),v0,(.zsl true),v48,(iz x31),(iz x49),(iz x32),(bz b33),v34,v35,v36,v37,v38,v39,v40,v41,v42,v43,v44,v50,v51,v52,v53,v54,v55,v56,v57,v58,v59,v60,v61,v62,v63,tz],H⟩ [2] [r77X1_0 C0 d a0 a1 v0 x31 x32 b33 v34 v35 v36 v37 v38 v39 v40 v41 v42 v43 v44] (r77E1 C0 d a0 a1 v0 x31 x32 b33 v34 v35 v36 v37 v38 v39 v40 v41 v42 v43 v44)=L77_1 d v0 n v48 x49 H:=by
 generalize hR:r77R1 C0 d a0 a1 v0 x31 x32 b33 v34 v35 v36 v37 v38 v39 v40 v41 v42 v43 v44=R
 intro n
 induction n with
 | zero=>intros; rfl
 | succ n ih =>
   intro v48 x49 v50 v51 v52 v53 v54 v55 v56 v57 v58 v59 v60 v61 v62 v63 H
   simp only [it_ret] at ih
   rw [it_ret,xiter_s]
   refine Eq.trans (congrFun (congrFun hR.symm _) _) ?_
   unfold r77R1
   refine Eq.trans (pl_len (by rfl)) ?_; refine yt ySs ?_; refine yt yA ?_; refine yt yS ?_; refine yt yI ?_; refine yt ySs ?_; refine yt yAs ?_; (iterate 12 (refine yt yA ?_)); refine yt yS ?_
   simp only [kIter_n,kIter_x,kIter_r,kOut_x,kOut_r,xgo_hit,xgo_miss,ih,X77_1_0_ok d a0 a1 v0 x31 x32 b33 v34 v35 v36 v37 v38 v39 v40 v41 v42 v43 v44  ]
   exact (L77_1_s d v0 n v48 x49 H).symm
noncomputable def X77_0_0 (d:Nat) (v0 v30:AV) (H:Heap):Ans :=
 L77_1 d v0 10000000000000000000 v30 0 H
theorem X77_0_0_ok (d:Nat) (a0 a1:Int) (v0 v30:AV) (x31 x32:Int) (b33:Bool) (v34 v35 v36 v37 v38 v39 v40 v41 v42 v43 v44:AV) (H:Heap):r77X0_0 C0 d a0 a1 v0 ⟨[(.agg [(iz a0),(.int .u64 a1)]),v0,(.zsl true),v30,(iz x31),tz,(iz x32),(bz b33),v34,v35,v36,v37,v38,v39,v40,v41,v42,v43,v44,tz,tz,tz,tz,tz,tz,tz,tz,tz,tz,tz,tz,tz,tz,tz],H⟩=X77_0_0 d v0 v30 H:=by
 unfold r77X0_0; refine Eq.trans (pl_len (by rfl)) ?_; refine yt ySs ?_; refine yt yA ?_; refine yt yI ?_; refine yt yS ?_; refine yt yI ?_; refine yt yB ?_; (iterate 11 (refine yt yA ?_)); refine yt ySs ?_
 first | (simp only [it77_1] <;> rfl) | rfl
noncomputable def L77_0 (d:Nat) (v0:AV):Nat→AV→Int→Heap→Ans
 | 0,_,_,_=>none
 | n+1,v5,x6,H =>
 cnd (decide (x6 < 64))
  (C0.hop H (.fldA 1 (.v v0)) fun v20 h21 =>
  C0.hop h21 (.load false 1 (.v v20)) fun v22 h23 =>
  C0.int .u64 (some v22) fun x24 =>
  cnd (decide (x6 < 0))
  (none)
  (C0.hop h23 (.mkrow E3 1 [(0,(.v (iz (IntKind.wrap .i64 (bits .and .u64 (Int.fdiv x24 (2 ^ (min (Int.toNat x6) 64))) 1)))))]) fun v25 h26 =>
  C0.hop h26 (.app E3 (.v v5) (.v v25)) fun v27 h28 =>
  L77_0 d v0 n v27 (IntKind.wrap .i64 (x6+1)) h28))
  (X77_0_0 d v0 v5 H)
theorem L77_0_s (d:Nat) (v0:AV) (n:Nat) (v5:AV) (x6:Int) (H:Heap):L77_0 d v0 (n+1) v5 x6 H=(cnd (decide (x6 < 64))
 (C0.hop H (.fldA 1 (.v v0)) fun v20 h21 =>
 C0.hop h21 (.load false 1 (.v v20)) fun v22 h23 =>
 C0.int .u64 (some v22) fun x24 =>
 cnd (decide (x6 < 0))
 (none)
 (C0.hop h23 (.mkrow E3 1 [(0,(.v (iz (IntKind.wrap .i64 (bits .and .u64 (Int.fdiv x24 (2 ^ (min (Int.toNat x6) 64))) 1)))))]) fun v25 h26 =>
 C0.hop h26 (.app E3 (.v v5) (.v v25)) fun v27 h28 =>
 L77_0 d v0 n v27 (IntKind.wrap .i64 (x6+1)) h28))
 (X77_0_0 d v0 v5 H)):=by kernel_rfl
theorem it77_0 (d:Nat) (a0 a1:Int) (v0:AV)  :∀ (n:Nat) (v5:AV) (x6:Int) (v7 v8 v9 v10 v11 v12 v13 v14 v15 v16 v17 v18 v19:AV) (H:Heap),C0.iter (r77R0 C0 d a0 a1 v0) n ⟨[(.agg [(iz a0),(.int .u64 a1)]),v0,(.zsl true),v5,(iz x6),tz,v7,v8,v9,v10,v11,v12,v13,v14,v15,v16,v17,v18,v19,tz,tz,tz,tz,tz,tz,tz,tz,tz,tz,tz,tz,tz,tz,tz],H⟩ [0] [r77X0_0 C0 d a0 a1 v0] (r77E0 C0 d a0 a1 v0)=L77_0 d v0 n v5 x6 H:=by
 generalize hR:r77R0 C0 d a0 a1 v0=R
 intro n
 induction n with
 | zero=>intros; rfl
 | succ n ih =>
   intro v5 x6 v7 v8 v9 v10 v11 v12 v13 v14 v15 v16 v17 v18 v19 H
   simp only [it_ret] at ih
   rw [it_ret,xiter_s]
   refine Eq.trans (congrFun (congrFun hR.symm _) _) ?_
   unfold r77R0
   refine Eq.trans (pl_len (by rfl)) ?_; refine yt ySs ?_; refine yt yA ?_; refine yt yI ?_; refine yt yS ?_; refine yt yAs ?_; (iterate 11 (refine yt yA ?_)); refine yt ySs ?_
   simp only [kIter_n,kIter_x,kIter_r,kOut_x,kOut_r,xgo_hit,xgo_miss,ih,X77_0_0_ok d a0 a1 v0  ]
   exact (L77_0_s d v0 n v5 x6 H).symm
theorem q77 (d:Nat) (a0 a1:Int):xcall C0 M unr d 77 [(.agg [(iz a0),(.int .u64 a1)])] =
 C0.hop [] (.box E98 (.v (.agg [(iz a0),(.int .u64 a1)]))) fun v0 h1 =>
 L77_0 d v0 10000000000000000000 (.zsl true) 0 h1:=(r77 C0 d a0 a1).trans (by simp only [it77_0])
noncomputable def X78_0_0 (d:Nat) (a0:List AV) (v0 v2:AV) (x61:Int) (H:Heap):Ans :=
 C0.hop H (.fldA 0 (.v v2)) fun v88 h89 =>
  C0.hop h89 (.store 1 (.v v88) (.v (iz (IntKind.wrap .i64 x61)))) fun v90 h91 =>
  C0.hop h91 (.load true 2 (.v v2)) fun v92 h93 =>
  C0.agg 2 (some v92) fun l94 =>
  C0.int .i64 l94[0]? fun x95 =>
  C0.int .u64 l94[1]? fun x96 =>
  C0.hop h93 (.store 2 (.v v0) (.v (.agg [(iz x95),(.int .u64 x96)]))) fun v97 h98 =>
  C0.hop h98 (.load true 2 (.v v0)) fun v99 h100 =>
  C0.fin h98 v99
theorem X78_0_0_ok (d:Nat) (a0:List AV) (v0 v2:AV) (x61 x62 x63:Int) (b64:Bool) (v65 v66 v67 v68 v69 v70 v71 v72 v73 v74 v75 v76 v77 v78 v79 v80 v81 v82 v83 v84 v85 v86 v87:AV) (H:Heap):r78X0_0 C0 d a0 v0 v2 ⟨[(.lst a0),tz,v0,v2,(.int .u64 x61),(iz x62),(.agg [(iz 0),(.int .u64 0)]),(iz x63),(bz b64),v65,v66,v67,v68,v69,v70,v71,v72,v73,v74,v75,v76,v77,v78,v79,v80,v81,v82,v83,v84,v85,v86,v87,tz,tz,tz,tz],H⟩=X78_0_0 d a0 v0 v2 x61 H:=by
 unfold r78X0_0; refine Eq.trans (pl_len (by rfl)) ?_; refine yt ySs ?_; (iterate 2 (refine yt yI ?_)); refine yt yS ?_; refine yt yI ?_; refine yt yB ?_; refine yt yAs ?_; refine yt ySs ?_
 rfl
noncomputable def L78_0 (d:Nat) (a0:List AV) (v0 v2:AV):Nat→Int→Int→Heap→Ans
 | 0,_,_,_=>none
 | n+1,x9,x10,H =>
 cnd (decide (x10 < 64))
  (C0.hop H (.ixAS .any 1 (.v (.lst a0)) (.v (iz x10))) fun v36 h37 =>
  C0.hop h37 (.load false 1 (.v v36)) fun v38 h39 =>
  C0.int .i64 (some v38) fun x40 =>
  cnd (x40 == 1)
  (C0.hop h39 (.fldA 1 (.v v2)) fun v41 h42 =>
  C0.hop h42 (.load false 1 (.v v41)) fun v43 h44 =>
  C0.int .u64 (some v43) fun x45 =>
  cnd (decide (x10 < 0))
  (none)
  (C0.hop h44 (.fldA 1 (.v v2)) fun v46 h47 =>
  C0.hop h47 (.store 1 (.v v46) (.v (.int .u64 (bits .or .u64 x45 (IntKind.wrap .u64 (1 * (2 ^ (min (Int.toNat x10) 64)))))))) fun v48 h49 =>
  C0.hop h49 (.ixAS .any 1 (.v (.lst a0)) (.v (iz (IntKind.wrap .i64 (64+x10))))) fun v50 h51 =>
  C0.hop h51 (.load false 1 (.v v50)) fun v52 h53 =>
  C0.int .i64 (some v52) fun x54 =>
  cnd (x54 == 1)
  (cnd (decide (x10 < 0))
  (none)
  (L78_0 d a0 v0 v2 n (bits .or .u64 x9 (IntKind.wrap .u64 (1 * (2 ^ (min (Int.toNat x10) 64))))) (IntKind.wrap .i64 (x10+1)) h53))
  (L78_0 d a0 v0 v2 n x9 (IntKind.wrap .i64 (x10+1)) h53)))
  (C0.hop h39 (.ixAS .any 1 (.v (.lst a0)) (.v (iz (IntKind.wrap .i64 (64+x10))))) fun v55 h56 =>
  C0.hop h56 (.load false 1 (.v v55)) fun v57 h58 =>
  C0.int .i64 (some v57) fun x59 =>
  cnd (x59 == 1)
  (cnd (decide (x10 < 0))
  (none)
  (L78_0 d a0 v0 v2 n (bits .or .u64 x9 (IntKind.wrap .u64 (1 * (2 ^ (min (Int.toNat x10) 64))))) (IntKind.wrap .i64 (x10+1)) h58))
  (L78_0 d a0 v0 v2 n x9 (IntKind.wrap .i64 (x10+1)) h58)))
  (X78_0_0 d a0 v0 v2 x9 H)
theorem L78_0_s (d:Nat) (a0:List AV) (v0 v2:AV) (n:Nat) (x9 x10:Int) (H:Heap):L78_0 d a0 v0 v2 (n+1) x9 x10 H=(cnd (decide (x10 < 64))
 (C0.hop H (.ixAS .any 1 (.v (.lst a0)) (.v (iz x10))) fun v36 h37 =>
 C0.hop h37 (.load false 1 (.v v36)) fun v38 h39 =>
 C0.int .i64 (some v38) fun x40 =>
 cnd (x40 == 1)
 (C0.hop h39 (.fldA 1 (.v v2)) fun v41 h42 =>
 C0.hop h42 (.load false 1 (.v v41)) fun v43 h44 =>
 C0.int .u64 (some v43) fun x45 =>
 cnd (decide (x10 < 0))
 (none)
 (C0.hop h44 (.fldA 1 (.v v2)) fun v46 h47 =>
 C0.hop h47 (.store 1 (.v v46) (.v (.int .u64 (bits .or .u64 x45 (IntKind.wrap .u64 (1 * (2 ^ (min (Int.toNat x10) 64)))))))) fun v48 h49 =>
 C0.hop h49 (.ixAS .any 1 (.v (.lst a0)) (.v (iz (IntKind.wrap .i64 (64+x10))))) fun v50 h51 =>
 C0.hop h51 (.load false 1 (.v v50)) fun v52 h53 =>
 C0.int .i64 (some v52) fun x54 =>
 cnd (x54 == 1)
 (cnd (decide (x10 < 0))
 (none)
 (L78_0 d a0 v0 v2 n (bits .or .u64 x9 (IntKind.wrap .u64 (1 * (2 ^ (min (Int.toNat x10) 64))))) (IntKind.wrap .i64 (x10+1)) h53))
 (L78_0 d a0 v0 v2 n x9 (IntKind.wrap .i64 (x10+1)) h53)))
 (C0.hop h39 (.ixAS .any 1 (.v (.lst a0)) (.v (iz (IntKind.wrap .i64 (64+x10))))) fun v55 h56 =>
 C0.hop h56 (.load false 1 (.v v55)) fun v57 h58 =>
 C0.int .i64 (some v57) fun x59 =>
 cnd (x59 == 1)
 (cnd (decide (x10 < 0))
 (none)
 (L78_0 d a0 v0 v2 n (bits .or .u64 x9 (IntKind.wrap .u64 (1 * (2 ^ (min (Int.toNat x10) 64))))) (IntKind.wrap .i64 (x10+1)) h58))
 (L78_0 d a0 v0 v2 n x9 (IntKind.wrap .i64 (x10+1)) h58)))
 (X78_0_0 d a0 v0 v2 x9 H)):=by kernel_rfl
theorem it78_0 (d:Nat) (a0:List AV) (v0 v2:AV)  :∀ (n:Nat) (x9 x10:Int) (v11 v12 v13 v14 v15 v16 v17 v18 v19 v20 v21 v22 v23 v24 v25 v26 v27 v28 v29 v30 v31 v32 v33 v34 v35:AV) (H:Heap),C0.iter (r78R0 C0 d a0 v0 v2) n ⟨[(.lst a0),tz,v0,v2,(.int .u64 x9),(iz x10),(.agg [(iz 0),(.int .u64 0)]),v11,v12,v13,v14,v15,v16,v17,v18,v19,v20,v21,v22,v23,v24,v25,v26,v27,v28,v29,v30,v31,v32,v33,v34,v35,tz,tz,tz,tz],H⟩ [0] [r78X0_0 C0 d a0 v0 v2] (r78E0 C0 d a0 v0 v2)=L78_0 d a0 v0 v2 n x9 x10 H:=by
 generalize hR:r78R0 C0 d a0 v0 v2=R
 intro n
 induction n with
 | zero=>intros; rfl
 | succ n ih =>
   intro x9 x10 v11 v12 v13 v14 v15 v16 v17 v18 v19 v20 v21 v22 v23 v24 v25 v26 v27 v28 v29 v30 v31 v32 v33 v34 v35 H
   simp only [it_ret] at ih
   rw [it_ret,xiter_s]
   refine Eq.trans (congrFun (congrFun hR.symm _) _) ?_
   unfold r78R0
   refine Eq.trans (pl_len (by rfl)) ?_; refine yt ySs ?_; (iterate 2 (refine yt yI ?_)); refine yt yS ?_; refine yt yAs ?_; (iterate 23 (refine yt yA ?_)); refine yt ySs ?_
   simp only [kIter_n,kIter_x,kIter_r,kOut_x,kOut_r,xgo_hit,xgo_miss,ih,X78_0_0_ok d a0 v0 v2  ]
   exact (L78_0_s d a0 v0 v2 n x9 x10 H).symm
theorem q78 (d:Nat) (a0:List AV):xcall C0 M unr d 78 [(.lst a0)] =
 C0.hop [] (.alloc E98) fun v0 h1 =>
 C0.hop h1 (.alloc E98) fun v2 h3 =>
 C0.hop h3 (.store 2 (.v v2) (.v (.agg [(iz 0),(.int .u64 0)]))) fun v4 h5 =>
 L78_0 d a0 v0 v2 10000000000000000000 0 0 h5:=(r78 C0 d a0).trans (by simp only [it78_0])
noncomputable def X83_0_0 (d:Nat) (a0:List AV) :Ans :=
 some (iz 0)
theorem X83_0_0_ok (d:Nat) (a0:List AV) (x16:Int) (v17:AV) (x18:Int) (v19 v20 v21 v22 v23 v24 v25 v26:AV):r83X0_0 C0 d a0 ⟨[(.lst a0),tz,(iz x16),(iz 0),tz,v17,(.lst a0),(iz (((List.length a0):Nat):Int)),(iz x18),v19,v20,v21,v22,v23,v24,v25,v26,tz],[]⟩=X83_0_0 d a0 :=by
 unfold r83X0_0; refine Eq.trans (pl_len (by rfl)) ?_; refine yt ySs ?_; refine yt yI ?_; refine yt ySs ?_; refine yt yA ?_; refine yt ySs ?_; refine yt yI ?_; refine yt yAs ?_; refine yt yS ?_; refine Eq.trans (pl_sameH) ?_
 rfl
noncomputable def E83_0 (d:Nat) (a0:List AV) (x27:Int):Ans :=
 some (iz x27)
theorem E83_0_ok (d:Nat) (a0:List AV) (x27 x28 x29:Int) (v30 v31:AV) (x32 x33 x34:Int) (b35:Bool) (x36:Int) (v37:AV):r83E0 C0 d a0 ⟨[(.lst a0),tz,(iz x27),(iz 0),tz,(iz x28),(.lst a0),(iz (((List.length a0):Nat):Int)),(iz x29),v30,v31,(iz x32),(iz x33),(iz x34),(.bool b35),(iz x36),v37,tz],[]⟩=E83_0 d a0 x27:=by
 unfold r83E0; refine Eq.trans (pl_len (by rfl)) ?_; refine yt ySs ?_; refine yt yI ?_; refine yt ySs ?_; refine yt yI ?_; refine yt ySs ?_; refine yt yI ?_; refine yt yAs ?_; (iterate 3 (refine yt yI ?_)); refine yt yB ?_; refine yt yI ?_; refine yt yA ?_; refine yt yS ?_; refine Eq.trans (pl_sameH) ?_
 rfl
noncomputable def L83_0 (d:Nat) (a0:List AV):Nat→Int→Ans
 | 0,_=>none
 | n+1,x5 =>
 cnd (decide (x5 < (((List.length a0):Nat):Int)))
  (cnd (decide ((0:Int)≤x5))
  (C0.int .i64 a0[(Int.toNat x5)]? fun x14 =>
  cnd (x14 != 0)
  (E83_0 d a0 x14)
  (L83_0 d a0 n (IntKind.wrap .i64 (x5+1))))
  (none))
  (X83_0_0 d a0)
theorem L83_0_s (d:Nat) (a0:List AV) (n:Nat) (x5:Int):L83_0 d a0 (n+1) x5=(cnd (decide (x5 < (((List.length a0):Nat):Int)))
 (cnd (decide ((0:Int)≤x5))
 (C0.int .i64 a0[(Int.toNat x5)]? fun x14 =>
 cnd (x14 != 0)
 (E83_0 d a0 x14)
 (L83_0 d a0 n (IntKind.wrap .i64 (x5+1))))
 (none))
 (X83_0_0 d a0)):=by kernel_rfl
theorem it83_0 (d:Nat) (a0:List AV)  :∀ (n:Nat) (x3:Int) (v4:AV) (x5:Int) (v6 v7 v8 v9 v10 v11 v12 v13:AV),C0.iter (r83R0 C0 d a0) n ⟨[(.lst a0),tz,(iz x3),(iz 0),tz,v4,(.lst a0),(iz (((List.length a0):Nat):Int)),(iz x5),v6,v7,v8,v9,v10,v11,v12,v13,tz],[]⟩ [0] [r83X0_0 C0 d a0] (r83E0 C0 d a0)=L83_0 d a0 n x5:=by
 generalize hR:r83R0 C0 d a0=R
 intro n
 induction n with
 | zero=>intros; rfl
 | succ n ih =>
   intro x3 v4 x5 v6 v7 v8 v9 v10 v11 v12 v13
   simp only [it_ret] at ih
   rw [it_ret,xiter_s]
   refine Eq.trans (congrFun (congrFun hR.symm _) _) ?_
   unfold r83R0
   refine Eq.trans (pl_len (by rfl)) ?_; refine yt ySs ?_; refine yt yI ?_; refine yt ySs ?_; refine yt yA ?_; refine yt ySs ?_; refine yt yI ?_; (iterate 8 (refine yt yA ?_)); refine yt yS ?_; refine Eq.trans (pl_sameH) ?_
   simp only [kIter_n,kIter_x,kIter_r,kOut_x,kOut_r,xgo_hit,xgo_miss,ih,X83_0_0_ok d a0  ,E83_0_ok d a0  ]
   exact (L83_0_s d a0 n x5).symm
theorem q83 (d:Nat) (a0:List AV):xcall C0 M unr d 83 [(.lst a0)] =
 L83_0 d a0 10000000000000000000 0:=(r83 C0 d a0).trans (by simp only [it83_0])
end Go.Proofs.Ytdceaeifcniabaa.AE

namespace Go.Proofs.Ytdceaeifcniabaa.AE
set_option linter.unusedVariables false
set_option linter.unusedSimpArgs false
set_option linter.constructorNameAsVariable false
open Go
theorem hg_lt {H:Heap} {id:Nat} {b:Blk} (h:hget H id=some b):id < H.length:=by
 unfold hget at h
 rcases Nat.lt_or_ge id H.length with h1 | h1
 ·exact h1
 ·rw [List.getElem?_eq_none h1] at h; cases h
theorem hget_app {H l:Heap} {id:Nat} {b:Blk} (h:hget H id=some b):hget (H ++ l) id=some b:=by
 have:=hg_lt h
 unfold hget at *
 rw [List.getElem?_append_left this]; exact h
theorem hget_new {H:Heap} {b:Blk}:hget (H ++ [some b]) H.length=some b:=by unfold hget; simp
theorem hget_set {H:Heap} {id:Nat} {b:Blk} (h:id < H.length):hget (H.set id (some b)) id=some b:=by unfold hget; simp [h]
theorem hget_set_ne {H:Heap} {id id':Nat} {x:Option Blk} (h:id ≠ id'):hget (H.set id x) id'=hget H id':=by unfold hget; rw [List.getElem?_set_ne h]
def Own (H:Heap) (e:ETy) (v:AV) (l:List AV):Prop:=(l=[]∧∃ b,v=.zsl b) ∨ ∃ id,v=.slc id 0 l.length∧hget H id=some ⟨e,l⟩
def names (v:AV) (id:Nat):Prop:=∃ o n,v=.slc id o n
theorem own_keep {H H':Heap} {e:ETy} {v:AV} {l:List AV} (h:Own H e v l) (hk:∀ id b,names v id→hget H id=some b→hget H' id=some b):Own H' e v l:=by
 rcases h with ⟨rfl,b,rfl⟩ | ⟨id,rfl,h⟩
 ·exact .inl ⟨rfl,b,rfl⟩
 ·exact .inr ⟨id,rfl,hk _ _ ⟨_,_,rfl⟩ h⟩
theorem app_own {H:Heap} {e:ETy} {v:AV} {l xs:List AV} {r:AV} (ho:Own H e v l) (hr:elsOf H r=some xs) (hx:xs.all (elOk e)=true) (hs:(l.length+xs.length) * e.bytes≤140737488355328) (hs2:l.length+xs.length≤9223372036854775807) :
 ∃ v' H',aop noCall (evO []) H (.app e (.v v) (.v r))=some (v',H')∧Own H' e v' (l ++ xs)∧v'=.slc H.length 0 (l.length+xs.length)∧H'.length=H.length+1∧∀ id b,¬ names v id→hget H id=some b→hget H' id=some b:=by
 rcases ho with ⟨rfl,b,rfl⟩ | ⟨id,rfl,h⟩
 ·refine ⟨.slc H.length 0 xs.length,H ++ [some ⟨e,xs⟩],?_,.inr ⟨H.length,by simp,by simp [hget_new]⟩,by simp,by simp,fun id b _ h=>hget_app h⟩
  simp only [aop,evO,hr,aApp]
  rw [if_pos ⟨by simpa using hs,by simpa using hs2,hx⟩]
 ·have hid:=hg_lt h
  have hl:(H.set id none).length=H.length:=by simp
  refine ⟨.slc H.length 0 (l.length+xs.length),H.set id none ++ [some ⟨e,l ++ xs⟩],?_,.inr ⟨H.length,by simp,?_⟩,rfl,by simp,fun id' b hn h'=>?_⟩
  ·simp only [aop,evO,hr,aApp,h]
   rw [if_pos ⟨trivial,hs,hs2,trivial,trivial,hx⟩]
  ·rw [← hl]; exact hget_new
  ·refine hget_app ?_
   rw [hget_set_ne]; exact h'
   rintro rfl; exact hn ⟨_,_,rfl⟩
theorem app_one {H:Heap} {e:ETy} {v x:AV} {l:List AV} (ho:Own H e v l) (hx:elOk e x=true) (hs:(l.length+1) * e.bytes≤140737488355328) (hs2:l.length+1≤9223372036854775807) :
 ∃ v' H',(∀ K:AV→Heap→Ans,(C0.hop H (.mkrow e 1 [(0,.v x)]) fun r H1=>C0.hop H1 (.app e (.v v) (.v r)) K)=K v' H')∧Own H' e v' (l ++ [x])∧(∀ id,names v' id→H.length < id)∧H.length≤H'.length∧∀ id b,¬ names v id→hget H id=some b→hget H' id=some b:=by
 have e1:aop noCall (evO []) H (.mkrow e 1 [(0,.v x)])=some (.slc H.length 0 1,H ++ [some ⟨e,[x]⟩]):=by
  simp [aop,evO,fillR,hx]
 have ho':Own (H ++ [some ⟨e,[x]⟩]) e v l:=own_keep ho fun id b _ h=>hget_app h
 obtain ⟨v',H',h1,h2,h5,h3,h4⟩:=app_own (xs:=[x]) (r:=.slc H.length 0 1) ho' (by simp [elsOf,hget_new]) (by simp [hx]) (by simpa using hs) (by simpa using hs2)
 refine ⟨v',H',?_,h2,?_,by rw [h3]; simp; omega,fun id b hn h=>h4 id b hn (hget_app h)⟩
 ·intro K; rw [hop_eq e1,hop_eq h1]
 ·rintro id ⟨o,n,rfl⟩
  injection h5 with h6
  rw [h6]; simp
theorem ix_slc {H:Heap} {id o n es:Nat} {b:Blk} {q:Int} {K:AV→Heap→Ans} (h:hget H id=some b) (h0:0≤q) (h1:q < n) (he:b.e.es=es) :
 C0.hop H (.ixAS .any es (.v (.slc id o n)) (.v (.int .i64 q))) K=K (.ptr id (o+q.toNat) 0) H:=hop_eq (by simp [aop,evO,aInt,aIx,h,h0,h1,he])
theorem ix_lst {H:Heap} {l:List AV} {es:Nat} {q:Int} {x:AV} {K:AV→Heap→Ans} (h0:0≤q) (hx:l[q.toNat]?=some x) (he:x.cells.length=es) :
 C0.hop H (.ixAS .any es (.v (.lst l)) (.v (.int .i64 q))) K=K (.fptr x 0) H:=hop_eq (by simp [aop,evO,aInt,aIx,h0,hx,he])
theorem ld_ptr {H:Heap} {id i j n:Nat} {ag:Bool} {b:Blk} {el v:AV} {K:AV→Heap→Ans} (h:hget H id=some b) (hi:b.els[i]?=some el) (hs:sub ag n j el=some v) :
 C0.hop H (.load ag n (.v (.ptr id i j))) K=K v H:=hop_eq (by simp [aop,evO,aLoad,h,hi,hs])
theorem ld_fptr {H:Heap} {x v:AV} {j n:Nat} {ag:Bool} {K:AV→Heap→Ans} (hs:sub ag n j x=some v) :
 C0.hop H (.load ag n (.v (.fptr x j))) K=K v H:=hop_eq (by simp [aop,evO,aLoad,hs])
theorem st_ptr {H:Heap} {id i j n:Nat} {b:Blk} {el el' x:AV} {K:AV→Heap→Ans} (h:hget H id=some b) (hi:b.els[i]?=some el) (hs:putSub n j x el=some el') :
 C0.hop H (.store n (.v (.ptr id i j)) (.v x)) K=K .undef (H.set id (some { b with els:=b.els.set i el' })):=hop_eq (by simp [aop,evO,aStore,h,hi,hs])
theorem sh_ptr {H:Heap} {id i j d:Nat} {K:AV→Heap→Ans}:C0.hop H (.fldA d (.v (.ptr id i j))) K=K (.ptr id i (j+d)) H:=hop_eq rfl
theorem sh_fptr {H:Heap} {x:AV} {j d:Nat} {K:AV→Heap→Ans}:C0.hop H (.fldA d (.v (.fptr x j))) K=K (.fptr x (j+d)) H:=hop_eq rfl
theorem len_lst {H:Heap} {l:List AV} {K:AV→Heap→Ans}:C0.hop H (.bk .lenV [.v (.lst l)]) K=K (.int .i64 l.length) H:=hop_eq rfl
theorem len_zsl {H:Heap} {b:Bool} {K:AV→Heap→Ans}:C0.hop H (.bk .lenV [.v (.zsl b)]) K=K (.int .i64 0) H:=hop_eq rfl
theorem nil_ptr {H:Heap} {id i j:Nat} {K:AV→Heap→Ans}:C0.hop H (.nilck (.v (.ptr id i j))) K=K (.ptr id i j) H:=hop_eq rfl
theorem snap_own {H:Heap} {e:ETy} {v:AV} {l:List AV} {k:Nat} (ho:Own H e v l) (hf:∀ x ∈ l,snap (k+1) H x=x):snap (k+2) H v=.lst l:=by
 rcases ho with ⟨rfl,b,rfl⟩ | ⟨id,rfl,h⟩
 ·rfl
 ·simp only [snap,h]
  rw [if_neg (by omega),if_pos (by simp)]
  congr 1
  simp only [List.drop_zero,List.take_length]
  exact (List.map_congr_left hf).trans (List.map_id _)
def iv (l:List Int):List AV:=l.map fun x=>.int .i64 x
theorem iv_len (l:List Int):(iv l).length=l.length:=by simp [iv]
theorem iv_app (l m:List Int):iv (l ++ m)=iv l ++ iv m:=by simp [iv]
theorem iv_at (l:List Int) (i:Nat):(iv l)[i]?=l[i]?.map fun x=>.int .i64 x:=by simp [iv]
theorem snap_iv {H:Heap} {e:ETy} {v:AV} {l:List Int} (ho:Own H e v (iv l)):snap 12 H v=.lst (iv l) :=
 snap_own (k:=10) ho fun x hx=>by
  unfold iv at hx
  obtain ⟨n,_,rfl⟩:=List.mem_map.mp hx
  rfl
theorem snp_own {H:Heap} {e:ETy} {v:AV} {l:List Int} {K:List AV→Bool→Ans} (ho:Own H e v (iv l)) (hne:l ≠ []):C0.snp H [v] K=K [.lst (iv l)] false:=by
 have hs:=snap_iv ho
 rcases ho with ⟨h,_⟩ | ⟨id,rfl,h⟩
 ·exact absurd (by simpa [iv] using h) hne
 ·rw [snp_id (by rfl)]
  simp only [List.map_cons,List.map_nil]
  rw [show DEPTH=12 from rfl,hs]
theorem i64w (n:Int):IntKind.i64.wrap n=(n+9223372036854775808) % 18446744073709551616 - 9223372036854775808:=IntKind.wrap_i64 n
theorem u64w (n:Int):IntKind.u64.wrap n=n % 18446744073709551616:=by simp [IntKind.wrap,IntKind.bits,IntKind.signed]
theorem u64_small {n:Int} (h:0≤n) (h':n < 18446744073709551616):IntKind.u64.wrap n=n:=by rw [u64w]; omega
theorem i64_small {n:Int} (h:-9223372036854775808≤n) (h':n < 9223372036854775808):IntKind.i64.wrap n=n:=by rw [i64w]; omega
theorem u64_mask (k:Nat) (hk:k≤64) {x:Int} (h:0≤x) (h':x < 18446744073709551616):Go.bits .and .u64 x (2 ^ k - 1)=x % 2 ^ k:=by
 obtain ⟨n,rfl⟩:=Int.eq_ofNat_of_zero_le h
 have hn:n < 18446744073709551616:=by omega
 have hp:1≤2 ^ k:=Nat.one_le_two_pow
 have hm:((2:Int) ^ k - 1)=((2 ^ k - 1:Nat):Int):=by
  rw [Int.natCast_sub hp]; simp
 have hk2:2 ^ k≤18446744073709551616:=Nat.le_trans (Nat.pow_le_pow_right (by decide) hk) (by decide)
 show IntKind.u64.wrap ((BitVec.ofInt 64 (n:Int) &&& BitVec.ofInt 64 ((2:Int) ^ k - 1)).toNat:Int)=_
 rw [hm,BitVec.toNat_and]
 rw [BitVec.ofInt_natCast,BitVec.ofInt_natCast,BitVec.toNat_ofNat,BitVec.toNat_ofNat,Nat.mod_eq_of_lt (by simpa using hn),Nat.mod_eq_of_lt (by simpa using (by omega:2 ^ k - 1 < 18446744073709551616)),Nat.and_two_pow_sub_one_eq_mod]
 have:n % 2 ^ k≤n:=Nat.mod_le _ _
 rw [u64_small (by omega) (by omega)]
 simp
theorem u64_and32 {x:Int} (h:0≤x) (h':x < 18446744073709551616):Go.bits .and .u64 x 4294967295=x % 4294967296:=u64_mask 32 (by decide) h h'
def hiw (v:Int):Int:=IntKind.i64.wrap (v / 18446744073709551616)
def low (v:Int):Int:=v % 18446744073709551616
theorem mul_bd63 (a b:Int) (ha:-9223372036854775808≤a) (ha':a < 9223372036854775808) (hb:-9223372036854775808≤b) (hb':b < 9223372036854775808) :
 -85070591730234615865843651857942052864≤a * b∧a * b≤85070591730234615865843651857942052864:=by
 have h1:=Int.mul_nonneg (show 0≤9223372036854775808 - a by omega) (show 0≤9223372036854775808+b by omega)
 have h2:=Int.mul_nonneg (show 0≤9223372036854775808+a by omega) (show 0≤9223372036854775808 - b by omega)
 have h3:=Int.mul_nonneg (show 0≤9223372036854775808 - a by omega) (show 0≤9223372036854775808 - b by omega)
 have h4:=Int.mul_nonneg (show 0≤9223372036854775808+a by omega) (show 0≤9223372036854775808+b by omega)
 have e1:(9223372036854775808 - a) * (9223372036854775808+b)=85070591730234615865843651857942052864+9223372036854775808 * b - 9223372036854775808 * a - a * b:=by grind
 have e2:(9223372036854775808+a) * (9223372036854775808 - b)=85070591730234615865843651857942052864 - 9223372036854775808 * b+9223372036854775808 * a - a * b:=by grind
 have e3:(9223372036854775808 - a) * (9223372036854775808 - b)=85070591730234615865843651857942052864 - 9223372036854775808 * b - 9223372036854775808 * a+a * b:=by grind
 have e4:(9223372036854775808+a) * (9223372036854775808+b)=85070591730234615865843651857942052864+9223372036854775808 * b+9223372036854775808 * a+a * b:=by grind
 omega
theorem prod_bd {x y m:Int} (hx:-m≤x) (hx':x≤m) (hy:-m≤y) (hy':y≤m):-(m * m)≤x * y∧x * y≤m * m:=by
 have h1:=Int.mul_nonneg (show 0≤m - x by omega) (show 0≤m+y by omega)
 have h2:=Int.mul_nonneg (show 0≤m+x by omega) (show 0≤m - y by omega)
 have h3:=Int.mul_nonneg (show 0≤m - x by omega) (show 0≤m - y by omega)
 have h4:=Int.mul_nonneg (show 0≤m+x by omega) (show 0≤m+y by omega)
 have e1:(m - x) * (m+y)=m * m+m * y - x * m - x * y:=by grind
 have e2:(m+x) * (m - y)=m * m - m * y+x * m - x * y:=by grind
 have e3:(m - x) * (m - y)=m * m - m * y - x * m+x * y:=by grind
 have e4:(m+x) * (m+y)=m * m+m * y+x * m+x * y:=by grind
 generalize m * m=mm at *; generalize m * y=my at *; generalize x * m=xm at *; generalize x * y=xy at *
 omega
theorem prod_bd41 {x y:Int} (hx:-2199023255552≤x) (hx':x≤2199023255552) (hy:-2199023255552≤y) (hy':y≤2199023255552):-4835703278458516698824704≤x * y∧x * y≤4835703278458516698824704:=prod_bd hx hx' hy hy'
def cmp (x y:Int):Int:=if x < y then -1 else if y < x then 1 else 0
end Go.Proofs.Ytdceaeifcniabaa.AE

namespace Go.Proofs.Ytdceaeifcniabaa.Geo
set_option linter.unusedVariables false
set_option linter.unusedSimpArgs false
set_option linter.constructorNameAsVariable false
abbrev Pt:=Int × Int
def Okc (x:Int):Prop:=-1099511627776≤x∧x≤1099511627776
instance (x:Int):Decidable (Okc x):=by unfold Okc; infer_instance
def OkP (p:Pt):Prop:=Okc p.1∧Okc p.2
instance (p:Pt):Decidable (OkP p):=by unfold OkP; infer_instance
def TN (a b c:Pt):Int:=(b.1 - a.1) * (c.2 - a.2) - (b.2 - a.2) * (c.1 - a.1)
def sg (v:Int):Int:=if v < 0 then -1 else if v=0 then 0 else 1
theorem sg_zero {v:Int}:sg v=0 ↔ v=0:=by unfold sg; split <;> (try split) <;> omega
theorem sg_cases (v:Int):(v < 0∧sg v=-1) ∨ (v=0∧sg v=0) ∨ (v > 0∧sg v=1):=by unfold sg; split <;> (try split) <;> omega
def Btw (p a b:Pt):Prop:=((a.1≤p.1∧p.1≤b.1) ∨ (b.1≤p.1∧p.1≤a.1))∧((a.2≤p.2∧p.2≤b.2) ∨ (b.2≤p.2∧p.2≤a.2))
instance (p a b:Pt):Decidable (Btw p a b):=by unfold Btw; infer_instance
def On (p a b:Pt):Prop:=TN a b p=0∧Btw p a b
instance (p a b:Pt):Decidable (On p a b):=by unfold On; infer_instance
def Cross (a b c d:Pt):Prop:=sg (TN a b c) * sg (TN a b d) < 0∧sg (TN c d a) * sg (TN c d b) < 0
instance (a b c d:Pt):Decidable (Cross a b c d):=by unfold Cross; infer_instance
def Meet (a b c d:Pt):Prop:=On a c d ∨ On b c d ∨ On c a b ∨ On d a b ∨ Cross a b c d
instance (a b c d:Pt):Decidable (Meet a b c d):=by unfold Meet; infer_instance
end Go.Proofs.Ytdceaeifcniabaa.Geo

namespace Go.Proofs.Ytdceaeifcniabaa.AE
set_option linter.unusedVariables false
set_option linter.unusedSimpArgs false
set_option linter.constructorNameAsVariable false
open Go Go.Proofs.Ytdceaeifcniabaa.Geo
abbrev i64 (n:Int):AV:=.int .i64 n
abbrev u64 (n:Int):AV:=.int .u64 n
abbrev pt (p:Int × Int):AV:=.agg [.int .i64 p.1,.int .i64 p.2]
theorem s86 (d:Nat) (x:Int):pcall M (d+1) 86 [.int .i64 x]=some (.bool false):=told (r86 C0 d x) (by simp)
theorem s87 (d:Nat) (x:Int):pcall M (d+1) 87 [.int .u64 x]=some (.bool false):=told (r87 C0 d x) (by simp)
theorem s84 (d:Nat) (x y:Int):pcall M (d+2) 84 [.int .i64 x,.int .i64 y]=some (.int .i64 (cmp x y)):=told (r84 C0 (d+1) x y) (by
 rw [s86,s86,C0_bool,C0_bool,cnd_f,cnd_f]
 unfold cmp
 by_cases h:x < y
 ·simp [h,cnd_t]
 ·by_cases h2:y < x <;> simp [h,h2,cnd_t,cnd_f])
theorem s85 (d:Nat) (x y:Int):pcall M (d+2) 85 [.int .u64 x,.int .u64 y]=some (.int .i64 (cmp x y)):=told (r85 C0 (d+1) x y) (by
 rw [s87,s87,C0_bool,C0_bool,cnd_f,cnd_f]
 unfold cmp
 by_cases h:x < y
 ·simp [h,cnd_t]
 ·by_cases h2:y < x <;> simp [h,h2,cnd_t,cnd_f])
theorem s67 (d:Nat) (x:Int):pcall M (d+1) 67 [.int .i64 x]=some (.bool (decide (Okc x))):=told (r67 C0 d x) (by
 unfold Okc
 by_cases h:x ≥ -1099511627776 <;> by_cases h2:x≤1099511627776 <;> simp [h,h2,cnd_t,cnd_f])
theorem s62 (d:Nat) (p:Int × Int):pcall M (d+2) 62 [pt p]=some (.bool (decide (OkP p))):=told (r62 C0 (d+1) p.1 p.2) (by
 rw [s67,s67,C0_bool,C0_bool]
 unfold OkP
 by_cases h:Okc p.1 <;> by_cases h2:Okc p.2 <;> simp [h,h2,cnd_t,cnd_f])
theorem s79 (d:Nat) (p:Int × Int):pcall M (d+3) 79 [pt p]=some (.bool (!decide (OkP p))):=told (r79 C0 (d+2) p.1 p.2) (by
 rw [s62,C0_bool])
def fi:List Pt→Int→Int
 | [],_=>-1
 | p::l,i=>if OkP p then fi l (i+1) else i
theorem pts_at {ps:List Pt} {i:Nat} (h:i < ps.length):(ps.map pt)[((i:Nat):Int).toNat]?=some (pt ps[i]):=by simp [h]
theorem s64_0 (d:Nat) (ps:List Pt) (hl:ps.length < 9223372036854775807):∀ (l2:List Pt) (i f:Nat),ps.drop i=l2→l2.length < f →
 L64f79_0 (d+3) (ps.map pt) f (i:Nat)=some (.int .i64 (fi l2 (i:Nat))):=by
 intro l2
 induction l2 with
 | nil =>
   intro i f hd hf
   obtain ⟨f,rfl⟩:∃ m,f=m+1:=⟨f - 1,by omega⟩
   have:ps.length≤i:=List.drop_eq_nil_iff.mp hd
   rw [L64f79_0,decide_eq_false (by simp; omega),cnd_f]; rfl
 | cons p l2 ih =>
   intro i f hd hf
   obtain ⟨f,rfl⟩:∃ m,f=m+1:=⟨f - 1,by simp at hf; omega⟩
   have hi:i < ps.length:=by
    rcases Nat.lt_or_ge i ps.length with h | h
    ·exact h
    ·rw [List.drop_eq_nil_of_le h] at hd; cases hd
   have hp:ps[i]=p:=by have:=List.drop_eq_getElem_cons hi; rw [hd] at this; exact (List.cons.inj this).1.symm
   have hd2:ps.drop (i+1)=l2:=by have:=List.drop_eq_getElem_cons hi; rw [hd] at this; exact (List.cons.inj this).2.symm
   rw [L64f79_0,decide_eq_true (by simp; omega),cnd_t,decide_eq_true (by omega),cnd_t,pts_at hi]
   refine Eq.trans (pl_agg (by rfl) (by rfl)) ?_; refine Eq.trans (pl_int (by rfl)) ?_; refine Eq.trans (pl_int (by rfl)) ?_
   rw [show pcall M (d+3) 79 [.agg [.int .i64 ps[i].1,.int .i64 ps[i].2]]=some (.bool (!decide (OkP ps[i]))) from s79 d ps[i],C0_bool,hp]
   simp only [fi]
   by_cases h:OkP p
   ·rw [decide_eq_true h,if_pos h,show IntKind.wrap .i64 ((i:Int)+1)=((i+1:Nat):Int) by rw [IntKind.wrap_i64]; omega]
    refine (ih (i+1) f hd2 (by simp at hf; omega)).trans ?_
    simp
   ·rw [decide_eq_false h,if_neg h]; rfl
theorem s64 (d:Nat) (ps:List Pt) (hl:ps.length < 140737488355329):pcall M (d+4) 64 [.lst (ps.map pt),.fn 79 [] []]=some (.int .i64 (fi ps 0)) :=
 told (q64f79 (d+3) (ps.map pt) .nilp) (s64_0 d ps (by omega) ps 0 _ rfl (by omega))
theorem s83 (d:Nat) (x y:Int):pcall M (d+1) 83 [.lst [.int .i64 x,.int .i64 y]]=some (.int .i64 (if x ≠ 0 then x else y)):=told (q83 d _) (by
 rw [show (10000000000000000000:Nat)=9999999999999999997+1+1+1 from rfl,L83_0]
 refine Eq.trans (pl_len (by rfl)) ?_; refine Eq.trans (pl_len (by rfl)) ?_; refine Eq.trans (pl_int (by rfl)) ?_
 by_cases hx:x=0
 ·subst hx
  refine Eq.trans (pl_f (by rfl)) ?_
  rw [L83_0]
  refine Eq.trans (pl_len (by rfl)) ?_; refine Eq.trans (pl_len (by rfl)) ?_; refine Eq.trans (pl_int (by rfl)) ?_
  by_cases hy:y=0
  ·subst hy
   refine Eq.trans (pl_f (by rfl)) ?_
   rw [L83_0]; rfl
  ·rw [show (y != 0)=true by simp [hy],cnd_t]; rfl
 ·rw [show (x != 0)=true by simp [hx],cnd_t,if_pos hx]; rfl)
theorem s81 (d:Nat) (a b:Int) (ha:-170141183460469231731687303715884105728≤a) (ha':a < 170141183460469231731687303715884105728) (hb:-170141183460469231731687303715884105728≤b) (hb':b < 170141183460469231731687303715884105728) :
 pcall M (d+3) 81 [.agg [.int .i64 (hiw a),.int .u64 (low a)],.agg [.int .i64 (hiw b),.int .u64 (low b)]]=some (.int .i64 (cmp a b)):=told (r81 C0 (d+2) _ _ _ _) (by
 rw [s84,s85,C0_int,C0_int,s83,C0_int]
 have e1:hiw a=a / 18446744073709551616:=by unfold hiw; rw [i64_small (by omega) (by omega)]
 have e2:hiw b=b / 18446744073709551616:=by unfold hiw; rw [i64_small (by omega) (by omega)]
 rw [e1,e2]
 unfold low cmp
 congr 2
 repeat' split
 all_goals omega)
theorem s82 (d:Nat) (a b:Int) (ha:0≤a) (ha':a < 18446744073709551616) (hb:0≤b) (hb':b < 18446744073709551616) :
 ∃ hi lo,pcall M (d+1) 82 [.int .u64 a,.int .u64 b]=some (.tup [.int .u64 hi,.int .u64 lo])∧hi * 18446744073709551616+lo=a * b∧0≤lo∧lo < 18446744073709551616∧0≤hi∧hi < 18446744073709551616:=by
 refine ⟨_,_,told (r82 C0 d a b) rfl,?_⟩
 have h32:∀ x:Int,Int.fdiv x (2 ^ (min (Int.toNat 32) 64))=x / 4294967296:=by
  intro x
  rw [show ((2:Int) ^ (min (Int.toNat 32) 64))=4294967296 from by decide]
  exact Int.fdiv_eq_ediv_of_nonneg x (by decide)
 rw [u64_and32 ha ha',u64_and32 hb hb']
 simp only [h32]
 obtain ⟨a1,a0,e1,e2,e3,e4⟩:∃ a1 a0:Int,a / 4294967296=a1∧a % 4294967296=a0∧a=a1 * 4294967296+a0∧(0≤a0∧a0 < 4294967296∧0≤a1∧a1 < 4294967296):=⟨_,_,rfl,rfl,by omega,by omega⟩
 obtain ⟨b1,b0,f1,f2,f3,f4⟩:∃ a1 a0:Int,b / 4294967296=a1∧b % 4294967296=a0∧b=a1 * 4294967296+a0∧(0≤a0∧a0 < 4294967296∧0≤a1∧a1 < 4294967296):=⟨_,_,rfl,rfl,by omega,by omega⟩
 rw [e1,e2,f1,f2]
 have hp:a * b=(a1 * b1) * 18446744073709551616+(a1 * b0+a0 * b1) * 4294967296+a0 * b0:=by rw [e3,f3]; grind
 rw [hp]
 have bd:∀ x y:Int,0≤x→x < 4294967296→0≤y→y < 4294967296→0≤x * y∧x * y≤18446744065119617025:=by
  intro x y h1 h2 h3 h4
  exact ⟨Int.mul_nonneg h1 h3,Int.le_trans (Int.mul_le_mul (show x≤4294967295 by omega) (show y≤4294967295 by omega) h3 (by omega)) (by decide)⟩
 have B11:=bd a1 b1 (by omega) (by omega) (by omega) (by omega)
 have B10:=bd a1 b0 (by omega) (by omega) (by omega) (by omega)
 have B01:=bd a0 b1 (by omega) (by omega) (by omega) (by omega)
 have B00:=bd a0 b0 (by omega) (by omega) (by omega) (by omega)
 generalize a1 * b1=p11 at *
 generalize a1 * b0=p10 at *
 generalize a0 * b1=p01 at *
 generalize a0 * b0=p00 at *
 simp only [u64w]
 rw [show ∀ x:Int,Go.bits .and .u64 (x % 18446744073709551616) 4294967295=(x % 18446744073709551616) % 4294967296 from fun x=>u64_and32 (by omega) (by omega)]
 omega
theorem s80 (d:Nat) (a b:Int) (ha:-9223372036854775808≤a) (ha':a < 9223372036854775808) (hb:-9223372036854775808≤b) (hb':b < 9223372036854775808) :
 pcall M (d+2) 80 [.int .i64 a,.int .i64 b]=some (.agg [.int .i64 (hiw (a * b)),.int .u64 (low (a * b))]):=told (r80 C0 (d+1) a b) (by
 obtain ⟨hi,lo,e,h0,l0,l1,i0,i1⟩:=s82 d (IntKind.u64.wrap a) (IntKind.u64.wrap b) (by rw [u64w]; omega) (by rw [u64w]; omega) (by rw [u64w]; omega) (by rw [u64w]; omega)
 have bd:=mul_bd63 a b ha ha' hb hb'
 rw [e,C0_tup2]
 simp only [at0,at1,C0_int,u64w]
 rw [u64w,u64w] at h0
 unfold hiw low
 have fin:∀ h:Int,(h * 18446744073709551616+lo - a * b) % 340282366920938463463374607431768211456=0→(some (.agg [.int .i64 (IntKind.i64.wrap h),.int .u64 lo]):Ans)=some (.agg [.int .i64 (IntKind.i64.wrap (a * b / 18446744073709551616)),.int .u64 (a * b % 18446744073709551616)]):=by
  intro h hh
  generalize a * b=p at *
  have e2:lo=p % 18446744073709551616:=by omega
  have e1:IntKind.i64.wrap h=IntKind.i64.wrap (p / 18446744073709551616):=by rw [i64w,i64w]; omega
  rw [e1,e2]
 by_cases ca:a < 0
 ·rw [decide_eq_true ca,cnd_t]
  have ua:a % 18446744073709551616=a+18446744073709551616:=by omega
  by_cases cb:b < 0
  ·rw [decide_eq_true cb,cnd_t]
   have ub:b % 18446744073709551616=b+18446744073709551616:=by omega
   have hp:(a+18446744073709551616) * (b+18446744073709551616)=a * b+18446744073709551616 * (a+b)+340282366920938463463374607431768211456:=by grind
   rw [ua,ub,hp] at h0
   rw [ua,ub]
   refine fin _ ?_
   generalize a * b=p at *
   omega
  ·rw [decide_eq_false cb,cnd_f]
   have ub:b % 18446744073709551616=b:=by omega
   have hp:(a+18446744073709551616) * b=a * b+18446744073709551616 * b:=by grind
   rw [ua,ub,hp] at h0
   rw [ub]
   refine fin _ ?_
   generalize a * b=p at *
   omega
 ·rw [decide_eq_false ca,cnd_f]
  have ua:a % 18446744073709551616=a:=by omega
  by_cases cb:b < 0
  ·rw [decide_eq_true cb,cnd_t]
   have ub:b % 18446744073709551616=b+18446744073709551616:=by omega
   have hp:a * (b+18446744073709551616)=a * b+18446744073709551616 * a:=by grind
   rw [ua,ub,hp] at h0
   rw [ua]
   refine fin _ ?_
   generalize a * b=p at *
   omega
  ·rw [decide_eq_false cb,cnd_f]
   have ub:b % 18446744073709551616=b:=by omega
   rw [ua,ub] at h0
   refine fin _ ?_
   generalize a * b=p at *
   omega)
theorem fi_ge (ps:List Pt):∀ i:Int,0≤i→(fi ps i ≥ 0 ↔ ¬ ∀ p ∈ ps,OkP p):=by
 induction ps with
 | nil=>intro i hi; simp [fi]
 | cons p l ih =>
   intro i hi
   simp only [fi]
   by_cases h:OkP p
   ·simp only [h,if_true]; rw [ih (i+1) (by omega)]; simp [h]
   ·simp only [h,if_false]
    exact ⟨fun _ hh=>h (hh p (by simp)),fun _=>hi⟩
theorem s74 (d:Nat) (ps:List Pt) (hl:ps.length < 140737488355329):pcall M (d+6) 74 [.lst (ps.map pt)]=some (.bool (decide (∀ p ∈ ps,OkP p))):=told (r74 C0 (d+5) _) (by
 have h30:pcall M (d+5) 58 [.lst (ps.map pt),.fn 79 [] []]=some (.bool (decide (fi ps 0 ≥ 0))):=told (r58f79 C0 (d+4) _ .nilp) (by rw [s64 d ps hl,C0_int])
 rw [h30,C0_bool]
 congr 2
 have:=fi_ge ps 0 (by decide)
 by_cases h:∀ p ∈ ps,OkP p
 ·have:¬ fi ps 0 ≥ 0:=fun hh=>(this.mp hh) h
  rw [decide_eq_true h,decide_eq_false this]; rfl
 ·rw [decide_eq_false h,decide_eq_true (this.mpr h)]; rfl)
def ok3 (a b c:Pt):Prop:=OkP a∧OkP b∧OkP c
instance (a b c:Pt):Decidable (ok3 a b c):=by unfold ok3; infer_instance
def tn3 (a b c:Pt):Int:=if ok3 a b c then sg (TN a b c) else 0
def onB (p a b:Pt):Bool:=decide (ok3 p a b∧On p a b)
def ok4 (a b c d:Pt):Prop:=OkP a∧OkP b∧OkP c∧OkP d
instance (a b c d:Pt):Decidable (ok4 a b c d):=by unfold ok4; infer_instance
def meetB (a b c d:Pt):Bool:=decide (ok4 a b c d∧Meet a b c d)
theorem cmp_sg (p q:Int):cmp p q=sg (p - q):=by unfold cmp sg; split <;> split <;> (try split) <;> (try split) <;> omega
theorem s75 (d:Nat) (a b c:Pt):pcall M (d+7) 75 [pt a,pt b,pt c]=some (.int .i64 (tn3 a b c)):=told (r75 C0 (d+6) _ _ _ _ _ _) (by
 have h22:=s74 d [a,b,c] (by simp)
 simp only [List.map_cons,List.map_nil,pt] at h22
 rw [h22,C0_bool]
 unfold tn3
 by_cases h:ok3 a b c
 ·rw [if_pos h,decide_eq_true (by simpa [ok3] using h)]
  obtain ⟨⟨⟨ha,ha'⟩,hb,hb'⟩,⟨⟨hc,hc'⟩,hd,hd'⟩,⟨he,he'⟩,hf,hf'⟩:=h
  rw [i64_small (n:=b.1 - a.1) (by omega) (by omega),i64_small (n:=c.2 - a.2) (by omega) (by omega),i64_small (n:=b.2 - a.2) (by omega) (by omega),i64_small (n:=c.1 - a.1) (by omega) (by omega)]
  rw [s80 (d+4) _ _ (by omega) (by omega) (by omega) (by omega),s80 (d+4) _ _ (by omega) (by omega) (by omega) (by omega)]
  have p1:=prod_bd41 (x:=b.1 - a.1) (y:=c.2 - a.2) (by omega) (by omega) (by omega) (by omega)
  have p2:=prod_bd41 (x:=b.2 - a.2) (y:=c.1 - a.1) (by omega) (by omega) (by omega) (by omega)
  simp only [Bool.not_true,cnd_f,C0_agg2,at0,at1,C0_int]
  rw [s81 (d+3) _ _ (by omega) (by omega) (by omega) (by omega),C0_int,cmp_sg]
  rfl
 ·rw [if_neg h,decide_eq_false (by simpa [ok3] using h)]
  rfl)
def btw (x y z:Int):Bool:=decide ((y≤x∧x≤z) ∨ (z≤x∧x≤y))
theorem btw_t {x y z:Int}:btw x y z=true ↔ (y≤x∧x≤z) ∨ (z≤x∧x≤y):=decide_eq_true_iff
def okB (l:List Pt):Bool:=decide (∀ p ∈ l,OkP p)
theorem okB_t {l:List Pt}:okB l=true ↔ ∀ p ∈ l,OkP p:=decide_eq_true_iff
def zeroB (x:Int):Bool:=x == 0
theorem zeroB_t {x:Int}:zeroB x=true ↔ x=0:=beq_iff_eq
def negB (x:Int):Bool:=decide (x < 0)
theorem negB_t {x:Int}:negB x=true ↔ x < 0:=decide_eq_true_iff
theorem onB_t {p a b:Pt}:onB p a b=true ↔ ok3 p a b∧On p a b:=decide_eq_true_iff
theorem meetB_t {a b c d:Pt}:meetB a b c d=true ↔ ok4 a b c d∧Meet a b c d:=decide_eq_true_iff
theorem s76 (d:Nat) (x y z:Int):pcall M (d+1) 76 [.int .i64 x,.int .i64 y,.int .i64 z]=some (.bool (btw x y z)):=told (r76 C0 d x y z) (by
 have e1:(if z < y then z else y)=min z y:=by omega
 have e2:(if z > y then z else y)=max z y:=by omega
 rw [e1,e2]
 unfold btw
 by_cases h:min z y≤x
 ·rw [decide_eq_true h,cnd_t]; congr 2; rw [decide_eq_decide]; omega
 ·rw [decide_eq_false h,cnd_f]; exact congrArg (fun b=>some (AV.bool b)) (decide_eq_false (by omega)).symm)
theorem s69 (d:Nat) (p a b:Pt):pcall M (d+8) 69 [pt p,pt a,pt b]=some (.bool (onB p a b)):=told (r69 C0 (d+7) _ _ _ _ _ _) (by
 have h22:=s74 (d+1) [p,a,b] (by simp)
 simp only [List.map_cons,List.map_nil,pt] at h22
 have h12:=s75 d a b p
 simp only [pt] at h12
 rw [h22,C0_bool,h12,C0_int,s76 (d+6),s76 (d+6),C0_bool,C0_bool]
 change cnd (okB [p,a,b]) (cnd (zeroB (tn3 a b p)) (cnd (btw p.1 a.1 b.1) (some (.bool (btw p.2 a.2 b.2))) (some (.bool false))) (some (.bool false))) (some (.bool false))=_
 have hok:okB [p,a,b]=true ↔ ok3 p a b:=by rw [okB_t]; simp [ok3]
 have key:onB p a b=(okB [p,a,b] && (zeroB (tn3 a b p) && (btw p.1 a.1 b.1 && btw p.2 a.2 b.2))):=by
  rw [Bool.eq_iff_iff]
  simp only [Bool.and_eq_true,onB_t,hok,zeroB_t,btw_t]
  constructor
  ·rintro ⟨h,hT,hB⟩
   exact ⟨h,by rw [tn3,if_pos ⟨h.2.1,h.2.2,h.1⟩,sg_zero]; exact hT,hB⟩
  ·rintro ⟨h,hT,hB⟩
   rw [tn3,if_pos ⟨h.2.1,h.2.2,h.1⟩,sg_zero] at hT
   exact ⟨h,hT,hB⟩
 rw [key]
 cases okB [p,a,b] <;> cases zeroB (tn3 a b p) <;> cases btw p.1 a.1 b.1 <;> rfl)
theorem tn3_sg {a b c:Pt} (h:ok3 a b c):tn3 a b c=sg (TN a b c):=if_pos h
theorem sg_small (u v:Int):IntKind.i64.wrap (sg u * sg v)=sg u * sg v:=by
 rcases sg_cases u with ⟨_,h⟩ | ⟨_,h⟩ | ⟨_,h⟩ <;> rcases sg_cases v with ⟨_,h'⟩ | ⟨_,h'⟩ | ⟨_,h'⟩ <;> rw [h,h',i64w] <;> decide
theorem s70 (d:Nat) (a b c e:Pt):pcall M (d+9) 70 [pt a,pt b,pt c,pt e]=some (.bool (meetB a b c e)):=told (r70 C0 (d+8) _ _ _ _ _ _ _ _) (by
 have h22:=s74 (d+2) [a,b,c,e] (by simp)
 simp only [List.map_cons,List.map_nil,pt] at h22
 have o:=fun p q r=>s69 d p q r
 have t:=fun p q r=>s75 (d+1) p q r
 simp only [pt] at o t
 rw [h22,C0_bool,o a c e,o b c e,o c a b,o e a b,t a b c,t a b e,t c e a,t c e b]
 simp only [C0_bool,C0_int]
 change cnd (!okB [a,b,c,e]) (some (.bool false)) (cnd (onB a c e) (some (.bool true)) (cnd (onB b c e) (some (.bool true)) (cnd (onB c a b) (some (.bool true)) (cnd (onB e a b) (some (.bool true))
  (cnd (negB (IntKind.wrap .i64 (tn3 a b c * tn3 a b e))) (some (.bool (negB (IntKind.wrap .i64 (tn3 c e a * tn3 c e b))))) (some (.bool false)))))))=_
 have hok:okB [a,b,c,e]=true ↔ ok4 a b c e:=by rw [okB_t]; simp [ok4]
 have key:meetB a b c e=(okB [a,b,c,e] && (onB a c e || (onB b c e || (onB c a b || (onB e a b || (negB (IntKind.wrap .i64 (tn3 a b c * tn3 a b e)) && negB (IntKind.wrap .i64 (tn3 c e a * tn3 c e b)))))))):=by
  rw [Bool.eq_iff_iff]
  simp only [Bool.and_eq_true,Bool.or_eq_true,onB_t,hok,negB_t,meetB_t]
  refine and_congr_right fun h=>?_
  obtain ⟨ha,hb,hc,he⟩:=h
  rw [tn3_sg ⟨ha,hb,hc⟩,tn3_sg ⟨ha,hb,he⟩,tn3_sg ⟨hc,he,ha⟩,tn3_sg ⟨hc,he,hb⟩,sg_small,sg_small]
  simp only [ok3,ha,hb,hc,he,true_and,and_true]
  exact Iff.rfl
 rw [key]
 cases okB [a,b,c,e] <;> cases onB a c e <;> cases onB b c e <;> cases onB c a b <;> cases onB e a b <;> cases negB (IntKind.wrap .i64 (tn3 a b c * tn3 a b e)) <;> rfl)
theorem s52 (d:Nat) (p:Pt):pcall M (d+1) 52 [pt p]=some (.bool (decide (OkP p))):=told (r52 C0 d _ _) (by
 unfold OkP Okc
 by_cases h1:p.1 ≥ -1099511627776 <;> by_cases h2:p.1≤1099511627776 <;> by_cases h3:p.2 ≥ -1099511627776 <;> by_cases h4:p.2≤1099511627776 <;> simp [h1,h2,h3,h4,cnd_t,cnd_f])
end Go.Proofs.Ytdceaeifcniabaa.AE

namespace Go.Proofs.Ytdceaeifcniabaa.AE
set_option linter.unusedVariables false
set_option linter.unusedSimpArgs false
open Go
def bin:List Int→Int
 | []=>0
 | x::l=>x+2 * bin l
def bitl (n:Int):Nat→List Int
 | 0=>[]
 | k+1=>n % 2::bitl (n / 2) k
theorem bin_app (l m:List Int):bin (l ++ m)=bin l+2 ^ l.length * bin m:=by
 induction l with
 | nil=>simp [bin]
 | cons x l ih=>simp only [List.cons_append,bin,ih,List.length_cons,Int.pow_succ]; grind
theorem bitl_len (n:Int) (k:Nat):(bitl n k).length=k:=by
 induction k generalizing n with
 | zero=>rfl
 | succ k ih=>simp [bitl,ih]
theorem bitl_snoc (n:Int) (k:Nat):bitl n (k+1)=bitl n k ++ [n / 2 ^ k % 2]:=by
 induction k generalizing n with
 | zero=>simp [bitl]
 | succ k ih =>
   rw [bitl,ih (n / 2),bitl]
   simp only [List.cons_append]
   rw [Int.ediv_ediv_of_nonneg (by decide),Int.pow_succ,Int.mul_comm (2 ^ k) 2]
theorem bin_bitl (n:Int) (k:Nat):bin (bitl n k)=n % 2 ^ k:=by
 induction k generalizing n with
 | zero=>simp [bitl,bin]
 | succ k ih =>
   simp only [bitl,bin,ih]
   have hp:(0:Int) < 2 ^ k:=Int.pow_pos (by decide)
   have e1:=Int.mul_ediv_add_emod (n / 2) (2 ^ k)
   have e2:=Int.emod_nonneg (n / 2) (show (2:Int) ^ k ≠ 0 by omega)
   have e3:=Int.emod_lt_of_pos (n / 2) hp
   rw [Int.pow_succ]
   symm
   have e0:n=n % 2+2 * (n / 2 % 2 ^ k)+(2 ^ k * 2) * (n / 2 / 2 ^ k):=by
    rw [Int.mul_assoc (2 ^ k) 2,Int.mul_left_comm (2 ^ k) 2]; omega
   rw [e0]
   rw [Int.add_mul_emod_self_left]
   have h2:(n % 2+2 * (n / 2 % 2 ^ k)+2 ^ k * 2 * (n / 2 / 2 ^ k))=n:=e0.symm
   rw [h2]
   exact Int.emod_eq_of_lt (by omega) (by omega)
def Bits (l:List Int):Prop:=∀ x ∈ l,x=0 ∨ x=1
theorem bin_nonneg {l:List Int} (h:Bits l):0≤bin l∧bin l < 2 ^ l.length:=by
 induction l with
 | nil=>simp [bin]
 | cons x l ih =>
   have:=ih fun y hy=>h y (List.mem_cons_of_mem _ hy)
   have hx:=h x (List.mem_cons_self ..)
   simp only [bin,List.length_cons,Int.pow_succ]
   omega
theorem bitl_bits (n:Int) (k:Nat):Bits (bitl n k):=by
 induction k generalizing n with
 | zero=>intro x hx; cases hx
 | succ k ih =>
   intro x hx
   rcases List.mem_cons.mp hx with rfl | hx
   ·omega
   ·exact ih _ x hx
theorem bits_app {l m:List Int}:Bits (l ++ m) ↔ Bits l∧Bits m:=by
 unfold Bits; simp only [List.mem_append]
 exact ⟨fun h=>⟨fun x hx=>h x (.inl hx),fun x hx=>h x (.inr hx)⟩,fun h x hx=>hx.elim (h.1 x) (h.2 x)⟩
theorem u64_or_pow {x:Int} {i:Nat} (hi:i < 64) (h:0≤x) (h':x < 2 ^ i):Go.bits .or .u64 x (2 ^ i)=x+2 ^ i:=by
 obtain ⟨n,rfl⟩:=Int.eq_ofNat_of_zero_le h
 have hn:n < 2 ^ i:=by exact_mod_cast h'
 have hp:(2:Nat) ^ i < 2 ^ 64:=Nat.pow_lt_pow_right (by decide) hi
 have hp2:(2:Nat) ^ i+2 ^ i≤2 ^ 64:=by
  have:=Nat.pow_le_pow_right (n:=2) (by decide) (show i+1≤64 by omega)
  rw [Nat.pow_succ] at this; omega
 show IntKind.u64.wrap ((BitVec.ofInt 64 (n:Int) ||| BitVec.ofInt 64 ((2:Int) ^ i)).toNat:Int)=_
 rw [show ((2:Int) ^ i)=((2 ^ i:Nat):Int) by simp,BitVec.toNat_or,BitVec.ofInt_natCast,BitVec.ofInt_natCast,BitVec.toNat_ofNat,BitVec.toNat_ofNat,Nat.mod_eq_of_lt (by omega),Nat.mod_eq_of_lt hp]
 have:=Nat.two_pow_add_eq_or_of_lt (i:=i) hn 1
 rw [Nat.mul_one] at this
 rw [Nat.or_comm,← this,u64_small (by omega) (by omega)]
 simp; omega
theorem pow64 (i:Nat) (hi:i < 64):(0:Int) < 2 ^ i∧(2:Int) ^ i < 18446744073709551616:=by
 constructor
 ·exact Int.pow_pos (by decide)
 ·have:(2:Nat) ^ i < 2 ^ 64:=Nat.pow_lt_pow_right (by decide) hi
  have h2:((2 ^ i:Nat):Int) < ((2 ^ 64:Nat):Int):=by exact_mod_cast this
  simpa using h2
end Go.Proofs.Ytdceaeifcniabaa.AE

namespace Go.Proofs.Ytdceaeifcniabaa.AE
set_option linter.unusedVariables false
set_option linter.unusedSimpArgs false
set_option linter.constructorNameAsVariable false
open Go
abbrev wd (n:Int):AV:=.agg [.int .i64 (hiw n),.int .u64 (low n)]
theorem low_rng (n:Int):0≤low n∧low n < 18446744073709551616:=by unfold low; omega
theorem u_hiw (n:Int):IntKind.wrap .u64 (hiw n)=n / 18446744073709551616 % 18446744073709551616:=by unfold hiw; rw [i64w,u64w]; omega
theorem shr1 {x:Int} {i:Nat} (hi:i < 64) (h:0≤x) (h':x < 18446744073709551616):IntKind.wrap .i64 (bits .and .u64 (Int.fdiv x (2 ^ (min (Int.toNat (i:Int)) 64))) 1)=x / 2 ^ i % 2:=by
 rw [show min (Int.toNat (i:Int)) 64=i by omega,Int.fdiv_eq_ediv_of_nonneg _ (Int.le_of_lt (pow64 i hi).1)]
 have hp:=pow64 i hi
 have h1:0≤x / 2 ^ i:=Int.ediv_nonneg h (by omega)
 have h2:x / 2 ^ i < 18446744073709551616:=Int.lt_of_le_of_lt (Int.ediv_le_self _ h) h'
 have:=u64_mask 1 (by decide) h1 h2
 rw [show ((2:Int) ^ 1 - 1)=1 by decide,show ((2:Int) ^ 1)=2 by decide] at this
 rw [this,i64w]; omega
theorem wrap_succ (i:Nat) (h:i < 9223372036854775807):IntKind.wrap .i64 ((i:Int)+1)=((i+1:Nat):Int):=by rw [i64w]; omega
theorem bits1 (d:Nat) (n:Int):∀ (k i f:Nat) (H:Heap) (v:AV) (l:List Int),i+k=64→k < f→l.length=64+i→hget H 0=some ⟨E98,[wd n]⟩→Own H E3 v (iv l)→¬ names v 0 →
 L77_1 d (.ptr 0 0 0) f v (i:Nat) H=some (.lst (iv (l ++ ((List.range k).map fun j=>n / 18446744073709551616 % 18446744073709551616 / 2 ^ (i+j) % 2)))):=by
 intro k
 induction k with
 | zero =>
   intro i f H v l hi hf hl h0 ho hn
   obtain ⟨f,rfl⟩:∃ g,f=g+1:=⟨f - 1,by omega⟩
   rw [L77_1,decide_eq_false (by omega),cnd_f,X77_1_0,C0_fin,snap_iv ho]; simp
 | succ k ih =>
   intro i f H v l hi hf hl h0 ho hn
   obtain ⟨f,rfl⟩:∃ g,f=g+1:=⟨f - 1,by omega⟩
   rw [L77_1,decide_eq_true (by omega),cnd_t,sh_ptr,ld_ptr h0 (by rfl) (by rfl),C0_int,decide_eq_false (by omega),cnd_f,u_hiw,shr1 (by omega) (by omega) (by omega)]
   obtain ⟨v',H',e,ho',hn',_,hk⟩:=app_one (x:=.int .i64 (n / 18446744073709551616 % 18446744073709551616 / 2 ^ i % 2)) ho (by rfl) (by rw [iv_len,hl]; change (64+i+1) * 8≤_; omega) (by rw [iv_len]; omega)
   rw [e,wrap_succ i (by omega),ih (i+1) f H' v' (l ++ [n / 18446744073709551616 % 18446744073709551616 / 2 ^ i % 2]) (by omega) (by omega) (by simp; omega) (hk 0 _ hn h0) (by rw [iv_app]; exact ho') (fun hc=>by have:=hn' 0 hc; omega)]
   rw [List.append_assoc,List.range_succ_eq_map]
   simp [Nat.add_assoc,Nat.add_comm 1,List.map_map,Function.comp_def]
theorem bitl_range (m:Int) (k:Nat):bitl m k=(List.range k).map fun j=>m / 2 ^ j % 2:=by
 induction k with
 | zero=>rfl
 | succ k ih=>rw [bitl_snoc,ih,List.range_succ,List.map_append]; rfl
def wbits (n:Int):List Int:=bitl (low n) 64 ++ bitl (n / 18446744073709551616 % 18446744073709551616) 64
theorem wbits_len (n:Int):(wbits n).length=128:=by simp [wbits,bitl_len]
theorem wbits_bits (n:Int):Bits (wbits n):=bits_app.mpr ⟨bitl_bits _ _,bitl_bits _ _⟩
theorem bin_wbits (n:Int):bin (wbits n)=n % 340282366920938463463374607431768211456:=by
 unfold wbits; rw [bin_app,bin_bitl,bin_bitl,bitl_len]
 have e:(2:Int) ^ 64=18446744073709551616:=by decide
 rw [e]; unfold low; omega
theorem bits0 (d:Nat) (n:Int):∀ (k i f:Nat) (H:Heap) (v:AV),i+k=64→k < f→hget H 0=some ⟨E98,[wd n]⟩→Own H E3 v (iv (bitl (low n) i))→¬ names v 0 →
 L77_0 d (.ptr 0 0 0) f v (i:Nat) H=some (.lst (iv (wbits n))):=by
 intro k
 induction k with
 | zero =>
   intro i f H v hi hf h0 ho hn
   obtain ⟨f,rfl⟩:∃ g,f=g+1:=⟨f - 1,by omega⟩
   obtain rfl:i=64:=by omega
   rw [L77_0,decide_eq_false (by omega),cnd_f,X77_0_0]
   have:=bits1 d n 64 0 10000000000000000000 H v _ (by omega) (by omega) (by simp [bitl_len]) h0 ho hn
   simp only [Nat.zero_add,← bitl_range] at this
   exact this
 | succ k ih =>
   intro i f H v hi hf h0 ho hn
   obtain ⟨f,rfl⟩:∃ g,f=g+1:=⟨f - 1,by omega⟩
   have l0:=low_rng n
   rw [L77_0,decide_eq_true (by omega),cnd_t,sh_ptr,ld_ptr h0 (by rfl) (by rfl),C0_int,decide_eq_false (by omega),cnd_f,shr1 (by omega) l0.1 l0.2]
   obtain ⟨v',H',e,ho',hn',_,hk⟩:=app_one (x:=.int .i64 (low n / 2 ^ i % 2)) ho (by rfl) (by rw [iv_len,bitl_len]; change (i+1) * 8≤_; omega) (by rw [iv_len,bitl_len]; omega)
   rw [e,wrap_succ i (by omega),ih (i+1) f H' v' (by omega) (by omega) (hk 0 _ hn h0) (by rw [bitl_snoc,iv_app]; exact ho') (fun hc=>by have:=hn' 0 hc; omega)]
theorem s77 (d:Nat) (n:Int):pcall M (d+1) 77 [wd n]=some (.lst (iv (wbits n))):=told (q77 d _ _) (by
 refine Eq.trans (hop_eq (by rfl)) ?_
 exact bits0 d n 64 0 10000000000000000000 _ _ (by omega) (by omega) rfl (.inl ⟨rfl,_,rfl⟩) (by rintro ⟨o,m,h⟩; cases h))
theorem bin_take {l:List Int} {i:Nat} (h:i < l.length):bin (l.take (i+1))=bin (l.take i)+2 ^ i * l[i]:=by
 rw [List.take_succ_eq_append_getElem h,bin_app]
 simp [bin,List.length_take,Nat.min_eq_left (Nat.le_of_lt h)]
theorem wd_congr {a b:Int} (h:a % 340282366920938463463374607431768211456=b % 340282366920938463463374607431768211456):wd a=wd b:=by
 have e1:hiw a=hiw b:=by unfold hiw; rw [i64w,i64w]; omega
 have e2:low a=low b:=by unfold low; omega
 rw [wd,wd,e1,e2]
theorem take_bits {l:List Int} (h:Bits l) (i:Nat):Bits (l.take i):=fun x hx=>h x (List.mem_of_mem_take hx)
theorem drop_bits {l:List Int} (h:Bits l) (i:Nat):Bits (l.drop i):=fun x hx=>h x (List.mem_of_mem_drop hx)
theorem bin_lt {l:List Int} (h:Bits l) {i:Nat} (hi:i≤l.length):0≤bin (l.take i)∧bin (l.take i) < 2 ^ i:=by
 have:=bin_nonneg (take_bits h i)
 rwa [List.length_take,Nat.min_eq_left hi] at this
theorem shl1 {i:Nat} (hi:i < 64):IntKind.wrap .u64 (1 * (2 ^ (min (Int.toNat (i:Int)) 64)))=2 ^ i:=by
 rw [show min (Int.toNat (i:Int)) 64=i by omega,Int.one_mul]
 exact u64_small (Int.le_of_lt (pow64 i hi).1) (pow64 i hi).2
theorem value1 (d:Nat) (l:List Int) (hb:Bits l) (hl:l.length=128):∀ (k i f:Nat),i+k=64→k < f →
 L78_0 d (iv l) (.ptr 0 0 0) (.ptr 1 0 0) f (bin ((l.drop 64).take i)) (i:Nat) [some ⟨E98,[wd 0]⟩,some ⟨E98,[.agg [.int .i64 0,.int .u64 (bin (l.take i))]]⟩]=some (wd (bin l)):=by
 intro k
 induction k with
 | zero =>
   intro i f hi hf
   obtain ⟨f,rfl⟩:∃ g,f=g+1:=⟨f - 1,by omega⟩
   obtain rfl:i=64:=by omega
   rw [L78_0,decide_eq_false (by omega),cnd_f,X78_0_0]
   have b1:=bin_lt hb (i:=64) (by omega)
   have e0:(l.drop 64).take 64=l.drop 64:=List.take_of_length_le (by simp; omega)
   have e1:bin l=bin (l.take 64)+2 ^ 64 * bin (l.drop 64):=by
    have:=bin_app (l.take 64) (l.drop 64)
    rw [List.take_append_drop,List.length_take,Nat.min_eq_left (by omega)] at this
    exact this
   have e2:(2:Int) ^ 64=18446744073709551616:=by decide
   rw [e2] at b1 e1
   have h1:hiw (bin l)=IntKind.wrap .i64 (bin (l.drop 64)):=by unfold hiw; rw [e1]; congr 1; omega
   have h2:low (bin l)=bin (l.take 64):=by unfold low; omega
   have hwd:wd (bin l)=.agg [.int .i64 (IntKind.wrap .i64 (bin (l.drop 64))),.int .u64 (bin (l.take 64))]:=by rw [wd,h1,h2]
   rw [hwd,e0]
   refine Eq.trans (hop_eq (by rfl)) ?_; refine Eq.trans (hop_eq (by rfl)) ?_; refine Eq.trans (hop_eq (by rfl)) ?_; refine Eq.trans (pl_agg (by rfl) (by rfl)) ?_; refine Eq.trans (pl_int (by rfl)) ?_; refine Eq.trans (pl_int (by rfl)) ?_; refine Eq.trans (hop_eq (by rfl)) ?_; refine Eq.trans (hop_eq (by rfl)) ?_
   rfl
 | succ k ih =>
   intro i f hi hf
   obtain ⟨f,rfl⟩:∃ g,f=g+1:=⟨f - 1,by omega⟩
   have i1:i < l.length:=by omega
   have i2:i < (l.drop 64).length:=by simp; omega
   have g1:(iv l)[((i:Nat):Int).toNat]?=some (.int .i64 l[i]):=by rw [iv_at]; simp [i1]
   have g2:(iv l)[(IntKind.wrap .i64 (64+(i:Int))).toNat]?=some (.int .i64 (l.drop 64)[i]):=by
    have:(IntKind.wrap .i64 (64+(i:Int))).toNat=64+i:=by rw [i64w]; omega
    rw [this,iv_at]; simp [List.getElem?_eq_getElem (show 64+i < l.length by omega)]
   have w0:0≤IntKind.wrap .i64 (64+(i:Int)):=by rw [i64w]; omega
   have b1:=bin_lt hb (i:=i) (by omega)
   have b2:=bin_lt (drop_bits hb 64) (i:=i) (by simp; omega)
   have IH:=ih (i+1) f (by omega) (by omega)
   rw [bin_take i1,bin_take i2] at IH
   rw [L78_0,decide_eq_true (by omega),cnd_t]
   refine Eq.trans (ix_lst (by omega) g1 (by rfl)) ?_
   refine Eq.trans (hop_eq (by rfl)) ?_; refine Eq.trans (pl_int (by rfl)) ?_
   have c0:∀ i:Nat,decide ((i:Int) < 0)=false:=fun i=>decide_eq_false (by omega)
   rcases hb l[i] (List.getElem_mem _) with x0 | x0 <;> rcases drop_bits hb 64 (l.drop 64)[i] (List.getElem_mem _) with y0 | y0
   all_goals rw [x0] ; rw [y0] at g2
   ·rw [x0,y0] at IH
    refine Eq.trans (pl_f (by rfl)) ?_
    refine Eq.trans (ix_lst w0 g2 (by rfl)) ?_
    refine Eq.trans (hop_eq (by rfl)) ?_; refine Eq.trans (pl_int (by rfl)) ?_
    refine Eq.trans (pl_f (by rfl)) ?_
    rw [wrap_succ i (by omega)]
    simpa using IH
   ·rw [x0,y0] at IH
    refine Eq.trans (pl_f (by rfl)) ?_
    refine Eq.trans (ix_lst w0 g2 (by rfl)) ?_
    refine Eq.trans (hop_eq (by rfl)) ?_; refine Eq.trans (pl_int (by rfl)) ?_; refine Eq.trans (pl_len (by rfl)) ?_
    rw [c0,cnd_f,wrap_succ i (by omega),shl1 (by omega),u64_or_pow (by omega) b2.1 b2.2]
    simpa using IH
   ·rw [x0,y0] at IH
    refine Eq.trans (pl_len (by rfl)) ?_; refine Eq.trans (hop_eq (by rfl)) ?_; refine Eq.trans (hop_eq (by rfl)) ?_; refine Eq.trans (pl_int (by rfl)) ?_
    rw [c0,cnd_f,shl1 (by omega),u64_or_pow (by omega) b1.1 b1.2]
    refine Eq.trans (hop_eq (by rfl)) ?_; refine Eq.trans (hop_eq (by rfl)) ?_
    refine Eq.trans (ix_lst w0 g2 (by rfl)) ?_
    refine Eq.trans (hop_eq (by rfl)) ?_; refine Eq.trans (pl_int (by rfl)) ?_
    refine Eq.trans (pl_f (by rfl)) ?_
    rw [wrap_succ i (by omega)]
    simp only [Int.mul_one,Int.mul_zero,Int.add_zero] at IH
    exact IH
   ·rw [x0,y0] at IH
    refine Eq.trans (pl_len (by rfl)) ?_; refine Eq.trans (hop_eq (by rfl)) ?_; refine Eq.trans (hop_eq (by rfl)) ?_; refine Eq.trans (pl_int (by rfl)) ?_
    rw [c0,cnd_f,shl1 (by omega),u64_or_pow (by omega) b1.1 b1.2]
    refine Eq.trans (hop_eq (by rfl)) ?_; refine Eq.trans (hop_eq (by rfl)) ?_
    refine Eq.trans (ix_lst w0 g2 (by rfl)) ?_
    refine Eq.trans (hop_eq (by rfl)) ?_; refine Eq.trans (pl_int (by rfl)) ?_; refine Eq.trans (pl_len (by rfl)) ?_
    rw [cnd_f,wrap_succ i (by omega),u64_or_pow (by omega) b2.1 b2.2]
    simp only [Int.mul_one] at IH
    exact IH
theorem s78 (d:Nat) (l:List Int) (hb:Bits l) (hl:l.length=128):pcall M (d+1) 78 [.lst (iv l)]=some (wd (bin l)):=told (q78 d _) (by
 refine Eq.trans (hop_eq (by rfl)) ?_; refine Eq.trans (hop_eq (by rfl)) ?_; refine Eq.trans (hop_eq (by rfl)) ?_
 have:=value1 d l hb hl 64 0 10000000000000000000 (by omega) (by omega)
 simp only [List.take_zero,bin] at this
 exact this)
theorem plus1 (d:Nat) (x y:List Int) (hx:Bits x) (hy:Bits y) (lx:x.length=128) (ly:y.length=128):∀ (k i f:Nat) (H:Heap) (v:AV) (out:List Int) (c:Int),i+k=128→k < f→out.length=i→Bits out→(c=0 ∨ c=1) →
 bin out+2 ^ i * c=bin (x.take i)+bin (y.take i)→hget H 2=some ⟨E98,[wd 0]⟩→Own H E3 v (iv out)→¬ names v 2→2 < H.length →
 L72_0 (d+1) (.ptr 2 0 0) (.lst (iv x)) (.lst (iv y)) f v c (i:Nat) H=some (wd (bin x+bin y)):=by
 intro k
 induction k with
 | zero =>
   intro i f H v out c hi hf lo ob hc hs h2 ho hn hl
   obtain ⟨f,rfl⟩:∃ g,f=g+1:=⟨f - 1,by omega⟩
   obtain rfl:i=128:=by omega
   rw [L72_0,decide_eq_false (by omega),cnd_f,X72_0_0,snp_own ho (by intro h; rw [h] at lo; simp at lo),s78 d out ob lo]
   refine Eq.trans (pl_agg (by rfl) (by rfl)) ?_; refine Eq.trans (pl_int (by rfl)) ?_; refine Eq.trans (pl_int (by rfl)) ?_; refine Eq.trans (pl_len (by rfl)) ?_
   rw [st_ptr h2 (by rfl) (by rfl)]
   refine Eq.trans (ld_ptr (hget_set hl) (by rfl) (by rfl)) ?_
   rw [List.take_of_length_le (by omega),List.take_of_length_le (by omega)] at hs
   have e2:(2:Int) ^ 128=340282366920938463463374607431768211456:=by decide
   rw [e2] at hs
   rw [wd_congr (a:=bin x+bin y) (b:=bin out) (by rw [← hs]; omega)]
   rfl
 | succ k ih =>
   intro i f H v out c hi hf lo ob hc hs h2 ho hn hl
   obtain ⟨f,rfl⟩:∃ g,f=g+1:=⟨f - 1,by omega⟩
   have i1:i < x.length:=by omega
   have i2:i < y.length:=by omega
   have g1:(iv x)[((i:Nat):Int).toNat]?=some (.int .i64 x[i]):=by rw [iv_at]; simp [i1]
   have g2:(iv y)[((i:Nat):Int).toNat]?=some (.int .i64 y[i]):=by rw [iv_at]; simp [i2]
   have bx:=hx x[i] (List.getElem_mem _)
   have by':=hy y[i] (List.getElem_mem _)
   rw [L72_0,decide_eq_true (by omega),cnd_t]
   refine Eq.trans (ix_lst (by omega) g1 (by rfl)) ?_
   refine Eq.trans (hop_eq (by rfl)) ?_; refine Eq.trans (pl_int (by rfl)) ?_
   refine Eq.trans (ix_lst (by omega) g2 (by rfl)) ?_
   refine Eq.trans (hop_eq (by rfl)) ?_; refine Eq.trans (pl_int (by rfl)) ?_
   obtain ⟨t,ht⟩:∃ t,t=x[i]+y[i]+c:=⟨_,rfl⟩
   have ew:IntKind.wrap .i64 ((IntKind.wrap .i64 (x[i]+y[i]))+c)=t:=by rw [i64w,i64w]; omega
   have e1:Int.tmod t 2=t % 2:=Int.tmod_eq_emod_of_nonneg (by omega)
   have e2:Int.tdiv t 2=t / 2:=Int.tdiv_eq_ediv_of_nonneg (by omega)
   have e3:IntKind.wrap .i64 (t / 2)=t / 2:=i64_small (by omega) (by omega)
   rw [ew,e1,e2,e3]
   obtain ⟨v',H',e,ho',hn',hl',hk⟩:=app_one (x:=.int .i64 (t % 2)) ho (by rfl) (by rw [iv_len,lo]; change (i+1) * 8≤_; omega) (by rw [iv_len,lo]; omega)
   rw [e,wrap_succ i (by omega)]
   refine ih (i+1) f H' v' (out ++ [t % 2]) (t / 2) (by omega) (by omega) (by simp [lo]) (bits_app.mpr ⟨ob,by intro z hz; simp at hz; omega⟩) (by omega) ?_ (hk 2 _ hn h2) (by rw [iv_app]; exact ho') (fun hc=>by have:=hn' 2 hc; omega) (by omega)
   rw [bin_app,lo,bin_take i1,bin_take i2,Int.pow_succ]
   simp only [bin]
   have e4:t=t % 2+2 * (t / 2):=by omega
   have:bin out+2 ^ i * (t % 2+2 * 0)+2 ^ i * 2 * (t / 2)=bin out+2 ^ i * (t % 2+2 * (t / 2)):=by grind
   rw [this,← e4,ht]
   grind
theorem s72 (d:Nat) (a b:Int):pcall M (d+2) 72 [wd a,wd b]=some (wd (a+b)):=told (q72 (d+1) _ _ _ _) (by
 refine Eq.trans (hop_eq (by rfl)) ?_; refine Eq.trans (hop_eq (by rfl)) ?_; refine Eq.trans (hop_eq (by rfl)) ?_; refine Eq.trans (hop_eq (by rfl)) ?_; refine Eq.trans (pl_agg (by rfl) (by rfl)) ?_; refine Eq.trans (pl_int (by rfl)) ?_; refine Eq.trans (pl_int (by rfl)) ?_
 refine Eq.trans (pl_any (s77 d a)) ?_
 refine Eq.trans (hop_eq (by rfl)) ?_; refine Eq.trans (pl_agg (by rfl) (by rfl)) ?_; refine Eq.trans (pl_int (by rfl)) ?_; refine Eq.trans (pl_int (by rfl)) ?_
 refine Eq.trans (pl_any (s77 d b)) ?_
 have:=plus1 d (wbits a) (wbits b) (wbits_bits a) (wbits_bits b) (wbits_len a) (wbits_len b) 128 0 10000000000000000000
  [some ⟨E98,[wd a]⟩,some ⟨E98,[wd b]⟩,some ⟨E98,[wd 0]⟩] (.zsl true) [] 0 (by omega) (by omega) rfl (by intro z hz; cases hz) (.inl rfl) (by simp [bin]) rfl (.inl ⟨rfl,_,rfl⟩) (by rintro ⟨o,m,h⟩; cases h) (by simp)
 refine this.trans ?_
 rw [bin_wbits,bin_wbits,wd_congr (a:=a+b) (b:=a % 340282366920938463463374607431768211456+b % 340282366920938463463374607431768211456) (by omega)])
theorem s71 (d:Nat) (x:Int) (h:-9223372036854775808≤x) (h':x < 9223372036854775808):pcall M (d+1) 71 [.int .i64 x]=some (wd x):=told (r71 C0 d x) (by
 have e2:IntKind.wrap .u64 x=low x:=by unfold low; rw [u64w]
 rw [e2]
 by_cases hx:x < 0
 ·rw [decide_eq_true hx,cnd_t,wd,show hiw x=-1 by unfold hiw; rw [i64w]; omega]
 ·rw [decide_eq_false hx,cnd_f,wd,show hiw x=0 by unfold hiw; rw [i64w]; omega])
theorem bits_not_i64 (x:Int) (h:-9223372036854775808≤x) (h':x < 9223372036854775808):Go.bits .xor .i64 (-1) x=-1 - x:=by
 show IntKind.i64.wrap ((BitVec.ofInt 64 (-1) ^^^ BitVec.ofInt 64 x).toNat:Int)=_
 rw [show BitVec.ofInt 64 (-1)=BitVec.allOnes 64 by decide,BitVec.allOnes_xor,BitVec.toNat_not,i64w,BitVec.toNat_ofInt]
 have:((2 ^ 64:Nat):Int)=18446744073709551616:=by decide
 rw [this]
 omega
theorem bits_not_u64 (x:Int) (h:0≤x) (h':x < 18446744073709551616):Go.bits .xor .u64 18446744073709551615 x=18446744073709551615 - x:=by
 show IntKind.u64.wrap ((BitVec.ofInt 64 18446744073709551615 ^^^ BitVec.ofInt 64 x).toNat:Int)=_
 rw [show BitVec.ofInt 64 18446744073709551615=BitVec.allOnes 64 by decide,BitVec.allOnes_xor,BitVec.toNat_not,u64w,BitVec.toNat_ofInt]
 have:((2 ^ 64:Nat):Int)=18446744073709551616:=by decide
 rw [this]
 omega
theorem hiw_rng (n:Int):-9223372036854775808≤hiw n∧hiw n < 9223372036854775808:=by unfold hiw; rw [i64w]; omega
theorem s73 (d:Nat) (n:Int):pcall M (d+3) 73 [wd n]=some (wd (-n)):=told (r73 C0 (d+2) _ _) (by
 have r1:=hiw_rng n
 have r2:=low_rng n
 rw [if_pos rfl,if_neg (by decide),bits_not_i64 _ r1.1 r1.2,show IntKind.max .u64=18446744073709551615 by decide,bits_not_u64 _ r2.1 r2.2]
 have e:(.agg [.int .i64 (-1 - hiw n),.int .u64 (18446744073709551615 - low n)]:AV)=wd (-1 - n):=by
  rw [wd,show -1 - hiw n=hiw (-1 - n) by unfold hiw; rw [i64w,i64w]; omega,show 18446744073709551615 - low n=low (-1 - n) by unfold low; omega]
 have e1:(.agg [.int .i64 0,.int .u64 1]:AV)=wd 1:=by rfl
 rw [e,e1,s72]
 refine Eq.trans (pl_agg (by rfl) (by rfl)) ?_; refine Eq.trans (pl_int (by rfl)) ?_; refine Eq.trans (pl_int (by rfl)) ?_
 rw [show -1 - n+1=-n by omega])
theorem mod_succ (n:Int) (i:Nat):n % 2 ^ (i+1)=n % 2 ^ i+2 ^ i * (n / 2 ^ i % 2):=by
 have:=congrArg bin (bitl_snoc n i)
 rw [bin_app,bin_bitl,bin_bitl,bitl_len] at this
 simpa [bin] using this
theorem and1 {x:Int} {i:Nat} (hi:i < 64) (h:0≤x) (h':x < 18446744073709551616):bits .and .u64 (Int.fdiv x (2 ^ (min (Int.toNat (i:Int)) 64))) 1=x / 2 ^ i % 2:=by
 rw [show min (Int.toNat (i:Int)) 64=i by omega,Int.fdiv_eq_ediv_of_nonneg _ (Int.le_of_lt (pow64 i hi).1)]
 have hp:=pow64 i hi
 have h1:0≤x / 2 ^ i:=Int.ediv_nonneg h (by omega)
 have h2:x / 2 ^ i < 18446744073709551616:=Int.lt_of_le_of_lt (Int.ediv_le_self _ h) h'
 have:=u64_mask 1 (by decide) h1 h2
 rwa [show ((2:Int) ^ 1 - 1)=1 by decide,show ((2:Int) ^ 1)=2 by decide] at this
theorem mul1 (d:Nat) (a b:Int) (hb:-9223372036854775808≤b) (hb':b < 9223372036854775808):∀ (k i f:Nat),i+k=64→k < f →
 L66_0 (d+3) b (.ptr 0 0 0) (.ptr 1 0 0) (.ptr 2 0 0) f (i:Nat) [some ⟨E98,[wd 0]⟩,some ⟨E98,[wd (a * 2 ^ i)]⟩,some ⟨E98,[wd (a * (b % 18446744073709551616 % 2 ^ i))]⟩]=some (wd (a * b)):=by
 intro k
 induction k with
 | zero =>
   intro i f hi hf
   obtain ⟨f,rfl⟩:∃ g,f=g+1:=⟨f - 1,by omega⟩
   obtain rfl:i=64:=by omega
   have e2:(2:Int) ^ 64=18446744073709551616:=by decide
   rw [L66_0,decide_eq_false (by omega),cnd_f,X66_0_0,e2]
   by_cases h:b < 0
   ·rw [decide_eq_true h,cnd_t]
    refine Eq.trans (hop_eq (by rfl)) ?_; refine Eq.trans (pl_agg (by rfl) (by rfl)) ?_; refine Eq.trans (pl_int (by rfl)) ?_; refine Eq.trans (pl_int (by rfl)) ?_; refine Eq.trans (hop_eq (by rfl)) ?_; refine Eq.trans (pl_agg (by rfl) (by rfl)) ?_; refine Eq.trans (pl_int (by rfl)) ?_; refine Eq.trans (pl_int (by rfl)) ?_
    refine Eq.trans (pl_agg (s73 d _) (by rfl)) ?_
    refine Eq.trans (pl_int (by rfl)) ?_; refine Eq.trans (pl_int (by rfl)) ?_
    refine Eq.trans (pl_agg (s72 (d+1) _ _) (by rfl)) ?_
    refine Eq.trans (pl_int (by rfl)) ?_; refine Eq.trans (pl_int (by rfl)) ?_; refine Eq.trans (hop_eq (by rfl)) ?_; refine Eq.trans (hop_eq (by rfl)) ?_; refine Eq.trans (pl_agg (by rfl) (by rfl)) ?_; refine Eq.trans (pl_int (by rfl)) ?_; refine Eq.trans (pl_int (by rfl)) ?_; refine Eq.trans (hop_eq (by rfl)) ?_; refine Eq.trans (hop_eq (by rfl)) ?_
    have e3:a * (b % 18446744073709551616 % 18446744073709551616)+-(a * 18446744073709551616)=a * b:=by
     rw [show b % 18446744073709551616 % 18446744073709551616=b+18446744073709551616 by omega]; grind
    rw [← e3]; rfl
   ·rw [decide_eq_false h,cnd_f]
    refine Eq.trans (hop_eq (by rfl)) ?_; refine Eq.trans (pl_agg (by rfl) (by rfl)) ?_; refine Eq.trans (pl_int (by rfl)) ?_; refine Eq.trans (pl_int (by rfl)) ?_; refine Eq.trans (hop_eq (by rfl)) ?_; refine Eq.trans (hop_eq (by rfl)) ?_
    have e3:a * (b % 18446744073709551616 % 18446744073709551616)=a * b:=by rw [show b % 18446744073709551616 % 18446744073709551616=b by omega]
    rw [← e3]; rfl
 | succ k ih =>
   intro i f hi hf
   obtain ⟨f,rfl⟩:∃ g,f=g+1:=⟨f - 1,by omega⟩
   have IH:=ih (i+1) f (by omega) (by omega)
   rw [mod_succ] at IH
   have px:a * 2 ^ (i+1)=a * 2 ^ i+a * 2 ^ i:=by rw [Int.pow_succ]; grind
   rw [px] at IH
   rw [L66_0,decide_eq_true (by omega),cnd_t,decide_eq_false (by omega),cnd_f,u64w,and1 (by omega) (by omega) (by omega)]
   rcases (show b % 18446744073709551616 / 2 ^ i % 2=0 ∨ b % 18446744073709551616 / 2 ^ i % 2=1 by omega) with h | h
   ·rw [h] at IH ⊢
    refine Eq.trans (pl_f (by rfl)) ?_
    refine Eq.trans (hop_eq (by rfl)) ?_; refine Eq.trans (pl_agg (by rfl) (by rfl)) ?_; refine Eq.trans (pl_int (by rfl)) ?_; refine Eq.trans (pl_int (by rfl)) ?_; refine Eq.trans (hop_eq (by rfl)) ?_; refine Eq.trans (pl_agg (by rfl) (by rfl)) ?_; refine Eq.trans (pl_int (by rfl)) ?_; refine Eq.trans (pl_int (by rfl)) ?_
    refine Eq.trans (pl_agg (s72 (d+1) _ _) (by rfl)) ?_
    refine Eq.trans (pl_int (by rfl)) ?_; refine Eq.trans (pl_int (by rfl)) ?_; refine Eq.trans (hop_eq (by rfl)) ?_
    rw [wrap_succ i (by omega)]
    rw [Int.mul_zero,Int.add_zero] at IH
    exact IH
   ·rw [h] at IH ⊢
    refine Eq.trans (pl_len (by rfl)) ?_; refine Eq.trans (hop_eq (by rfl)) ?_; refine Eq.trans (pl_agg (by rfl) (by rfl)) ?_; refine Eq.trans (pl_int (by rfl)) ?_; refine Eq.trans (pl_int (by rfl)) ?_; refine Eq.trans (hop_eq (by rfl)) ?_; refine Eq.trans (pl_agg (by rfl) (by rfl)) ?_; refine Eq.trans (pl_int (by rfl)) ?_; refine Eq.trans (pl_int (by rfl)) ?_
    refine Eq.trans (pl_agg (s72 (d+1) _ _) (by rfl)) ?_
    refine Eq.trans (pl_int (by rfl)) ?_; refine Eq.trans (pl_int (by rfl)) ?_; refine Eq.trans (hop_eq (by rfl)) ?_; refine Eq.trans (hop_eq (by rfl)) ?_; refine Eq.trans (pl_agg (by rfl) (by rfl)) ?_; refine Eq.trans (pl_int (by rfl)) ?_; refine Eq.trans (pl_int (by rfl)) ?_; refine Eq.trans (hop_eq (by rfl)) ?_; refine Eq.trans (pl_agg (by rfl) (by rfl)) ?_; refine Eq.trans (pl_int (by rfl)) ?_; refine Eq.trans (pl_int (by rfl)) ?_
    refine Eq.trans (pl_agg (s72 (d+1) _ _) (by rfl)) ?_
    refine Eq.trans (pl_int (by rfl)) ?_; refine Eq.trans (pl_int (by rfl)) ?_; refine Eq.trans (hop_eq (by rfl)) ?_
    rw [wrap_succ i (by omega)]
    rw [Int.mul_one,Int.mul_add] at IH
    exact IH
theorem s66 (d:Nat) (a b:Int) (ha:-9223372036854775808≤a) (ha':a < 9223372036854775808) (hb:-9223372036854775808≤b) (hb':b < 9223372036854775808) :
 pcall M (d+4) 66 [.int .i64 a,.int .i64 b]=some (wd (a * b)):=told (q66 (d+3) _ _) (by
 refine Eq.trans (hop_eq (by rfl)) ?_
 refine Eq.trans (pl_agg (s71 (d+2) a ha ha') (by rfl)) ?_
 refine Eq.trans (pl_int (by rfl)) ?_; refine Eq.trans (pl_int (by rfl)) ?_; refine Eq.trans (hop_eq (by rfl)) ?_; refine Eq.trans (hop_eq (by rfl)) ?_; refine Eq.trans (hop_eq (by rfl)) ?_; refine Eq.trans (hop_eq (by rfl)) ?_
 have:=mul1 d a b hb hb' 64 0 10000000000000000000 (by omega) (by omega)
 have e:b % 18446744073709551616 % 2 ^ 0=0:=by rw [show (2:Int) ^ 0=1 from rfl,Int.emod_one]
 rw [e,show a * 2 ^ 0=a by rw [show (2:Int) ^ 0=1 from rfl,Int.mul_one],Int.mul_zero] at this
 exact this)
theorem s65 (d:Nat) (a b:Int) (ha:-170141183460469231731687303715884105728≤a) (ha':a < 170141183460469231731687303715884105728) (hb:-170141183460469231731687303715884105728≤b) (hb':b < 170141183460469231731687303715884105728) :
 pcall M (d+1) 65 [wd a,wd b]=some (.int .i64 (cmp a b)):=told (r65 C0 d _ _ _ _) (by
 have e1:hiw a=a / 18446744073709551616:=by unfold hiw; rw [i64_small (by omega) (by omega)]
 have e2:hiw b=b / 18446744073709551616:=by unfold hiw; rw [i64_small (by omega) (by omega)]
 rw [e1,e2]
 unfold low cmp
 by_cases c1:a / 18446744073709551616 < b / 18446744073709551616
 ·rw [decide_eq_true c1,cnd_t,if_pos (by omega)]
 ·rw [decide_eq_false c1,cnd_f]
  by_cases c2:a / 18446744073709551616=b / 18446744073709551616
  ·rw [show (a / 18446744073709551616 == b / 18446744073709551616)=true by simp [c2],cnd_t]
   by_cases c3:a % 18446744073709551616 < b % 18446744073709551616
   ·rw [decide_eq_true c3,cnd_t,if_pos (by omega)]
   ·rw [decide_eq_false c3,cnd_f]
    by_cases c4:a % 18446744073709551616=b % 18446744073709551616
    ·rw [show (a % 18446744073709551616 == b % 18446744073709551616)=true by simp [c4],if_neg (by omega),if_neg (by omega)]; rfl
    ·rw [show (a % 18446744073709551616 == b % 18446744073709551616)=false by simp [c4],if_neg (by omega),if_pos (by omega)]; rfl
  ·rw [show (a / 18446744073709551616 == b / 18446744073709551616)=false by simp [c2],cnd_f,if_neg (by omega),if_pos (by omega)]; rfl)
end Go.Proofs.Ytdceaeifcniabaa.AE

namespace Go.Proofs.Ytdceaeifcniabaa.AE
set_option linter.unusedVariables false
set_option linter.unusedSimpArgs false
set_option linter.constructorNameAsVariable false
open Go Go.Proofs.Ytdceaeifcniabaa.Geo
theorem s60 (d:Nat) (a b c:Pt):pcall M (d+5) 60 [pt a,pt b,pt c]=some (.int .i64 (tn3 a b c)):=told (r60 C0 (d+4) _ _ _ _ _ _) (by
 have R:=fun p=>s52 (d+3) p
 simp only [pt] at R
 rw [R a,R b,R c]
 simp only [C0_bool]
 unfold tn3
 by_cases ha:OkP a
 ·by_cases hb:OkP b
  ·by_cases hc:OkP c
   ·rw [if_pos ⟨ha,hb,hc⟩,decide_eq_true ha,decide_eq_true hb,decide_eq_true hc]
    obtain ⟨⟨ha,ha'⟩,hb1,hb1'⟩:=ha
    obtain ⟨⟨hc1,hc1'⟩,hd,hd'⟩:=hb
    obtain ⟨⟨he,he'⟩,hf,hf'⟩:=hc
    rw [i64_small (n:=b.1 - a.1) (by omega) (by omega),i64_small (n:=c.2 - a.2) (by omega) (by omega),i64_small (n:=b.2 - a.2) (by omega) (by omega),i64_small (n:=c.1 - a.1) (by omega) (by omega)]
    rw [s66 d _ _ (by omega) (by omega) (by omega) (by omega),s66 d _ _ (by omega) (by omega) (by omega) (by omega)]
    have p1:=prod_bd41 (x:=b.1 - a.1) (y:=c.2 - a.2) (by omega) (by omega) (by omega) (by omega)
    have p2:=prod_bd41 (x:=b.2 - a.2) (y:=c.1 - a.1) (by omega) (by omega) (by omega) (by omega)
    simp only [Bool.not_true,cnd_f,C0_agg2,at0,at1,C0_int]
    rw [s65 (d+3) _ _ (by omega) (by omega) (by omega) (by omega),C0_int,cmp_sg]
    rfl
   ·rw [if_neg fun h=>hc h.2.2,decide_eq_true ha,decide_eq_true hb,decide_eq_false hc]; rfl
  ·rw [if_neg fun h=>hb h.2.1,decide_eq_true ha,decide_eq_false hb]; rfl
 ·rw [if_neg fun h=>ha h.1,decide_eq_false ha]; rfl)
theorem s54 (d:Nat) (p a b:Pt):pcall M (d+6) 54 [pt p,pt a,pt b]=some (.bool (onB p a b)):=told (r54 C0 (d+5) _ _ _ _ _ _) (by
 have R:=fun p=>s52 (d+4) p
 have t:=s60 d a b p
 simp only [pt] at R t
 rw [R a,R b,R p,t]
 simp only [C0_bool,C0_int]
 have e1:∀ x y:Int,(if y < x then y else x)=min x y:=fun x y=>by omega
 have e2:∀ x y:Int,(if y > x then y else x)=max x y:=fun x y=>by omega
 rw [e1,e1,e2,e2]
 by_cases ha:OkP a
 ·by_cases hb:OkP b
  ·by_cases hp:OkP p
   ·rw [decide_eq_true ha,decide_eq_true hb,decide_eq_true hp,tn3_sg ⟨ha,hb,hp⟩]
    simp only [Bool.not_true,cnd_f]
    by_cases ht:TN a b p=0
    ·rw [show (sg (TN a b p) != 0)=false by simp [sg_zero,ht],cnd_f]
     have key:onB p a b=(decide (p.1 ≥ min a.1 b.1) && (decide (p.1≤max a.1 b.1) && (decide (p.2 ≥ min a.2 b.2) && decide (p.2≤max a.2 b.2)))):=by
      rw [Bool.eq_iff_iff]
      simp only [Bool.and_eq_true,onB_t,decide_eq_true_eq]
      unfold On Btw
      constructor
      ·rintro ⟨_,_,h⟩; omega
      ·intro h; exact ⟨⟨hp,ha,hb⟩,ht,by omega⟩
     rw [key]
     cases decide (p.1 ≥ min a.1 b.1) <;> cases decide (p.1≤max a.1 b.1) <;> cases decide (p.2 ≥ min a.2 b.2) <;> rfl
    ·rw [show (sg (TN a b p) != 0)=true by simp [sg_zero,ht],cnd_t]
     have:onB p a b=false:=by rw [← Bool.not_eq_true]; intro h; exact ht (onB_t.mp h).2.1
     rw [this]
   ·have:onB p a b=false:=by rw [← Bool.not_eq_true]; intro h; exact hp (onB_t.mp h).1.1
    rw [decide_eq_true ha,decide_eq_true hb,decide_eq_false hp,this]; rfl
  ·have:onB p a b=false:=by rw [← Bool.not_eq_true]; intro h; exact hb (onB_t.mp h).1.2.2
   rw [decide_eq_true ha,decide_eq_false hb,this]; rfl
 ·have:onB p a b=false:=by rw [← Bool.not_eq_true]; intro h; exact ha (onB_t.mp h).1.2.1
  rw [decide_eq_false ha,this]; rfl)
def okb (p:Pt):Bool:=decide (OkP p)
theorem okb_t {p:Pt}:okb p=true ↔ OkP p:=decide_eq_true_iff
theorem s55 (d:Nat) (a b c e:Pt):pcall M (d+7) 55 [pt a,pt b,pt c,pt e]=some (.bool (meetB a b c e)):=told (r55 C0 (d+6) _ _ _ _ _ _ _ _) (by
 have R:=fun p=>s52 (d+5) p
 have o:=fun p q r=>s54 d p q r
 have t:=fun p q r=>s60 (d+1) p q r
 simp only [pt] at o t R
 rw [R a,R b,R c,R e,o a c e,o b c e,o c a b,o e a b,t a b c,t a b e,t c e a,t c e b]
 simp only [C0_bool,C0_int]
 change cnd (!okb a) (some (.bool false)) (cnd (!okb b) (some (.bool false)) (cnd (!okb c) (some (.bool false)) (cnd (!okb e) (some (.bool false)) (cnd (onB a c e) (some (.bool true)) (cnd (onB b c e) (some (.bool true)) (cnd (onB c a b) (some (.bool true)) (cnd (onB e a b) (some (.bool true))
  (cnd (negB (IntKind.wrap .i64 (tn3 a b c * tn3 a b e))) (some (.bool (negB (IntKind.wrap .i64 (tn3 c e a * tn3 c e b))))) (some (.bool false))))))))))=_
 have key:meetB a b c e=(okb a && (okb b && (okb c && (okb e && (onB a c e || (onB b c e || (onB c a b || (onB e a b || (negB (IntKind.wrap .i64 (tn3 a b c * tn3 a b e)) && negB (IntKind.wrap .i64 (tn3 c e a * tn3 c e b))))))))))):=by
  rw [Bool.eq_iff_iff]
  simp only [Bool.and_eq_true,Bool.or_eq_true,onB_t,okb_t,negB_t,meetB_t]
  have fin:ok4 a b c e→(Meet a b c e ↔ (ok3 a c e∧On a c e ∨ ok3 b c e∧On b c e ∨ ok3 c a b∧On c a b ∨ ok3 e a b∧On e a b ∨ IntKind.wrap .i64 (tn3 a b c * tn3 a b e) < 0∧IntKind.wrap .i64 (tn3 c e a * tn3 c e b) < 0)):=by
   rintro ⟨ha,hb,hc,he⟩
   rw [tn3_sg ⟨ha,hb,hc⟩,tn3_sg ⟨ha,hb,he⟩,tn3_sg ⟨hc,he,ha⟩,tn3_sg ⟨hc,he,hb⟩,sg_small,sg_small]
   simp only [ok3,ha,hb,hc,he,true_and,and_true]
   exact Iff.rfl
  constructor
  ·rintro ⟨h,hm⟩; exact ⟨h.1,h.2.1,h.2.2.1,h.2.2.2,(fin h).mp hm⟩
  ·rintro ⟨h1,h2,h3,h4,hm⟩; exact ⟨⟨h1,h2,h3,h4⟩,(fin ⟨h1,h2,h3,h4⟩).mpr hm⟩
 rw [key]
 cases okb a <;> cases okb b <;> cases okb c <;> cases okb e <;> cases onB a c e <;> cases onB b c e <;> cases onB c a b <;> cases onB e a b <;> cases negB (IntKind.wrap .i64 (tn3 a b c * tn3 a b e)) <;> rfl)
end Go.Proofs.Ytdceaeifcniabaa.AE
