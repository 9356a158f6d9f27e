/- The texts that the seat's laws need, part 5. No conditions. -/
import Derived.Test.YtbmedgpiphibaaaMc4
namespace Go.Proofs.Ytbmedgpiphibaaa.AE
set_option linter.unusedVariables false
set_option linter.unusedSimpArgs false
set_option linter.constructorNameAsVariable false
open Go Go.Proofs.Ytbmedgpiphibaaa.Geo
attribute [local irreducible] pcall C0
set_option maxRecDepth 100000
def sameP (p q:Phs):Bool:=decide (p.ps=q.ps) && (p.g == q.g && (p.v == q.v && (p.m == q.m && p.u == q.u)))
def sameL:List Phs→List Phs→Bool
 | [],[]=>true
 | p::l,q::m=>sameP p q && sameL l m
 | _,_=>false
def sameI (a b:Rul):Bool:=a.n == b.n && (a.d == b.d && (a.gr == b.gr && (a.eps == b.eps && (a.st == b.st && (a.age == b.age && (a.lift == b.lift && a.saf == b.saf))))))
def sameX (a b:Rul):Bool:=sameL a.phs b.phs && sameI a b
theorem sameP_r (p:Phs):sameP p p=true:=by simp [sameP]
theorem sameL_r:∀ l,sameL l l=true
 | []=>rfl
 | p::l=>by rw [sameL,sameP_r,sameL_r l]; rfl
theorem sameI_r (a:Rul):sameI a a=true:=by simp [sameI]
theorem sameX_r (a:Rul):sameX a a=true:=by rw [sameX,sameL_r,sameI_r]; rfl
theorem sameL_len:∀ {l m:List Phs},l.length ≠ m.length→sameL l m=false
 | [],[],h=>absurd rfl h
 | [],_::_,_=>rfl
 | _::_,[],_=>rfl
 | p::l,q::m,h=>by
   rw [sameL,sameL_len (l:=l) (m:=m) (fun e=>h (by simp [e]))]; simp
theorem samePR (d:Nat) (p q:Phs) (hp:p.ps.length≤140737488355328) (hq:q.ps.length≤140737488355328):pcall M (d+2) 29 [phA p,phA q]=some (.bool (sameP p q)):=told (r29 C0 (d+1) _ _ _ _ _ _ _ _ _ _) (by
 refine Eq.trans (pl_bool (s38 d p.ps q.ps hp hq)) ?_
 unfold sameP
 cases decide (p.ps=q.ps)
 ·rfl
 ·rw [cnd_t,Bool.true_and]
  cases p.g == q.g
  ·rfl
  ·rw [cnd_t,Bool.true_and]
   cases p.v == q.v
   ·rfl
   ·rw [cnd_t,Bool.true_and]
    cases p.m == q.m
    ·rfl
    ·rfl)
theorem same_go (d:Nat) (a b:List Phs) (he:a.length=b.length) (hl:a.length≤1000000) (ha:∀ p ∈ a,p.ps.length≤140737488355328) (hb:∀ p ∈ b,p.ps.length≤140737488355328):∀ (k i:Nat),i+k=a.length→∀ f,k < f →
 L15_0 (d+2) (a.map phA) (b.map phA) f (i:Nat)=some (.bool (sameL (a.drop i) (b.drop i)))
 | 0,i,h,f+1,_=>by
   rw [L15_0,decide_eq_false (by simp; omega),cnd_f,List.drop_of_length_le (by omega),List.drop_of_length_le (by omega)]; rfl
 | k+1,i,h,f+1,hf=>by
   have hi:i < a.length:=by omega
   have hi':i < b.length:=by omega
   rw [L15_0,decide_eq_true (by simp; omega),cnd_t,decide_eq_true (by omega),cnd_t,show (((i:Nat):Int)).toNat=i by omega,phs_at hi]
   refine Eq.trans (pl_agg (by rfl) (by rfl)) ?_
   refine Eq.trans (pl_lst (by rfl)) ?_
   refine Eq.trans (pl_int (by rfl)) ?_; refine Eq.trans (pl_int (by rfl)) ?_; refine Eq.trans (pl_int (by rfl)) ?_; refine Eq.trans (pl_int (by rfl)) ?_
   rw [cnd_t,phs_at hi']
   refine Eq.trans (pl_agg (by rfl) (by rfl)) ?_
   refine Eq.trans (pl_lst (by rfl)) ?_
   refine Eq.trans (pl_int (by rfl)) ?_; refine Eq.trans (pl_int (by rfl)) ?_; refine Eq.trans (pl_int (by rfl)) ?_; refine Eq.trans (pl_int (by rfl)) ?_
   refine Eq.trans (pl_bool (samePR d a[i] b[i] (ha _ (List.getElem_mem hi)) (hb _ (List.getElem_mem hi')))) ?_
   rw [List.drop_eq_getElem_cons hi,List.drop_eq_getElem_cons hi',sameL]
   cases sameP a[i] b[i]
   ·rfl
   ·refine Eq.trans (pl_f (by rfl)) ?_
    rw [show IntKind.wrap .i64 (((i:Nat):Int)+1)=((i+1:Nat):Int) by rw [i64w]; omega,Bool.true_and]
    exact same_go d a b he hl ha hb k (i+1) (by omega) f (by omega)
theorem s15 (d:Nat) (a b:Rul) (hl:a.phs.length≤1000000) (hm:b.phs.length≤1000000) (ha:∀ p ∈ a.phs,p.ps.length≤140737488355328) (hb:∀ p ∈ b.phs,p.ps.length≤140737488355328):pcall M (d+3) 15 [rl a,rl b]=some (.bool (sameX a b)):=told (q15 (d+2) _ _ _ _ _ _ _ _ _ _ _ _ _ _ _ _ _ _) (by
 rw [List.length_map,List.length_map]
 by_cases h:a.phs.length=b.phs.length
 rotate_left
 ·refine Eq.trans (pl_len (by simp; omega)) ?_
  unfold sameX; rw [sameL_len h]; rfl
 refine Eq.trans (pl_f (by simp [h])) ?_
 have e:=same_go d a.phs b.phs h hl ha hb a.phs.length 0 (by omega) 10000000000000000000 (by omega)
 rw [List.drop_zero,List.drop_zero] at e
 change L15_0 (d+2) (a.phs.map phA) (b.phs.map phA) 10000000000000000000 0=_ at e
 generalize L15_0 (d+2) (a.phs.map phA) (b.phs.map phA) 10000000000000000000 0=X at e ⊢
 refine Eq.trans (b:=cnd (!sameI a b) (some (.bool false)) X) ?_ ?_
 ·unfold sameI
  simp only [bne]
  cases a.n == b.n
  ·rfl
  cases a.d == b.d
  ·rfl
  cases a.gr == b.gr
  ·rfl
  cases a.eps == b.eps
  ·rfl
  cases a.st == b.st
  ·rfl
  cases a.age == b.age
  ·rfl
  cases a.lift == b.lift
  ·rfl
  cases a.saf == b.saf <;> rfl
 ·unfold sameX
  cases sameI a b
  ·simp [cnd]
  ·rw [Bool.and_true]; exact e)
end Go.Proofs.Ytbmedgpiphibaaa.AE

namespace Go.Proofs.Ytbmedgpiphibaaa.AE
set_option linter.unusedVariables false
set_option linter.unusedSimpArgs false
set_option linter.constructorNameAsVariable false
open Go Go.Proofs.Ytbmedgpiphibaaa.Geo
set_option maxRecDepth 100000
theorem phs_cut:∀ (l:List Phs),(∀ p ∈ l,RightPh p)→∀ (t v w:List UInt8),t.length=4→phsB l ++ t=v ++ w→w ≠ []→∀ m t',phsR l.length v=some (m,t')→t'.length < 4
 | [],_,t,v,w,ht,he,hw,m,t',h=>by
   rw [List.length_nil,phsR] at h
   injection h with h
   injection h with ha hb
   subst ha hb
   have:=congrArg List.length he
   rw [show phsB []=[] from rfl,List.nil_append,ht,List.length_append] at this
   have:w.length ≠ 0:=fun h=>hw (List.length_eq_zero_iff.mp h)
   omega
 | p::l,hr,t,v,w,ht,he,hw,m,t',h=>by
   have hp:=hr p (List.mem_cons_self ..)
   rw [phsB_cons,List.append_assoc] at he
   rw [List.length_cons,phsR] at h
   split at h
   rotate_left
   ·cases h
   rename_i c
   by_cases hv:v.length < (phB p).length
   ·exfalso
    -- the head's length is told by its first byte
    have h0:s8 v 0=p.ps.length:=by
     have e1:s8 (v ++ w) 0=s8 v 0:=by
      unfold s8
      have:=c.1
      rw [List.getD_eq_getElem?_getD,List.getD_eq_getElem?_getD,List.getElem?_append_left (by omega)]
     rw [← e1,← he,ph_shape]
     show (by8 ((p.ps.length:Nat):Int)).toNat=_
     have:=(rph_len hp).2
     have:=s8_by (n:=((p.ps.length:Nat):Int)) (by omega) (by omega)
     omega
    have:=c.2
    rw [phB_len] at hv
    omega
   ·obtain ⟨v',rfl⟩:∃ v',v=phB p ++ v':=by
     refine ⟨v.drop (phB p).length,?_⟩
     have:=congrArg (List.take (phB p).length) he
     rw [List.take_left' rfl,List.take_append_of_le_length (by omega)] at this
     conv=>lhs; rw [← List.take_append_drop (phB p).length v,← this]
    rw [List.append_assoc] at he
    have he:=List.append_cancel_left he
    obtain ⟨b1,b2,b3⟩:=ph_back hp v'
    rw [b3] at h
    split at h
    rotate_left
    ·cases h
    rename_i l' t'' hr'
    injection h with h
    injection h with ha hb
    subst ha hb
    exact phs_cut l (fun q hq=>hr q (List.mem_cons_of_mem _ hq)) t v' w ht he hw _ _ hr'
theorem pre4_cut {s:List UInt8} (h:s.take 4=[65,70,84,85]) (c:Nat):pre4 (s.take c)=true:=by
 unfold pre4
 have hs:4≤s.length:=by
  have:=congrArg List.length h
  rw [List.length_take] at this
  simp at this; omega
 rw [List.take_take,beq_iff_eq,← h,List.take_take,List.length_take]
 congr 1
 omega
theorem seal_len {r:Rul} (h:wrongX r=0):printF r=headB r ++ (phsB r.phs ++ be4 (w32 (crcF (bodyB r))))∧(printF r).length=26+(phsB r.phs).length:=by
 unfold printF
 rw [if_pos h]
 unfold sealF
 constructor
 ·have e:bodyB r=headB r ++ phsB r.phs:=rfl
  generalize crcF (bodyB r)=c
  rw [e,List.append_assoc]
 ·rw [List.length_append,be4_len]
  unfold bodyB
  rw [List.length_append,headB_len]; omega
theorem read_cut {r:Rul} (h:wrongX r=0) {c:Nat} (hc:c < (printF r).length):(readF ((printF r).take c)).2=5:=by
 obtain ⟨e,hl⟩:=seal_len h
 obtain ⟨⟨k1,k2⟩,h2,h3⟩:=wrong_zero h
 obtain ⟨T,hT⟩:∃ T,T=be4 (w32 (crcF (bodyB r))):=⟨_,rfl⟩
 rw [← hT] at e
 have t4:(printF r).take 4=[65,70,84,85]:=by rw [e,head_shape]; rfl
 have lt:((printF r).take c).length=c:=by rw [List.length_take]; omega
 unfold readF
 rw [pre4_cut t4,if_neg (by decide),lt]
 by_cases c22:c < 22
 ·rw [if_pos c22]
 rw [if_neg c22]
 have x4:s8 ((printF r).take c) 4=r.phs.length:=by
  unfold s8
  rw [List.getD_eq_getElem?_getD,List.getElem?_take,if_pos (by omega),← List.getD_eq_getElem?_getD,e,head_shape]
  show (by8 ((r.phs.length:Nat):Int)).toNat=_
  have:=s8_by (n:=((r.phs.length:Nat):Int)) (by omega) (by omega)
  omega
 rw [x4]
 have ev:phsB r.phs ++ T=((printF r).take c).drop 22 ++ (printF r).drop c:=by
  have:phsB r.phs ++ T=(printF r).drop 22:=by rw [e]; exact (d_app (headB_len r)).symm
  rw [this]
  conv=>lhs; rw [← List.take_append_drop c (printF r)]
  rw [List.drop_append_of_le_length (by omega)]
 cases hr:phsR r.phs.length (((printF r).take c).drop 22) with
 | none=>rfl
 | some x =>
   obtain ⟨m,t'⟩:=x
   have:=phs_cut r.phs h2 T _ _ (by rw [hT]; exact be4_len _) ev (fun hn=>by
    have:=congrArg List.length hn
    rw [List.length_drop] at this
    simp at this; omega) m t' hr
   show (tailF _ m t').2=5
   unfold tailF
   rw [if_pos this]
theorem read_more {r:Rul} (h:wrongX r=0) {m:List UInt8} (hm:m ≠ []):(readF (printF r ++ m)).2=3:=by
 unfold printF
 rw [if_pos h]
 unfold sealF
 rw [List.append_assoc,(readF_body h _).1]
 unfold tailF
 have:m.length ≠ 0:=fun h=>hm (List.length_eq_zero_iff.mp h)
 rw [List.length_append,be4_len,if_neg (by omega),if_pos (by omega)]
end Go.Proofs.Ytbmedgpiphibaaa.AE

namespace Go.Proofs.Ytbmedgpiphibaaa.AE
set_option linter.unusedVariables false
set_option linter.unusedSimpArgs false
set_option linter.constructorNameAsVariable false
open Go
set_option maxRecDepth 100000
set_option maxHeartbeats 0
theorem r8 (C:Cb) (d:Nat) :xcall C M unr d 8 [] =
 C.tup 2 (pcall M d 10 [(.agg [(.lst [(.agg [(.lst [(.agg [(iz (-1000)),(iz (-1000))]),(.agg [(iz 1000),(iz (-1000))]),(.agg [(iz 1000),(iz 1000)])]),(iz 1),(iz 200),(iz 5),(iz 100)])]),(iz 2),(iz 3),(iz 4),(iz 2),(iz 50),(iz 2),(iz 10),(iz 1)])]) fun l0 =>
 C.str l0[0]? fun s1 =>
 C.int .i64 l0[1]? fun x2 =>
 cnd ((((List.length s1):Nat):Int) != 64)
 (some bf)
 (C.tup 2 (pcall M d 13 [(.str s1)]) fun l3 =>
 C.agg 9 l3[0]? fun l4 =>
 C.lst l4[0]? (fun l5 =>
 C.int .i64 l4[1]? fun x7 =>
 C.int .i64 l4[2]? fun x8 =>
 C.int .i64 l4[3]? fun x9 =>
 C.int .i64 l4[4]? fun x10 =>
 C.int .i64 l4[5]? fun x11 =>
 C.int .i64 l4[6]? fun x12 =>
 C.int .i64 l4[7]? fun x13 =>
 C.int .i64 l4[8]? fun x14 =>
 C.int .i64 l3[1]? fun x15 =>
 cnd (decide (((0:Int)≤63)∧((63:Int)≤(((List.length s1):Nat):Int))))
 (C.tup 2 (pcall M d 13 [(.str (List.drop 0 (List.take (Int.toNat 63) s1)))]) fun l16 =>
 C.agg 9 l16[0]? fun l17 =>
 C.lst l17[0]? (fun l18 =>
 C.int .i64 l17[1]? fun x20 =>
 C.int .i64 l17[2]? fun x21 =>
 C.int .i64 l17[3]? fun x22 =>
 C.int .i64 l17[4]? fun x23 =>
 C.int .i64 l17[5]? fun x24 =>
 C.int .i64 l17[6]? fun x25 =>
 C.int .i64 l17[7]? fun x26 =>
 C.int .i64 l17[8]? fun x27 =>
 C.int .i64 l16[1]? fun x28 =>
 cnd (decide (((List.length s1)+1)≤9223372036854775807))
 (C.tup 2 (pcall M d 13 [(.str (s1 ++ [120]))]) fun l29 =>
 C.agg 9 l29[0]? fun l30 =>
 C.lst l30[0]? (fun l31 =>
 C.int .i64 l30[1]? fun x33 =>
 C.int .i64 l30[2]? fun x34 =>
 C.int .i64 l30[3]? fun x35 =>
 C.int .i64 l30[4]? fun x36 =>
 C.int .i64 l30[5]? fun x37 =>
 C.int .i64 l30[6]? fun x38 =>
 C.int .i64 l30[7]? fun x39 =>
 C.int .i64 l30[8]? fun x40 =>
 C.int .i64 l29[1]? fun x41 =>
 cnd (decide (((0:Int)≤60)∧((60:Int)≤(((List.length s1):Nat):Int))))
 (cnd (decide (((List.length (List.drop 0 (List.take (Int.toNat 60) s1)))+4)≤9223372036854775807))
 (C.tup 2 (pcall M d 13 [(.str ((List.drop 0 (List.take (Int.toNat 60) s1)) ++ [110,111,110,101]))]) fun l42 =>
 C.agg 9 l42[0]? fun l43 =>
 C.lst l43[0]? (fun l44 =>
 C.int .i64 l43[1]? fun x46 =>
 C.int .i64 l43[2]? fun x47 =>
 C.int .i64 l43[3]? fun x48 =>
 C.int .i64 l43[4]? fun x49 =>
 C.int .i64 l43[5]? fun x50 =>
 C.int .i64 l43[6]? fun x51 =>
 C.int .i64 l43[7]? fun x52 =>
 C.int .i64 l43[8]? fun x53 =>
 C.int .i64 l42[1]? fun x54 =>
 C.tup 2 (pcall M d 13 [(.str [65,70,63])]) fun l55 =>
 C.agg 9 l55[0]? fun l56 =>
 C.lst l56[0]? (fun l57 =>
 C.int .i64 l56[1]? fun x59 =>
 C.int .i64 l56[2]? fun x60 =>
 C.int .i64 l56[3]? fun x61 =>
 C.int .i64 l56[4]? fun x62 =>
 C.int .i64 l56[5]? fun x63 =>
 C.int .i64 l56[6]? fun x64 =>
 C.int .i64 l56[7]? fun x65 =>
 C.int .i64 l56[8]? fun x66 =>
 C.int .i64 l55[1]? fun x67 =>
 C.tup 2 (pcall M d 10 [(.agg [(.zsl true),(iz 0),(iz 0),(iz 0),(iz 0),(iz 0),(iz 0),(iz 0),(iz 0)])]) fun l68 =>
 C.str l68[0]? fun s69 =>
 C.int .i64 l68[1]? fun x70 =>
 cnd (x2 == 0)
 (cnd (decide (((0:Int)≤4)∧((4:Int)≤(((List.length s1):Nat):Int))))
 (cnd ((List.drop 0 (List.take (Int.toNat 4) s1)) == [65,70,84,85])
 (C.bool (pcall M d 15 [(.agg [(.lst l5),(iz x7),(iz x8),(iz x9),(iz x10),(iz x11),(iz x12),(iz x13),(iz x14)]),(.agg [(.lst [(.agg [(.lst [(.agg [(iz (-1000)),(iz (-1000))]),(.agg [(iz 1000),(iz (-1000))]),(.agg [(iz 1000),(iz 1000)])]),(iz 1),(iz 200),(iz 5),(iz 100)])]),(iz 2),(iz 3),(iz 4),(iz 2),(iz 50),(iz 2),(iz 10),(iz 1)])]) fun b71 =>
 cnd b71
 (cnd (x15 == 0)
 (cnd (x28 == 5)
 (cnd (x41 == 3)
 (cnd (x54 == 4)
 (cnd (x67 == 3)
 (cnd (x70 == 1)
 (C.int .i64 (pcall M d 12 [(.agg [(.lst [(.agg [(.lst [(.agg [(iz (-1000)),(iz (-1000))]),(.agg [(iz 1000),(iz (-1000))]),(.agg [(iz 1000),(iz 1000)])]),(iz 1),(iz 200),(iz 5),(iz 100)])]),(iz 2),(iz 3),(iz 4),(iz 2),(iz 50),(iz 2),(iz 10),(iz 1)])]) fun x72 =>
 cnd (x72 == 64)
 (C.int .u32 (pcall M d 18 [(.str s1)]) fun x73 =>
 cnd (decide (((0:Int)≤60)∧((60:Int)≤(((List.length s1):Nat):Int))))
 (C.int .u32 (pcall M d 19 [(.str (List.drop 0 (List.take (Int.toNat 60) s1)))]) fun x74 =>
 cnd (x73 == x74)
 (C.int .u32 (pcall M d 18 [(.str [97,98,99])]) fun x75 =>
 some (.bool (x75 == 0)))
 (some bf))
 (none))
 (some bf))
 (some bf))
 (some bf))
 (some bf))
 (some bf))
 (some bf))
 (some bf))
 (some bf))
 (some bf))
 (none))
 (some bf))
 (fun z58 =>
 none))
 (fun z45 =>
 none))
 (none))
 (none))
 (fun z32 =>
 none))
 (none))
 (fun z19 =>
 none))
 (none))
 (fun z6 =>
 none)):=by kernel_rfl
end Go.Proofs.Ytbmedgpiphibaaa.AE

namespace Go.Proofs.Ytbmedgpiphibaaa.AE
set_option linter.unusedVariables false
set_option linter.unusedSimpArgs false
set_option linter.constructorNameAsVariable false
open Go Go.Proofs.Ytbmedgpiphibaaa.Geo
set_option maxRecDepth 1000000
def rA:Rul:=⟨[⟨[(-1000,-1000),(1000,-1000),(1000,1000)],1,200,5,100⟩],2,3,4,2,50,2,10,1⟩
theorem rA_ok:wrongX rA=0:=by kernel_rfl
theorem none_bad:(w32 (crcF (bodyB rA)) == num4 [110,111,110,101])=false:=by kernel_rfl
theorem zero_print:pcall M 39 10 [.agg [.zsl true,.int .i64 0,.int .i64 0,.int .i64 0,.int .i64 0,.int .i64 0,.int .i64 0,.int .i64 0,.int .i64 0]]=some (.tup [.str [],.int .i64 1]):=told (show xcall C0 M unr 38 10 [.agg [.zsl true,.int .i64 0,.int .i64 0,.int .i64 0,.int .i64 0,.int .i64 0,.int .i64 0,.int .i64 0,.int .i64 0]]=some (.tup [.str [],.int .i64 1]) by kernel_rfl) rfl
attribute [local irreducible] pcall C0
theorem lenA:(printF rA).length=64:=by rw [(seal_len rA_ok).2]; rfl
theorem s18 (d:Nat) (s:List UInt8) (hs:s.length≤1000000):pcall M (d+2) 18 [.str s]=some (.int .u32 (if s.length < 4 then 0 else num4 (s.drop (s.length - 4)))):=told (r18 C0 (d+1) s) (by
 by_cases h:s.length < 4
 ·rw [decide_eq_true (by omega),cnd_t,if_pos h]
 ·rw [decide_eq_false (by omega),cnd_f,if_neg h,i64_small (by omega) (by omega)]
  refine Eq.trans (pl_len (by rw [decide_eq_true_iff]; omega)) ?_
  rw [dt,show (((s.length:Nat):Int) - 4).toNat=s.length - 4 by omega]
  refine Eq.trans (pl_int (s26 d _ (by rw [List.length_drop]; omega))) ?_
  rfl)
theorem body60:(printF rA).take 60=bodyB rA∧(printF rA).drop 60=be4 (w32 (crcF (bodyB rA))):=by
 have hb:(bodyB rA).length=60:=rfl
 unfold printF
 rw [if_pos rA_ok]
 unfold sealF
 exact ⟨List.take_left' hb,List.drop_left' hb⟩
theorem read_none:readF (bodyB rA ++ [110,111,110,101])=(zRul,4):=by
 rw [(readF_body rA_ok _).1]
 unfold tailF
 have hb:(bodyB rA).length=60:=rfl
 have hl:(bodyB rA ++ [110,111,110,101]).length - 4=60:=by rw [List.length_append,hb]; rfl
 rw [hl,if_neg (by decide),if_neg (by decide),List.take_left' hb,if_pos (beq_eq_false_iff_ne.mp none_bad)]
theorem awake14:pcall M 40 8 []=some (.bool true):=told (r8 C0 39) (by
 have ha:∀ p ∈ rA.phs,p.ps.length≤140737488355328:=fun p hp=>by
  have:p=⟨[(-1000,-1000),(1000,-1000),(1000,1000)],1,200,5,100⟩:=List.mem_singleton.mp hp
  rw [this]; decide
 have hl:rA.phs.length≤1000:=by decide
 have l64:=lenA
 refine Eq.trans (pl_tup (s10 20 rA hl ha) rfl) ?_
 refine Eq.trans (pl_str rfl) ?_
 refine Eq.trans (pl_int rfl) ?_
 rw [l64,if_pos rA_ok]
 refine Eq.trans (pl_f rfl) ?_
 refine Eq.trans (pl_tup (s13 20 _ (by rw [l64]; decide)) rfl) ?_
 rw [read_print rA_ok]
 repeat with_reducible first | refine tt sh_ptr ?_ | refine tt sh_fptr ?_ | refine tt w2 ?_ | refine tt w3 ?_ | refine tt w8 ?_ | refine tt w9 ?_ | refine tt wf ?_ | refine tt wg ?_ | refine tt wh ?_ | refine tt wi ?_ | refine tt wj ?_ | refine tt wk ?_ | refine tt wl ?_ | refine tt wn ?_ | refine tt c_ort ?_ | refine tt c_nt ?_ | refine tt c_nf ?_ | refine tt (cnd_t _ _) ?_ | refine tt (cnd_f _ _) ?_ | refine tt w6 ?_ | refine tt w4 ?_ | refine tt w5 ?_ | refine tt w7 ?_ | refine tt wm ?_ | refine tt wo ?_ | refine tt wx ?_ | refine tt nil_ptr ?_ | refine tt len_lst ?_ | refine tt len_zsl ?_
 refine Eq.trans (pl_len rfl) ?_
 refine Eq.trans (pl_tup (s13 20 _ (by rw [List.drop_zero,List.length_take,l64]; decide)) rfl) ?_
 rw [List.drop_zero,show Int.toNat 63=63 from rfl]
 repeat with_reducible first | refine tt sh_ptr ?_ | refine tt sh_fptr ?_ | refine tt w2 ?_ | refine tt w3 ?_ | refine tt w8 ?_ | refine tt w9 ?_ | refine tt wf ?_ | refine tt wg ?_ | refine tt wh ?_ | refine tt wi ?_ | refine tt wj ?_ | refine tt wk ?_ | refine tt wl ?_ | refine tt wn ?_ | refine tt c_ort ?_ | refine tt c_nt ?_ | refine tt c_nf ?_ | refine tt (cnd_t _ _) ?_ | refine tt (cnd_f _ _) ?_ | refine tt w6 ?_ | refine tt w4 ?_ | refine tt w5 ?_ | refine tt w7 ?_ | refine tt wm ?_ | refine tt wo ?_ | refine tt wx ?_ | refine tt nil_ptr ?_ | refine tt len_lst ?_ | refine tt len_zsl ?_
 rw [read_cut rA_ok (show 63 < (printF rA).length by rw [l64]; decide)]
 refine Eq.trans (pl_len rfl) ?_
 refine Eq.trans (pl_tup (s13 20 _ (by rw [List.length_append,l64]; decide)) rfl) ?_
 repeat with_reducible first | refine tt sh_ptr ?_ | refine tt sh_fptr ?_ | refine tt w2 ?_ | refine tt w3 ?_ | refine tt w8 ?_ | refine tt w9 ?_ | refine tt wf ?_ | refine tt wg ?_ | refine tt wh ?_ | refine tt wi ?_ | refine tt wj ?_ | refine tt wk ?_ | refine tt wl ?_ | refine tt wn ?_ | refine tt c_ort ?_ | refine tt c_nt ?_ | refine tt c_nf ?_ | refine tt (cnd_t _ _) ?_ | refine tt (cnd_f _ _) ?_ | refine tt w6 ?_ | refine tt w4 ?_ | refine tt w5 ?_ | refine tt w7 ?_ | refine tt wm ?_ | refine tt wo ?_ | refine tt wx ?_ | refine tt nil_ptr ?_ | refine tt len_lst ?_ | refine tt len_zsl ?_
 rw [read_more rA_ok (show ([120]:List UInt8) ≠ [] by decide)]
 refine Eq.trans (pl_len rfl) ?_
 rw [List.drop_zero,show Int.toNat 60=60 from rfl,body60.1]
 refine Eq.trans (pl_len rfl) ?_
 refine Eq.trans (pl_tup (s13 20 _ (by decide)) rfl) ?_
 rw [read_none]
 repeat with_reducible first | refine tt sh_ptr ?_ | refine tt sh_fptr ?_ | refine tt w2 ?_ | refine tt w3 ?_ | refine tt w8 ?_ | refine tt w9 ?_ | refine tt wf ?_ | refine tt wg ?_ | refine tt wh ?_ | refine tt wi ?_ | refine tt wj ?_ | refine tt wk ?_ | refine tt wl ?_ | refine tt wn ?_ | refine tt c_ort ?_ | refine tt c_nt ?_ | refine tt c_nf ?_ | refine tt (cnd_t _ _) ?_ | refine tt (cnd_f _ _) ?_ | refine tt w6 ?_ | refine tt w4 ?_ | refine tt w5 ?_ | refine tt w7 ?_ | refine tt wm ?_ | refine tt wo ?_ | refine tt wx ?_ | refine tt nil_ptr ?_ | refine tt len_lst ?_ | refine tt len_zsl ?_
 refine Eq.trans (pl_tup (s13 20 _ (by decide)) rfl) ?_
 rw [show readF [65,70,63]=(zRul,3) from rfl]
 repeat with_reducible first | refine tt sh_ptr ?_ | refine tt sh_fptr ?_ | refine tt w2 ?_ | refine tt w3 ?_ | refine tt w8 ?_ | refine tt w9 ?_ | refine tt wf ?_ | refine tt wg ?_ | refine tt wh ?_ | refine tt wi ?_ | refine tt wj ?_ | refine tt wk ?_ | refine tt wl ?_ | refine tt wn ?_ | refine tt c_ort ?_ | refine tt c_nt ?_ | refine tt c_nf ?_ | refine tt (cnd_t _ _) ?_ | refine tt (cnd_f _ _) ?_ | refine tt w6 ?_ | refine tt w4 ?_ | refine tt w5 ?_ | refine tt w7 ?_ | refine tt wm ?_ | refine tt wo ?_ | refine tt wx ?_ | refine tt nil_ptr ?_ | refine tt len_lst ?_ | refine tt len_zsl ?_
 refine Eq.trans (pl_tup zero_print rfl) ?_
 repeat with_reducible first | refine tt sh_ptr ?_ | refine tt sh_fptr ?_ | refine tt w2 ?_ | refine tt w3 ?_ | refine tt w8 ?_ | refine tt w9 ?_ | refine tt wf ?_ | refine tt wg ?_ | refine tt wh ?_ | refine tt wi ?_ | refine tt wj ?_ | refine tt wk ?_ | refine tt wl ?_ | refine tt wn ?_ | refine tt c_ort ?_ | refine tt c_nt ?_ | refine tt c_nf ?_ | refine tt (cnd_t _ _) ?_ | refine tt (cnd_f _ _) ?_ | refine tt w6 ?_ | refine tt w4 ?_ | refine tt w5 ?_ | refine tt w7 ?_ | refine tt wm ?_ | refine tt wo ?_ | refine tt wx ?_ | refine tt nil_ptr ?_ | refine tt len_lst ?_ | refine tt len_zsl ?_
 refine Eq.trans (pl_len rfl) ?_
 refine Eq.trans (pl_len rfl) ?_
 have t4:(printF rA).take 4=[65,70,84,85]:=by rw [(seal_len rA_ok).1,head_shape]; rfl
 rw [List.drop_zero,show Int.toNat 4=4 from rfl,t4]
 refine Eq.trans (pl_len rfl) ?_
 refine Eq.trans (pl_bool (s15 36 rA rA (by decide) (by decide) ha ha)) ?_
 rw [sameX_r]
 refine Eq.trans (pl_len rfl) ?_
 refine Eq.trans (pl_len rfl) ?_
 refine Eq.trans (pl_len rfl) ?_
 refine Eq.trans (pl_len rfl) ?_
 refine Eq.trans (pl_len rfl) ?_
 refine Eq.trans (pl_len rfl) ?_
 refine Eq.trans (pl_len rfl) ?_
 refine Eq.trans (pl_int (s12 19 rA hl ha)) ?_
 rw [l64]
 refine Eq.trans (pl_len rfl) ?_
 refine Eq.trans (pl_int (s18 37 _ (by rw [l64]; decide))) ?_
 refine Eq.trans (pl_len rfl) ?_
 refine Eq.trans (pl_int (s19 37 _ (by decide))) ?_
 have hn:=num4_be4 (w32_bd (crcF (bodyB rA))).1 (w32_bd (crcF (bodyB rA))).2 []
 rw [List.append_nil] at hn
 rw [l64,if_neg (by decide),show 64 - 4=60 from rfl,body60.2,hn]
 refine Eq.trans (pl_len (by simp)) ?_
 refine Eq.trans (pl_int (s18 37 _ (by decide))) ?_
 rfl)
end Go.Proofs.Ytbmedgpiphibaaa.AE

namespace Go.Proofs.Ytbmedgpiphibaaa.AE
set_option linter.unusedVariables false
set_option linter.unusedSimpArgs false
set_option linter.constructorNameAsVariable false
open Go Go.RowKit

theorem frl_nil {w:World} {bad:Nat→Prop}:∀ (i:Nat) (c:AV) (u:Value),([]:List AV)[i]?=some c→([]:List Value)[i]?=some u→FRep w bad c u:=fun _ _ _ h=>by cases h
theorem frl_cons {w:World} {bad:Nat→Prop} {c0:AV} {u0:Value} {cs:List AV} {us:List Value} (h0:FRep w bad c0 u0) (h:∀ (i:Nat) (c:AV) (u:Value),cs[i]?=some c→us[i]?=some u→FRep w bad c u) :
 ∀ (i:Nat) (c:AV) (u:Value),(c0::cs)[i]?=some c→(u0::us)[i]?=some u→FRep w bad c u
 | 0,c,u,hc,hu=>by cases hc; cases hu; exact h0
 | i+1,c,u,hc,hu=>h i c u hc hu
theorem law_calls {d:Nat} {g:FuncId} {args:List AV} {vs:List Value} (h:pcall M d g args=some (.bool true)) (W:World) (hl:args.length=vs.length)
 (hr:∀ (i:Nat) (c:AV) (u:Value),args[i]?=some c→vs[i]?=some u→FRep W (fun _=>False) c u) (hc:(cFn Try.prog g).isSome=true:=by kernel_rfl):Calls Try.prog g vs.toArray W fun e W'=>e=.returned (.bool true)∧Below W.heap.size W W':=by
 obtain ⟨fn,hfn⟩:=Option.isSome_iff_exists.mp hc
 rcases pcall_law modOK d g args _ h W (fun _=>False) vs (fun _ h=>h.elim) hl hr with ⟨cv,w',h1,_⟩ | ⟨_,h2⟩
 ·rw [enter_run hfn] at h1; cases h1
 ·refine h2.mono ?_
  rintro e W' ⟨cv,rfl,hf,hb⟩
  cases hf
  exact ⟨rfl,hb⟩
theorem str_size {w:World} {bad:Nat→Prop} {b:List UInt8} {s:ByteArray} (h:FRep w bad (.str b) (.string s)):s.data.toList.length=b.length:=by
 cases h
 rfl
end Go.Proofs.Ytbmedgpiphibaaa.AE
