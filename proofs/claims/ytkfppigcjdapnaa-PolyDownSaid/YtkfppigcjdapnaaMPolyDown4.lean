/- The texts that the law PolyDown needs, part 4. No conditions. -/
import Derived.Test.YtkfppigcjdapnaaMPolyDown3
namespace Go.Proofs.Ytkfppigcjdapnaa.AE
set_option linter.unusedVariables false
set_option linter.unusedSimpArgs false
set_option linter.constructorNameAsVariable false
open Go Go.Proofs.Ytkfppigcjdapnaa.Geo
theorem nx_up {ps:List Pt} {k i:Nat} (hk:k < i) (hi:i < ps.length):nx ps k=k+1:=Nat.mod_eq_of_lt (by omega)
theorem nx_back {ps:List Pt} {k i:Nat} (hk:k < i) (hi:i < ps.length):nx ps i=k ↔ k=0∧i=ps.length - 1:=by
 unfold nx
 by_cases h:i+1=ps.length
 ·rw [h,Nat.mod_self]; omega
 ·rw [Nat.mod_eq_of_lt (by omega)]; omega
theorem rsimple2 (d:Nat) (ps:List Pt) (k:Nat) (hl:ps.length≤140737488355328) (kN:Int→Heap→Ans) (kR:Bool→Heap→Ans) (rN rR:Ans) (hN:∀ H,kN ((k+1:Nat):Int) H=rN) (hR:∀ H,kR false H=rR) :
 ∀ (m i f:Nat) (H:Heap),i+m=ps.length→m < f→k < i →
 L14_2 (d+7) (ps.map pt) (ps.length:Nat) (k:Nat) kN kR f (i:Nat) H=bif upAll (fun i=>pairB ps k i) m i then rN else rR:=by
 intro m
 induction m with
 | zero =>
   intro i f H hi hf hk
   obtain ⟨f,rfl⟩:∃ g,f=g+1:=⟨f - 1,by omega⟩
   rw [L14_2,decide_eq_false (by omega),cnd_f,X14_2_0,i64_small (by omega) (by omega)]
   exact hN H
 | succ m ih =>
   intro i f H hi hf hk
   obtain ⟨f,rfl⟩:∃ g,f=g+1:=⟨f - 1,by omega⟩
   have hkl:k < ps.length:=by omega
   have hil:i < ps.length:=by omega
   have o:=fun p q r=>s36 (d+1) p q r
   have mt:=s37 d (vv ps k) (vv ps (nx ps k)) (vv ps i) (vv ps (nx ps i))
   simp only [pt] at o mt
   have w1:IntKind.wrap .i64 ((i:Int)+1)=((i+1:Nat):Int):=by rw [i64_small (by omega) (by omega)]; rfl
   have w2:IntKind.wrap .i64 ((k:Int)+1)=((k+1:Nat):Int):=by rw [i64_small (by omega) (by omega)]; rfl
   have w3:IntKind.wrap .i64 ((ps.length:Int) - 1)=((ps.length - 1:Nat):Int):=by rw [i64_small (by omega) (by omega)]; omega
   rw [L14_2,decide_eq_true (by omega),cnd_t]
   refine Eq.trans (ix_lst (by omega) (vv_at hkl) (by rfl)) ?_
   refine Eq.trans (hop_eq (by rfl)) ?_; refine Eq.trans (pl_agg (by rfl) (by rfl)) ?_; refine Eq.trans (pl_int (by rfl)) ?_; refine Eq.trans (pl_int (by rfl)) ?_
   refine Eq.trans (snp_free (by rfl)) ?_
   refine Eq.trans (pl_agg (s35 (d+6) ps k hkl hl) (by rfl)) ?_
   refine Eq.trans (pl_int (by rfl)) ?_; refine Eq.trans (pl_int (by rfl)) ?_; refine Eq.trans (pl_len (by rfl)) ?_
   refine Eq.trans (ix_lst (by omega) (vv_at hil) (by rfl)) ?_
   refine Eq.trans (hop_eq (by rfl)) ?_; refine Eq.trans (pl_agg (by rfl) (by rfl)) ?_; refine Eq.trans (pl_int (by rfl)) ?_; refine Eq.trans (pl_int (by rfl)) ?_
   refine Eq.trans (snp_free (by rfl)) ?_
   refine Eq.trans (pl_agg (s35 (d+6) ps i hil hl) (by rfl)) ?_
   refine Eq.trans (pl_int (by rfl)) ?_; refine Eq.trans (pl_int (by rfl)) ?_; refine Eq.trans (pl_len (by rfl)) ?_
   refine Eq.trans al_n ?_; refine Eq.trans al_s ?_; refine Eq.trans al_s ?_; refine Eq.trans al_s ?_
   refine Eq.trans (C0_disj (by rfl)) ?_
   refine Eq.trans (st_s (by rfl) (by rfl) (by rfl)) ?_
   refine Eq.trans (C0_disj (by rfl)) ?_
   refine Eq.trans (st_s (by rfl) (by rfl) (by rfl)) ?_; refine Eq.trans (st_s (by rfl) (by rfl) (by rfl)) ?_; refine Eq.trans (st_s (by rfl) (by rfl) (by rfl)) ?_; refine Eq.trans (ld_s (by rfl) (by rfl) (by rfl)) ?_; refine Eq.trans (pl_agg (by rfl) (by rfl)) ?_; refine Eq.trans (pl_int (by rfl)) ?_; refine Eq.trans (pl_int (by rfl)) ?_; refine Eq.trans (ld_s (by rfl) (by rfl) (by rfl)) ?_; refine Eq.trans (pl_agg (by rfl) (by rfl)) ?_; refine Eq.trans (pl_int (by rfl)) ?_; refine Eq.trans (pl_int (by rfl)) ?_
   rw [pt_beq,w1,w2,w3,cast_beq,cast_beq,show ((k:Int) == 0)=decide (k=0) from cast_beq k 0]
   simp only [upAll,pairB,apartB]
   by_cases he:vv ps i=vv ps k
   ·rw [decide_eq_true he.symm,cnd_t,decide_eq_true he]; exact hR _
   ·rw [decide_eq_false (fun h=>he h.symm),cnd_f,decide_eq_false he]
    by_cases h1:i=k+1
    ·rw [decide_eq_true h1,cnd_t,if_pos (by rw [nx_up hk hil,h1])]
     refine Eq.trans (ld_s (by rfl) (by rfl) (by rfl)) ?_; refine Eq.trans (pl_agg (by rfl) (by rfl)) ?_; refine Eq.trans (pl_int (by rfl)) ?_; refine Eq.trans (pl_int (by rfl)) ?_; refine Eq.trans (ld_s (by rfl) (by rfl) (by rfl)) ?_; refine Eq.trans (pl_agg (by rfl) (by rfl)) ?_; refine Eq.trans (pl_int (by rfl)) ?_; refine Eq.trans (pl_int (by rfl)) ?_; refine Eq.trans (ld_s (by rfl) (by rfl) (by rfl)) ?_; refine Eq.trans (pl_agg (by rfl) (by rfl)) ?_; refine Eq.trans (pl_int (by rfl)) ?_; refine Eq.trans (pl_int (by rfl)) ?_
     refine Eq.trans (pl_bool (o (vv ps (nx ps i)) (vv ps k) (vv ps (nx ps k)))) ?_
     cases onB (vv ps (nx ps i)) (vv ps k) (vv ps (nx ps k))
     ·refine Eq.trans (pl_f (by rfl)) ?_; refine Eq.trans (ld_s (by rfl) (by rfl) (by rfl)) ?_; refine Eq.trans (pl_agg (by rfl) (by rfl)) ?_; refine Eq.trans (pl_int (by rfl)) ?_; refine Eq.trans (pl_int (by rfl)) ?_; refine Eq.trans (ld_s (by rfl) (by rfl) (by rfl)) ?_; refine Eq.trans (pl_agg (by rfl) (by rfl)) ?_; refine Eq.trans (pl_int (by rfl)) ?_; refine Eq.trans (pl_int (by rfl)) ?_; refine Eq.trans (ld_s (by rfl) (by rfl) (by rfl)) ?_; refine Eq.trans (pl_agg (by rfl) (by rfl)) ?_; refine Eq.trans (pl_int (by rfl)) ?_; refine Eq.trans (pl_int (by rfl)) ?_
      refine Eq.trans (pl_bool (o (vv ps k) (vv ps i) (vv ps (nx ps i)))) ?_
      cases onB (vv ps k) (vv ps i) (vv ps (nx ps i))
      ·refine Eq.trans (pl_f (by rfl)) ?_
       exact ih (i+1) f _ (by omega) (by omega) (by omega)
      ·exact hR _
     ·exact hR _
    ·rw [decide_eq_false h1,cnd_f,if_neg (by rw [nx_up hk hil]; omega)]
     by_cases h2:k=0
     ·rw [decide_eq_true h2,cnd_t]
      by_cases h3:i=ps.length - 1
      ·rw [decide_eq_true h3,cnd_t,if_pos ((nx_back hk hil).mpr ⟨h2,h3⟩)]
       refine Eq.trans (ld_s (by rfl) (by rfl) (by rfl)) ?_; refine Eq.trans (pl_agg (by rfl) (by rfl)) ?_; refine Eq.trans (pl_int (by rfl)) ?_; refine Eq.trans (pl_int (by rfl)) ?_; refine Eq.trans (ld_s (by rfl) (by rfl) (by rfl)) ?_; refine Eq.trans (pl_agg (by rfl) (by rfl)) ?_; refine Eq.trans (pl_int (by rfl)) ?_; refine Eq.trans (pl_int (by rfl)) ?_; refine Eq.trans (ld_s (by rfl) (by rfl) (by rfl)) ?_; refine Eq.trans (pl_agg (by rfl) (by rfl)) ?_; refine Eq.trans (pl_int (by rfl)) ?_; refine Eq.trans (pl_int (by rfl)) ?_
       refine Eq.trans (pl_bool (o (vv ps i) (vv ps k) (vv ps (nx ps k)))) ?_
       cases onB (vv ps i) (vv ps k) (vv ps (nx ps k))
       ·refine Eq.trans (pl_f (by rfl)) ?_; refine Eq.trans (ld_s (by rfl) (by rfl) (by rfl)) ?_; refine Eq.trans (pl_agg (by rfl) (by rfl)) ?_; refine Eq.trans (pl_int (by rfl)) ?_; refine Eq.trans (pl_int (by rfl)) ?_; refine Eq.trans (ld_s (by rfl) (by rfl) (by rfl)) ?_; refine Eq.trans (pl_agg (by rfl) (by rfl)) ?_; refine Eq.trans (pl_int (by rfl)) ?_; refine Eq.trans (pl_int (by rfl)) ?_; refine Eq.trans (ld_s (by rfl) (by rfl) (by rfl)) ?_; refine Eq.trans (pl_agg (by rfl) (by rfl)) ?_; refine Eq.trans (pl_int (by rfl)) ?_; refine Eq.trans (pl_int (by rfl)) ?_
        refine Eq.trans (pl_bool (o (vv ps (nx ps k)) (vv ps i) (vv ps (nx ps i)))) ?_
        cases onB (vv ps (nx ps k)) (vv ps i) (vv ps (nx ps i))
        ·refine Eq.trans (pl_f (by rfl)) ?_
         exact ih (i+1) f _ (by omega) (by omega) (by omega)
        ·exact hR _
       ·exact hR _
      ·rw [decide_eq_false h3,cnd_f,if_neg (fun h=>h3 ((nx_back hk hil).mp h).2)]
       refine Eq.trans (ld_s (by rfl) (by rfl) (by rfl)) ?_; refine Eq.trans (pl_agg (by rfl) (by rfl)) ?_; refine Eq.trans (pl_int (by rfl)) ?_; refine Eq.trans (pl_int (by rfl)) ?_; refine Eq.trans (ld_s (by rfl) (by rfl) (by rfl)) ?_; refine Eq.trans (pl_agg (by rfl) (by rfl)) ?_; refine Eq.trans (pl_int (by rfl)) ?_; refine Eq.trans (pl_int (by rfl)) ?_; refine Eq.trans (ld_s (by rfl) (by rfl) (by rfl)) ?_; refine Eq.trans (pl_agg (by rfl) (by rfl)) ?_; refine Eq.trans (pl_int (by rfl)) ?_; refine Eq.trans (pl_int (by rfl)) ?_; refine Eq.trans (ld_s (by rfl) (by rfl) (by rfl)) ?_; refine Eq.trans (pl_agg (by rfl) (by rfl)) ?_; refine Eq.trans (pl_int (by rfl)) ?_; refine Eq.trans (pl_int (by rfl)) ?_
       refine Eq.trans (pl_bool mt) ?_
       cases meetB (vv ps k) (vv ps (nx ps k)) (vv ps i) (vv ps (nx ps i))
       ·refine Eq.trans (pl_f (by rfl)) ?_
        exact ih (i+1) f _ (by omega) (by omega) (by omega)
       ·exact hR _
     ·rw [decide_eq_false h2,cnd_f,if_neg (fun h=>h2 ((nx_back hk hil).mp h).1)]
      refine Eq.trans (ld_s (by rfl) (by rfl) (by rfl)) ?_; refine Eq.trans (pl_agg (by rfl) (by rfl)) ?_; refine Eq.trans (pl_int (by rfl)) ?_; refine Eq.trans (pl_int (by rfl)) ?_; refine Eq.trans (ld_s (by rfl) (by rfl) (by rfl)) ?_; refine Eq.trans (pl_agg (by rfl) (by rfl)) ?_; refine Eq.trans (pl_int (by rfl)) ?_; refine Eq.trans (pl_int (by rfl)) ?_; refine Eq.trans (ld_s (by rfl) (by rfl) (by rfl)) ?_; refine Eq.trans (pl_agg (by rfl) (by rfl)) ?_; refine Eq.trans (pl_int (by rfl)) ?_; refine Eq.trans (pl_int (by rfl)) ?_; refine Eq.trans (ld_s (by rfl) (by rfl) (by rfl)) ?_; refine Eq.trans (pl_agg (by rfl) (by rfl)) ?_; refine Eq.trans (pl_int (by rfl)) ?_; refine Eq.trans (pl_int (by rfl)) ?_
      refine Eq.trans (pl_bool mt) ?_
      cases meetB (vv ps k) (vv ps (nx ps k)) (vv ps i) (vv ps (nx ps i))
      ·refine Eq.trans (pl_f (by rfl)) ?_
       exact ih (i+1) f _ (by omega) (by omega) (by omega)
      ·exact hR _
theorem rsimple1 (d:Nat) (ps:List Pt) (hl:ps.length≤140737488355328):∀ (m k f:Nat) (H:Heap),k+m=ps.length→m < f →
 L14_1 (d+7) (ps.map pt) (ps.length:Nat) f (k:Nat) H=some (.bool (upAll (fun k=>upAll (fun i=>pairB ps k i) (ps.length - k - 1) (k+1)) m k)):=by
 intro m
 induction m with
 | zero =>
   intro k f H hk hf
   obtain ⟨f,rfl⟩:∃ g,f=g+1:=⟨f - 1,by omega⟩
   rw [L14_1,decide_eq_false (by omega),cnd_f]; rfl
 | succ m ih =>
   intro k f H hk hf
   obtain ⟨f,rfl⟩:∃ g,f=g+1:=⟨f - 1,by omega⟩
   rw [L14_1,decide_eq_true (by omega),cnd_t,show IntKind.wrap .i64 ((k:Int)+1)=((k+1:Nat):Int) by rw [i64_small (by omega) (by omega)]; rfl]
   refine (rsimple2 d ps k hl _ _ _ (some (.bool false)) (fun H=>ih (k+1) f H (by omega) (by omega)) (fun H=>rfl) (ps.length - k - 1) (k+1) _ H (by omega) (by omega) (by omega)).trans ?_
   simp only [upAll]
   cases upAll (fun i=>pairB ps k i) (ps.length - k - 1) (k+1) <;> rfl
theorem rsimple0 (d:Nat) (ps:List Pt) (hl:ps.length≤140737488355328):∀ (l2:List Pt) (i f:Nat) (H:Heap),ps.drop i=l2→l2.length < f →
 L14_0 (d+7) (ps.map pt) (ps.length:Nat) f (i:Nat) H=some (.bool (l2.all okb && allPairs ps)):=by
 intro l2
 induction l2 with
 | nil =>
   intro i f H hd hf
   obtain ⟨f,rfl⟩:∃ m,f=m+1:=⟨f - 1,by omega⟩
   have:ps.length≤i:=List.drop_eq_nil_iff.mp hd
   rw [L14_0,decide_eq_false (by omega),cnd_f,X14_0_0]
   refine (rsimple1 d ps hl ps.length 0 1000000000000000000 H (by omega) (by omega)).trans ?_
   unfold allPairs
   rw [pairs_two]; rfl
 | cons p l2 ih =>
   intro i f H hd hf
   obtain ⟨f,rfl⟩:∃ m,f=m+1:=⟨f - 1,by simp at hf; omega⟩
   have hi:i < ps.length:=by
    rcases Nat.lt_or_ge i ps.length with h | h
    ·exact h
    ·rw [List.drop_eq_nil_of_le h] at hd; cases hd
   have hp:ps[i]=p:=by have:=List.drop_eq_getElem_cons hi; rw [hd] at this; exact (List.cons.inj this).1.symm
   have hd2:ps.drop (i+1)=l2:=by have:=List.drop_eq_getElem_cons hi; rw [hd] at this; exact (List.cons.inj this).2.symm
   have hr:=s26 (d+6) ps[i]
   simp only [pt] at hr
   rw [L14_0,decide_eq_true (by omega),cnd_t]
   refine Eq.trans (ix_lst (by omega) (pts_at hi) (by rfl)) ?_
   refine Eq.trans (hop_eq (by rfl)) ?_; refine Eq.trans (pl_agg (by rfl) (by rfl)) ?_; refine Eq.trans (pl_int (by rfl)) ?_; refine Eq.trans (pl_int (by rfl)) ?_
   rw [hr,C0_bool,hp,List.all_cons]
   change cnd (!okb p) _ _=_
   cases okb p
   ·rfl
   ·refine Eq.trans (pl_f (by rfl)) ?_
    rw [show IntKind.wrap .i64 ((i:Int)+1)=((i+1:Nat):Int) by rw [IntKind.wrap_i64]; omega,ih (i+1) f _ hd2 (by simp at hf; omega),Bool.true_and]
theorem s14 (d:Nat) (ps:List Pt) (hl:ps.length≤140737488355328):pcall M (d+8) 14 [.lst (ps.map pt)]=some (.bool (simpleB ps)):=told (q14 (d+7) _) (by
 refine Eq.trans (hop_eq (by rfl)) ?_; refine Eq.trans (pl_int (by rfl)) ?_
 have h0:=rsimple0 d ps hl ps 0 1000000000000000000 [] rfl (by omega)
 rw [pmap_len]
 unfold simpleB
 by_cases h1:3≤ps.length
 ·rw [decide_eq_false (by omega),cnd_f,decide_eq_true h1]
  by_cases h2:ps.length≤8
  ·rw [decide_eq_false (by omega),cnd_f,decide_eq_true h2]
   exact h0
  ·rw [decide_eq_true (by omega),cnd_t,decide_eq_false h2]; rfl
 ·rw [decide_eq_true (by omega),cnd_t,decide_eq_false h1]; rfl)
theorem rright0 (d:Nat) (ps:List Pt) (h8:ps.length≤8):∀ (l2:List Pt) (i f:Nat),ps.drop i=l2→l2.length < f →
 L12_0 (d+8) (ps.map pt) f (i:Nat)=some (.bool (!l2.any farB && simpleB ps)):=by
 intro l2
 induction l2 with
 | nil =>
   intro i f hd hf
   obtain ⟨f,rfl⟩:∃ m,f=m+1:=⟨f - 1,by omega⟩
   have:ps.length≤i:=List.drop_eq_nil_iff.mp hd
   rw [L12_0,pmap_len,decide_eq_false (by omega),cnd_f,X12_0_0,s14 d ps (by omega),C0_bool]; rfl
 | cons p l2 ih =>
   intro i f hd hf
   obtain ⟨f,rfl⟩:∃ m,f=m+1:=⟨f - 1,by simp at hf; omega⟩
   have hi:i < ps.length:=by
    rcases Nat.lt_or_ge i ps.length with h | h
    ·exact h
    ·rw [List.drop_eq_nil_of_le h] at hd; cases hd
   have hp:ps[i]=p:=by have:=List.drop_eq_getElem_cons hi; rw [hd] at this; exact (List.cons.inj this).1.symm
   have hd2:ps.drop (i+1)=l2:=by have:=List.drop_eq_getElem_cons hi; rw [hd] at this; exact (List.cons.inj this).2.symm
   rw [L12_0,pmap_len,decide_eq_true (by omega),cnd_t,decide_eq_true (by omega),cnd_t,decide_eq_true (by omega),cnd_t,pts_at hi,hp]
   refine Eq.trans (pl_agg (by rfl) (by rfl)) ?_; refine Eq.trans (pl_int (by rfl)) ?_; refine Eq.trans (pl_int (by rfl)) ?_
   rw [List.any_cons]
   by_cases c1:p.1 < -1073741824
   ·rw [decide_eq_true c1,cnd_t,show farB p=true by unfold farB; rw [decide_eq_false (by omega)]; rfl]; rfl
   ·rw [decide_eq_false c1,cnd_f,cnd_t]
    refine Eq.trans (pl_agg (by rfl) (by rfl)) ?_; refine Eq.trans (pl_int (by rfl)) ?_; refine Eq.trans (pl_int (by rfl)) ?_
    by_cases c2:p.1 > 1073741824
    ·rw [decide_eq_true c2,cnd_t,show farB p=true by unfold farB; rw [decide_eq_false (by omega)]; rfl]; rfl
    ·rw [decide_eq_false c2,cnd_f,cnd_t]
     refine Eq.trans (pl_agg (by rfl) (by rfl)) ?_; refine Eq.trans (pl_int (by rfl)) ?_; refine Eq.trans (pl_int (by rfl)) ?_
     by_cases c3:p.2 < -1073741824
     ·rw [decide_eq_true c3,cnd_t,show farB p=true by unfold farB; rw [decide_eq_false (by omega)]; rfl]; rfl
     ·rw [decide_eq_false c3,cnd_f,cnd_t]
      refine Eq.trans (pl_agg (by rfl) (by rfl)) ?_; refine Eq.trans (pl_int (by rfl)) ?_; refine Eq.trans (pl_int (by rfl)) ?_
      by_cases c4:p.2 > 1073741824
      ·rw [decide_eq_true c4,cnd_t,show farB p=true by unfold farB; rw [decide_eq_false (by omega)]; rfl]; rfl
      ·rw [decide_eq_false c4,cnd_f,show farB p=false by unfold farB; rw [decide_eq_true (by omega)]; rfl,show IntKind.wrap .i64 ((i:Int)+1)=((i+1:Nat):Int) by rw [IntKind.wrap_i64]; omega,
        ih (i+1) f hd2 (by simp at hf; omega),Bool.false_or]
theorem s12 (d:Nat) (ps:List Pt) (hl:ps.length≤140737488355328):pcall M (d+9) 12 [.lst (ps.map pt)]=some (.bool (rightB ps)):=told (q12 (d+8) _) (by
 by_cases h8:ps.length≤8
 ·refine (rright0 d ps h8 ps 0 1000000000000000000 rfl (by omega)).trans ?_
  rw [Bool.and_comm]; rfl
 ·have:rightB ps=false:=by
   rw [← Bool.not_eq_true]; intro h
   unfold rightB at h
   exact h8 (simple_ok (Bool.and_eq_true_iff.mp h).1).2.1
  rw [this,show (1000000000000000000:Nat)=999999999999999999+1 from rfl,L12_0,pmap_len,decide_eq_true (by omega),cnd_t,decide_eq_false (by omega),cnd_f,X12_0_0,s14 d ps hl,C0_bool]
  congr 2
  rw [← Bool.not_eq_true]; intro h; exact h8 (simple_ok h).2.1)
end Go.Proofs.Ytkfppigcjdapnaa.AE

namespace Go.Proofs.Ytkfppigcjdapnaa.Geo
def CrsU (p a b:Pt):Prop:=a.2≤p.2∧p.2 < b.2∧TN a b p > 0
instance (p a b:Pt):Decidable (CrsU p a b):=by unfold CrsU; infer_instance
def Crs (p a b:Pt):Prop:=CrsU p a b ∨ CrsU p b a
instance (p a b:Pt):Decidable (Crs p a b):=by unfold Crs; infer_instance
def Rgt (p q v:Pt):Prop:=p.2 < v.2∧v.2≤q.2∧TN p q v < 0
instance (p q v:Pt):Decidable (Rgt p q v):=by unfold Rgt; infer_instance
theorem mul_np {x y:Int} (hx:x≤0) (hy:0≤y):x * y≤0:=by
 have:=Int.mul_nonneg (show 0≤-x by omega) hy
 rw [Int.neg_mul] at this; omega
theorem mul_np_neg {x y:Int} (hx:x < 0) (hy:0 < y):x * y < 0:=by
 have:=Int.mul_pos (show 0 < -x by omega) hy
 rw [Int.neg_mul] at this; omega
theorem mul_pn_neg {x y:Int} (hx:0 < x) (hy:y < 0):x * y < 0:=by rw [Int.mul_comm]; exact mul_np_neg hy hx
theorem On_of_height {p a b:Pt} (h:TN a b p=0) (h1:a.2≤p.2) (h2:p.2≤b.2) (h3:a.2 < b.2):On p a b:=by
 refine ⟨h,?_⟩
 unfold TN at h
 unfold Btw
 have hx:(a.1≤p.1∧p.1≤b.1) ∨ (b.1≤p.1∧p.1≤a.1):=by
  have e1:(b.2 - a.2) * (p.1 - a.1)=(b.1 - a.1) * (p.2 - a.2):=by omega
  have e2:(b.2 - a.2) * (b.1 - p.1)=(b.1 - a.1) * (b.2 - p.2):=by
   have:(b.2 - a.2) * (b.1 - p.1)=(b.2 - a.2) * (b.1 - a.1) - (b.2 - a.2) * (p.1 - a.1):=by grind
   rw [this,e1]; grind
  rcases Int.le_total a.1 b.1 with c | c
  ·left
   have n1:=Int.mul_nonneg (show 0≤b.1 - a.1 by omega) (show 0≤p.2 - a.2 by omega)
   have n2:=Int.mul_nonneg (show 0≤b.1 - a.1 by omega) (show 0≤b.2 - p.2 by omega)
   constructor
   ·refine Int.not_lt.1 fun d=>?_
    have:=mul_pn_neg (show 0 < b.2 - a.2 by omega) (show p.1 - a.1 < 0 by omega); omega
   ·refine Int.not_lt.1 fun d=>?_
    have:=mul_pn_neg (show 0 < b.2 - a.2 by omega) (show b.1 - p.1 < 0 by omega); omega
  ·right
   have n1:=mul_np (show b.1 - a.1≤0 by omega) (show 0≤p.2 - a.2 by omega)
   have n2:=mul_np (show b.1 - a.1≤0 by omega) (show 0≤b.2 - p.2 by omega)
   constructor
   ·refine Int.not_lt.1 fun d=>?_
    have:=Int.mul_pos (show 0 < b.2 - a.2 by omega) (show 0 < b.1 - p.1 by omega); omega
   ·refine Int.not_lt.1 fun d=>?_
    have:=Int.mul_pos (show 0 < b.2 - a.2 by omega) (show 0 < p.1 - a.1 by omega); omega
 exact ⟨hx,Or.inl ⟨h1,h2⟩⟩
end Go.Proofs.Ytkfppigcjdapnaa.Geo

namespace Go.Proofs.Ytkfppigcjdapnaa.AE
set_option linter.unusedVariables false
set_option linter.unusedSimpArgs false
set_option linter.constructorNameAsVariable false
open Go Go.Proofs.Ytkfppigcjdapnaa.Geo
def crsB (ps:List Pt) (p:Pt) (i:Nat):Bool:=decide (Crs p (vv ps i) (vv ps (nx ps i)))
def sideUp (ps:List Pt) (p:Pt):Nat→Nat→Bool→Int
 | 0,_,o=>bif o then 1 else -1
 | m+1,i,o=>bif onB p (vv ps i) (vv ps (nx ps i)) then 0 else sideUp ps p m (i+1) (xor o (crsB ps p i))
def sideB (ps:List Pt) (p:Pt):Int:=bif rightB ps then bif okb p then sideUp ps p ps.length 0 false else -1 else -1
theorem right_ok {ps:List Pt} (h:rightB ps=true):3≤ps.length∧ps.length≤8∧∀ p ∈ ps,OkP p:=by
 unfold rightB at h
 exact simple_ok (Bool.and_eq_true_iff.mp h).1
theorem vv_ok {ps:List Pt} (h:∀ p ∈ ps,OkP p) {i:Nat} (hi:i < ps.length):OkP (vv ps i):=by
 have:vv ps i=ps[i]:=by simp [vv,List.getD_eq_getElem?_getD,hi]
 rw [this]; exact h _ (List.getElem_mem _)
theorem crs_hi {p a b:Pt} (h:a.2 > b.2):decide (Crs p a b)=decide (CrsU p b a):=by
 rw [decide_eq_decide]; unfold Crs
 exact ⟨fun g=>g.elim (fun g=>by unfold CrsU at g; omega) id,.inr⟩
theorem crs_lo {p a b:Pt} (h:¬ a.2 > b.2):decide (Crs p a b)=decide (CrsU p a b):=by
 rw [decide_eq_decide]; unfold Crs
 exact ⟨fun g=>g.elim id (fun g=>by unfold CrsU at g; omega),.inl⟩
theorem crsU_f1 {p a b:Pt} (h:¬ a.2≤p.2):decide (CrsU p a b)=false:=decide_eq_false fun g=>h g.1
theorem crsU_f2 {p a b:Pt} (h:¬ p.2 < b.2):decide (CrsU p a b)=false:=decide_eq_false fun g=>h g.2.1
theorem crsU_t {p a b:Pt} (h:a.2≤p.2) (h2:p.2 < b.2) (ha:OkP a) (hb:OkP b) (hp:OkP p):decide (CrsU p a b)=decide (tn3 a b p > 0):=by
 rw [decide_eq_decide,tn3_sg ⟨ha,hb,hp⟩,sg_pos]
 exact ⟨fun g=>g.2.2,fun g=>⟨h,h2,g⟩⟩
def sgn1 (o:Bool):Int:=bif o then 1 else -1
theorem sgn1_neg (o:Bool):IntKind.wrap .i64 (0 - sgn1 o)=sgn1 (xor o true):=by cases o <;> simp [sgn1,i64w]
theorem sgn1_id (o:Bool):sgn1 o=sgn1 (xor o false):=by cases o <;> rfl
theorem side0 (d:Nat) (ps:List Pt) (p:Pt) (hl:ps.length≤140737488355328) (hok:∀ q ∈ ps,OkP q) (hp:OkP p):∀ (m i f:Nat) (o:Bool) (H:Heap),i+m=ps.length→m < f→hget H 0=some ⟨E24,[pt p]⟩ →
 L16_0 (d+8) (ps.map pt) (.ptr 0 0 0) (ps.length:Nat) f (sgn1 o) (i:Nat) H=some (.int .i64 (sideUp ps p m i o)):=by
 intro m
 induction m with
 | zero =>
   intro i f o H hi hf h0
   obtain ⟨f,rfl⟩:∃ g,f=g+1:=⟨f - 1,by omega⟩
   rw [L16_0,decide_eq_false (by omega),cnd_f]; rfl
 | succ m ih =>
   intro i f o H hi hf h0
   obtain ⟨f,rfl⟩:∃ g,f=g+1:=⟨f - 1,by omega⟩
   have hil:i < ps.length:=by omega
   have oa:=vv_ok hok hil
   have ob:=vv_ok hok (nx_lt hil)
   have w1:IntKind.wrap .i64 ((i:Int)+1)=((i+1:Nat):Int):=by rw [i64_small (by omega) (by omega)]; rfl
   rw [L16_0,decide_eq_true (by omega),cnd_t,w1,sgn1_neg]
   refine Eq.trans (snp_free (by rfl)) ?_
   refine Eq.trans (pl_tup (s39 (d+7) ps i hil hl) (by rfl)) ?_
   refine Eq.trans (pl_agg (by rfl) (by rfl)) ?_; refine Eq.trans (pl_int (by rfl)) ?_; refine Eq.trans (pl_int (by rfl)) ?_; refine Eq.trans (pl_agg (by rfl) (by rfl)) ?_; refine Eq.trans (pl_int (by rfl)) ?_; refine Eq.trans (pl_int (by rfl)) ?_; refine Eq.trans (pl_len (by rfl)) ?_; refine Eq.trans al_n ?_; refine Eq.trans al_s ?_; refine Eq.trans (st_s (by rfl) (by rfl) (by rfl)) ?_; refine Eq.trans (st_s (by rfl) (by rfl) (by rfl)) ?_; refine Eq.trans (ld_ptr (hget_app h0) (by rfl) (by rfl)) ?_; refine Eq.trans (pl_agg (by rfl) (by rfl)) ?_; refine Eq.trans (pl_int (by rfl)) ?_; refine Eq.trans (pl_int (by rfl)) ?_; refine Eq.trans (ld_s (by rfl) (by rfl) (by rfl)) ?_; refine Eq.trans (pl_agg (by rfl) (by rfl)) ?_; refine Eq.trans (pl_int (by rfl)) ?_; refine Eq.trans (pl_int (by rfl)) ?_; refine Eq.trans (ld_s (by rfl) (by rfl) (by rfl)) ?_; refine Eq.trans (pl_agg (by rfl) (by rfl)) ?_; refine Eq.trans (pl_int (by rfl)) ?_; refine Eq.trans (pl_int (by rfl)) ?_
   refine Eq.trans (pl_bool (s27 d p (vv ps i) (vv ps (nx ps i)))) ?_
   simp only [sideUp]
   cases onB p (vv ps i) (vv ps (nx ps i))
   ·refine Eq.trans (pl_f (by rfl)) ?_; refine Eq.trans sh_ptr ?_; refine Eq.trans (ld_s (by rfl) (by rfl) (by rfl)) ?_; refine Eq.trans (pl_int (by rfl)) ?_; refine Eq.trans sh_ptr ?_; refine Eq.trans (ld_s (by rfl) (by rfl) (by rfl)) ?_; refine Eq.trans (pl_int (by rfl)) ?_
    unfold crsB
    by_cases c1:(vv ps i).2 > (vv ps (nx ps i)).2
    ·rw [crs_hi c1,decide_eq_true c1,cnd_t]
     refine Eq.trans (ld_s (by rfl) (by rfl) (by rfl)) ?_; refine Eq.trans (pl_agg (by rfl) (by rfl)) ?_; refine Eq.trans (pl_int (by rfl)) ?_; refine Eq.trans (pl_int (by rfl)) ?_; refine Eq.trans (ld_s (by rfl) (by rfl) (by rfl)) ?_; refine Eq.trans (pl_agg (by rfl) (by rfl)) ?_; refine Eq.trans (pl_int (by rfl)) ?_; refine Eq.trans (pl_int (by rfl)) ?_; refine Eq.trans (st_s (by rfl) (by rfl) (by rfl)) ?_; refine Eq.trans (st_s (by rfl) (by rfl) (by rfl)) ?_; refine Eq.trans sh_ptr ?_; refine Eq.trans (ld_s (by rfl) (by rfl) (by rfl)) ?_; refine Eq.trans (pl_int (by rfl)) ?_; refine Eq.trans sh_ptr ?_; refine Eq.trans (ld_ptr (hget_app h0) (by rfl) (by rfl)) ?_; refine Eq.trans (pl_int (by rfl)) ?_
     by_cases c2:(vv ps (nx ps i)).2≤p.2
     ·rw [decide_eq_true c2,cnd_t]
      refine Eq.trans sh_ptr ?_; refine Eq.trans (ld_ptr (hget_app h0) (by rfl) (by rfl)) ?_; refine Eq.trans (pl_int (by rfl)) ?_; refine Eq.trans sh_ptr ?_; refine Eq.trans (ld_s (by rfl) (by rfl) (by rfl)) ?_; refine Eq.trans (pl_int (by rfl)) ?_
      by_cases c3:p.2 < (vv ps i).2
      ·rw [decide_eq_true c3,cnd_t,crsU_t c2 c3 ob oa hp]
       refine Eq.trans (ld_s (by rfl) (by rfl) (by rfl)) ?_; refine Eq.trans (pl_agg (by rfl) (by rfl)) ?_; refine Eq.trans (pl_int (by rfl)) ?_; refine Eq.trans (pl_int (by rfl)) ?_; refine Eq.trans (ld_s (by rfl) (by rfl) (by rfl)) ?_; refine Eq.trans (pl_agg (by rfl) (by rfl)) ?_; refine Eq.trans (pl_int (by rfl)) ?_; refine Eq.trans (pl_int (by rfl)) ?_; refine Eq.trans (ld_ptr (hget_app h0) (by rfl) (by rfl)) ?_; refine Eq.trans (pl_agg (by rfl) (by rfl)) ?_; refine Eq.trans (pl_int (by rfl)) ?_; refine Eq.trans (pl_int (by rfl)) ?_
       refine Eq.trans (pl_int (s29 (d+1) (vv ps (nx ps i)) (vv ps i) p)) ?_
       cases decide (tn3 (vv ps (nx ps i)) (vv ps i) p > 0)
       ·refine Eq.trans (pl_f (by rfl)) ?_; rw [sgn1_id]; exact ih (i+1) f _ _ (by omega) (by omega) (hget_app h0)
       ·refine Eq.trans (pl_len (by rfl)) ?_; exact ih (i+1) f _ _ (by omega) (by omega) (hget_app h0)
      ·rw [decide_eq_false c3,cnd_f,crsU_f2 c3,sgn1_id]; exact ih (i+1) f _ _ (by omega) (by omega) (hget_app h0)
     ·rw [decide_eq_false c2,cnd_f,crsU_f1 c2,sgn1_id]; exact ih (i+1) f _ _ (by omega) (by omega) (hget_app h0)
    ·rw [crs_lo c1,decide_eq_false c1,cnd_f]
     refine Eq.trans sh_ptr ?_; refine Eq.trans (ld_s (by rfl) (by rfl) (by rfl)) ?_; refine Eq.trans (pl_int (by rfl)) ?_; refine Eq.trans sh_ptr ?_; refine Eq.trans (ld_ptr (hget_app h0) (by rfl) (by rfl)) ?_; refine Eq.trans (pl_int (by rfl)) ?_
     by_cases c2:(vv ps i).2≤p.2
     ·rw [decide_eq_true c2,cnd_t]
      refine Eq.trans sh_ptr ?_; refine Eq.trans (ld_ptr (hget_app h0) (by rfl) (by rfl)) ?_; refine Eq.trans (pl_int (by rfl)) ?_; refine Eq.trans sh_ptr ?_; refine Eq.trans (ld_s (by rfl) (by rfl) (by rfl)) ?_; refine Eq.trans (pl_int (by rfl)) ?_
      by_cases c3:p.2 < (vv ps (nx ps i)).2
      ·rw [decide_eq_true c3,cnd_t,crsU_t c2 c3 oa ob hp]
       refine Eq.trans (ld_s (by rfl) (by rfl) (by rfl)) ?_; refine Eq.trans (pl_agg (by rfl) (by rfl)) ?_; refine Eq.trans (pl_int (by rfl)) ?_; refine Eq.trans (pl_int (by rfl)) ?_; refine Eq.trans (ld_s (by rfl) (by rfl) (by rfl)) ?_; refine Eq.trans (pl_agg (by rfl) (by rfl)) ?_; refine Eq.trans (pl_int (by rfl)) ?_; refine Eq.trans (pl_int (by rfl)) ?_; refine Eq.trans (ld_ptr (hget_app h0) (by rfl) (by rfl)) ?_; refine Eq.trans (pl_agg (by rfl) (by rfl)) ?_; refine Eq.trans (pl_int (by rfl)) ?_; refine Eq.trans (pl_int (by rfl)) ?_
       refine Eq.trans (pl_int (s29 (d+1) (vv ps i) (vv ps (nx ps i)) p)) ?_
       cases decide (tn3 (vv ps i) (vv ps (nx ps i)) p > 0)
       ·refine Eq.trans (pl_f (by rfl)) ?_; rw [sgn1_id]; exact ih (i+1) f _ _ (by omega) (by omega) (hget_app h0)
       ·refine Eq.trans (pl_len (by rfl)) ?_; exact ih (i+1) f _ _ (by omega) (by omega) (hget_app h0)
      ·rw [decide_eq_false c3,cnd_f,crsU_f2 c3,sgn1_id]; exact ih (i+1) f _ _ (by omega) (by omega) (hget_app h0)
     ·rw [decide_eq_false c2,cnd_f,crsU_f1 c2,sgn1_id]; exact ih (i+1) f _ _ (by omega) (by omega) (hget_app h0)
   ·rfl
theorem s16 (d:Nat) (ps:List Pt) (p:Pt) (hl:ps.length≤140737488355328):pcall M (d+13) 16 [.lst (ps.map pt),pt p]=some (.int .i64 (sideB ps p)):=told (q16 (d+12) _ _ _) (by
 refine Eq.trans (hop_eq (by rfl)) ?_; refine Eq.trans (snp_free (by rfl)) ?_
 refine Eq.trans (pl_bool (s15 d ps hl)) ?_
 refine Eq.trans (pl_len (by rfl)) ?_
 unfold sideB
 cases hr:rightB ps
 ·rfl
 ·refine Eq.trans (pl_f (by rfl)) ?_; refine Eq.trans (hop_eq (by rfl)) ?_; refine Eq.trans (pl_agg (by rfl) (by rfl)) ?_; refine Eq.trans (pl_int (by rfl)) ?_; refine Eq.trans (pl_int (by rfl)) ?_
  refine Eq.trans (pl_bool (s33 (d+10) p)) ?_
  change cnd (!okb p) _ _=_
  cases hp:okb p
  ·rfl
  ·refine Eq.trans (pl_f (by rfl)) ?_; refine Eq.trans (hop_eq (by rfl)) ?_; refine Eq.trans (pl_int (by rfl)) ?_
   rw [pmap_len]
   exact side0 (d+4) ps p hl (right_ok hr).2.2 (okb_t.mp hp) ps.length 0 1000000000000000000 false _ (by omega) (by omega) rfl)
end Go.Proofs.Ytkfppigcjdapnaa.AE

namespace Go.Proofs.Ytkfppigcjdapnaa.AE
set_option linter.unusedVariables false
set_option linter.unusedSimpArgs false
set_option linter.constructorNameAsVariable false
open Go
theorem hg_z {Z X:Heap} {k:Nat} {b:Blk} (h:Z[k]?=some (some b)):hget (Z ++ X) k=some b:=by
 unfold hget
 have hk:k < Z.length:=by
  rcases Nat.lt_or_ge k Z.length with h1 | h1
  ·exact h1
  ·rw [List.getElem?_eq_none h1] at h; cases h
 rw [List.getElem?_append_left hk,h]
theorem set_z {Z X:Heap} {k:Nat} {b:Blk} {x:Option Blk} (h:Z[k]?=some (some b)):(Z ++ X).set k x=Z.set k x ++ X:=by
 have hk:k < Z.length:=by
  rcases Nat.lt_or_ge k Z.length with h1 | h1
  ·exact h1
  ·rw [List.getElem?_eq_none h1] at h; cases h
 rw [List.set_append_left _ _ hk]
theorem hg_o {Z G S:Heap} {z k:Nat} {b:Blk} (hz:Z.length=z) (h:S[k]?=some (some b)):hget (Z ++ (G ++ S)) (z+(G.length+k))=some b:=by
 subst hz
 unfold hget
 rw [List.getElem?_append_right (by omega),show Z.length+(G.length+k) - Z.length=G.length+k by omega,List.getElem?_append_right (by omega),show G.length+k - G.length=k by omega,h]
theorem set_o {Z G S:Heap} {z k:Nat} {x:Option Blk} (hz:Z.length=z):(Z ++ (G ++ S)).set (z+(G.length+k)) x=Z ++ (G ++ S.set k x):=by
 subst hz
 rw [List.set_append_right _ _ (by omega),show Z.length+(G.length+k) - Z.length=G.length+k by omega,List.set_append_right _ _ (by omega),show G.length+k - G.length=k by omega]
theorem al_o {Z G S:Heap} {z s:Nat} {e:ETy} {K:AV→Heap→Ans} (hz:Z.length=z) (hs:S.length=s):C0.hop (Z ++ (G ++ S)) (.alloc e) K=K (.ptr (z+(G.length+s)) 0 0) (Z ++ (G ++ (S ++ [some ⟨e,[e.zero]⟩]))):=by
 subst hz hs
 refine (hop_eq rfl).trans ?_
 simp only [evO,List.length_append,List.append_assoc]
theorem bx_o {Z G S:Heap} {z s:Nat} {e:ETy} {x:AV} {K:AV→Heap→Ans} (hz:Z.length=z) (hs:S.length=s) (h:elOk e x=true):C0.hop (Z ++ (G ++ S)) (.box e (.v x)) K=K (.ptr (z+(G.length+s)) 0 0) (Z ++ (G ++ (S ++ [some ⟨e,[x]⟩]))):=by
 subst hz hs
 refine (hop_eq (v:=.ptr (Z ++ (G ++ S)).length 0 0) (H':=(Z ++ (G ++ S)) ++ [some ⟨e,[x]⟩]) (by simp [aop,evO,h])).trans ?_
 simp only [List.length_append,List.append_assoc]
theorem ld_z {Z X:Heap} {k i j n:Nat} {ag:Bool} {b:Blk} {el v:AV} {K:AV→Heap→Ans} (h:Z[k]?=some (some b)) (hi:b.els[i]?=some el) (hs:sub ag n j el=some v) :
 C0.hop (Z ++ X) (.load ag n (.v (.ptr k i j))) K=K v (Z ++ X):=ld_ptr (hg_z h) hi hs
theorem ld_o {Z G S:Heap} {z k i j n:Nat} {ag:Bool} {b:Blk} {el v:AV} {K:AV→Heap→Ans} (hz:Z.length=z) (h:S[k]?=some (some b)) (hi:b.els[i]?=some el) (hs:sub ag n j el=some v) :
 C0.hop (Z ++ (G ++ S)) (.load ag n (.v (.ptr (z+(G.length+k)) i j))) K=K v (Z ++ (G ++ S)):=ld_ptr (hg_o hz h) hi hs
theorem st_z {Z X:Heap} {k i j n:Nat} {b:Blk} {el el' x:AV} {K:AV→Heap→Ans} (h:Z[k]?=some (some b)) (hi:b.els[i]?=some el) (hs:putSub n j x el=some el') :
 C0.hop (Z ++ X) (.store n (.v (.ptr k i j)) (.v x)) K=K .undef (Z.set k (some { b with els:=b.els.set i el' }) ++ X):=by
 rw [st_ptr (hg_z h) hi hs,set_z h]
theorem st_o {Z G S:Heap} {z k i j n:Nat} {b:Blk} {el el' x:AV} {K:AV→Heap→Ans} (hz:Z.length=z) (h:S[k]?=some (some b)) (hi:b.els[i]?=some el) (hs:putSub n j x el=some el') :
 C0.hop (Z ++ (G ++ S)) (.store n (.v (.ptr (z+(G.length+k)) i j)) (.v x)) K=K .undef (Z ++ (G ++ S.set k (some { b with els:=b.els.set i el' }))):=by
 rw [st_ptr (hg_o hz h) hi hs,set_o hz]
theorem sub_w {cs:List AV} {n:Nat} (h:cs.length=n):sub true n 0 (.agg cs)=some (.agg cs):=by
 subst h; simp [sub]
theorem ld_zw {Z X:Heap} {k i n:Nat} {b:Blk} {cs:List AV} {K:AV→Heap→Ans} (h:Z[k]?=some (some b)) (hi:b.els[i]?=some (.agg cs)) (hn:cs.length=n) :
 C0.hop (Z ++ X) (.load true n (.v (.ptr k i 0))) K=K (.agg cs) (Z ++ X):=ld_z h hi (sub_w hn)
theorem ld_ow {Z G S:Heap} {z k i n:Nat} {b:Blk} {cs:List AV} {K:AV→Heap→Ans} (hz:Z.length=z) (h:S[k]?=some (some b)) (hi:b.els[i]?=some (.agg cs)) (hn:cs.length=n) :
 C0.hop (Z ++ (G ++ S)) (.load true n (.v (.ptr (z+(G.length+k)) i 0))) K=K (.agg cs) (Z ++ (G ++ S)):=ld_o hz h hi (sub_w hn)
theorem gen_at {l:List AV} {i:Nat} {a:AV} (h:l[i]?=some a):l[i]?=some a:=h
theorem h_any {H:Heap} {io:IOp} {K:AV→Heap→Ans}:C0.hop H io K=C0.hop ([] ++ (H ++ [])) io K:=by rw [List.nil_append,List.append_nil]
theorem app_go {H S:Heap} {e:ETy} {v x:AV} {l:List AV} {K:AV→Heap→Ans} {r:Ans} (ho:Own H e v l) (hx:elOk e x=true) (hs:(l.length+1) * e.bytes≤140737488355328) (hs2:l.length+1≤9223372036854775807)
 (hk:∀ v' H',Own H' e v' (l ++ [x])→(∀ id b,¬ names v id→hget H id=some b→hget H' id=some b)→K v' H'=r):(C0.hop ([] ++ (H ++ S)) (.mkrow e 1 [(0,.v x)]) fun r H1=>C0.hop H1 (.app e (.v v) (.v r)) K)=r:=by
 have ho':Own ([] ++ (H ++ S)) e v l:=own_keep ho fun id b _ h=>by rw [List.nil_append]; exact hget_app h
 obtain ⟨v',H',h1,h2,h3,h4,h5⟩:=app_one ho' hx hs hs2
 rw [h1]; exact hk v' H' h2 (fun id b hn h=>h5 id b hn (by rw [List.nil_append]; exact hget_app h))
theorem h_start {io:IOp} {K:AV→Heap→Ans}:C0.hop [] io K=C0.hop ([] ++ ([] ++ [])) io K:=rfl
theorem h_more {Z G:Heap} {io:IOp} {K:AV→Heap→Ans}:C0.hop (Z ++ G) io K=C0.hop (Z ++ (G ++ [])) io K:=by rw [List.append_nil]
theorem pl_zsl {o:Option AV} {b:Bool} {K:List AV→Ans} {Z:Bool→Ans} (h:o=some (.zsl b)):C0.lst o K Z=Z b:=by subst h; rfl
theorem c_ort {b:Bool} {x y:Ans}:cnd (b || true) x y=x:=by cases b <;> rfl
theorem c_nt {x y:Ans}:cnd (!true) x y=y:=rfl
theorem c_nf {x y:Ans}:cnd (!false) x y=x:=rfl
theorem f_free {H:Heap} {v:AV} (h:snap 12 H v=v):C0.fin H v=some v:=by rw [C0_fin,h]
theorem at8 (a b c d e f g h i:AV) (l:List AV):(a::b::c::d::e::f::g::h::i::l)[8]?=some i:=rfl
theorem at9 (a b c d e f g h i j:AV) (l:List AV):(a::b::c::d::e::f::g::h::i::j::l)[9]?=some j:=rfl
theorem at10 (a b c d e f g h i j k:AV) (l:List AV):(a::b::c::d::e::f::g::h::i::j::k::l)[10]?=some k:=rfl
theorem tt {a b c:Ans} (h:a=b) (k:b=c):a=c:=h.trans k
theorem w2 {k:IntKind} {o:Option AV} {n:Int} {K:Int→Ans} (h:o=some (.int k n):=by first | with_reducible rfl | exact at0 _ _ | exact at1 _ _ _ | exact at2 _ _ _ _ | exact at3 _ _ _ _ _ | exact at4 _ _ _ _ _ _ | exact at5 _ _ _ _ _ _ _ | exact at6 _ _ _ _ _ _ _ _ | exact at7 _ _ _ _ _ _ _ _ _ | exact at8 _ _ _ _ _ _ _ _ _ _ | exact at9 _ _ _ _ _ _ _ _ _ _ _ | exact at10 _ _ _ _ _ _ _ _ _ _ _ _ | exact gen_at (by with_unfolding_all rfl)):C0.int k o K=K n:=pl_int h
theorem w3 {o:Option AV} {n:Bool} {K:Bool→Ans} (h:o=some (.bool n):=by first | with_reducible rfl | exact at0 _ _ | exact at1 _ _ _ | exact at2 _ _ _ _ | exact at3 _ _ _ _ _ | exact at4 _ _ _ _ _ _ | exact at5 _ _ _ _ _ _ _ | exact at6 _ _ _ _ _ _ _ _ | exact at7 _ _ _ _ _ _ _ _ _ | exact at8 _ _ _ _ _ _ _ _ _ _ | exact at9 _ _ _ _ _ _ _ _ _ _ _ | exact at10 _ _ _ _ _ _ _ _ _ _ _ _ | exact gen_at (by with_unfolding_all rfl)):C0.bool o K=K n:=pl_bool h
theorem w4 {o:Option AV} {v:AV} {K:AV→Ans} (h:o=some v:=by first | with_reducible rfl | exact at0 _ _ | exact at1 _ _ _ | exact at2 _ _ _ _ | exact at3 _ _ _ _ _ | exact at4 _ _ _ _ _ _ | exact at5 _ _ _ _ _ _ _ | exact at6 _ _ _ _ _ _ _ _ | exact at7 _ _ _ _ _ _ _ _ _ | exact at8 _ _ _ _ _ _ _ _ _ _ | exact at9 _ _ _ _ _ _ _ _ _ _ _ | exact at10 _ _ _ _ _ _ _ _ _ _ _ _ | exact gen_at (by with_unfolding_all rfl)):C0.any o K=K v:=pl_any h
theorem w5 {o:Option AV} {n:List UInt8} {K:List UInt8→Ans} (h:o=some (.str n):=by first | with_reducible rfl | exact at0 _ _ | exact at1 _ _ _ | exact at2 _ _ _ _ | exact at3 _ _ _ _ _ | exact at4 _ _ _ _ _ _ | exact at5 _ _ _ _ _ _ _ | exact at6 _ _ _ _ _ _ _ _ | exact at7 _ _ _ _ _ _ _ _ _ | exact at8 _ _ _ _ _ _ _ _ _ _ | exact at9 _ _ _ _ _ _ _ _ _ _ _ | exact at10 _ _ _ _ _ _ _ _ _ _ _ _ | exact gen_at (by with_unfolding_all rfl)):C0.str o K=K n:=pl_str h
theorem w6 {o:Option AV} {l:List AV} {K:List AV→Ans} {Z:Bool→Ans} (h:o=some (.lst l):=by first | with_reducible rfl | exact at0 _ _ | exact at1 _ _ _ | exact at2 _ _ _ _ | exact at3 _ _ _ _ _ | exact at4 _ _ _ _ _ _ | exact at5 _ _ _ _ _ _ _ | exact at6 _ _ _ _ _ _ _ _ | exact at7 _ _ _ _ _ _ _ _ _ | exact at8 _ _ _ _ _ _ _ _ _ _ | exact at9 _ _ _ _ _ _ _ _ _ _ _ | exact at10 _ _ _ _ _ _ _ _ _ _ _ _ | exact gen_at (by with_unfolding_all rfl)):C0.lst o K Z=K l:=pl_lst h
theorem w7 {o:Option AV} {b:Bool} {K:List AV→Ans} {Z:Bool→Ans} (h:o=some (.zsl b):=by first | with_reducible rfl | exact at0 _ _ | exact at1 _ _ _ | exact at2 _ _ _ _ | exact at3 _ _ _ _ _ | exact at4 _ _ _ _ _ _ | exact at5 _ _ _ _ _ _ _ | exact at6 _ _ _ _ _ _ _ _ | exact at7 _ _ _ _ _ _ _ _ _ | exact at8 _ _ _ _ _ _ _ _ _ _ | exact at9 _ _ _ _ _ _ _ _ _ _ _ | exact at10 _ _ _ _ _ _ _ _ _ _ _ _ | exact gen_at (by with_unfolding_all rfl)):C0.lst o K Z=Z b:=pl_zsl h
theorem w8 {n:Nat} {o:Option AV} {l:List AV} {K:List AV→Ans} (h:o=some (.agg l):=by first | with_reducible rfl | exact at0 _ _ | exact at1 _ _ _ | exact at2 _ _ _ _ | exact at3 _ _ _ _ _ | exact at4 _ _ _ _ _ _ | exact at5 _ _ _ _ _ _ _ | exact at6 _ _ _ _ _ _ _ _ | exact at7 _ _ _ _ _ _ _ _ _ | exact at8 _ _ _ _ _ _ _ _ _ _ | exact at9 _ _ _ _ _ _ _ _ _ _ _ | exact at10 _ _ _ _ _ _ _ _ _ _ _ _ | exact gen_at (by with_unfolding_all rfl)) (h2:l.length=n:=by with_unfolding_all rfl):C0.agg n o K=K l:=pl_agg h h2
theorem w9 {n:Nat} {o:Option AV} {l:List AV} {K:List AV→Ans} (h:o=some (.tup l):=by first | with_reducible rfl | exact at0 _ _ | exact at1 _ _ _ | exact at2 _ _ _ _ | exact at3 _ _ _ _ _ | exact at4 _ _ _ _ _ _ | exact at5 _ _ _ _ _ _ _ | exact at6 _ _ _ _ _ _ _ _ | exact at7 _ _ _ _ _ _ _ _ _ | exact at8 _ _ _ _ _ _ _ _ _ _ | exact at9 _ _ _ _ _ _ _ _ _ _ _ | exact at10 _ _ _ _ _ _ _ _ _ _ _ _ | exact gen_at (by with_unfolding_all rfl)) (h2:l.length=n:=by with_unfolding_all rfl):C0.tup n o K=K l:=pl_tup h h2
theorem wf {Z X:Heap} {k i n:Nat} {b:Blk} {cs:List AV} {K:AV→Heap→Ans} (h:Z[k]?=some (some b):=by with_unfolding_all rfl) (hi:b.els[i]?=some (.agg cs):=by with_unfolding_all rfl) (hn:cs.length=n:=by with_unfolding_all rfl) :
 C0.hop (Z ++ X) (.load true n (.v (.ptr k i 0))) K=K (.agg cs) (Z ++ X):=ld_zw h hi hn
theorem wg {Z G S:Heap} {z k i n:Nat} {b:Blk} {cs:List AV} {K:AV→Heap→Ans} (hz:Z.length=z:=by with_unfolding_all rfl) (h:S[k]?=some (some b):=by with_unfolding_all rfl) (hi:b.els[i]?=some (.agg cs):=by with_unfolding_all rfl) (hn:cs.length=n:=by with_unfolding_all rfl) :
 C0.hop (Z ++ (G ++ S)) (.load true n (.v (.ptr (z+(G.length+k)) i 0))) K=K (.agg cs) (Z ++ (G ++ S)):=ld_ow hz h hi hn
theorem wh {Z X:Heap} {k i j n:Nat} {ag:Bool} {b:Blk} {el v:AV} {K:AV→Heap→Ans} (h:Z[k]?=some (some b):=by with_unfolding_all rfl) (hi:b.els[i]?=some el:=by with_unfolding_all rfl) (hs:sub ag n j el=some v:=by with_unfolding_all rfl) :
 C0.hop (Z ++ X) (.load ag n (.v (.ptr k i j))) K=K v (Z ++ X):=ld_z h hi hs
theorem wi {Z G S:Heap} {z k i j n:Nat} {ag:Bool} {b:Blk} {el v:AV} {K:AV→Heap→Ans} (hz:Z.length=z:=by with_unfolding_all rfl) (h:S[k]?=some (some b):=by with_unfolding_all rfl) (hi:b.els[i]?=some el:=by with_unfolding_all rfl) (hs:sub ag n j el=some v:=by with_unfolding_all rfl) :
 C0.hop (Z ++ (G ++ S)) (.load ag n (.v (.ptr (z+(G.length+k)) i j))) K=K v (Z ++ (G ++ S)):=ld_o hz h hi hs
theorem wj {Z X:Heap} {k i j n:Nat} {b:Blk} {el el' x:AV} {K:AV→Heap→Ans} (h:Z[k]?=some (some b):=by with_unfolding_all rfl) (hi:b.els[i]?=some el:=by with_unfolding_all rfl) (hs:putSub n j x el=some el':=by with_unfolding_all rfl) :
 C0.hop (Z ++ X) (.store n (.v (.ptr k i j)) (.v x)) K=K .undef (Z.set k (some { b with els:=b.els.set i el' }) ++ X):=st_z h hi hs
theorem wk {Z G S:Heap} {z k i j n:Nat} {b:Blk} {el el' x:AV} {K:AV→Heap→Ans} (hz:Z.length=z:=by with_unfolding_all rfl) (h:S[k]?=some (some b):=by with_unfolding_all rfl) (hi:b.els[i]?=some el:=by with_unfolding_all rfl) (hs:putSub n j x el=some el':=by with_unfolding_all rfl) :
 C0.hop (Z ++ (G ++ S)) (.store n (.v (.ptr (z+(G.length+k)) i j)) (.v x)) K=K .undef (Z ++ (G ++ S.set k (some { b with els:=b.els.set i el' }))):=st_o hz h hi hs
theorem wl {Z G S:Heap} {z s:Nat} {e:ETy} {K:AV→Heap→Ans} (hz:Z.length=z:=by with_unfolding_all rfl) (hs:S.length=s:=by with_unfolding_all rfl):C0.hop (Z ++ (G ++ S)) (.alloc e) K=K (.ptr (z+(G.length+s)) 0 0) (Z ++ (G ++ (S ++ [some ⟨e,[e.zero]⟩]))):=al_o hz hs
theorem wm {Z G S:Heap} {z s:Nat} {e:ETy} {x:AV} {K:AV→Heap→Ans} (hz:Z.length=z:=by with_unfolding_all rfl) (hs:S.length=s:=by with_unfolding_all rfl) (h:elOk e x=true:=by with_unfolding_all rfl):C0.hop (Z ++ (G ++ S)) (.box e (.v x)) K=K (.ptr (z+(G.length+s)) 0 0) (Z ++ (G ++ (S ++ [some ⟨e,[x]⟩]))):=bx_o hz hs h
theorem wn {H:Heap} {x v:AV} {j n:Nat} {ag:Bool} {K:AV→Heap→Ans} (hs:sub ag n j x=some v:=by with_unfolding_all rfl):C0.hop H (.load ag n (.v (.fptr x j))) K=K v H:=ld_fptr hs
theorem wo {H:Heap} {args:List AV} {K:List AV→Bool→Ans} (h:args.all (noId DEPTH)=true:=by with_unfolding_all rfl):C0.snp H args K=K args true:=snp_free h
theorem wx {H:Heap} {len es id i j:Nat} {q:Int} {K:AV→Heap→Ans} (h:(decide (0≤q) && decide (q < (len:Int)))=true:=by with_unfolding_all rfl):C0.hop H (.ixAA len es (.v (.ptr id i j)) (.v (.int .i64 q))) K=K (.ptr id i (j+q.toNat * es)) H:=by
 have h':0≤q∧q < (len:Int):=by simpa using h
 exact hop_eq (by simp only [aop,evO,aInt,aShift]; rw [if_pos h'])
end Go.Proofs.Ytkfppigcjdapnaa.AE

namespace Go.Proofs.Ytkfppigcjdapnaa.Geo
theorem On_of_width {p a b:Pt} (h:TN a b p=0) (h1:a.1≤p.1) (h2:p.1≤b.1) (h3:a.1 < b.1):On p a b:=by
 have e:TN (a.2,a.1) (b.2,b.1) (p.2,p.1)=0:=by
  have:TN (a.2,a.1) (b.2,b.1) (p.2,p.1)=-TN a b p:=by unfold TN; grind
  omega
 have k:=(On_of_height (p:=(p.2,p.1)) (a:=(a.2,a.1)) (b:=(b.2,b.1)) e h1 h2 h3).2
 refine ⟨h,?_⟩
 unfold Btw at k ⊢
 exact ⟨k.2,k.1⟩
def HasB (x0 y0 x1 y1:Int) (p:Pt):Prop:=x0≤p.1∧p.1≤x1∧y0≤p.2∧p.2≤y1
instance (x0 y0 x1 y1:Int) (p:Pt):Decidable (HasB x0 y0 x1 y1 p):=by unfold HasB; infer_instance
end Go.Proofs.Ytkfppigcjdapnaa.Geo

namespace Go.Proofs.Ytkfppigcjdapnaa.AE
set_option linter.unusedVariables false
set_option linter.unusedSimpArgs false
set_option linter.constructorNameAsVariable false
open Go Go.Proofs.Ytkfppigcjdapnaa.Geo
abbrev Bx:=Pt × Pt
abbrev bx (b:Bx):AV:=.agg [.int .i64 b.1.1,.int .i64 b.1.2,.int .i64 b.2.1,.int .i64 b.2.2]
def zB:Bx:=((0,0),(0,0))
theorem drop_vv {ps:List Pt} {i:Nat} (h:i < ps.length):ps.drop i=vv ps i::ps.drop (i+1):=by
 rw [List.drop_eq_getElem_cons h]; unfold vv; rw [List.getD_eq_getElem?_getD,List.getElem?_eq_getElem h]; rfl
theorem wsuc {i:Nat} (h:(i:Int) < 9223372036854775807):IntKind.wrap .i64 ((i:Int)+1)=((i+1:Nat):Int):=by rw [IntKind.wrap_i64]; omega
theorem ix_pts {ps:List Pt} {i:Nat} {H:Heap} {K:AV→Heap→Ans} (h:i < ps.length):C0.hop H (.ixAS .any 2 (.v (.lst (ps.map pt))) (.v (.int .i64 (i:Nat)))) K=K (.fptr (pt (vv ps i)) 0) H:=ix_lst (by omega) (vv_at h) (by rfl)
theorem ix_pts0 {ps:List Pt} {H:Heap} {K:AV→Heap→Ans} (h:0 < ps.length):C0.hop H (.ixAS .any 2 (.v (.lst (ps.map pt))) (.v (.int .i64 0))) K=K (.fptr (pt (vv ps 0)) 0) H:=ix_pts (i:=0) h
theorem sideUp_on (ps:List Pt) (p:Pt):∀ (m i:Nat) (o:Bool),(∃ j,i≤j∧j < i+m∧onB p (vv ps j) (vv ps (nx ps j))=true)→sideUp ps p m i o=0
 | 0,i,o,⟨j,h1,h2,_⟩=>(by omega)
 | m+1,i,o,⟨j,h1,h2,h3⟩=>by
   simp only [sideUp]
   cases h:onB p (vv ps i) (vv ps (nx ps i))
   ·have hj:j ≠ i:=fun e=>by subst e; rw [h] at h3; cases h3
    exact sideUp_on ps p m (i+1) _ ⟨j,by omega,by omega,h3⟩
   ·rfl
theorem sideB_on {ps:List Pt} {p:Pt} (hr:rightB ps=true) (hp:okb p=true) {j:Nat} (hj:j < ps.length) (h:On p (vv ps j) (vv ps (nx ps j))):sideB ps p=0:=by
 have ok:=(right_ok hr).2.2
 unfold sideB
 rw [hr,hp]
 exact sideUp_on ps p ps.length 0 false ⟨j,by omega,by omega,onB_t.mpr ⟨⟨okb_t.mp hp,vv_ok ok hj,vv_ok ok (nx_lt hj)⟩,h⟩⟩
end Go.Proofs.Ytkfppigcjdapnaa.AE

namespace Go.Proofs.Ytkfppigcjdapnaa.AE
set_option linter.unusedVariables false
set_option linter.unusedSimpArgs false
set_option linter.constructorNameAsVariable false
open Go Go.Proofs.Ytkfppigcjdapnaa.Geo
attribute [local irreducible] pcall C0
def bbStep (b:Bx) (p:Pt):Bx:=((if p.1 < b.1.1 then p.1 else b.1.1,if p.2 < b.1.2 then p.2 else b.1.2),(if p.1 > b.2.1 then p.1 else b.2.1,if p.2 > b.2.2 then p.2 else b.2.2))
def bbX (ps:List Pt):Bx:=ps.foldl bbStep (vv ps 0,vv ps 0)
theorem bounds0 (d:Nat) (ps:List Pt) (hl:ps.length≤140737488355328):∀ (m i f:Nat) (b:Bx) (G:Heap),i+m=ps.length→m < f →
 L11_0 d (ps.map pt) (.ptr 0 0 0) (ps.length:Nat) f (i:Nat) ([some ⟨E28,[bx b]⟩] ++ G)=some (.tup [bx ((ps.drop i).foldl bbStep b),.bool true]):=by
 intro m
 induction m with
 | zero =>
   intro i f b G hi hf
   obtain ⟨f,rfl⟩:∃ g,f=g+1:=⟨f - 1,by omega⟩
   rw [L11_0,decide_eq_false (by omega),cnd_f,X11_0_0,List.drop_eq_nil_of_le (by omega)]
   repeat with_reducible first | refine tt sh_ptr ?_ | refine tt sh_fptr ?_ | refine tt w2 ?_ | refine tt w3 ?_ | refine tt w8 ?_ | refine tt w9 ?_ | refine tt wf ?_ | refine tt wg ?_ | refine tt wh ?_ | refine tt wi ?_ | refine tt wj ?_ | refine tt wk ?_ | refine tt wl ?_ | refine tt wn ?_ | refine tt c_ort ?_ | refine tt c_nt ?_ | refine tt c_nf ?_ | refine tt (cnd_t _ _) ?_ | refine tt (cnd_f _ _) ?_ | refine tt w6 ?_ | refine tt w4 ?_ | refine tt w5 ?_ | refine tt w7 ?_ | refine tt wm ?_ | refine tt wo ?_ | refine tt wx ?_ | refine tt nil_ptr ?_ | refine tt len_lst ?_ | refine tt len_zsl ?_
   exact f_free (by rfl)
 | succ m ih =>
   intro i f b G hi hf
   obtain ⟨f,rfl⟩:∃ g,f=g+1:=⟨f - 1,by omega⟩
   have hil:i < ps.length:=by omega
   rw [L11_0,decide_eq_true (by omega),cnd_t]
   refine Eq.trans h_more ?_
   repeat with_reducible first | refine tt sh_ptr ?_ | refine tt sh_fptr ?_ | refine tt w2 ?_ | refine tt w3 ?_ | refine tt w8 ?_ | refine tt w9 ?_ | refine tt wf ?_ | refine tt wg ?_ | refine tt wh ?_ | refine tt wi ?_ | refine tt wj ?_ | refine tt wk ?_ | refine tt wl ?_ | refine tt wn ?_ | refine tt c_ort ?_ | refine tt c_nt ?_ | refine tt c_nf ?_ | refine tt (cnd_t _ _) ?_ | refine tt (cnd_f _ _) ?_ | refine tt w6 ?_ | refine tt w4 ?_ | refine tt w5 ?_ | refine tt w7 ?_ | refine tt wm ?_ | refine tt wo ?_ | refine tt wx ?_ | refine tt nil_ptr ?_ | refine tt len_lst ?_ | refine tt len_zsl ?_ | refine tt (ix_pts hil) ?_
   rw [wsuc (by omega),drop_vv hil]
   exact ih (i+1) f (bbStep b (vv ps i)) _ (by omega) (by omega)
theorem s11 (d:Nat) (ps:List Pt) (hl:ps.length≤140737488355328):pcall M (d+13) 11 [.lst (ps.map pt)]=some (.tup [bx (bif rightB ps then bbX ps else zB),.bool (rightB ps)]):=told (q11 (d+12) _) (by
 refine Eq.trans h_start ?_
 repeat with_reducible first | refine tt sh_ptr ?_ | refine tt sh_fptr ?_ | refine tt w2 ?_ | refine tt w3 ?_ | refine tt w8 ?_ | refine tt w9 ?_ | refine tt wf ?_ | refine tt wg ?_ | refine tt wh ?_ | refine tt wi ?_ | refine tt wj ?_ | refine tt wk ?_ | refine tt wl ?_ | refine tt wn ?_ | refine tt c_ort ?_ | refine tt c_nt ?_ | refine tt c_nf ?_ | refine tt (cnd_t _ _) ?_ | refine tt (cnd_f _ _) ?_ | refine tt w6 ?_ | refine tt w4 ?_ | refine tt w5 ?_ | refine tt w7 ?_ | refine tt wm ?_ | refine tt wo ?_ | refine tt wx ?_ | refine tt nil_ptr ?_ | refine tt len_lst ?_ | refine tt len_zsl ?_
 refine Eq.trans (pl_bool (s15 d ps hl)) ?_
 repeat with_reducible first | refine tt sh_ptr ?_ | refine tt sh_fptr ?_ | refine tt w2 ?_ | refine tt w3 ?_ | refine tt w8 ?_ | refine tt w9 ?_ | refine tt wf ?_ | refine tt wg ?_ | refine tt wh ?_ | refine tt wi ?_ | refine tt wj ?_ | refine tt wk ?_ | refine tt wl ?_ | refine tt wn ?_ | refine tt c_ort ?_ | refine tt c_nt ?_ | refine tt c_nf ?_ | refine tt (cnd_t _ _) ?_ | refine tt (cnd_f _ _) ?_ | refine tt w6 ?_ | refine tt w4 ?_ | refine tt w5 ?_ | refine tt w7 ?_ | refine tt wm ?_ | refine tt wo ?_ | refine tt wx ?_ | refine tt nil_ptr ?_ | refine tt len_lst ?_ | refine tt len_zsl ?_
 cases hr:rightB ps
 ·repeat with_reducible first | refine tt sh_ptr ?_ | refine tt sh_fptr ?_ | refine tt w2 ?_ | refine tt w3 ?_ | refine tt w8 ?_ | refine tt w9 ?_ | refine tt wf ?_ | refine tt wg ?_ | refine tt wh ?_ | refine tt wi ?_ | refine tt wj ?_ | refine tt wk ?_ | refine tt wl ?_ | refine tt wn ?_ | refine tt c_ort ?_ | refine tt c_nt ?_ | refine tt c_nf ?_ | refine tt (cnd_t _ _) ?_ | refine tt (cnd_f _ _) ?_ | refine tt w6 ?_ | refine tt w4 ?_ | refine tt w5 ?_ | refine tt w7 ?_ | refine tt wm ?_ | refine tt wo ?_ | refine tt wx ?_ | refine tt nil_ptr ?_ | refine tt len_lst ?_ | refine tt len_zsl ?_
  exact f_free (by rfl)
 ·have h3:=(right_ok hr).1
  repeat with_reducible first | refine tt sh_ptr ?_ | refine tt sh_fptr ?_ | refine tt w2 ?_ | refine tt w3 ?_ | refine tt w8 ?_ | refine tt w9 ?_ | refine tt wf ?_ | refine tt wg ?_ | refine tt wh ?_ | refine tt wi ?_ | refine tt wj ?_ | refine tt wk ?_ | refine tt wl ?_ | refine tt wn ?_ | refine tt c_ort ?_ | refine tt c_nt ?_ | refine tt c_nf ?_ | refine tt (cnd_t _ _) ?_ | refine tt (cnd_f _ _) ?_ | refine tt w6 ?_ | refine tt w4 ?_ | refine tt w5 ?_ | refine tt w7 ?_ | refine tt wm ?_ | refine tt wo ?_ | refine tt wx ?_ | refine tt nil_ptr ?_ | refine tt len_lst ?_ | refine tt len_zsl ?_ | refine tt (ix_pts0 (by omega)) ?_
  rw [pmap_len]
  obtain ⟨fuel,hfuel⟩:∃ f:Nat,f=1000000000000000000:=⟨_,rfl⟩; rw [← hfuel]
  exact bounds0 (d+12) ps hl ps.length 0 fuel (vv ps 0,vv ps 0) [] (by omega) (by omega))
end Go.Proofs.Ytkfppigcjdapnaa.AE

namespace Go.Proofs.Ytkfppigcjdapnaa.AE
set_option linter.unusedVariables false
set_option linter.unusedSimpArgs false
set_option linter.constructorNameAsVariable false
open Go Go.Proofs.Ytkfppigcjdapnaa.Geo
theorem s64 (d:Nat) (x:Int) (h:-9223372036854775808≤x) (h':x < 9223372036854775808):pcall M (d+1) 64 [.int .i64 x]=some (.agg [.int .i64 (hiw x),.int .u64 (low x)]):=told (r64 C0 d x) (by
 rw [show ((2:Int) ^ (min (Int.toNat 63) 64))=9223372036854775808 from by decide,Int.fdiv_eq_ediv_of_nonneg x (by decide)]
 have e1:x / 9223372036854775808=hiw x:=by unfold hiw; rw [i64w]; omega
 have e2:IntKind.wrap .u64 x=low x:=by unfold low; rw [u64w]
 rw [e1,e2])
def fitB (v:Int):Bool:=decide (-9223372036854775808≤v∧v < 9223372036854775808)
theorem s71 (d:Nat) (v:Int) (h:-170141183460469231731687303715884105728≤v) (h':v < 170141183460469231731687303715884105728):pcall M (d+2) 71 [.agg [.int .i64 (hiw v),.int .u64 (low v)]]=some (.tup [.int .i64 (if fitB v then v else 0),.bool (fitB v)]):=told (r71 C0 (d+1) _ _) (by
 have hw:-9223372036854775808≤IntKind.wrap .i64 (low v)∧IntKind.wrap .i64 (low v) < 9223372036854775808:=by rw [i64w]; omega
 rw [s64 d _ hw.1 hw.2,C0_agg2]
 simp only [at0,at1,C0_int]
 by_cases hf:fitB v=true
 ·have h2:=of_decide_eq_true hf
  have e:IntKind.wrap .i64 (low v)=v:=by unfold low; rw [i64w]; omega
  rw [e,hf]
  simp [cnd_f]
 ·have h2:¬ (-9223372036854775808≤v∧v < 9223372036854775808):=fun g=>hf (decide_eq_true g)
  have e:(hiw (IntKind.wrap .i64 (low v)) == hiw v)=false:=by
   rw [beq_eq_false_iff_ne]
   unfold hiw low
   rw [i64w,i64w,i64w]
   omega
  rw [e,Bool.eq_false_iff.mpr hf]
  simp [cnd_t])
theorem s63 (d:Nat) (v:Int) (h:-170141183460469231731687303715884105728≤v) (h':v < 170141183460469231731687303715884105728):pcall M (d+3) 63 [.agg [.int .i64 (hiw v),.int .u64 (low v)],.bool true]=some (.tup [.int .i64 (if fitB v then v else 0),.bool (fitB v)]):=told (r63 C0 (d+2) _ _ true) (by
 rw [s71 d v h h',C0_tup2]
 simp only [at0,at1,C0_int,C0_bool,Bool.not_true,cnd_f])
theorem add64_e (x y c:Int) (hx:0≤x) (hy:0≤y) (hc:0≤c) (hc':c≤1):add64E [.int .u64 x,.int .u64 y,.int .u64 c]=some (.tup [.int .u64 ((x+y+c) % 18446744073709551616),.int .u64 ((x+y+c) / 18446744073709551616)]):=by
 simp [add64E,hx,hy,hc,hc']
theorem s41 (d:Nat) (x y:Int) (hx:-9223372036854775808≤x) (hx':x < 9223372036854775808) (hy:-9223372036854775808≤y) (hy':y < 9223372036854775808) :
 pcall M (d+1) 41 [.agg [.int .i64 (hiw x),.int .u64 (low x)],.agg [.int .i64 (hiw y),.int .u64 (low y)]]=some (.tup [.agg [.int .i64 (hiw (x+y)),.int .u64 (low (x+y))],.bool true]):=told (r41 C0 d _ _ _ _) (by
 have l0:0≤low x∧low x < 18446744073709551616:=by unfold low; omega
 have l1:0≤low y∧low y < 18446744073709551616:=by unfold low; omega
 have hhx:hiw x=if x < 0 then -1 else 0:=by unfold hiw; rw [i64w]; split <;> omega
 have hhy:hiw y=if y < 0 then -1 else 0:=by unfold hiw; rw [i64w]; split <;> omega
 rw [add64_e _ _ _ l0.1 l1.1 (by decide) (by decide),C0_tup2]
 simp only [at0,at1,C0_int]
 rw [add64_e _ _ _ (by rw [u64w]; omega) (by rw [u64w]; omega) (by omega) (by omega),C0_tup2]
 simp only [at0,at1,C0_int,Int.add_zero]
 have e1:(low x+low y) % 18446744073709551616=low (x+y):=by unfold low; omega
 have e2:IntKind.wrap .i64 ((IntKind.wrap .u64 (hiw x)+IntKind.wrap .u64 (hiw y)+(low x+low y) / 18446744073709551616) % 18446744073709551616)=hiw (x+y):=by
  rw [u64w,u64w,i64w]
  have:hiw (x+y)=(x+y) / 18446744073709551616:=by unfold hiw; rw [i64_small (by omega) (by omega)]
  rw [this,hhx,hhy]
  unfold low
  split <;> split <;> omega
 rw [e1,e2]
 have hs:hiw (x+y)=if x+y < 0 then -1 else 0:=by unfold hiw; rw [i64w]; split <;> omega
 have b1:=bits_rng_i64 .xor (hiw x) (hiw (x+y))
 have b2:=bits_rng_i64 .xor (hiw y) (hiw (x+y))
 have key:¬ Go.bits .and .i64 (Go.bits .xor .i64 (hiw x) (hiw (x+y))) (Go.bits .xor .i64 (hiw y) (hiw (x+y))) < 0:=by
  rw [bits_and_sgn _ _ b1.1 b1.2 b2.1 b2.2,bits_xor_sgn _ _ (by rw [hhx]; split <;> omega) (by rw [hhx]; split <;> omega) (by rw [hs]; split <;> omega) (by rw [hs]; split <;> omega),bits_xor_sgn _ _ (by rw [hhy]; split <;> omega) (by rw [hhy]; split <;> omega) (by rw [hs]; split <;> omega) (by rw [hs]; split <;> omega),hhx,hhy,hs]
  split <;> split <;> split <;> omega
 rw [decide_eq_false key,cnd_f])
theorem s51 (d:Nat) (x y:Int) (hx:-9223372036854775808≤x) (hx':x < 9223372036854775808) (hy:-9223372036854775808≤y) (hy':y < 9223372036854775808) :
 pcall M (d+4) 51 [.int .i64 x,.int .i64 y]=some (.tup [.int .i64 (if fitB (x+y) then x+y else 0),.bool (fitB (x+y))]):=told (r51 C0 (d+3) _ _) (by
 rw [s64 (d+2) x hx hx',s64 (d+2) y hy hy',C0_agg2]
 simp only [at0,at1,C0_int,C0_agg2]
 rw [s41 (d+2) x y hx hx' hy hy',C0_tup2]
 simp only [at0,at1,C0_int,C0_agg2,C0_bool]
 rw [s63 d (x+y) (by omega) (by omega),C0_tup2]
 simp only [at0,at1,C0_int,C0_bool])
end Go.Proofs.Ytkfppigcjdapnaa.AE

namespace Go.Proofs.Ytkfppigcjdapnaa.AE
set_option linter.unusedVariables false
set_option linter.unusedSimpArgs false
set_option linter.constructorNameAsVariable false
open Go
def In126 (x:Int):Prop:=-85070591730234615865843651857942052864≤x∧x≤85070591730234615865843651857942052864
theorem hiw_div {x:Int} (h:-170141183460469231731687303715884105728≤x) (h':x < 170141183460469231731687303715884105728):hiw x=x / 18446744073709551616:=by
 unfold hiw; rw [i64_small (by omega) (by omega)]
theorem wadd (d:Nat) (x y:Int) (hx:In126 x) (hy:In126 y) (hz:In126 (x+y)):pcall M (d+1) 41 [wd x,wd y]=some (.tup [wd (x+y),.bool true]):=told (r41 C0 d _ _ _ _) (by
 unfold In126 at hx hy hz
 have l0:=low_rng x
 have l1:=low_rng y
 have hhx:=hiw_div (x:=x) (by omega) (by omega)
 have hhy:=hiw_div (x:=y) (by omega) (by omega)
 have hs:=hiw_div (x:=x+y) (by omega) (by omega)
 rw [add64_e _ _ _ l0.1 l1.1 (by decide) (by decide),C0_tup2]
 simp only [at0,at1,C0_int]
 rw [add64_e _ _ _ (by rw [u64w]; omega) (by rw [u64w]; omega) (by omega) (by omega),C0_tup2]
 simp only [at0,at1,C0_int,Int.add_zero]
 have e1:(low x+low y) % 18446744073709551616=low (x+y):=by unfold low; omega
 have e2:IntKind.wrap .i64 ((IntKind.wrap .u64 (hiw x)+IntKind.wrap .u64 (hiw y)+(low x+low y) / 18446744073709551616) % 18446744073709551616)=hiw (x+y):=by
  rw [u64w,u64w,i64w,hs,hhx,hhy]
  unfold low
  omega
 rw [e1,e2]
 have b1:=bits_rng_i64 .xor (hiw x) (hiw (x+y))
 have b2:=bits_rng_i64 .xor (hiw y) (hiw (x+y))
 have r1:=hiw_rng x
 have r2:=hiw_rng y
 have r3:=hiw_rng (x+y)
 have key:¬ Go.bits .and .i64 (Go.bits .xor .i64 (hiw x) (hiw (x+y))) (Go.bits .xor .i64 (hiw y) (hiw (x+y))) < 0:=by
  rw [bits_and_sgn _ _ b1.1 b1.2 b2.1 b2.2,bits_xor_sgn _ _ r1.1 r1.2 r3.1 r3.2,bits_xor_sgn _ _ r2.1 r2.2 r3.1 r3.2,hhx,hhy,hs]
  omega
 rw [decide_eq_false key,cnd_f])
theorem sub64_e (x y c:Int) (hx:0≤x) (hy:0≤y) (hy':y < 18446744073709551616) (hc:0≤c) (hc':c≤1):sub64E [.int .u64 x,.int .u64 y,.int .u64 c]=some (.tup [.int .u64 ((x - y - c) % 18446744073709551616),.int .u64 (if x < y+c then 1 else 0)]):=by
 simp [sub64E,hx,hy,hc,hc',hy']
theorem wsub (d:Nat) (x y:Int) (hx:In126 x) (hy:In126 y) (hz:In126 (x - y)):pcall M (d+1) 43 [wd x,wd y]=some (.tup [wd (x - y),.bool true]):=told (r43 C0 d _ _ _ _) (by
 unfold In126 at hx hy hz
 have l0:=low_rng x
 have l1:=low_rng y
 have hhx:=hiw_div (x:=x) (by omega) (by omega)
 have hhy:=hiw_div (x:=y) (by omega) (by omega)
 have hs:=hiw_div (x:=x - y) (by omega) (by omega)
 rw [sub64_e _ _ _ l0.1 l1.1 l1.2 (by decide) (by decide),C0_tup2]
 simp only [at0,at1,C0_int]
 rw [sub64_e _ _ _ (by rw [u64w]; omega) (by rw [u64w]; omega) (by rw [u64w]; omega) (by omega) (by omega),C0_tup2]
 simp only [at0,at1,C0_int,Int.sub_zero,Int.add_zero]
 have e1:(low x - low y) % 18446744073709551616=low (x - y):=by unfold low; omega
 have e2:IntKind.wrap .i64 ((IntKind.wrap .u64 (hiw x) - IntKind.wrap .u64 (hiw y) - (if low x < low y then 1 else 0)) % 18446744073709551616)=hiw (x - y):=by
  rw [u64w,u64w,i64w,hs,hhx,hhy]
  unfold low
  omega
 rw [e1,e2]
 have b1:=bits_rng_i64 .xor (hiw x) (hiw y)
 have b2:=bits_rng_i64 .xor (hiw x) (hiw (x - y))
 have r1:=hiw_rng x
 have r2:=hiw_rng y
 have r3:=hiw_rng (x - y)
 have key:¬ Go.bits .and .i64 (Go.bits .xor .i64 (hiw x) (hiw y)) (Go.bits .xor .i64 (hiw x) (hiw (x - y))) < 0:=by
  rw [bits_and_sgn _ _ b1.1 b1.2 b2.1 b2.2,bits_xor_sgn _ _ r1.1 r1.2 r2.1 r2.2,bits_xor_sgn _ _ r1.1 r1.2 r3.1 r3.2,hhx,hhy,hs]
  omega
 rw [decide_eq_false key,cnd_f])
end Go.Proofs.Ytkfppigcjdapnaa.AE

namespace Go.Proofs.Ytkfppigcjdapnaa.AE
set_option linter.unusedVariables false
set_option linter.unusedSimpArgs false
set_option linter.constructorNameAsVariable false
open Go Go.Proofs.Ytkfppigcjdapnaa.Geo
attribute [local irreducible] pcall C0
def nearP (p:Pt):Prop:=-1073741824≤p.1∧p.1≤1073741824∧-1073741824≤p.2∧p.2≤1073741824
theorem near_right {ps:List Pt} (h:rightB ps=true):∀ p ∈ ps,nearP p:=by
 unfold rightB at h
 have h2:=(Bool.and_eq_true_iff.mp h).2
 intro p hp
 have:farB p=false:=by
  cases hf:farB p
  ·rfl
  ·have:ps.any farB=true:=List.any_eq_true.mpr ⟨p,hp,hf⟩
   rw [this] at h2; cases h2
 unfold farB at this
 have:=of_decide_eq_true (by simpa using this:decide (-1073741824≤p.1∧p.1≤1073741824∧-1073741824≤p.2∧p.2≤1073741824)=true)
 exact this
theorem vv_near {ps:List Pt} (h:∀ p ∈ ps,nearP p) {i:Nat} (hi:i < ps.length):nearP (vv ps i):=by
 have:vv ps i=ps[i]:=by simp [vv,List.getD_eq_getElem?_getD,hi]
 rw [this]; exact h _ (List.getElem_mem _)
def leftSum (ps:List Pt):Nat→Nat→Int→Int
 | 0,_,s=>s
 | m+1,i,s=>leftSum ps m (i+1) (s+(vv ps i).1 * (vv ps (nx ps i)).2 - (vv ps i).2 * (vv ps (nx ps i)).1)
def leftB (ps:List Pt):Bool:=rightB ps && decide (leftSum ps ps.length 0 0 > 0)
theorem prod60 {x y:Int} (hx:-1073741824≤x) (hx':x≤1073741824) (hy:-1073741824≤y) (hy':y≤1073741824):-1152921504606846976≤x * y∧x * y≤1152921504606846976:=by
 have:=prod_bd (m:=1073741824) hx hx' hy hy'
 omega
theorem wd0:(.agg [.int .i64 0,.int .u64 0]:AV)=wd 0:=by
 have e1:hiw 0=0:=by decide
 have e2:low 0=0:=by decide
 rw [wd,e1,e2]
theorem s44 (d:Nat) (a:Int) (h:In126 a):pcall M (d+4) 44 [wd a]=some (.int .i64 (cmp a 0)):=told (r44 C0 (d+3) _ _) (by
 unfold In126 at h
 rw [wd0]
 exact pl_int (s54 d a 0 (by omega) (by omega) (by omega) (by omega)))
theorem cmp_pos (a:Int):decide (cmp a 0 > 0)=decide (a > 0):=by
 rw [decide_eq_decide]; unfold cmp; split <;> (try split) <;> omega
theorem left0 (d:Nat) (ps:List Pt) (hl:ps.length≤8) (hn:∀ p ∈ ps,nearP p):∀ (m i f:Nat) (s:Int) (G:Heap),i+m=ps.length→m < f →
 -(2305843009213693952 * (i:Int))≤s→s≤2305843009213693952 * (i:Int) →
 L18_0 (d+4) (ps.map pt) (.ptr 0 0 0) (ps.length:Nat) f (i:Nat) ([some ⟨E57,[wd s]⟩] ++ G)=some (.bool (decide (leftSum ps m i s > 0))):=by
 intro m
 induction m with
 | zero =>
   intro i f s G hi hf h1 h2
   obtain ⟨f,rfl⟩:∃ g,f=g+1:=⟨f - 1,by omega⟩
   rw [L18_0,decide_eq_false (by omega),cnd_f,X18_0_0]
   repeat with_reducible first | refine tt sh_ptr ?_ | refine tt sh_fptr ?_ | refine tt w2 ?_ | refine tt w3 ?_ | refine tt w8 ?_ | refine tt w9 ?_ | refine tt wf ?_ | refine tt wg ?_ | refine tt wh ?_ | refine tt wi ?_ | refine tt wj ?_ | refine tt wk ?_ | refine tt wl ?_ | refine tt wn ?_ | refine tt c_ort ?_ | refine tt c_nt ?_ | refine tt c_nf ?_ | refine tt (cnd_t _ _) ?_ | refine tt (cnd_f _ _) ?_ | refine tt w6 ?_ | refine tt w4 ?_ | refine tt w5 ?_ | refine tt w7 ?_ | refine tt wm ?_ | refine tt wo ?_ | refine tt wx ?_ | refine tt nil_ptr ?_ | refine tt len_lst ?_ | refine tt len_zsl ?_
   refine Eq.trans (pl_int (s44 d s (by unfold In126; omega))) ?_
   rw [cmp_pos]
   exact f_free (by rfl)
 | succ m ih =>
   intro i f s G hi hf h1 h2
   obtain ⟨f,rfl⟩:∃ g,f=g+1:=⟨f - 1,by omega⟩
   have hil:i < ps.length:=by omega
   have n1:=vv_near hn hil
   have n2:=vv_near hn (nx_lt hil)
   unfold nearP at n1 n2
   have p1:=prod60 (x:=(vv ps i).1) (y:=(vv ps (nx ps i)).2) (by omega) (by omega) (by omega) (by omega)
   have p2:=prod60 (x:=(vv ps i).2) (y:=(vv ps (nx ps i)).1) (by omega) (by omega) (by omega) (by omega)
   rw [L18_0,decide_eq_true (by omega),cnd_t]
   repeat with_reducible first | refine tt sh_ptr ?_ | refine tt sh_fptr ?_ | refine tt w2 ?_ | refine tt w3 ?_ | refine tt w8 ?_ | refine tt w9 ?_ | refine tt wf ?_ | refine tt wg ?_ | refine tt wh ?_ | refine tt wi ?_ | refine tt wj ?_ | refine tt wk ?_ | refine tt wl ?_ | refine tt wn ?_ | refine tt c_ort ?_ | refine tt c_nt ?_ | refine tt c_nf ?_ | refine tt (cnd_t _ _) ?_ | refine tt (cnd_f _ _) ?_ | refine tt w6 ?_ | refine tt w4 ?_ | refine tt w5 ?_ | refine tt w7 ?_ | refine tt wm ?_ | refine tt wo ?_ | refine tt wx ?_ | refine tt nil_ptr ?_ | refine tt len_lst ?_ | refine tt len_zsl ?_
   refine Eq.trans (pl_tup (s39 (d+3) ps i hil (by omega)) (by rfl)) ?_
   repeat with_reducible first | refine tt sh_ptr ?_ | refine tt sh_fptr ?_ | refine tt w2 ?_ | refine tt w3 ?_ | refine tt w8 ?_ | refine tt w9 ?_ | refine tt wf ?_ | refine tt wg ?_ | refine tt wh ?_ | refine tt wi ?_ | refine tt wj ?_ | refine tt wk ?_ | refine tt wl ?_ | refine tt wn ?_ | refine tt c_ort ?_ | refine tt c_nt ?_ | refine tt c_nf ?_ | refine tt (cnd_t _ _) ?_ | refine tt (cnd_f _ _) ?_ | refine tt w6 ?_ | refine tt w4 ?_ | refine tt w5 ?_ | refine tt w7 ?_ | refine tt wm ?_ | refine tt wo ?_ | refine tt wx ?_ | refine tt nil_ptr ?_ | refine tt len_lst ?_ | refine tt len_zsl ?_
   refine Eq.trans h_more ?_
   repeat with_reducible first | refine tt sh_ptr ?_ | refine tt sh_fptr ?_ | refine tt w2 ?_ | refine tt w3 ?_ | refine tt w8 ?_ | refine tt w9 ?_ | refine tt wf ?_ | refine tt wg ?_ | refine tt wh ?_ | refine tt wi ?_ | refine tt wj ?_ | refine tt wk ?_ | refine tt wl ?_ | refine tt wn ?_ | refine tt c_ort ?_ | refine tt c_nt ?_ | refine tt c_nf ?_ | refine tt (cnd_t _ _) ?_ | refine tt (cnd_f _ _) ?_ | refine tt w6 ?_ | refine tt w4 ?_ | refine tt w5 ?_ | refine tt w7 ?_ | refine tt wm ?_ | refine tt wo ?_ | refine tt wx ?_ | refine tt nil_ptr ?_ | refine tt len_lst ?_ | refine tt len_zsl ?_
   refine Eq.trans (pl_agg (s42 (d+2) _ _ (by omega) (by omega) (by omega) (by omega)) (by rfl)) ?_
   repeat with_reducible first | refine tt sh_ptr ?_ | refine tt sh_fptr ?_ | refine tt w2 ?_ | refine tt w3 ?_ | refine tt w8 ?_ | refine tt w9 ?_ | refine tt wf ?_ | refine tt wg ?_ | refine tt wh ?_ | refine tt wi ?_ | refine tt wj ?_ | refine tt wk ?_ | refine tt wl ?_ | refine tt wn ?_ | refine tt c_ort ?_ | refine tt c_nt ?_ | refine tt c_nf ?_ | refine tt (cnd_t _ _) ?_ | refine tt (cnd_f _ _) ?_ | refine tt w6 ?_ | refine tt w4 ?_ | refine tt w5 ?_ | refine tt w7 ?_ | refine tt wm ?_ | refine tt wo ?_ | refine tt wx ?_ | refine tt nil_ptr ?_ | refine tt len_lst ?_ | refine tt len_zsl ?_
   refine Eq.trans (pl_tup (wadd (d+3) s _ (by unfold In126; omega) (by unfold In126; omega) (by unfold In126; omega)) (by rfl)) ?_
   repeat with_reducible first | refine tt sh_ptr ?_ | refine tt sh_fptr ?_ | refine tt w2 ?_ | refine tt w3 ?_ | refine tt w8 ?_ | refine tt w9 ?_ | refine tt wf ?_ | refine tt wg ?_ | refine tt wh ?_ | refine tt wi ?_ | refine tt wj ?_ | refine tt wk ?_ | refine tt wl ?_ | refine tt wn ?_ | refine tt c_ort ?_ | refine tt c_nt ?_ | refine tt c_nf ?_ | refine tt (cnd_t _ _) ?_ | refine tt (cnd_f _ _) ?_ | refine tt w6 ?_ | refine tt w4 ?_ | refine tt w5 ?_ | refine tt w7 ?_ | refine tt wm ?_ | refine tt wo ?_ | refine tt wx ?_ | refine tt nil_ptr ?_ | refine tt len_lst ?_ | refine tt len_zsl ?_
   refine Eq.trans (pl_agg (s42 (d+2) _ _ (by omega) (by omega) (by omega) (by omega)) (by rfl)) ?_
   repeat with_reducible first | refine tt sh_ptr ?_ | refine tt sh_fptr ?_ | refine tt w2 ?_ | refine tt w3 ?_ | refine tt w8 ?_ | refine tt w9 ?_ | refine tt wf ?_ | refine tt wg ?_ | refine tt wh ?_ | refine tt wi ?_ | refine tt wj ?_ | refine tt wk ?_ | refine tt wl ?_ | refine tt wn ?_ | refine tt c_ort ?_ | refine tt c_nt ?_ | refine tt c_nf ?_ | refine tt (cnd_t _ _) ?_ | refine tt (cnd_f _ _) ?_ | refine tt w6 ?_ | refine tt w4 ?_ | refine tt w5 ?_ | refine tt w7 ?_ | refine tt wm ?_ | refine tt wo ?_ | refine tt wx ?_ | refine tt nil_ptr ?_ | refine tt len_lst ?_ | refine tt len_zsl ?_
   refine Eq.trans (pl_tup (wsub (d+3) (s+(vv ps i).1 * (vv ps (nx ps i)).2) _ (by unfold In126; omega) (by unfold In126; omega) (by unfold In126; omega)) (by rfl)) ?_
   repeat with_reducible first | refine tt sh_ptr ?_ | refine tt sh_fptr ?_ | refine tt w2 ?_ | refine tt w3 ?_ | refine tt w8 ?_ | refine tt w9 ?_ | refine tt wf ?_ | refine tt wg ?_ | refine tt wh ?_ | refine tt wi ?_ | refine tt wj ?_ | refine tt wk ?_ | refine tt wl ?_ | refine tt wn ?_ | refine tt c_ort ?_ | refine tt c_nt ?_ | refine tt c_nf ?_ | refine tt (cnd_t _ _) ?_ | refine tt (cnd_f _ _) ?_ | refine tt w6 ?_ | refine tt w4 ?_ | refine tt w5 ?_ | refine tt w7 ?_ | refine tt wm ?_ | refine tt wo ?_ | refine tt wx ?_ | refine tt nil_ptr ?_ | refine tt len_lst ?_ | refine tt len_zsl ?_
   rw [wsuc (by omega)]
   exact ih (i+1) f (s+(vv ps i).1 * (vv ps (nx ps i)).2 - (vv ps i).2 * (vv ps (nx ps i)).1) _ (by omega) (by omega) (by omega) (by omega)
theorem s18 (d:Nat) (ps:List Pt) (hl:ps.length≤140737488355328):pcall M (d+13) 18 [.lst (ps.map pt)]=some (.bool (leftB ps)):=told (q18 (d+12) _) (by
 repeat with_reducible first | refine tt sh_ptr ?_ | refine tt sh_fptr ?_ | refine tt w2 ?_ | refine tt w3 ?_ | refine tt w8 ?_ | refine tt w9 ?_ | refine tt wf ?_ | refine tt wg ?_ | refine tt wh ?_ | refine tt wi ?_ | refine tt wj ?_ | refine tt wk ?_ | refine tt wl ?_ | refine tt wn ?_ | refine tt c_ort ?_ | refine tt c_nt ?_ | refine tt c_nf ?_ | refine tt (cnd_t _ _) ?_ | refine tt (cnd_f _ _) ?_ | refine tt w6 ?_ | refine tt w4 ?_ | refine tt w5 ?_ | refine tt w7 ?_ | refine tt wm ?_ | refine tt wo ?_ | refine tt wx ?_ | refine tt nil_ptr ?_ | refine tt len_lst ?_ | refine tt len_zsl ?_
 refine Eq.trans (pl_bool (s15 d ps hl)) ?_
 repeat with_reducible first | refine tt sh_ptr ?_ | refine tt sh_fptr ?_ | refine tt w2 ?_ | refine tt w3 ?_ | refine tt w8 ?_ | refine tt w9 ?_ | refine tt wf ?_ | refine tt wg ?_ | refine tt wh ?_ | refine tt wi ?_ | refine tt wj ?_ | refine tt wk ?_ | refine tt wl ?_ | refine tt wn ?_ | refine tt c_ort ?_ | refine tt c_nt ?_ | refine tt c_nf ?_ | refine tt (cnd_t _ _) ?_ | refine tt (cnd_f _ _) ?_ | refine tt w6 ?_ | refine tt w4 ?_ | refine tt w5 ?_ | refine tt w7 ?_ | refine tt wm ?_ | refine tt wo ?_ | refine tt wx ?_ | refine tt nil_ptr ?_ | refine tt len_lst ?_ | refine tt len_zsl ?_
 unfold leftB
 cases hr:rightB ps
 ·repeat with_reducible first | refine tt sh_ptr ?_ | refine tt sh_fptr ?_ | refine tt w2 ?_ | refine tt w3 ?_ | refine tt w8 ?_ | refine tt w9 ?_ | refine tt wf ?_ | refine tt wg ?_ | refine tt wh ?_ | refine tt wi ?_ | refine tt wj ?_ | refine tt wk ?_ | refine tt wl ?_ | refine tt wn ?_ | refine tt c_ort ?_ | refine tt c_nt ?_ | refine tt c_nf ?_ | refine tt (cnd_t _ _) ?_ | refine tt (cnd_f _ _) ?_ | refine tt w6 ?_ | refine tt w4 ?_ | refine tt w5 ?_ | refine tt w7 ?_ | refine tt wm ?_ | refine tt wo ?_ | refine tt wx ?_ | refine tt nil_ptr ?_ | refine tt len_lst ?_ | refine tt len_zsl ?_
  exact f_free (by rfl)
 ·have h3:=right_ok hr
  repeat with_reducible first | refine tt sh_ptr ?_ | refine tt sh_fptr ?_ | refine tt w2 ?_ | refine tt w3 ?_ | refine tt w8 ?_ | refine tt w9 ?_ | refine tt wf ?_ | refine tt wg ?_ | refine tt wh ?_ | refine tt wi ?_ | refine tt wj ?_ | refine tt wk ?_ | refine tt wl ?_ | refine tt wn ?_ | refine tt c_ort ?_ | refine tt c_nt ?_ | refine tt c_nf ?_ | refine tt (cnd_t _ _) ?_ | refine tt (cnd_f _ _) ?_ | refine tt w6 ?_ | refine tt w4 ?_ | refine tt w5 ?_ | refine tt w7 ?_ | refine tt wm ?_ | refine tt wo ?_ | refine tt wx ?_ | refine tt nil_ptr ?_ | refine tt len_lst ?_ | refine tt len_zsl ?_
  refine Eq.trans h_start ?_
  repeat with_reducible first | refine tt sh_ptr ?_ | refine tt sh_fptr ?_ | refine tt w2 ?_ | refine tt w3 ?_ | refine tt w8 ?_ | refine tt w9 ?_ | refine tt wf ?_ | refine tt wg ?_ | refine tt wh ?_ | refine tt wi ?_ | refine tt wj ?_ | refine tt wk ?_ | refine tt wl ?_ | refine tt wn ?_ | refine tt c_ort ?_ | refine tt c_nt ?_ | refine tt c_nf ?_ | refine tt (cnd_t _ _) ?_ | refine tt (cnd_f _ _) ?_ | refine tt w6 ?_ | refine tt w4 ?_ | refine tt w5 ?_ | refine tt w7 ?_ | refine tt wm ?_ | refine tt wo ?_ | refine tt wx ?_ | refine tt nil_ptr ?_ | refine tt len_lst ?_ | refine tt len_zsl ?_
  rw [pmap_len,wd0]
  obtain ⟨fuel,hfuel⟩:∃ f:Nat,f=1000000000000000000:=⟨_,rfl⟩; rw [← hfuel]
  exact left0 (d+8) ps h3.2.1 (near_right hr) ps.length 0 fuel 0 [] (by omega) (by omega) (by omega) (by omega))
def bk (ps:List Pt) (i:Nat):Pt:=vv ps ((ps.length - i) % ps.length)
def backL (ps:List Pt):List Pt:=(List.range ps.length).map (bk ps)
theorem back_len (ps:List Pt):(backL ps).length=ps.length:=by simp [backL]
theorem ptE (p:Pt):elOk E24 (pt p)=true:=rfl
theorem snap_pts {H:Heap} {e:ETy} {v:AV} {l:List Pt} (ho:Own H e v (l.map pt)):snap 12 H v=.lst (l.map pt) :=
 snap_own (k:=10) ho fun x hx=>by
  obtain ⟨n,_,rfl⟩:=List.mem_map.mp hx
  rfl
end Go.Proofs.Ytkfppigcjdapnaa.AE

namespace Go.Proofs.Ytkfppigcjdapnaa.AE
set_option linter.unusedVariables false
set_option linter.unusedSimpArgs false
set_option linter.constructorNameAsVariable false
open Go Go.Proofs.Ytkfppigcjdapnaa.Geo
def In64 (x:Int):Prop:=-9223372036854775808≤x∧x < 9223372036854775808
def mvB (p:Pt) (x y:Int):Bool:=decide (OkP p∧OkP (mv p x y))
theorem mvB_t {p:Pt} {x y:Int}:mvB p x y=true ↔ OkP p∧OkP (mv p x y):=decide_eq_true_iff
theorem fit_ok {x:Int} (h:Okc x):fitB x=true:=decide_eq_true (by unfold Okc at h; omega)
theorem s25 (d:Nat) (p:Pt) (x y:Int) (h1:In64 p.1) (h2:In64 p.2) (h3:In64 x) (h4:In64 y) :
 pcall M (d+7) 25 [pt p,.int .i64 x,.int .i64 y]=some (if mvB p x y then .tup [pt (mv p x y),.bool true] else .tup [pt (0,0),.bool false]):=told (r25 C0 (d+6) _ _ _ _) (by
 rw [s51 (d+2) _ _ h1.1 h1.2 h3.1 h3.2,C0_tup2]
 simp only [at0,at1,C0_int,C0_bool]
 rw [s51 (d+2) _ _ h2.1 h2.2 h4.1 h4.2,C0_tup2]
 simp only [at0,at1,C0_int,C0_bool]
 by_cases f1:fitB (p.1+x)=true
 ·by_cases f2:fitB (p.2+y)=true
  ·rw [f1,f2]
   simp only [if_true]
   have h22:pcall M (d+6) 52 [.lst [.agg [.int .i64 p.1,.int .i64 p.2],.agg [.int .i64 (p.1+x),.int .i64 (p.2+y)]]]=some (.bool (okB [p,mv p x y])):=s52 d [p,mv p x y] (by simp)
   rw [h22,C0_bool]
   have hk:okB [p,mv p x y]=mvB p x y:=by rw [Bool.eq_iff_iff,okB_t,mvB_t]; simp
   rw [hk]
   cases mvB p x y <;> rfl
  ·have hm:¬ mvB p x y=true:=fun g=>f2 (fit_ok (mvB_t.mp g).2.2)
   rw [if_neg hm,f1,Bool.eq_false_iff.mpr f2]; rfl
 ·have hm:¬ mvB p x y=true:=fun g=>f1 (fit_ok (mvB_t.mp g).2.1)
  rw [if_neg hm,Bool.eq_false_iff.mpr f1]; rfl)
end Go.Proofs.Ytkfppigcjdapnaa.AE

namespace Go.Proofs.Ytkfppigcjdapnaa.AE
set_option linter.unusedVariables false
set_option linter.unusedSimpArgs false
set_option linter.constructorNameAsVariable false
open Go Go.Proofs.Ytkfppigcjdapnaa.Geo
attribute [local irreducible] pcall C0
def mvL (ps:List Pt) (x y:Int):List Pt:=ps.map fun p=>mv p x y
def moveB (ps:List Pt) (x y:Int):Bool:=ps.all (fun p=>mvB p x y) && (rightB ps && rightB (mvL ps x y))
def moveR (ps:List Pt) (x y:Int):AV:=bif moveB ps x y then .tup [.lst ((mvL ps x y).map pt),.bool true] else .tup [.lst [],.bool false]
theorem snp_pts {H:Heap} {e:ETy} {v:AV} {l:List Pt} {K:List AV→Bool→Ans} (ho:Own H e v (l.map pt)) (hne:l ≠ []):C0.snp H [v] K=K [.lst (l.map pt)] false:=by
 have hs:=snap_pts ho
 rcases ho with ⟨h,_⟩ | ⟨id,rfl,h⟩
 ·exact absurd (by simpa using h) hne
 ·rw [snp_id (by rfl)]
  simp only [List.map_cons,List.map_nil]
  rw [show DEPTH=12 from rfl,hs]
theorem snap_tupP {H:Heap} {v:AV} {l:List Pt} {b:Bool} (ho:Own H E24 v (l.map pt)):snap 12 H (.tup [v,.bool b])=.tup [.lst (l.map pt),.bool b]:=by
 have:snap 11 H v=.lst (l.map pt):=snap_own (k:=9) ho fun x hx=>by
  obtain ⟨n,_,rfl⟩:=List.mem_map.mp hx
  rfl
 show AV.tup [snap 11 H v,.bool b]=_
 rw [this]
theorem take_vv {ps:List Pt} {i:Nat} (h:i < ps.length):ps.take (i+1)=ps.take i ++ [vv ps i]:=by
 rw [List.take_add_one]; unfold vv; rw [List.getD_eq_getElem?_getD,List.getElem?_eq_getElem h]; rfl
theorem moveR_no {ps:List Pt} {x y:Int} (h:moveB ps x y=false):moveR ps x y=.tup [.lst [],.bool false]:=by unfold moveR; rw [h]; rfl
theorem move0 (d:Nat) (ps:List Pt) (x y:Int) (hl:ps.length≤1000000) (h64:∀ p ∈ ps,In64 p.1∧In64 p.2) (hx:In64 x) (hy:In64 y):∀ (m i f:Nat) (v:AV) (H:Heap),i+m=ps.length→m < f →
 Own H E24 v ((mvL (ps.take i) x y).map pt)→(∀ p ∈ ps.take i,mvB p x y=true) →
 L24_0 (d+12) (ps.map pt) x y (ps.length:Nat) f v (i:Nat) H=some (moveR ps x y):=by
 intro m
 induction m with
 | zero =>
   intro i f v H hi hf ho ha
   obtain ⟨f,rfl⟩:∃ g,f=g+1:=⟨f - 1,by omega⟩
   rw [List.take_of_length_le (by omega)] at ho ha
   rw [L24_0,decide_eq_false (by omega),cnd_f,X24_0_0]
   repeat with_reducible first | refine tt sh_ptr ?_ | refine tt sh_fptr ?_ | refine tt w2 ?_ | refine tt w3 ?_ | refine tt w8 ?_ | refine tt w9 ?_ | refine tt wf ?_ | refine tt wg ?_ | refine tt wh ?_ | refine tt wi ?_ | refine tt wj ?_ | refine tt wk ?_ | refine tt wl ?_ | refine tt wn ?_ | refine tt c_ort ?_ | refine tt c_nt ?_ | refine tt c_nf ?_ | refine tt (cnd_t _ _) ?_ | refine tt (cnd_f _ _) ?_ | refine tt w6 ?_ | refine tt w4 ?_ | refine tt w5 ?_ | refine tt w7 ?_ | refine tt wm ?_ | refine tt wo ?_ | refine tt wx ?_ | refine tt nil_ptr ?_ | refine tt len_lst ?_ | refine tt len_zsl ?_
   refine Eq.trans (pl_bool (s15 d ps (by omega))) ?_
   repeat with_reducible first | refine tt sh_ptr ?_ | refine tt sh_fptr ?_ | refine tt w2 ?_ | refine tt w3 ?_ | refine tt w8 ?_ | refine tt w9 ?_ | refine tt wf ?_ | refine tt wg ?_ | refine tt wh ?_ | refine tt wi ?_ | refine tt wj ?_ | refine tt wk ?_ | refine tt wl ?_ | refine tt wn ?_ | refine tt c_ort ?_ | refine tt c_nt ?_ | refine tt c_nf ?_ | refine tt (cnd_t _ _) ?_ | refine tt (cnd_f _ _) ?_ | refine tt w6 ?_ | refine tt w4 ?_ | refine tt w5 ?_ | refine tt w7 ?_ | refine tt wm ?_ | refine tt wo ?_ | refine tt wx ?_ | refine tt nil_ptr ?_ | refine tt len_lst ?_ | refine tt len_zsl ?_
   have hall:ps.all (fun p=>mvB p x y)=true:=List.all_eq_true.mpr ha
   cases hr:rightB ps
   ·repeat with_reducible first | refine tt sh_ptr ?_ | refine tt sh_fptr ?_ | refine tt w2 ?_ | refine tt w3 ?_ | refine tt w8 ?_ | refine tt w9 ?_ | refine tt wf ?_ | refine tt wg ?_ | refine tt wh ?_ | refine tt wi ?_ | refine tt wj ?_ | refine tt wk ?_ | refine tt wl ?_ | refine tt wn ?_ | refine tt c_ort ?_ | refine tt c_nt ?_ | refine tt c_nf ?_ | refine tt (cnd_t _ _) ?_ | refine tt (cnd_f _ _) ?_ | refine tt w6 ?_ | refine tt w4 ?_ | refine tt w5 ?_ | refine tt w7 ?_ | refine tt wm ?_ | refine tt wo ?_ | refine tt wx ?_ | refine tt nil_ptr ?_ | refine tt len_lst ?_ | refine tt len_zsl ?_
    rw [moveR_no (by unfold moveB; rw [hr]; simp)]
    rw [C0_fin]; rfl
   ·repeat with_reducible first | refine tt sh_ptr ?_ | refine tt sh_fptr ?_ | refine tt w2 ?_ | refine tt w3 ?_ | refine tt w8 ?_ | refine tt w9 ?_ | refine tt wf ?_ | refine tt wg ?_ | refine tt wh ?_ | refine tt wi ?_ | refine tt wj ?_ | refine tt wk ?_ | refine tt wl ?_ | refine tt wn ?_ | refine tt c_ort ?_ | refine tt c_nt ?_ | refine tt c_nf ?_ | refine tt (cnd_t _ _) ?_ | refine tt (cnd_f _ _) ?_ | refine tt w6 ?_ | refine tt w4 ?_ | refine tt w5 ?_ | refine tt w7 ?_ | refine tt wm ?_ | refine tt wo ?_ | refine tt wx ?_ | refine tt nil_ptr ?_ | refine tt len_lst ?_ | refine tt len_zsl ?_
    have h3:=(right_ok hr).1
    refine Eq.trans (snp_pts ho (by intro h; have:=congrArg List.length h; unfold mvL at this; rw [List.length_map,List.length_nil] at this; omega)) ?_
    refine Eq.trans (pl_bool (s15 d (mvL ps x y) (by simp [mvL]; omega))) ?_
    repeat with_reducible first | refine tt sh_ptr ?_ | refine tt sh_fptr ?_ | refine tt w2 ?_ | refine tt w3 ?_ | refine tt w8 ?_ | refine tt w9 ?_ | refine tt wf ?_ | refine tt wg ?_ | refine tt wh ?_ | refine tt wi ?_ | refine tt wj ?_ | refine tt wk ?_ | refine tt wl ?_ | refine tt wn ?_ | refine tt c_ort ?_ | refine tt c_nt ?_ | refine tt c_nf ?_ | refine tt (cnd_t _ _) ?_ | refine tt (cnd_f _ _) ?_ | refine tt w6 ?_ | refine tt w4 ?_ | refine tt w5 ?_ | refine tt w7 ?_ | refine tt wm ?_ | refine tt wo ?_ | refine tt wx ?_ | refine tt nil_ptr ?_ | refine tt len_lst ?_ | refine tt len_zsl ?_
    cases hm:rightB (mvL ps x y)
    ·repeat with_reducible first | refine tt sh_ptr ?_ | refine tt sh_fptr ?_ | refine tt w2 ?_ | refine tt w3 ?_ | refine tt w8 ?_ | refine tt w9 ?_ | refine tt wf ?_ | refine tt wg ?_ | refine tt wh ?_ | refine tt wi ?_ | refine tt wj ?_ | refine tt wk ?_ | refine tt wl ?_ | refine tt wn ?_ | refine tt c_ort ?_ | refine tt c_nt ?_ | refine tt c_nf ?_ | refine tt (cnd_t _ _) ?_ | refine tt (cnd_f _ _) ?_ | refine tt w6 ?_ | refine tt w4 ?_ | refine tt w5 ?_ | refine tt w7 ?_ | refine tt wm ?_ | refine tt wo ?_ | refine tt wx ?_ | refine tt nil_ptr ?_ | refine tt len_lst ?_ | refine tt len_zsl ?_
     rw [moveR_no (by unfold moveB; rw [hm]; simp)]
     rw [C0_fin]; rfl
    ·repeat with_reducible first | refine tt sh_ptr ?_ | refine tt sh_fptr ?_ | refine tt w2 ?_ | refine tt w3 ?_ | refine tt w8 ?_ | refine tt w9 ?_ | refine tt wf ?_ | refine tt wg ?_ | refine tt wh ?_ | refine tt wi ?_ | refine tt wj ?_ | refine tt wk ?_ | refine tt wl ?_ | refine tt wn ?_ | refine tt c_ort ?_ | refine tt c_nt ?_ | refine tt c_nf ?_ | refine tt (cnd_t _ _) ?_ | refine tt (cnd_f _ _) ?_ | refine tt w6 ?_ | refine tt w4 ?_ | refine tt w5 ?_ | refine tt w7 ?_ | refine tt wm ?_ | refine tt wo ?_ | refine tt wx ?_ | refine tt nil_ptr ?_ | refine tt len_lst ?_ | refine tt len_zsl ?_
     rw [C0_fin,snap_tupP ho]
     have:moveB ps x y=true:=by unfold moveB; rw [hall,hr,hm]; rfl
     unfold moveR; rw [this]; rfl
 | succ m ih =>
   intro i f v H hi hf ho ha
   obtain ⟨f,rfl⟩:∃ g,f=g+1:=⟨f - 1,by omega⟩
   have hil:i < ps.length:=by omega
   have hmem:vv ps i ∈ ps:=by
    have:vv ps i=ps[i]:=by simp [vv,List.getD_eq_getElem?_getD,hil]
    rw [this]; exact List.getElem_mem _
   have hp:=h64 _ hmem
   rw [L24_0,decide_eq_true (by omega),cnd_t]
   refine Eq.trans (ix_pts hil) ?_
   repeat with_reducible first | refine tt sh_ptr ?_ | refine tt sh_fptr ?_ | refine tt w2 ?_ | refine tt w3 ?_ | refine tt w8 ?_ | refine tt w9 ?_ | refine tt wf ?_ | refine tt wg ?_ | refine tt wh ?_ | refine tt wi ?_ | refine tt wj ?_ | refine tt wk ?_ | refine tt wl ?_ | refine tt wn ?_ | refine tt c_ort ?_ | refine tt c_nt ?_ | refine tt c_nf ?_ | refine tt (cnd_t _ _) ?_ | refine tt (cnd_f _ _) ?_ | refine tt w6 ?_ | refine tt w4 ?_ | refine tt w5 ?_ | refine tt w7 ?_ | refine tt wm ?_ | refine tt wo ?_ | refine tt wx ?_ | refine tt nil_ptr ?_ | refine tt len_lst ?_ | refine tt len_zsl ?_
   refine Eq.trans h_any ?_
   repeat with_reducible first | refine tt sh_ptr ?_ | refine tt sh_fptr ?_ | refine tt w2 ?_ | refine tt w3 ?_ | refine tt w8 ?_ | refine tt w9 ?_ | refine tt wf ?_ | refine tt wg ?_ | refine tt wh ?_ | refine tt wi ?_ | refine tt wj ?_ | refine tt wk ?_ | refine tt wl ?_ | refine tt wn ?_ | refine tt c_ort ?_ | refine tt c_nt ?_ | refine tt c_nf ?_ | refine tt (cnd_t _ _) ?_ | refine tt (cnd_f _ _) ?_ | refine tt w6 ?_ | refine tt w4 ?_ | refine tt w5 ?_ | refine tt w7 ?_ | refine tt wm ?_ | refine tt wo ?_ | refine tt wx ?_ | refine tt nil_ptr ?_ | refine tt len_lst ?_ | refine tt len_zsl ?_
   have mm:=s25 (d+5) (vv ps i) x y hp.1 hp.2 hx hy
   cases hv:mvB (vv ps i) x y
   ·rw [hv,if_neg (by decide)] at mm
    refine Eq.trans (pl_tup mm (by rfl)) ?_
    repeat with_reducible first | refine tt sh_ptr ?_ | refine tt sh_fptr ?_ | refine tt w2 ?_ | refine tt w3 ?_ | refine tt w8 ?_ | refine tt w9 ?_ | refine tt wf ?_ | refine tt wg ?_ | refine tt wh ?_ | refine tt wi ?_ | refine tt wj ?_ | refine tt wk ?_ | refine tt wl ?_ | refine tt wn ?_ | refine tt c_ort ?_ | refine tt c_nt ?_ | refine tt c_nf ?_ | refine tt (cnd_t _ _) ?_ | refine tt (cnd_f _ _) ?_ | refine tt w6 ?_ | refine tt w4 ?_ | refine tt w5 ?_ | refine tt w7 ?_ | refine tt wm ?_ | refine tt wo ?_ | refine tt wx ?_ | refine tt nil_ptr ?_ | refine tt len_lst ?_ | refine tt len_zsl ?_
    rw [E24_0,moveR_no (by
     unfold moveB
     rw [show ps.all (fun p=>mvB p x y)=false from List.all_eq_false.mpr ⟨_,hmem,by rw [hv]; decide⟩]; rfl)]
    rw [C0_fin]; rfl
   ·rw [hv,if_pos rfl] at mm
    refine Eq.trans (pl_tup mm (by rfl)) ?_
    repeat with_reducible first | refine tt sh_ptr ?_ | refine tt sh_fptr ?_ | refine tt w2 ?_ | refine tt w3 ?_ | refine tt w8 ?_ | refine tt w9 ?_ | refine tt wf ?_ | refine tt wg ?_ | refine tt wh ?_ | refine tt wi ?_ | refine tt wj ?_ | refine tt wk ?_ | refine tt wl ?_ | refine tt wn ?_ | refine tt c_ort ?_ | refine tt c_nt ?_ | refine tt c_nf ?_ | refine tt (cnd_t _ _) ?_ | refine tt (cnd_f _ _) ?_ | refine tt w6 ?_ | refine tt w4 ?_ | refine tt w5 ?_ | refine tt w7 ?_ | refine tt wm ?_ | refine tt wo ?_ | refine tt wx ?_ | refine tt nil_ptr ?_ | refine tt len_lst ?_ | refine tt len_zsl ?_
    refine app_go ho (ptE (mv (vv ps i) x y)) ?_ ?_ fun v' H' ho' _=>?_
    ·rw [List.length_map]; unfold mvL; rw [List.length_map,List.length_take]; show (_+1) * 16≤_; omega
    ·rw [List.length_map]; unfold mvL; rw [List.length_map,List.length_take]; omega
    ·rw [wsuc (by omega)]
     refine ih (i+1) f v' H' (by omega) (by omega) ?_ ?_
     ·rw [take_vv hil]; unfold mvL at ho' ⊢; rw [List.map_append,List.map_append]; exact ho'
     ·rw [take_vv hil]
      intro p hp'
      rcases List.mem_append.mp hp' with h | h
      ·exact ha p h
      ·rw [List.mem_singleton.mp h]; exact hv
theorem s24 (d:Nat) (ps:List Pt) (x y:Int) (hl:ps.length≤1000000) (h64:∀ p ∈ ps,In64 p.1∧In64 p.2) (hx:In64 x) (hy:In64 y):pcall M (d+13) 24 [.lst (ps.map pt),.int .i64 x,.int .i64 y]=some (moveR ps x y):=told (q24 (d+12) _ _ _) (by
 repeat with_reducible first | refine tt sh_ptr ?_ | refine tt sh_fptr ?_ | refine tt w2 ?_ | refine tt w3 ?_ | refine tt w8 ?_ | refine tt w9 ?_ | refine tt wf ?_ | refine tt wg ?_ | refine tt wh ?_ | refine tt wi ?_ | refine tt wj ?_ | refine tt wk ?_ | refine tt wl ?_ | refine tt wn ?_ | refine tt c_ort ?_ | refine tt c_nt ?_ | refine tt c_nf ?_ | refine tt (cnd_t _ _) ?_ | refine tt (cnd_f _ _) ?_ | refine tt w6 ?_ | refine tt w4 ?_ | refine tt w5 ?_ | refine tt w7 ?_ | refine tt wm ?_ | refine tt wo ?_ | refine tt wx ?_ | refine tt nil_ptr ?_ | refine tt len_lst ?_ | refine tt len_zsl ?_
 rw [pmap_len]
 obtain ⟨fuel,hfuel⟩:∃ f:Nat,f=1000000000000000000:=⟨_,rfl⟩; rw [← hfuel]
 exact move0 d ps x y hl h64 hx hy ps.length 0 fuel (.zsl true) [] (by omega) (by omega) (.inl ⟨rfl,true,rfl⟩) (by simp))
end Go.Proofs.Ytkfppigcjdapnaa.AE

namespace Go.Proofs.Ytkfppigcjdapnaa.AE
set_option linter.unusedVariables false
set_option linter.unusedSimpArgs false
set_option linter.constructorNameAsVariable false
open Go Go.Proofs.Ytkfppigcjdapnaa.Geo
theorem bb_le:∀ (l:List Pt) (b:Bx),(l.foldl bbStep b).1.1≤b.1.1∧(l.foldl bbStep b).1.2≤b.1.2∧b.2.1≤(l.foldl bbStep b).2.1∧b.2.2≤(l.foldl bbStep b).2.2 ∧
 ∀ q ∈ l,(l.foldl bbStep b).1.1≤q.1∧(l.foldl bbStep b).1.2≤q.2∧q.1≤(l.foldl bbStep b).2.1∧q.2≤(l.foldl bbStep b).2.2
 | [],b=>by simp
 | p::l,b=>by
   obtain ⟨h1,h2,h3,h4,h5⟩:=bb_le l (bbStep b p)
   simp only [List.foldl_cons]
   have e1:(bbStep b p).1.1≤b.1.1∧(bbStep b p).1.1≤p.1:=by unfold bbStep; simp only; split <;> omega
   have e2:(bbStep b p).1.2≤b.1.2∧(bbStep b p).1.2≤p.2:=by unfold bbStep; simp only; split <;> omega
   have e3:b.2.1≤(bbStep b p).2.1∧p.1≤(bbStep b p).2.1:=by unfold bbStep; simp only; split <;> omega
   have e4:b.2.2≤(bbStep b p).2.2∧p.2≤(bbStep b p).2.2:=by unfold bbStep; simp only; split <;> omega
   refine ⟨by omega,by omega,by omega,by omega,fun q hq=>?_⟩
   rcases List.mem_cons.mp hq with h | h
   ·subst h; exact ⟨by omega,by omega,by omega,by omega⟩
   ·exact h5 q h
theorem bb_met:∀ (l:List Pt) (b:Bx),((l.foldl bbStep b).1.1=b.1.1 ∨ ∃ q ∈ l,q.1=(l.foldl bbStep b).1.1)∧((l.foldl bbStep b).1.2=b.1.2 ∨ ∃ q ∈ l,q.2=(l.foldl bbStep b).1.2) ∧
 ((l.foldl bbStep b).2.1=b.2.1 ∨ ∃ q ∈ l,q.1=(l.foldl bbStep b).2.1)∧((l.foldl bbStep b).2.2=b.2.2 ∨ ∃ q ∈ l,q.2=(l.foldl bbStep b).2.2)
 | [],b=>by simp
 | p::l,b=>by
   obtain ⟨h1,h2,h3,h4⟩:=bb_met l (bbStep b p)
   simp only [List.foldl_cons]
   have e1:(bbStep b p).1.1=b.1.1 ∨ (bbStep b p).1.1=p.1:=by unfold bbStep; simp only; split <;> simp
   have e2:(bbStep b p).1.2=b.1.2 ∨ (bbStep b p).1.2=p.2:=by unfold bbStep; simp only; split <;> simp
   have e3:(bbStep b p).2.1=b.2.1 ∨ (bbStep b p).2.1=p.1:=by unfold bbStep; simp only; split <;> simp
   have e4:(bbStep b p).2.2=b.2.2 ∨ (bbStep b p).2.2=p.2:=by unfold bbStep; simp only; split <;> simp
   have gen:∀ (f:Pt→Int) (r x y:Int),(r=x ∨ ∃ q ∈ l,f q=r)→(x=y ∨ x=f p)→(r=y ∨ ∃ q ∈ p::l,f q=r):=by
    intro f r x y h e
    rcases h with h | ⟨q,hq,h⟩
    ·rcases e with e | e
     ·exact .inl (h.trans e)
     ·exact .inr ⟨p,List.mem_cons_self ..,(h.trans e).symm⟩
    ·exact .inr ⟨q,List.mem_cons_of_mem _ hq,h⟩
   exact ⟨gen (·.1) _ _ _ h1 e1,gen (·.2) _ _ _ h2 e2,gen (·.1) _ _ _ h3 e3,gen (·.2) _ _ _ h4 e4⟩
theorem vv_mem {ps:List Pt} {i:Nat} (h:i < ps.length):vv ps i ∈ ps:=by
 have:vv ps i=ps[i]:=by simp [vv,List.getD_eq_getElem?_getD,h]
 rw [this]; exact List.getElem_mem _
theorem mem_vv {ps:List Pt} {p:Pt} (h:p ∈ ps):∃ i,i < ps.length∧vv ps i=p:=by
 obtain ⟨i,hi,e⟩:=List.mem_iff_getElem.mp h
 exact ⟨i,hi,by simp [vv,List.getD_eq_getElem?_getD,hi,e]⟩
theorem bb_all (ps:List Pt) {i:Nat} (h:i < ps.length):(bbX ps).1.1≤(vv ps i).1∧(bbX ps).1.2≤(vv ps i).2∧(vv ps i).1≤(bbX ps).2.1∧(vv ps i).2≤(bbX ps).2.2 :=
 (bb_le ps (vv ps 0,vv ps 0)).2.2.2.2 _ (vv_mem h)
end Go.Proofs.Ytkfppigcjdapnaa.AE

namespace Go.Proofs.Ytkfppigcjdapnaa.AE
set_option linter.unusedVariables false
set_option linter.unusedSimpArgs false
set_option linter.constructorNameAsVariable false
open Go Go.Proofs.Ytkfppigcjdapnaa.Geo
attribute [local irreducible] pcall C0
def rv (ps:List Pt) (i k:Nat):Pt:=if k=0 then vv ps 0 else if k - 1 < i ∨ ps.length - 1≤k - 1+i then bk ps k else vv ps k
def rvL (ps:List Pt) (i:Nat):List Pt:=(List.range ps.length).map (rv ps i)
theorem rvL_len (ps:List Pt) (i:Nat):(rvL ps i).length=ps.length:=by simp [rvL]
theorem rvL_at {ps:List Pt} {i k:Nat} (h:k < ps.length):((rvL ps i).map pt)[k]?=some (pt (rv ps i k)):=by simp [rvL,h]
theorem rvL_0 (ps:List Pt):rvL ps 0=ps:=by
 apply List.ext_getElem
 ·exact rvL_len ps 0
 ·intro k h1 h2
  have e:(rvL ps 0)[k]'h1=rv ps 0 k:=by simp [rvL]
  have e2:ps[k]=vv ps k:=by unfold vv; rw [List.getD_eq_getElem?_getD,List.getElem?_eq_getElem h2]; rfl
  rw [e,e2]
  unfold rv
  split
  ·rename_i h; rw [h]
  ·rw [if_neg (by omega)]
theorem rvL_end {ps:List Pt} {i:Nat} (h:ps.length - 1≤2 * i+1):rvL ps i=backL ps:=by
 apply List.ext_getElem
 ·rw [rvL_len,back_len]
 ·intro k h1 h2
  rw [rvL_len] at h1
  have e:(rvL ps i)[k]'(by rw [rvL_len]; exact h1)=rv ps i k:=by simp [rvL]
  have e2:(backL ps)[k]'h2=bk ps k:=by simp [backL]
  rw [e,e2]
  unfold rv
  split
  ·rename_i h; subst h; unfold bk; simp
  ·split
   ·rfl
   ·unfold bk
    rw [Nat.mod_eq_of_lt (by omega)]
    congr 1; omega
theorem rvL_step {ps:List Pt} {i j:Nat} (hj:i+j+2=ps.length) (hij:i < j):(((rvL ps i).map pt).set (1+i) (pt (vv ps (1+j)))).set (1+j) (pt (vv ps (1+i)))=(rvL ps (i+1)).map pt:=by
 apply List.ext_getElem?
 intro k
 by_cases hk:k < ps.length
 ·rw [rvL_at hk]
  by_cases h1:k=1+j
  ·subst h1
   rw [List.getElem?_set_self (by rw [List.length_set,List.length_map,rvL_len]; exact hk)]
   congr 2
   unfold rv
   rw [if_neg (by omega),if_pos (by omega)]
   unfold bk
   rw [Nat.mod_eq_of_lt (by omega)]; congr 1; omega
  ·rw [List.getElem?_set_ne (by omega)]
   by_cases h2:k=1+i
   ·subst h2
    rw [List.getElem?_set_self (by rw [List.length_map,rvL_len]; exact hk)]
    congr 2
    unfold rv
    rw [if_neg (by omega),if_pos (by omega)]
    unfold bk
    rw [Nat.mod_eq_of_lt (by omega)]; congr 1; omega
   ·rw [List.getElem?_set_ne (by omega),rvL_at hk]
    congr 2
    unfold rv
    split
    ·rfl
    ·by_cases c:k - 1 < i ∨ ps.length - 1≤k - 1+i
     ·rw [if_pos c,if_pos (by omega)]
     ·rw [if_neg c,if_neg (by omega)]
 ·rw [List.getElem?_eq_none (by simp [rvL]; omega),List.getElem?_eq_none (by simp [rvL]; omega)]
theorem rv_mid {ps:List Pt} {i k:Nat} (h0:0 < k) (h1:i≤k - 1) (h2:k - 1+i < ps.length - 1):rv ps i k=vv ps k:=by
 unfold rv; rw [if_neg (by omega),if_neg (by omega)]
theorem sub_pt (p:Pt):sub true 2 0 (pt p)=some (pt p):=rfl
theorem back0 (d:Nat) (ps:List Pt) (hl:ps.length≤1000000) (h2:2≤ps.length):∀ (m i f:Nat) (H:Heap),ps.length - 2 - i≤m→m < f→2 * i≤ps.length→hget H 1=some ⟨E24,(rvL ps i).map pt⟩ →
 L21_4 d (.slc 1 0 ps.length) (.slc 1 1 (ps.length - 1)) f (i:Nat) ((ps.length:Int) - 2 - (i:Int)) H=some (.lst ((backL ps).map pt)):=by
 intro m
 induction m with
 | zero =>
   intro i f H hm hf hi h1
   obtain ⟨f,rfl⟩:∃ g,f=g+1:=⟨f - 1,by omega⟩
   rw [L21_4,decide_eq_false (by omega),cnd_f,X21_4_0,C0_fin]
   rw [snap_pts (l:=rvL ps i) (.inr ⟨1,by rw [List.length_map,rvL_len],h1⟩),rvL_end (by omega)]
 | succ m ih =>
   intro i f H hm hf hi h1
   obtain ⟨f,rfl⟩:∃ g,f=g+1:=⟨f - 1,by omega⟩
   by_cases hc:2 * i+2 < ps.length
   ·obtain ⟨j,hj⟩:∃ j,i+j+2=ps.length:=⟨ps.length - 2 - i,by omega⟩
    have hij:i < j:=by omega
    have ej:(ps.length:Int) - 2 - (i:Int)=(j:Nat):=by omega
    rw [ej,L21_4,decide_eq_true (by omega),cnd_t]
    have qi:(((i:Nat):Int)).toNat=i:=by omega
    have qj:(((j:Nat):Int)).toNat=j:=by omega
    have ix:∀ {q:Nat} {H:Heap} {els:List AV} {K:AV→Heap→Ans},hget H 1=some ⟨E24,els⟩→q+1 < ps.length→C0.hop H (.ixAS .any 2 (.v (.slc 1 1 (ps.length - 1))) (.v (.int .i64 (q:Nat)))) K=K (.ptr 1 (1+q) 0) H:=by
     intro q H els K hh hq
     refine Eq.trans (ix_slc (es:=2) (q:=((q:Nat):Int)) hh (by omega) (by omega) rfl) ?_
     rw [show (((q:Nat):Int)).toNat=q by omega]
    refine Eq.trans (ix h1 (by omega)) ?_
    refine Eq.trans (ld_ptr h1 (rvL_at (by omega)) (sub_pt _)) ?_
    rw [rv_mid (by omega) (by omega) (by omega)]
    repeat with_reducible first | refine tt sh_ptr ?_ | refine tt sh_fptr ?_ | refine tt w2 ?_ | refine tt w3 ?_ | refine tt w8 ?_ | refine tt w9 ?_ | refine tt wf ?_ | refine tt wg ?_ | refine tt wh ?_ | refine tt wi ?_ | refine tt wj ?_ | refine tt wk ?_ | refine tt wl ?_ | refine tt wn ?_ | refine tt c_ort ?_ | refine tt c_nt ?_ | refine tt c_nf ?_ | refine tt (cnd_t _ _) ?_ | refine tt (cnd_f _ _) ?_ | refine tt w6 ?_ | refine tt w4 ?_ | refine tt w5 ?_ | refine tt w7 ?_ | refine tt wm ?_ | refine tt wo ?_ | refine tt wx ?_ | refine tt nil_ptr ?_ | refine tt len_lst ?_ | refine tt len_zsl ?_
    refine Eq.trans (ix h1 (by omega)) ?_
    refine Eq.trans (ld_ptr h1 (rvL_at (by omega)) (sub_pt _)) ?_
    rw [rv_mid (by omega) (by omega) (by omega)]
    repeat with_reducible first | refine tt sh_ptr ?_ | refine tt sh_fptr ?_ | refine tt w2 ?_ | refine tt w3 ?_ | refine tt w8 ?_ | refine tt w9 ?_ | refine tt wf ?_ | refine tt wg ?_ | refine tt wh ?_ | refine tt wi ?_ | refine tt wj ?_ | refine tt wk ?_ | refine tt wl ?_ | refine tt wn ?_ | refine tt c_ort ?_ | refine tt c_nt ?_ | refine tt c_nf ?_ | refine tt (cnd_t _ _) ?_ | refine tt (cnd_f _ _) ?_ | refine tt w6 ?_ | refine tt w4 ?_ | refine tt w5 ?_ | refine tt w7 ?_ | refine tt wm ?_ | refine tt wo ?_ | refine tt wx ?_ | refine tt nil_ptr ?_ | refine tt len_lst ?_ | refine tt len_zsl ?_
    refine Eq.trans (ix h1 (by omega)) ?_
    refine Eq.trans (st_ptr (el':=pt (vv ps (1+j))) h1 (rvL_at (by omega)) (by rfl)) ?_
    refine Eq.trans (ix (hget_set (hg_lt h1)) (by omega)) ?_
    refine Eq.trans (st_ptr (el:=pt (rv ps i (1+j))) (el':=pt (vv ps (1+i))) (hget_set (hg_lt h1)) (by rw [List.getElem?_set_ne (by omega),rvL_at (by omega)]) (by rfl)) ?_
    rw [wsuc (by omega),show IntKind.wrap .i64 (((j:Nat):Int) - 1)=(ps.length:Int) - 2 - ((i+1:Nat):Int) by rw [IntKind.wrap_i64]; omega]
    refine ih (i+1) f _ (by omega) (by omega) (by omega) ?_
    rw [hget_set (by rw [List.length_set]; exact hg_lt h1)]
    simp only [rvL_step hj hij]
   ·rw [L21_4,decide_eq_false (by omega),cnd_f,X21_4_0,C0_fin]
    rw [snap_pts (l:=rvL ps i) (.inr ⟨1,by rw [List.length_map,rvL_len],h1⟩),rvL_end (by omega)]
theorem all_ptE (ps:List Pt):(ps.map pt).all (elOk E24)=true:=by
 rw [List.all_eq_true]; intro x hx; obtain ⟨p,_,rfl⟩:=List.mem_map.mp hx; rfl
theorem s21 (d:Nat) (ps:List Pt) (hl:ps.length≤1000000) (h0:0 < ps.length):pcall M (d+1) 21 [.lst (ps.map pt)]=some (.lst ((backL ps).map pt)):=told (q21 d _) (by
 obtain ⟨p,l,rfl⟩:∃ p l,ps=p::l:=by cases ps with | nil=>cases h0 | cons p l=>exact ⟨p,l,rfl⟩
 generalize hps:p::l=ps at *
 refine Eq.trans (pl_bool (show clr (.lst (ps.map pt))=some (.bool false) by rw [← hps]; rfl)) ?_
 rw [cnd_f]
 have e1:aop noCall (evO []) [] (.eqv false 2 [] (.v (.lst (ps.map pt))) (.v (.zsl true)))=some (.bool false,[]):=by rw [← hps]; rfl
 refine Eq.trans (hop_eq e1) ?_
 repeat with_reducible first | refine tt sh_ptr ?_ | refine tt sh_fptr ?_ | refine tt w2 ?_ | refine tt w3 ?_ | refine tt w8 ?_ | refine tt w9 ?_ | refine tt wf ?_ | refine tt wg ?_ | refine tt wh ?_ | refine tt wi ?_ | refine tt wj ?_ | refine tt wk ?_ | refine tt wl ?_ | refine tt wn ?_ | refine tt c_ort ?_ | refine tt c_nt ?_ | refine tt c_nf ?_ | refine tt (cnd_t _ _) ?_ | refine tt (cnd_f _ _) ?_ | refine tt w6 ?_ | refine tt w4 ?_ | refine tt w5 ?_ | refine tt w7 ?_ | refine tt wm ?_ | refine tt wo ?_ | refine tt wx ?_ | refine tt nil_ptr ?_ | refine tt len_lst ?_ | refine tt len_zsl ?_
 have e2:aop noCall (evO []) [] (.mkrow E24 0 [])=some (.slc 0 0 0,[some ⟨E24,[]⟩]):=rfl
 refine Eq.trans (hop_eq e2) ?_
 have e3:aop noCall (evO []) [some ⟨E24,[]⟩] (.app E24 (.v (.slc 0 0 0)) (.v (.lst (ps.map pt))))=some (.slc 1 0 ps.length,[none,some ⟨E24,ps.map pt⟩]):=by
  have b:(ps.map pt).length=ps.length:=List.length_map _
  have c:=all_ptE ps
  have hb:(E24).bytes=16:=rfl
  simp only [aop,evO,elsOf,aApp]
  rw [show hget [some (Blk.mk E24 [])] 0=some ⟨E24,[]⟩ from rfl]
  simp only
  rw [if_pos ⟨rfl,by rw [b,hb]; omega,by rw [b]; omega,trivial,trivial,c⟩,b]
  simp
 refine Eq.trans (hop_eq e3) ?_
 have hh:hget [none,some (Blk.mk E24 (ps.map pt))] 1=some ⟨E24,ps.map pt⟩:=rfl
 have own:Own [none,some (Blk.mk E24 (ps.map pt))] E24 (.slc 1 0 ps.length) (ps.map pt):=.inr ⟨1,by rw [List.length_map],hh⟩
 refine Eq.trans (len_own own) ?_
 repeat with_reducible first | refine tt sh_ptr ?_ | refine tt sh_fptr ?_ | refine tt w2 ?_ | refine tt w3 ?_ | refine tt w8 ?_ | refine tt w9 ?_ | refine tt wf ?_ | refine tt wg ?_ | refine tt wh ?_ | refine tt wi ?_ | refine tt wj ?_ | refine tt wk ?_ | refine tt wl ?_ | refine tt wn ?_ | refine tt c_ort ?_ | refine tt c_nt ?_ | refine tt c_nf ?_ | refine tt (cnd_t _ _) ?_ | refine tt (cnd_f _ _) ?_ | refine tt w6 ?_ | refine tt w4 ?_ | refine tt w5 ?_ | refine tt w7 ?_ | refine tt wm ?_ | refine tt wo ?_ | refine tt wx ?_ | refine tt nil_ptr ?_ | refine tt len_lst ?_ | refine tt len_zsl ?_
 rw [List.length_map]
 by_cases h2:(ps.length:Int) > 1
 ·rw [decide_eq_true h2,cnd_t]
  have e4:aop noCall (evO []) [none,some (Blk.mk E24 (ps.map pt))] (.subV 2 (.v (.slc 1 0 ps.length)) (some (.v (.int .i64 1))) none none)=some (.slc 1 1 (ps.length - 1),[none,some ⟨E24,ps.map pt⟩]):=by
   simp only [aop,evO,Option.map,aSubV,lenOf,hh,bound,aInt]
   rw [if_pos ⟨by decide,by omega⟩]
   simp only
   rw [if_neg (by simp),if_neg (by intro hx; have:(1:Int).toNat=1:=rfl; omega),if_neg (by simp),if_pos (show (E24).es=2 from rfl)]
   rfl
  refine Eq.trans (hop_eq e4) ?_
  refine Eq.trans (hop_eq (v:=.int .i64 ((ps.length - 1:Nat):Int)) rfl) ?_
  repeat with_reducible first | refine tt sh_ptr ?_ | refine tt sh_fptr ?_ | refine tt w2 ?_ | refine tt w3 ?_ | refine tt w8 ?_ | refine tt w9 ?_ | refine tt wf ?_ | refine tt wg ?_ | refine tt wh ?_ | refine tt wi ?_ | refine tt wj ?_ | refine tt wk ?_ | refine tt wl ?_ | refine tt wn ?_ | refine tt c_ort ?_ | refine tt c_nt ?_ | refine tt c_nf ?_ | refine tt (cnd_t _ _) ?_ | refine tt (cnd_f _ _) ?_ | refine tt w6 ?_ | refine tt w4 ?_ | refine tt w5 ?_ | refine tt w7 ?_ | refine tt wm ?_ | refine tt wo ?_ | refine tt wx ?_ | refine tt nil_ptr ?_ | refine tt len_lst ?_ | refine tt len_zsl ?_
  rw [show IntKind.wrap .i64 (((ps.length - 1:Nat):Int) - 1)=(ps.length:Int) - 2 - ((0:Nat):Int) by rw [IntKind.wrap_i64]; omega]
  obtain ⟨fuel,hfuel⟩:∃ f:Nat,f=1000000000000000000:=⟨_,rfl⟩; rw [← hfuel]
  exact back0 d ps hl (by omega) ps.length 0 fuel _ (by omega) (by omega) (by omega) (by rw [rvL_0]; rfl)
 ·rw [decide_eq_false h2,cnd_f,C0_fin,snap_pts own]
  have h1:rvL ps 0=backL ps:=rvL_end (by omega)
  rw [← h1,rvL_0])
end Go.Proofs.Ytkfppigcjdapnaa.AE

namespace Go.Proofs.Ytkfppigcjdapnaa.AE
set_option linter.unusedVariables false
set_option linter.unusedSimpArgs false
set_option linter.constructorNameAsVariable false
open Go
set_option maxRecDepth 100000
set_option maxHeartbeats 0
theorem r9 (C:Cb) (d:Nat) :xcall C M unr d 9 [] =
 C.lst (pcall M d 30 []) (fun l0 =>
 C.tup 2 (pcall M d 11 [(.lst l0)]) fun l2 =>
 C.agg 4 l2[0]? fun l3 =>
 C.int .i64 l3[0]? fun x4 =>
 C.int .i64 l3[1]? fun x5 =>
 C.int .i64 l3[2]? fun x6 =>
 C.int .i64 l3[3]? fun x7 =>
 C.bool l2[1]? fun b8 =>
 C.lst (pcall M d 30 []) (fun l9 =>
 C.tup 2 (pcall M d 24 [(.lst l9),(iz 1),(iz 1)]) fun l11 =>
 C.lst l11[0]? (fun l12 =>
 C.bool l11[1]? fun b14 =>
 C.lst (pcall M d 30 []) (fun l15 =>
 C.bool (pcall M d 15 [(.lst l15)]) fun b17 =>
 cnd b17
 (C.lst (pcall M d 30 []) (fun l18 =>
 C.bool (pcall M d 13 [(.lst l18)]) fun b20 =>
 cnd b20
 (C.bool (pcall M d 13 [(.lst [(.agg [(iz 0),(iz 0)]),(.agg [(iz 4),(iz 4)]),(.agg [(iz 4),(iz 0)]),(.agg [(iz 0),(iz 4)])])]) fun b21 =>
 cnd (!b21)
 (C.lst (pcall M d 30 []) (fun l22 =>
 C.int .i64 (pcall M d 16 [(.lst l22),(.agg [(iz 2),(iz 2)])]) fun x24 =>
 cnd (x24 == 1)
 (C.lst (pcall M d 30 []) (fun l25 =>
 C.int .i64 (pcall M d 16 [(.lst l25),(.agg [(iz 4),(iz 1)])]) fun x27 =>
 cnd (x27 == 0)
 (C.lst (pcall M d 30 []) (fun l28 =>
 C.int .i64 (pcall M d 16 [(.lst l28),(.agg [(iz 5),(iz 1)])]) fun x30 =>
 cnd (x30 == (-1))
 (C.lst (pcall M d 30 []) (fun l31 =>
 C.bool (pcall M d 18 [(.lst l31)]) fun b33 =>
 cnd b33
 (C.lst (pcall M d 30 []) (fun l34 =>
 C.lst (pcall M d 21 [(.lst l34)]) (fun l36 =>
 C.bool (pcall M d 18 [(.lst l36)]) fun b38 =>
 cnd (!b38)
 (cnd (xor false ((x4 == 0) && ((x5 == 0) && ((x6 == 4) && ((x7 == 4) && true)))))
 (cnd b8
 (cnd ((((List.length l12):Nat):Int) == 4)
 (C.agg 2 l12[0]? fun l39 =>
 C.int .i64 l39[0]? fun x40 =>
 C.int .i64 l39[1]? fun x41 =>
 cnd (xor false ((x40 == 1) && ((x41 == 1) && true)))
 (cnd b14
 (C.int .i64 (pcall M d 16 [(.lst [(.agg [(iz 0),(iz 0)]),(.agg [(iz 4),(iz 4)]),(.agg [(iz 4),(iz 0)]),(.agg [(iz 0),(iz 4)])]),(.agg [(iz 1),(iz 2)])]) fun x42 =>
 some (.bool (x42 == (-1))))
 (some bf))
 (some bf))
 (some bf))
 (some bf))
 (some bf))
 (some bf))
 (fun z37 =>
 none))
 (fun z35 =>
 none))
 (some bf))
 (fun z32 =>
 none))
 (some bf))
 (fun z29 =>
 none))
 (some bf))
 (fun z26 =>
 none))
 (some bf))
 (fun z23 =>
 none))
 (some bf))
 (some bf))
 (fun z19 =>
 none))
 (some bf))
 (fun z16 =>
 none))
 (fun z13 =>
 none))
 (fun z10 =>
 none))
 (fun z1 =>
 none):=by kernel_rfl
end Go.Proofs.Ytkfppigcjdapnaa.AE

namespace Go.Proofs.Ytkfppigcjdapnaa.AE
set_option linter.unusedVariables false
set_option linter.unusedSimpArgs false
set_option linter.constructorNameAsVariable false
open Go Go.Proofs.Ytkfppigcjdapnaa.Geo
set_option maxRecDepth 100000
attribute [local irreducible] pcall C0
def sq4:List Pt:=[(0,0),(4,0),(4,4),(0,4)]
def bow4:List Pt:=[(0,0),(4,4),(4,0),(0,4)]
theorem s30 (d:Nat):pcall M (d+1) 30 []=some (.lst (sq4.map pt)):=told (r30 C0 d) rfl
theorem awake:pcall M 40 9 []=some (.bool true):=told (r9 C0 39) (by
 have q:=s30 38
 have in1:In64 1:=by unfold In64; omega
 have h64:∀ p ∈ sq4,In64 p.1∧In64 p.2:=by
  intro p hp
  unfold sq4 at hp
  simp only [List.mem_cons,List.mem_nil_iff,or_false] at hp
  unfold In64
  rcases hp with h | h | h | h <;> subst h <;> simp
 have f1:pcall M 39 11 [.lst (sq4.map pt)]=some (.tup [bx ((0,0),(4,4)),.bool true]):=(s11 26 sq4 (by decide)).trans (by
  rw [show rightB sq4=true by kernel_rfl,show bbX sq4=((0,0),(4,4)) by kernel_rfl]; rfl)
 have f2:pcall M 39 24 [.lst (sq4.map pt),.int .i64 1,.int .i64 1]=some (.tup [.lst [pt (1,1),pt (5,1),pt (5,5),pt (1,5)],.bool true]):=(s24 26 sq4 1 1 (by decide) h64 in1 in1).trans (by
  unfold moveR; rw [show moveB sq4 1 1=true by kernel_rfl]; rfl)
 have f3:pcall M 39 15 [.lst (sq4.map pt)]=some (.bool true):=(s15 27 sq4 (by decide)).trans (by rw [show rightB sq4=true by kernel_rfl])
 have f4:pcall M 39 13 [.lst (sq4.map pt)]=some (.bool true):=(s13 28 sq4 (by decide)).trans (by rw [show simpleB sq4=true by kernel_rfl])
 have f5:pcall M 39 13 [.lst (bow4.map pt)]=some (.bool false):=(s13 28 bow4 (by decide)).trans (by rw [show simpleB bow4=false by kernel_rfl])
 have f6:pcall M 39 16 [.lst (sq4.map pt),pt (2,2)]=some (.int .i64 1):=(s16 26 sq4 (2,2) (by decide)).trans (by rw [show sideB sq4 (2,2)=1 by kernel_rfl])
 have f7:pcall M 39 16 [.lst (sq4.map pt),pt (4,1)]=some (.int .i64 0):=(s16 26 sq4 (4,1) (by decide)).trans (by rw [show sideB sq4 (4,1)=0 by kernel_rfl])
 have f8:pcall M 39 16 [.lst (sq4.map pt),pt (5,1)]=some (.int .i64 (-1)):=(s16 26 sq4 (5,1) (by decide)).trans (by rw [show sideB sq4 (5,1)=-1 by kernel_rfl])
 have f9:pcall M 39 18 [.lst (sq4.map pt)]=some (.bool true):=(s18 26 sq4 (by decide)).trans (by rw [show leftB sq4=true by kernel_rfl])
 have f10:pcall M 39 21 [.lst (sq4.map pt)]=some (.lst ((backL sq4).map pt)):=s21 38 sq4 (by decide) (by decide)
 have f11:pcall M 39 18 [.lst ((backL sq4).map pt)]=some (.bool false):=(s18 26 (backL sq4) (by rw [back_len]; decide)).trans (by rw [show leftB (backL sq4)=false by kernel_rfl])
 have f12:pcall M 39 16 [.lst (bow4.map pt),pt (1,2)]=some (.int .i64 (-1)):=(s16 26 bow4 (1,2) (by decide)).trans (by rw [show sideB bow4 (1,2)=-1 by kernel_rfl])
 refine Eq.trans (pl_lst q) ?_
 refine Eq.trans (pl_tup f1 (by rfl)) ?_
 repeat with_reducible first | refine tt sh_ptr ?_ | refine tt sh_fptr ?_ | refine tt w2 ?_ | refine tt w3 ?_ | refine tt w8 ?_ | refine tt w9 ?_ | refine tt wf ?_ | refine tt wg ?_ | refine tt wh ?_ | refine tt wi ?_ | refine tt wj ?_ | refine tt wk ?_ | refine tt wl ?_ | refine tt wn ?_ | refine tt c_ort ?_ | refine tt c_nt ?_ | refine tt c_nf ?_ | refine tt (cnd_t _ _) ?_ | refine tt (cnd_f _ _) ?_ | refine tt w6 ?_ | refine tt w4 ?_ | refine tt w5 ?_ | refine tt w7 ?_ | refine tt wm ?_ | refine tt wo ?_ | refine tt wx ?_ | refine tt nil_ptr ?_ | refine tt len_lst ?_ | refine tt len_zsl ?_
 refine Eq.trans (pl_lst q) ?_
 refine Eq.trans (pl_tup f2 (by rfl)) ?_
 repeat with_reducible first | refine tt sh_ptr ?_ | refine tt sh_fptr ?_ | refine tt w2 ?_ | refine tt w3 ?_ | refine tt w8 ?_ | refine tt w9 ?_ | refine tt wf ?_ | refine tt wg ?_ | refine tt wh ?_ | refine tt wi ?_ | refine tt wj ?_ | refine tt wk ?_ | refine tt wl ?_ | refine tt wn ?_ | refine tt c_ort ?_ | refine tt c_nt ?_ | refine tt c_nf ?_ | refine tt (cnd_t _ _) ?_ | refine tt (cnd_f _ _) ?_ | refine tt w6 ?_ | refine tt w4 ?_ | refine tt w5 ?_ | refine tt w7 ?_ | refine tt wm ?_ | refine tt wo ?_ | refine tt wx ?_ | refine tt nil_ptr ?_ | refine tt len_lst ?_ | refine tt len_zsl ?_
 refine Eq.trans (pl_lst q) ?_
 refine Eq.trans (pl_bool f3) ?_
 repeat with_reducible first | refine tt sh_ptr ?_ | refine tt sh_fptr ?_ | refine tt w2 ?_ | refine tt w3 ?_ | refine tt w8 ?_ | refine tt w9 ?_ | refine tt wf ?_ | refine tt wg ?_ | refine tt wh ?_ | refine tt wi ?_ | refine tt wj ?_ | refine tt wk ?_ | refine tt wl ?_ | refine tt wn ?_ | refine tt c_ort ?_ | refine tt c_nt ?_ | refine tt c_nf ?_ | refine tt (cnd_t _ _) ?_ | refine tt (cnd_f _ _) ?_ | refine tt w6 ?_ | refine tt w4 ?_ | refine tt w5 ?_ | refine tt w7 ?_ | refine tt wm ?_ | refine tt wo ?_ | refine tt wx ?_ | refine tt nil_ptr ?_ | refine tt len_lst ?_ | refine tt len_zsl ?_
 refine Eq.trans (pl_lst q) ?_
 refine Eq.trans (pl_bool f4) ?_
 repeat with_reducible first | refine tt sh_ptr ?_ | refine tt sh_fptr ?_ | refine tt w2 ?_ | refine tt w3 ?_ | refine tt w8 ?_ | refine tt w9 ?_ | refine tt wf ?_ | refine tt wg ?_ | refine tt wh ?_ | refine tt wi ?_ | refine tt wj ?_ | refine tt wk ?_ | refine tt wl ?_ | refine tt wn ?_ | refine tt c_ort ?_ | refine tt c_nt ?_ | refine tt c_nf ?_ | refine tt (cnd_t _ _) ?_ | refine tt (cnd_f _ _) ?_ | refine tt w6 ?_ | refine tt w4 ?_ | refine tt w5 ?_ | refine tt w7 ?_ | refine tt wm ?_ | refine tt wo ?_ | refine tt wx ?_ | refine tt nil_ptr ?_ | refine tt len_lst ?_ | refine tt len_zsl ?_
 refine Eq.trans (pl_bool f5) ?_
 repeat with_reducible first | refine tt sh_ptr ?_ | refine tt sh_fptr ?_ | refine tt w2 ?_ | refine tt w3 ?_ | refine tt w8 ?_ | refine tt w9 ?_ | refine tt wf ?_ | refine tt wg ?_ | refine tt wh ?_ | refine tt wi ?_ | refine tt wj ?_ | refine tt wk ?_ | refine tt wl ?_ | refine tt wn ?_ | refine tt c_ort ?_ | refine tt c_nt ?_ | refine tt c_nf ?_ | refine tt (cnd_t _ _) ?_ | refine tt (cnd_f _ _) ?_ | refine tt w6 ?_ | refine tt w4 ?_ | refine tt w5 ?_ | refine tt w7 ?_ | refine tt wm ?_ | refine tt wo ?_ | refine tt wx ?_ | refine tt nil_ptr ?_ | refine tt len_lst ?_ | refine tt len_zsl ?_
 refine Eq.trans (pl_lst q) ?_
 refine Eq.trans (pl_int f6) ?_
 refine Eq.trans (pl_len (by rfl)) ?_
 refine Eq.trans (pl_lst q) ?_
 refine Eq.trans (pl_int f7) ?_
 refine Eq.trans (pl_len (by rfl)) ?_
 refine Eq.trans (pl_lst q) ?_
 refine Eq.trans (pl_int f8) ?_
 refine Eq.trans (pl_len (by rfl)) ?_
 refine Eq.trans (pl_lst q) ?_
 refine Eq.trans (pl_bool f9) ?_
 repeat with_reducible first | refine tt sh_ptr ?_ | refine tt sh_fptr ?_ | refine tt w2 ?_ | refine tt w3 ?_ | refine tt w8 ?_ | refine tt w9 ?_ | refine tt wf ?_ | refine tt wg ?_ | refine tt wh ?_ | refine tt wi ?_ | refine tt wj ?_ | refine tt wk ?_ | refine tt wl ?_ | refine tt wn ?_ | refine tt c_ort ?_ | refine tt c_nt ?_ | refine tt c_nf ?_ | refine tt (cnd_t _ _) ?_ | refine tt (cnd_f _ _) ?_ | refine tt w6 ?_ | refine tt w4 ?_ | refine tt w5 ?_ | refine tt w7 ?_ | refine tt wm ?_ | refine tt wo ?_ | refine tt wx ?_ | refine tt nil_ptr ?_ | refine tt len_lst ?_ | refine tt len_zsl ?_
 refine Eq.trans (pl_lst q) ?_
 refine Eq.trans (pl_lst f10) ?_
 refine Eq.trans (pl_bool f11) ?_
 repeat with_reducible first | refine tt sh_ptr ?_ | refine tt sh_fptr ?_ | refine tt w2 ?_ | refine tt w3 ?_ | refine tt w8 ?_ | refine tt w9 ?_ | refine tt wf ?_ | refine tt wg ?_ | refine tt wh ?_ | refine tt wi ?_ | refine tt wj ?_ | refine tt wk ?_ | refine tt wl ?_ | refine tt wn ?_ | refine tt c_ort ?_ | refine tt c_nt ?_ | refine tt c_nf ?_ | refine tt (cnd_t _ _) ?_ | refine tt (cnd_f _ _) ?_ | refine tt w6 ?_ | refine tt w4 ?_ | refine tt w5 ?_ | refine tt w7 ?_ | refine tt wm ?_ | refine tt wo ?_ | refine tt wx ?_ | refine tt nil_ptr ?_ | refine tt len_lst ?_ | refine tt len_zsl ?_
 refine Eq.trans (pl_len (by rfl)) ?_
 repeat with_reducible first | refine tt sh_ptr ?_ | refine tt sh_fptr ?_ | refine tt w2 ?_ | refine tt w3 ?_ | refine tt w8 ?_ | refine tt w9 ?_ | refine tt wf ?_ | refine tt wg ?_ | refine tt wh ?_ | refine tt wi ?_ | refine tt wj ?_ | refine tt wk ?_ | refine tt wl ?_ | refine tt wn ?_ | refine tt c_ort ?_ | refine tt c_nt ?_ | refine tt c_nf ?_ | refine tt (cnd_t _ _) ?_ | refine tt (cnd_f _ _) ?_ | refine tt w6 ?_ | refine tt w4 ?_ | refine tt w5 ?_ | refine tt w7 ?_ | refine tt wm ?_ | refine tt wo ?_ | refine tt wx ?_ | refine tt nil_ptr ?_ | refine tt len_lst ?_ | refine tt len_zsl ?_
 refine Eq.trans (pl_len (by rfl)) ?_
 repeat with_reducible first | refine tt sh_ptr ?_ | refine tt sh_fptr ?_ | refine tt w2 ?_ | refine tt w3 ?_ | refine tt w8 ?_ | refine tt w9 ?_ | refine tt wf ?_ | refine tt wg ?_ | refine tt wh ?_ | refine tt wi ?_ | refine tt wj ?_ | refine tt wk ?_ | refine tt wl ?_ | refine tt wn ?_ | refine tt c_ort ?_ | refine tt c_nt ?_ | refine tt c_nf ?_ | refine tt (cnd_t _ _) ?_ | refine tt (cnd_f _ _) ?_ | refine tt w6 ?_ | refine tt w4 ?_ | refine tt w5 ?_ | refine tt w7 ?_ | refine tt wm ?_ | refine tt wo ?_ | refine tt wx ?_ | refine tt nil_ptr ?_ | refine tt len_lst ?_ | refine tt len_zsl ?_
 refine Eq.trans (pl_len (by rfl)) ?_
 repeat with_reducible first | refine tt sh_ptr ?_ | refine tt sh_fptr ?_ | refine tt w2 ?_ | refine tt w3 ?_ | refine tt w8 ?_ | refine tt w9 ?_ | refine tt wf ?_ | refine tt wg ?_ | refine tt wh ?_ | refine tt wi ?_ | refine tt wj ?_ | refine tt wk ?_ | refine tt wl ?_ | refine tt wn ?_ | refine tt c_ort ?_ | refine tt c_nt ?_ | refine tt c_nf ?_ | refine tt (cnd_t _ _) ?_ | refine tt (cnd_f _ _) ?_ | refine tt w6 ?_ | refine tt w4 ?_ | refine tt w5 ?_ | refine tt w7 ?_ | refine tt wm ?_ | refine tt wo ?_ | refine tt wx ?_ | refine tt nil_ptr ?_ | refine tt len_lst ?_ | refine tt len_zsl ?_
 exact pl_int f12)
theorem s10 (d:Nat) (ps:List Pt):pcall M (d+1) 10 [.lst (ps.map pt)]=some (.bool (decide ((ps.length:Int)≤12))):=told (r10 C0 d _) (by rw [pmap_len])
end Go.Proofs.Ytkfppigcjdapnaa.AE

namespace Go.Proofs.Ytkfppigcjdapnaa.Geo
theorem line3 {a b c:Pt} (h:TN a b c=0):On c a b ∨ On a b c ∨ On b c a:=by
 have h1:TN b c a=0:=by rw [TN_cyc]; exact h
 have h2:TN c a b=0:=by rw [TN_cyc]; exact h1
 have s1:TN b a c=0:=by rw [TN_swap]; omega
 have s2:TN c b a=0:=by rw [TN_swap]; omega
 have s3:TN a c b=0:=by rw [TN_swap]; omega
 have W:∀ p u v:Pt,TN u v p=0→TN v u p=0→((u.1≤p.1∧p.1≤v.1∧u.1 < v.1) ∨ (v.1≤p.1∧p.1≤u.1∧v.1 < u.1) ∨ (u.2≤p.2∧p.2≤v.2∧u.2 < v.2) ∨ (v.2≤p.2∧p.2≤u.2∧v.2 < u.2))→On p u v:=by
  intro p u v e1 e2 hh
  rcases hh with ⟨x,y,z⟩ | ⟨x,y,z⟩ | ⟨x,y,z⟩ | ⟨x,y,z⟩
  ·exact On_of_width e1 x y z
  ·exact On_swap.mp (On_of_width e2 x y z)
  ·exact On_of_height e1 x y z
  ·exact On_swap.mp (On_of_height e2 x y z)
 by_cases e:a=b
 ·subst e; exact .inr (.inl (On_a _ _))
 ·by_cases e2:b=c
  ·subst e2; exact .inl (On_b _ _)
  ·by_cases e3:a=c
   ·subst e3; exact .inl (On_a _ _)
   ·have d1:a.1 ≠ b.1 ∨ a.2 ≠ b.2:=by
     apply Classical.byContradiction; intro hn; exact e (Prod.ext (by omega) (by omega))
    have d2:b.1 ≠ c.1 ∨ b.2 ≠ c.2:=by
     apply Classical.byContradiction; intro hn; exact e2 (Prod.ext (by omega) (by omega))
    by_cases x:a.1=b.1∧b.1=c.1
    ·rcases (show (a.2≤c.2∧c.2≤b.2∧a.2 < b.2) ∨ (b.2≤c.2∧c.2≤a.2∧b.2 < a.2) ∨ (b.2≤a.2∧a.2≤c.2∧b.2 < c.2) ∨ (c.2≤a.2∧a.2≤b.2∧c.2 < b.2) ∨ (c.2≤b.2∧b.2≤a.2∧c.2 < a.2) ∨ (a.2≤b.2∧b.2≤c.2∧a.2 < c.2) by omega) with g | g | g | g | g | g
     ·exact .inl (W _ _ _ h s1 (by omega))
     ·exact .inl (W _ _ _ h s1 (by omega))
     ·exact .inr (.inl (W _ _ _ h1 s2 (by omega)))
     ·exact .inr (.inl (W _ _ _ h1 s2 (by omega)))
     ·exact .inr (.inr (W _ _ _ h2 s3 (by omega)))
     ·exact .inr (.inr (W _ _ _ h2 s3 (by omega)))
    ·rcases (show (a.1≤c.1∧c.1≤b.1∧a.1 < b.1) ∨ (b.1≤c.1∧c.1≤a.1∧b.1 < a.1) ∨ (b.1≤a.1∧a.1≤c.1∧b.1 < c.1) ∨ (c.1≤a.1∧a.1≤b.1∧c.1 < b.1) ∨ (c.1≤b.1∧b.1≤a.1∧c.1 < a.1) ∨ (a.1≤b.1∧b.1≤c.1∧a.1 < c.1) by omega) with g | g | g | g | g | g
     ·exact .inl (W _ _ _ h s1 (by omega))
     ·exact .inl (W _ _ _ h s1 (by omega))
     ·exact .inr (.inl (W _ _ _ h1 s2 (by omega)))
     ·exact .inr (.inl (W _ _ _ h1 s2 (by omega)))
     ·exact .inr (.inr (W _ _ _ h2 s3 (by omega)))
     ·exact .inr (.inr (W _ _ _ h2 s3 (by omega)))
end Go.Proofs.Ytkfppigcjdapnaa.Geo

namespace Go.Proofs.Ytkfppigcjdapnaa.AE
set_option linter.unusedVariables false
set_option linter.unusedSimpArgs false
set_option linter.constructorNameAsVariable false
open Go Go.Proofs.Ytkfppigcjdapnaa.Geo
theorem simple_pair {ps:List Pt} (h:simpleB ps=true) {k i:Nat} (hk:k < i) (hi:i < ps.length):vv ps i ≠ vv ps k∧apartB ps k i=true:=by
 unfold simpleB at h
 simp only [Bool.and_eq_true] at h
 have h1:=h.2.2.2
 unfold allPairs at h1
 have h2:=(upAll_iff _ _ _).mp h1 i (by omega) (by omega)
 have h3:=(upAll_iff _ _ _).mp h2 k (by omega) (by omega)
 unfold pairB at h3
 simp only [Bool.and_eq_true,Bool.not_eq_true',decide_eq_false_iff_not] at h3
 exact h3
theorem onB_no {p a b:Pt} (h:onB p a b=false) (hp:OkP p) (ha:OkP a) (hb:OkP b):¬ On p a b:=fun ho=>by
 rw [onB_t.mpr ⟨⟨hp,ha,hb⟩,ho⟩] at h; cases h
theorem adj {ps:List Pt} (h:simpleB ps=true) {i:Nat} (hi:i < ps.length):¬ On (vv ps (nx ps (nx ps i))) (vv ps i) (vv ps (nx ps i))∧¬ On (vv ps i) (vv ps (nx ps i)) (vv ps (nx ps (nx ps i)))∧vv ps i ≠ vv ps (nx ps i):=by
 obtain ⟨h3,h8,ok⟩:=simple_ok h
 have oi:=vv_ok ok hi
 have oj:=vv_ok ok (nx_lt hi)
 have okk:=vv_ok ok (nx_lt (nx_lt hi))
 by_cases hl:i+1 < ps.length
 ·have e:nx ps i=i+1:=Nat.mod_eq_of_lt hl
  obtain ⟨g1,g2⟩:=simple_pair h (k:=i) (i:=i+1) (by omega) hl
  unfold apartB at g2
  rw [if_pos e] at g2
  simp only [Bool.and_eq_true,Bool.not_eq_true'] at g2
  rw [e] at g2 oj okk ⊢
  exact ⟨onB_no g2.1 okk oi oj,onB_no g2.2 oi oj okk,fun hh=>g1 hh.symm⟩
 ·have e:nx ps i=0:=by unfold nx; rw [show i+1=ps.length by omega,Nat.mod_self]
  have e0:nx ps 0=1:=Nat.mod_eq_of_lt (by omega)
  obtain ⟨g1,g2⟩:=simple_pair h (k:=0) (i:=i) (by omega) hi
  unfold apartB at g2
  rw [if_neg (by rw [e0]; omega),if_pos e] at g2
  simp only [Bool.and_eq_true,Bool.not_eq_true'] at g2
  rw [e,e0] at g2 okk ⊢
  rw [e] at oj
  exact ⟨onB_no g2.2 okk oi oj,onB_no g2.1 oi oj okk,g1⟩
theorem no_line {ps:List Pt} (h:simpleB ps=true) (f:Pt→Int) (hf:∀ u v:Pt,u ∈ ps→v ∈ ps→u ≠ v→f u ≠ f v) (ht:∀ u v w:Pt,u ∈ ps→v ∈ ps→w ∈ ps→TN u v w=0)
 (hb:∀ u v w:Pt,Btw u v w→(f v≤f u∧f u≤f w) ∨ (f w≤f u∧f u≤f v)):False:=by
 obtain ⟨h3,h8,ok⟩:=simple_ok h
 have mid:∀ i,i < ps.length→(f (vv ps i) < f (vv ps (nx ps i))∧f (vv ps (nx ps i)) < f (vv ps (nx ps (nx ps i)))) ∨ (f (vv ps (nx ps i)) < f (vv ps i)∧f (vv ps (nx ps (nx ps i))) < f (vv ps (nx ps i))):=by
  intro i hi
  obtain ⟨a1,a2,a3⟩:=adj h hi
  obtain ⟨_,_,a4⟩:=adj h (nx_lt hi)
  have mi:=vv_mem hi
  have mj:=vv_mem (nx_lt hi)
  have mk:=vv_mem (nx_lt (nx_lt hi))
  have d1:=hf _ _ mi mj a3
  have d2:=hf _ _ mj mk a4
  rcases line3 (ht _ _ _ mi mj mk) with g | g | g
  ·exact absurd g a1
  ·exact absurd g a2
  ·have:=hb _ _ _ g.2
   omega
 have up:∀ (g:Pt→Int),(∀ i,i < ps.length→g (vv ps i) < g (vv ps (nx ps i))→g (vv ps (nx ps i)) < g (vv ps (nx ps (nx ps i))))→g (vv ps 0) < g (vv ps (nx ps 0))→False:=by
  intro g hg h0
  have all:∀ i,i < ps.length→g (vv ps i) < g (vv ps (nx ps i)):=by
   intro i
   induction i with
   | zero=>intro _; exact h0
   | succ i ih =>
     intro hi
     have:=hg i (by omega) (ih (by omega))
     rw [show nx ps i=i+1 from Nat.mod_eq_of_lt hi] at this
     exact this
  have far:∀ i,i < ps.length→g (vv ps 0)≤g (vv ps i):=by
   intro i
   induction i with
   | zero=>intro _; omega
   | succ i ih =>
     intro hi
     have:=all i (by omega)
     rw [show nx ps i=i+1 from Nat.mod_eq_of_lt hi] at this
     have:=ih (by omega)
     omega
  have last:=all (ps.length - 1) (by omega)
  rw [show nx ps (ps.length - 1)=0 by unfold nx; rw [show ps.length - 1+1=ps.length by omega,Nat.mod_self]] at last
  have:=far (ps.length - 1) (by omega)
  omega
 rcases mid 0 (by omega) with g | g
 ·exact up f (fun i hi hh=>by have:=mid i hi; omega) g.1
 ·exact up (fun p=>-f p) (fun i hi hh=>by
   have:=mid i hi
   have hh':-f (vv ps i) < -f (vv ps (nx ps i)):=hh
   show -f (vv ps (nx ps i)) < -f (vv ps (nx ps (nx ps i)))
   omega) (show -f (vv ps 0) < -f (vv ps (nx ps 0)) by omega)
theorem spread {ps:List Pt} (hr:rightB ps=true):(bbX ps).1.1 < (bbX ps).2.1∧(bbX ps).1.2 < (bbX ps).2.2:=by
 have hs:simpleB ps=true:=by unfold rightB at hr; exact (Bool.and_eq_true_iff.mp hr).1
 have h3:=(simple_ok hs).1
 have all:∀ u ∈ ps,(bbX ps).1.1≤u.1∧(bbX ps).1.2≤u.2∧u.1≤(bbX ps).2.1∧u.2≤(bbX ps).2.2:=by
  intro u hu
  obtain ⟨i,hi,rfl⟩:=mem_vv hu
  exact bb_all ps hi
 constructor
 ·apply Classical.byContradiction
  intro hn
  have eq:∀ u ∈ ps,u.1=(bbX ps).1.1:=fun u hu=>by have:=all u hu; omega
  refine no_line hs (·.2) (fun u v hu hv hne he=>hne (Prod.ext ((eq u hu).trans (eq v hv).symm) he)) (fun u v w hu hv hw=>?_) (fun u v w hb=>hb.2)
  unfold TN; rw [eq u hu,eq v hv,eq w hw]; simp
 ·apply Classical.byContradiction
  intro hn
  have eq:∀ u ∈ ps,u.2=(bbX ps).1.2:=fun u hu=>by have:=all u hu; omega
  refine no_line hs (·.1) (fun u v hu hv hne he=>hne (Prod.ext he ((eq u hu).trans (eq v hv).symm))) (fun u v w hu hv hw=>?_) (fun u v w hb=>hb.1)
  unfold TN; rw [eq u hu,eq v hv,eq w hw]; simp
theorem bb_hit {ps:List Pt} (h:0 < ps.length):(∃ q ∈ ps,q.1=(bbX ps).1.1)∧(∃ q ∈ ps,q.1=(bbX ps).2.1)∧(∃ q ∈ ps,q.2=(bbX ps).1.2)∧(∃ q ∈ ps,q.2=(bbX ps).2.2):=by
 obtain ⟨h1,h2,h3,h4⟩:=bb_met ps (vv ps 0,vv ps 0)
 have m:=vv_mem h
 have g:∀ {P:Prop} {x y:Int} {f:Pt→Int},(x=y ∨ ∃ q ∈ ps,f q=x)→y=f (vv ps 0)→∃ q ∈ ps,f q=x:=by
  intro P x y f hh he
  rcases hh with hh | hh
  ·exact ⟨_,m,(hh.trans he).symm⟩
  ·exact hh
 exact ⟨g (P:=True) (f:=(·.1)) h1 rfl,g (P:=True) (f:=(·.1)) h3 rfl,g (P:=True) (f:=(·.2)) h2 rfl,g (P:=True) (f:=(·.2)) h4 rfl⟩
end Go.Proofs.Ytkfppigcjdapnaa.AE

namespace Go.Proofs.Ytkfppigcjdapnaa.AE
set_option linter.unusedVariables false
set_option linter.unusedSimpArgs false
set_option linter.constructorNameAsVariable false
open Go
set_option maxRecDepth 100000
set_option maxHeartbeats 0
def r8R6 (C:Cb) (d:Nat) (a0:List AV) (b23 b24 b25:Bool) (v26 v27 v28:AV) (b29 b30:Bool) (v31 v32 v33:AV) (x40 x41 x42 x43:Int) (b44:Bool) (v45 v49:AV) (x55:Int) (k57:Ex→St→Ans) (b59:Bool) (x61:Int) (v145 v146:AV) (x151 x152:Int) (v153 v197:AV) (b198 b199:Bool) (v200 v201 v202 v203 v204 v205:AV) (b206:Bool) (v207 v248:AV) (b249 b250:Bool) (v251 v252 v253 v254 v255 v256:AV) (b257:Bool) (v258 v299:AV) (b300 b301:Bool) (v302 v303 v304 v305 v306 v307:AV) (b308:Bool) (v309 v350:AV) (b351 b352:Bool) (v353 v354 v355 v356 v357 v358:AV) (b359:Bool) (v360:AV):St→(Ex→St→Ans)→Ans:=fun s361 k362 =>
 cnd ((List.length s361.env) == 138)
 (sames C s361.env 0 [(.lst a0),tz,(.bool b59),v45,(.bool b44),v49,tz,v153,(.bool b23),(.bool b24),(.bool b25),v26,v27,v28,(.bool b29),(.bool b30),v31,v32,v33,bf,tz,(.tup [(.agg [(iz x40),(iz x41),(iz x42),(iz x43)]),(.bool b44)]),(.lst a0),(.tup [(.agg [(iz x40),(iz x41),(iz x42),(iz x43)]),(.bool b44)]),(.agg [(iz x40),(iz x41),(iz x42),(iz x43)]),(.bool b44),(.agg [bf,bf,bf,bf]),(.lst a0),(iz x55),(iz x61),bt,v146,(.agg [(iz x151),(iz x152)]),v197,(.bool b198),(.bool b199),v200,v201,v202,v203,v204,v205,(.bool b206),v207,v248,(.bool b249),(.bool b250),v251,v252,v253,v254,v255,v256,(.bool b257),v258,v299,(.bool b300),(.bool b301),v302,v303,v304,v305,v306,v307,(.bool b308),v309,v350,(.bool b351),(.bool b352),v353,v354,v355,v356,v357,v358,(.bool b359),v360] <|
 anys C s361.env 77 36 <|
 sames C s361.env 113 [v145,tz,tz,tz,tz,tz,tz,tz,tz,tz,tz,tz,tz,tz,tz,tz,tz,tz,tz,tz,tz,tz,tz,tz,tz] <|
 C.hop (St.H s361) (.fldA 0 (.v v153)) fun v400 h401 =>
 C.hop h401 (.load false 1 (.v v400)) fun v402 h403 =>
 C.int .i64 (some v402) fun x404 =>
 C.hop h403 (.fldA 0 (.v v45)) fun v405 h406 =>
 C.hop h406 (.fldA 0 (.v v405)) fun v407 h408 =>
 C.hop h408 (.load false 1 (.v v407)) fun v409 h410 =>
 C.int .i64 (some v409) fun x411 =>
 cnd (decide (x404 < x411))
 (k362 (.exit 2000000) ⟨[(.lst a0),tz,(bz b59),v45,(bz b44),v49,tz,v153,(bz b23),(bz b24),(bz b25),v26,v27,v28,(bz b29),(bz b30),v31,v32,v33,bf,tz,(.tup [(.agg [(iz x40),(iz x41),(iz x42),(iz x43)]),(bz b44)]),(.lst a0),(.tup [(.agg [(iz x40),(iz x41),(iz x42),(iz x43)]),(bz b44)]),(.agg [(iz x40),(iz x41),(iz x42),(iz x43)]),(bz b44),(.agg [bf,bf,bf,bf]),(.lst a0),(iz x55),(iz x61),bt,v146,(.agg [(iz x151),(iz x152)]),v197,(bz b198),(bz b199),v200,v201,v202,v203,v204,v205,(bz b206),v207,v248,(bz b249),(bz b250),v251,v252,v253,v254,v255,v256,(bz b257),v258,v299,(bz b300),(bz b301),v302,v303,v304,v305,v306,v307,(bz b308),v309,v350,(bz b351),(bz b352),v353,v354,v355,v356,v357,v358,(bz b359),v360,v400,(iz x404),v405,v407,(iz x411),(bz (decide (x404 < x411))),bt,tz,tz,tz,tz,tz,tz,bt,bt,tz,tz,tz,tz,tz,tz,bt,bt,tz,tz,tz,tz,tz,tz,bt,bt,tz,tz,tz,tz,bt,v145,tz,tz,tz,tz,tz,tz,tz,tz,tz,tz,tz,tz,tz,tz,tz,tz,tz,tz,tz,tz,tz,tz,tz,tz],h410⟩)
 (C.hop h410 (.fldA 0 (.v v153)) fun v412 h413 =>
 C.hop h413 (.load false 1 (.v v412)) fun v414 h415 =>
 C.int .i64 (some v414) fun x416 =>
 C.hop h415 (.fldA 2 (.v v45)) fun v417 h418 =>
 C.hop h418 (.fldA 0 (.v v417)) fun v419 h420 =>
 C.hop h420 (.load false 1 (.v v419)) fun v421 h422 =>
 C.int .i64 (some v421) fun x423 =>
 cnd (decide (x416 > x423))
 (k362 (.exit 2000000) ⟨[(.lst a0),tz,(bz b59),v45,(bz b44),v49,tz,v153,(bz b23),(bz b24),(bz b25),v26,v27,v28,(bz b29),(bz b30),v31,v32,v33,bf,tz,(.tup [(.agg [(iz x40),(iz x41),(iz x42),(iz x43)]),(bz b44)]),(.lst a0),(.tup [(.agg [(iz x40),(iz x41),(iz x42),(iz x43)]),(bz b44)]),(.agg [(iz x40),(iz x41),(iz x42),(iz x43)]),(bz b44),(.agg [bf,bf,bf,bf]),(.lst a0),(iz x55),(iz x61),bt,v146,(.agg [(iz x151),(iz x152)]),v197,(bz b198),(bz b199),v200,v201,v202,v203,v204,v205,(bz b206),v207,v248,(bz b249),(bz b250),v251,v252,v253,v254,v255,v256,(bz b257),v258,v299,(bz b300),(bz b301),v302,v303,v304,v305,v306,v307,(bz b308),v309,v350,(bz b351),(bz b352),v353,v354,v355,v356,v357,v358,(bz b359),v360,v400,(iz x404),v405,v407,(iz x411),(bz (decide (x404 < x411))),bf,v412,(iz x416),v417,v419,(iz x423),(bz (decide (x416 > x423))),(bz (decide (x416 > x423))),bt,tz,tz,tz,tz,tz,tz,bt,bt,tz,tz,tz,tz,tz,tz,bt,bt,tz,tz,tz,tz,bt,v145,tz,tz,tz,tz,tz,tz,tz,tz,tz,tz,tz,tz,tz,tz,tz,tz,tz,tz,tz,tz,tz,tz,tz,tz],h422⟩)
 (C.hop h422 (.fldA 1 (.v v153)) fun v424 h425 =>
 C.hop h425 (.load false 1 (.v v424)) fun v426 h427 =>
 C.int .i64 (some v426) fun x428 =>
 C.hop h427 (.fldA 0 (.v v45)) fun v429 h430 =>
 C.hop h430 (.fldA 1 (.v v429)) fun v431 h432 =>
 C.hop h432 (.load false 1 (.v v431)) fun v433 h434 =>
 C.int .i64 (some v433) fun x435 =>
 cnd (decide (x428 < x435))
 (k362 (.exit 2000000) ⟨[(.lst a0),tz,(bz b59),v45,(bz b44),v49,tz,v153,(bz b23),(bz b24),(bz b25),v26,v27,v28,(bz b29),(bz b30),v31,v32,v33,bf,tz,(.tup [(.agg [(iz x40),(iz x41),(iz x42),(iz x43)]),(bz b44)]),(.lst a0),(.tup [(.agg [(iz x40),(iz x41),(iz x42),(iz x43)]),(bz b44)]),(.agg [(iz x40),(iz x41),(iz x42),(iz x43)]),(bz b44),(.agg [bf,bf,bf,bf]),(.lst a0),(iz x55),(iz x61),bt,v146,(.agg [(iz x151),(iz x152)]),v197,(bz b198),(bz b199),v200,v201,v202,v203,v204,v205,(bz b206),v207,v248,(bz b249),(bz b250),v251,v252,v253,v254,v255,v256,(bz b257),v258,v299,(bz b300),(bz b301),v302,v303,v304,v305,v306,v307,(bz b308),v309,v350,(bz b351),(bz b352),v353,v354,v355,v356,v357,v358,(bz b359),v360,v400,(iz x404),v405,v407,(iz x411),(bz (decide (x404 < x411))),bf,v412,(iz x416),v417,v419,(iz x423),(bz (decide (x416 > x423))),(bz (decide (x416 > x423))),bf,v424,(iz x428),v429,v431,(iz x435),(bz (decide (x428 < x435))),(bz (decide (x428 < x435))),bt,tz,tz,tz,tz,tz,tz,bt,bt,tz,tz,tz,tz,bt,v145,tz,tz,tz,tz,tz,tz,tz,tz,tz,tz,tz,tz,tz,tz,tz,tz,tz,tz,tz,tz,tz,tz,tz,tz],h434⟩)
 (C.hop h434 (.fldA 1 (.v v153)) fun v436 h437 =>
 C.hop h437 (.load false 1 (.v v436)) fun v438 h439 =>
 C.int .i64 (some v438) fun x440 =>
 C.hop h439 (.fldA 2 (.v v45)) fun v441 h442 =>
 C.hop h442 (.fldA 1 (.v v441)) fun v443 h444 =>
 C.hop h444 (.load false 1 (.v v443)) fun v445 h446 =>
 C.int .i64 (some v445) fun x447 =>
 cnd (decide (x440 > x447))
 (k362 (.exit 2000000) ⟨[(.lst a0),tz,(bz b59),v45,(bz b44),v49,tz,v153,(bz b23),(bz b24),(bz b25),v26,v27,v28,(bz b29),(bz b30),v31,v32,v33,bf,tz,(.tup [(.agg [(iz x40),(iz x41),(iz x42),(iz x43)]),(bz b44)]),(.lst a0),(.tup [(.agg [(iz x40),(iz x41),(iz x42),(iz x43)]),(bz b44)]),(.agg [(iz x40),(iz x41),(iz x42),(iz x43)]),(bz b44),(.agg [bf,bf,bf,bf]),(.lst a0),(iz x55),(iz x61),bt,v146,(.agg [(iz x151),(iz x152)]),v197,(bz b198),(bz b199),v200,v201,v202,v203,v204,v205,(bz b206),v207,v248,(bz b249),(bz b250),v251,v252,v253,v254,v255,v256,(bz b257),v258,v299,(bz b300),(bz b301),v302,v303,v304,v305,v306,v307,(bz b308),v309,v350,(bz b351),(bz b352),v353,v354,v355,v356,v357,v358,(bz b359),v360,v400,(iz x404),v405,v407,(iz x411),(bz (decide (x404 < x411))),bf,v412,(iz x416),v417,v419,(iz x423),(bz (decide (x416 > x423))),(bz (decide (x416 > x423))),bf,v424,(iz x428),v429,v431,(iz x435),(bz (decide (x428 < x435))),(bz (decide (x428 < x435))),bf,v436,(iz x440),v441,v443,(iz x447),(bz (decide (x440 > x447))),(bz (decide (x440 > x447))),bt,tz,tz,tz,tz,bt,v145,tz,tz,tz,tz,tz,tz,tz,tz,tz,tz,tz,tz,tz,tz,tz,tz,tz,tz,tz,tz,tz,tz,tz,tz],h446⟩)
 (C.hop h446 (.load true 2 (.v v153)) fun v448 h449 =>
 C.agg 2 (some v448) fun l450 =>
 C.int .i64 l450[0]? fun x451 =>
 C.int .i64 l450[1]? fun x452 =>
 C.snp h449 [(.lst a0),(.agg [(iz x451),(iz x452)])] fun l453 b454 =>
 C.int .i64 (pcall M d 16 l453) fun x455 =>
 cnd (b454 || true)
 (k362 (.exit 2000000) ⟨[(.lst a0),tz,(bz b59),v45,(bz b44),v49,tz,v153,(bz b23),(bz b24),(bz b25),v26,v27,v28,(bz b29),(bz b30),v31,v32,v33,bf,tz,(.tup [(.agg [(iz x40),(iz x41),(iz x42),(iz x43)]),(bz b44)]),(.lst a0),(.tup [(.agg [(iz x40),(iz x41),(iz x42),(iz x43)]),(bz b44)]),(.agg [(iz x40),(iz x41),(iz x42),(iz x43)]),(bz b44),(.agg [bf,bf,bf,bf]),(.lst a0),(iz x55),(iz x61),bt,v146,(.agg [(iz x151),(iz x152)]),v197,(bz b198),(bz b199),v200,v201,v202,v203,v204,v205,(bz b206),v207,v248,(bz b249),(bz b250),v251,v252,v253,v254,v255,v256,(bz b257),v258,v299,(bz b300),(bz b301),v302,v303,v304,v305,v306,v307,(bz b308),v309,v350,(bz b351),(bz b352),v353,v354,v355,v356,v357,v358,(bz b359),v360,v400,(iz x404),v405,v407,(iz x411),(bz (decide (x404 < x411))),bf,v412,(iz x416),v417,v419,(iz x423),(bz (decide (x416 > x423))),(bz (decide (x416 > x423))),bf,v424,(iz x428),v429,v431,(iz x435),(bz (decide (x428 < x435))),(bz (decide (x428 < x435))),bf,v436,(iz x440),v441,v443,(iz x447),(bz (decide (x440 > x447))),(bz (decide (x440 > x447))),bf,(.lst a0),(.agg [(iz x451),(iz x452)]),(iz x455),(bz (decide (x455 < 0))),(bz (decide (x455 < 0))),v145,tz,tz,tz,tz,tz,tz,tz,tz,tz,tz,tz,tz,tz,tz,tz,tz,tz,tz,tz,tz,tz,tz,tz,tz],h449⟩)
 (none))))))
 (none)
def r8X6_0 (C:Cb) (d:Nat) (a0:List AV) (b23 b24 b25:Bool) (v26 v27 v28:AV) (b29 b30:Bool) (v31 v32 v33:AV) (x40 x41 x42 x43:Int) (b44:Bool) (v45 v49:AV) (x55:Int) (k57:Ex→St→Ans) (b59:Bool) (x61:Int) (v145 v146:AV) (x151 x152:Int) (v153 v197:AV) (b198 b199:Bool) (v200 v201 v202 v203 v204 v205:AV) (b206:Bool) (v207 v248:AV) (b249 b250:Bool) (v251 v252 v253 v254 v255 v256:AV) (b257:Bool) (v258 v299:AV) (b300 b301:Bool) (v302 v303 v304 v305 v306 v307:AV) (b308:Bool) (v309 v350:AV) (b351 b352:Bool) (v353 v354 v355 v356 v357 v358:AV) (b359:Bool) (v360:AV):St→Ans:=fun s456 =>
 cnd ((List.length s456.env) == 138)
 (sames C s456.env 0 [(.lst a0),tz,(.bool b59),v45,(.bool b44),v49,tz,v153,(.bool b23),(.bool b24),(.bool b25),v26,v27,v28,(.bool b29),(.bool b30),v31,v32,v33,bf,tz,(.tup [(.agg [(iz x40),(iz x41),(iz x42),(iz x43)]),(.bool b44)]),(.lst a0),(.tup [(.agg [(iz x40),(iz x41),(iz x42),(iz x43)]),(.bool b44)]),(.agg [(iz x40),(iz x41),(iz x42),(iz x43)]),(.bool b44),(.agg [bf,bf,bf,bf]),(.lst a0),(iz x55),(iz x61),bt,v146,(.agg [(iz x151),(iz x152)]),v197,(.bool b198),(.bool b199),v200,v201,v202,v203,v204,v205,(.bool b206),v207,v248,(.bool b249),(.bool b250),v251,v252,v253,v254,v255,v256,(.bool b257),v258,v299,(.bool b300),(.bool b301),v302,v303,v304,v305,v306,v307,(.bool b308),v309,v350,(.bool b351),(.bool b352),v353,v354,v355,v356,v357,v358,(.bool b359),v360] <|
 C.any s456.env[77]? fun v457 =>
 C.int .i64 s456.env[78]? fun x458 =>
 C.any s456.env[79]? fun v459 =>
 C.any s456.env[80]? fun v460 =>
 C.int .i64 s456.env[81]? fun x461 =>
 C.bool s456.env[82]? fun b462 =>
 C.bool s456.env[83]? fun b463 =>
 C.any s456.env[84]? fun v464 =>
 C.any s456.env[85]? fun v465 =>
 C.any s456.env[86]? fun v466 =>
 C.any s456.env[87]? fun v467 =>
 C.any s456.env[88]? fun v468 =>
 C.any s456.env[89]? fun v469 =>
 C.bool s456.env[90]? fun b470 =>
 C.bool s456.env[91]? fun b471 =>
 C.any s456.env[92]? fun v472 =>
 C.any s456.env[93]? fun v473 =>
 C.any s456.env[94]? fun v474 =>
 C.any s456.env[95]? fun v475 =>
 C.any s456.env[96]? fun v476 =>
 C.any s456.env[97]? fun v477 =>
 C.bool s456.env[98]? fun b478 =>
 C.bool s456.env[99]? fun b479 =>
 C.any s456.env[100]? fun v480 =>
 C.any s456.env[101]? fun v481 =>
 C.any s456.env[102]? fun v482 =>
 C.any s456.env[103]? fun v483 =>
 C.any s456.env[104]? fun v484 =>
 C.any s456.env[105]? fun v485 =>
 C.bool s456.env[106]? fun b486 =>
 C.bool s456.env[107]? fun b487 =>
 C.any s456.env[108]? fun v488 =>
 C.any s456.env[109]? fun v489 =>
 C.any s456.env[110]? fun v490 =>
 C.any s456.env[111]? fun v491 =>
 C.bool s456.env[112]? fun b492 =>
 sames C s456.env 113 [v145,tz,tz,tz,tz,tz,tz,tz,tz,tz,tz,tz,tz,tz,tz,tz,tz,tz,tz,tz,tz,tz,tz,tz,tz] <|
 cnd b492
 (k57 .ret ⟨[(.lst a0),tz,bf,v45,(bz b44),v49,tz,v153,(bz b23),(bz b24),(bz b25),v26,v27,v28,(bz b29),(bz b30),v31,v32,v33,bf,tz,(.tup [(.agg [(iz x40),(iz x41),(iz x42),(iz x43)]),(bz b44)]),(.lst a0),(.tup [(.agg [(iz x40),(iz x41),(iz x42),(iz x43)]),(bz b44)]),(.agg [(iz x40),(iz x41),(iz x42),(iz x43)]),(bz b44),(.agg [bf,bf,bf,bf]),(.lst a0),(iz x55),(iz x61),bt,v146,(.agg [(iz x151),(iz x152)]),v197,(bz b198),(bz b199),v200,v201,v202,v203,v204,v205,(bz b206),v207,v248,(bz b249),(bz b250),v251,v252,v253,v254,v255,v256,(bz b257),v258,v299,(bz b300),(bz b301),v302,v303,v304,v305,v306,v307,(bz b308),v309,v350,(bz b351),(bz b352),v353,v354,v355,v356,v357,v358,(bz b359),v360,v457,(iz x458),v459,v460,(iz x461),(bz b462),(bz b463),v464,v465,v466,v467,v468,v469,(bz b470),(bz b471),v472,v473,v474,v475,v476,v477,(bz b478),(bz b479),v480,v481,v482,v483,v484,v485,(bz b486),(bz b487),v488,v489,v490,v491,bt,v145,tz,tz,tz,tz,tz,tz,tz,tz,tz,tz,tz,tz,tz,tz,tz,tz,tz,tz,tz,tz,tz,tz,tz,tz],(St.H s456)⟩)
 (k57 .normal ⟨[(.lst a0),tz,(bz b59),v45,(bz b44),v49,tz,v153,(bz b23),(bz b24),(bz b25),v26,v27,v28,(bz b29),(bz b30),v31,v32,v33,bf,tz,(.tup [(.agg [(iz x40),(iz x41),(iz x42),(iz x43)]),(bz b44)]),(.lst a0),(.tup [(.agg [(iz x40),(iz x41),(iz x42),(iz x43)]),(bz b44)]),(.agg [(iz x40),(iz x41),(iz x42),(iz x43)]),(bz b44),(.agg [bf,bf,bf,bf]),(.lst a0),(iz x55),(iz (IntKind.wrap .i64 (x61+1))),bt,v146,(.agg [(iz x151),(iz x152)]),v197,(bz b198),(bz b199),v200,v201,v202,v203,v204,v205,(bz b206),v207,v248,(bz b249),(bz b250),v251,v252,v253,v254,v255,v256,(bz b257),v258,v299,(bz b300),(bz b301),v302,v303,v304,v305,v306,v307,(bz b308),v309,v350,(bz b351),(bz b352),v353,v354,v355,v356,v357,v358,(bz b359),v360,v457,(iz x458),v459,v460,(iz x461),(bz b462),(bz b463),v464,v465,v466,v467,v468,v469,(bz b470),(bz b471),v472,v473,v474,v475,v476,v477,(bz b478),(bz b479),v480,v481,v482,v483,v484,v485,(bz b486),(bz b487),v488,v489,v490,v491,bf,(iz (IntKind.wrap .i64 (x61+1))),tz,tz,tz,tz,tz,tz,tz,tz,tz,tz,tz,tz,tz,tz,tz,tz,tz,tz,tz,tz,tz,tz,tz,tz],(St.H s456)⟩))
 (none)
def r8E6 (C:Cb) (d:Nat) (a0:List AV) (b23 b24 b25:Bool) (v26 v27 v28:AV) (b29 b30:Bool) (v31 v32 v33:AV) (x40 x41 x42 x43:Int) (b44:Bool) (v45 v49:AV) (x55:Int) (k57:Ex→St→Ans) (b59:Bool) (x61:Int) (v145 v146:AV) (x151 x152:Int) (v153 v197:AV) (b198 b199:Bool) (v200 v201 v202 v203 v204 v205:AV) (b206:Bool) (v207 v248:AV) (b249 b250:Bool) (v251 v252 v253 v254 v255 v256:AV) (b257:Bool) (v258 v299:AV) (b300 b301:Bool) (v302 v303 v304 v305 v306 v307:AV) (b308:Bool) (v309 v350:AV) (b351 b352:Bool) (v353 v354 v355 v356 v357 v358:AV) (b359:Bool) (v360:AV):St→Ans:=fun s363 =>
 cnd ((List.length s363.env) == 138)
 (sames C s363.env 0 [(.lst a0),tz,(.bool b59),v45,(.bool b44),v49,tz,v153,(.bool b23),(.bool b24),(.bool b25),v26,v27,v28,(.bool b29),(.bool b30),v31,v32,v33,bf,tz,(.tup [(.agg [(iz x40),(iz x41),(iz x42),(iz x43)]),(.bool b44)]),(.lst a0),(.tup [(.agg [(iz x40),(iz x41),(iz x42),(iz x43)]),(.bool b44)]),(.agg [(iz x40),(iz x41),(iz x42),(iz x43)]),(.bool b44),(.agg [bf,bf,bf,bf]),(.lst a0),(iz x55),(iz x61),bt,v146,(.agg [(iz x151),(iz x152)]),v197,(.bool b198),(.bool b199),v200,v201,v202,v203,v204,v205,(.bool b206),v207,v248,(.bool b249),(.bool b250),v251,v252,v253,v254,v255,v256,(.bool b257),v258,v299,(.bool b300),(.bool b301),v302,v303,v304,v305,v306,v307,(.bool b308),v309,v350,(.bool b351),(.bool b352),v353,v354,v355,v356,v357,v358,(.bool b359),v360] <|
 anys C s363.env 77 36 <|
 sames C s363.env 113 [v145,tz,tz,tz,tz,tz,tz,tz,tz,tz,tz,tz,tz,tz,tz,tz,tz,tz,tz,tz,tz,tz,tz,tz,tz] <|
 none)
 (none)
def r8R5 (C:Cb) (d:Nat) (a0:List AV) (b23 b24 b25:Bool) (v26 v27 v28:AV) (b29 b30:Bool) (v31 v32 v33:AV) (x40 x41 x42 x43:Int) (b44:Bool) (v45 v49:AV) (x55:Int) (k57:Ex→St→Ans) (b59:Bool) (x61:Int) (v109 v110 v111 v112 v113 v114 v115 v116 v117 v118 v119 v120 v121 v122 v123 v124 v125 v126 v127 v128 v129 v130 v131 v132 v133 v134 v135 v136 v137 v138 v139 v140 v141 v142 v143 v144 v145 v146:AV) (x151 x152:Int) (v153 v197:AV) (b198 b199:Bool) (v200 v201 v202 v203 v204 v205:AV) (b206:Bool) (v207 v248:AV) (b249 b250:Bool) (v251 v252 v253 v254 v255 v256:AV) (b257:Bool) (v258 v299:AV) (b300 b301:Bool) (v302 v303 v304 v305 v306 v307:AV) (b308:Bool) (v309:AV):St→(Ex→St→Ans)→Ans:=fun s310 k311 =>
 cnd ((List.length s310.env) == 138)
 (sames C s310.env 0 [(.lst a0),tz,(.bool b59),v45,(.bool b44),v49,tz,v153,(.bool b23),(.bool b24),(.bool b25),v26,v27,v28,(.bool b29),(.bool b30),v31,v32,v33,bf,tz,(.tup [(.agg [(iz x40),(iz x41),(iz x42),(iz x43)]),(.bool b44)]),(.lst a0),(.tup [(.agg [(iz x40),(iz x41),(iz x42),(iz x43)]),(.bool b44)]),(.agg [(iz x40),(iz x41),(iz x42),(iz x43)]),(.bool b44),(.agg [bf,bf,bf,bf]),(.lst a0),(iz x55),(iz x61),bt,v146,(.agg [(iz x151),(iz x152)]),v197,(.bool b198),(.bool b199),v200,v201,v202,v203,v204,v205,(.bool b206),v207,v248,(.bool b249),(.bool b250),v251,v252,v253,v254,v255,v256,(.bool b257),v258,v299,(.bool b300),(.bool b301),v302,v303,v304,v305,v306,v307,(.bool b308),v309] <|
 anys C s310.env 66 11 <|
 sames C s310.env 77 [v109,v110,v111,v112,v113,v114,v115,v116,v117,v118,v119,v120,v121,v122,v123,v124,v125,v126,v127,v128,v129,v130,v131,v132,v133,v134,v135,v136,v137,v138,v139,v140,v141,v142,v143,v144,v145,tz,tz,tz,tz,tz,tz,tz,tz,tz,tz,tz,tz,tz,tz,tz,tz,tz,tz,tz,tz,tz,tz,tz,tz] <|
 C.hop (St.H s310) (.ixAA 4 1 (.v v49) (.v (iz 3))) fun v324 h325 =>
 C.hop h325 (.load false 1 (.v v324)) fun v326 h327 =>
 C.bool (some v326) fun b328 =>
 cnd b328
 (C.hop h327 (.ixAA 4 1 (.v v49) (.v (iz 3))) fun v329 h330 =>
 C.hop h330 (.store 1 (.v v329) (.v bt)) fun v331 h332 =>
 k311 (.exit 2000000) ⟨[(.lst a0),tz,(bz b59),v45,(bz b44),v49,tz,v153,(bz b23),(bz b24),(bz b25),v26,v27,v28,(bz b29),(bz b30),v31,v32,v33,bf,tz,(.tup [(.agg [(iz x40),(iz x41),(iz x42),(iz x43)]),(bz b44)]),(.lst a0),(.tup [(.agg [(iz x40),(iz x41),(iz x42),(iz x43)]),(bz b44)]),(.agg [(iz x40),(iz x41),(iz x42),(iz x43)]),(bz b44),(.agg [bf,bf,bf,bf]),(.lst a0),(iz x55),(iz x61),bt,v146,(.agg [(iz x151),(iz x152)]),v197,(bz b198),(bz b199),v200,v201,v202,v203,v204,v205,(bz b206),v207,v248,(bz b249),(bz b250),v251,v252,v253,v254,v255,v256,(bz b257),v258,v299,(bz b300),(bz b301),v302,v303,v304,v305,v306,v307,(bz b308),v309,v324,(bz b328),bt,tz,tz,tz,tz,tz,tz,bt,v329,v109,v110,v111,v112,v113,v114,v115,v116,v117,v118,v119,v120,v121,v122,v123,v124,v125,v126,v127,v128,v129,v130,v131,v132,v133,v134,v135,v136,v137,v138,v139,v140,v141,v142,v143,v144,v145,tz,tz,tz,tz,tz,tz,tz,tz,tz,tz,tz,tz,tz,tz,tz,tz,tz,tz,tz,tz,tz,tz,tz,tz],h332⟩)
 (C.hop h327 (.fldA 1 (.v v153)) fun v333 h334 =>
 C.hop h334 (.load false 1 (.v v333)) fun v335 h336 =>
 C.int .i64 (some v335) fun x337 =>
 C.hop h336 (.fldA 2 (.v v45)) fun v338 h339 =>
 C.hop h339 (.fldA 1 (.v v338)) fun v340 h341 =>
 C.hop h341 (.load false 1 (.v v340)) fun v342 h343 =>
 C.int .i64 (some v342) fun x344 =>
 C.hop h343 (.ixAA 4 1 (.v v49) (.v (iz 3))) fun v345 h346 =>
 C.hop h346 (.store 1 (.v v345) (.v (.bool (x337 == x344)))) fun v347 h348 =>
 k311 (.exit 2000000) ⟨[(.lst a0),tz,(bz b59),v45,(bz b44),v49,tz,v153,(bz b23),(bz b24),(bz b25),v26,v27,v28,(bz b29),(bz b30),v31,v32,v33,bf,tz,(.tup [(.agg [(iz x40),(iz x41),(iz x42),(iz x43)]),(bz b44)]),(.lst a0),(.tup [(.agg [(iz x40),(iz x41),(iz x42),(iz x43)]),(bz b44)]),(.agg [(iz x40),(iz x41),(iz x42),(iz x43)]),(bz b44),(.agg [bf,bf,bf,bf]),(.lst a0),(iz x55),(iz x61),bt,v146,(.agg [(iz x151),(iz x152)]),v197,(bz b198),(bz b199),v200,v201,v202,v203,v204,v205,(bz b206),v207,v248,(bz b249),(bz b250),v251,v252,v253,v254,v255,v256,(bz b257),v258,v299,(bz b300),(bz b301),v302,v303,v304,v305,v306,v307,(bz b308),v309,v324,(bz b328),bf,v333,(iz x337),v338,v340,(iz x344),(bz (x337 == x344)),(bz (x337 == x344)),v345,v109,v110,v111,v112,v113,v114,v115,v116,v117,v118,v119,v120,v121,v122,v123,v124,v125,v126,v127,v128,v129,v130,v131,v132,v133,v134,v135,v136,v137,v138,v139,v140,v141,v142,v143,v144,v145,tz,tz,tz,tz,tz,tz,tz,tz,tz,tz,tz,tz,tz,tz,tz,tz,tz,tz,tz,tz,tz,tz,tz,tz],h348⟩))
 (none)
def r8X5_0 (C:Cb) (d:Nat) (a0:List AV) (b23 b24 b25:Bool) (v26 v27 v28:AV) (b29 b30:Bool) (v31 v32 v33:AV) (x40 x41 x42 x43:Int) (b44:Bool) (v45 v49:AV) (x55:Int) (k57:Ex→St→Ans) (b59:Bool) (x61:Int) (v109 v110 v111 v112 v113 v114 v115 v116 v117 v118 v119 v120 v121 v122 v123 v124 v125 v126 v127 v128 v129 v130 v131 v132 v133 v134 v135 v136 v137 v138 v139 v140 v141 v142 v143 v144 v145 v146:AV) (x151 x152:Int) (v153 v197:AV) (b198 b199:Bool) (v200 v201 v202 v203 v204 v205:AV) (b206:Bool) (v207 v248:AV) (b249 b250:Bool) (v251 v252 v253 v254 v255 v256:AV) (b257:Bool) (v258 v299:AV) (b300 b301:Bool) (v302 v303 v304 v305 v306 v307:AV) (b308:Bool) (v309:AV):St→Ans:=fun s349 =>
 cnd ((List.length s349.env) == 138)
 (sames C s349.env 0 [(.lst a0),tz,(.bool b59),v45,(.bool b44),v49,tz,v153,(.bool b23),(.bool b24),(.bool b25),v26,v27,v28,(.bool b29),(.bool b30),v31,v32,v33,bf,tz,(.tup [(.agg [(iz x40),(iz x41),(iz x42),(iz x43)]),(.bool b44)]),(.lst a0),(.tup [(.agg [(iz x40),(iz x41),(iz x42),(iz x43)]),(.bool b44)]),(.agg [(iz x40),(iz x41),(iz x42),(iz x43)]),(.bool b44),(.agg [bf,bf,bf,bf]),(.lst a0),(iz x55),(iz x61),bt,v146,(.agg [(iz x151),(iz x152)]),v197,(.bool b198),(.bool b199),v200,v201,v202,v203,v204,v205,(.bool b206),v207,v248,(.bool b249),(.bool b250),v251,v252,v253,v254,v255,v256,(.bool b257),v258,v299,(.bool b300),(.bool b301),v302,v303,v304,v305,v306,v307,(.bool b308),v309] <|
 C.any s349.env[66]? fun v350 =>
 C.bool s349.env[67]? fun b351 =>
 C.bool s349.env[68]? fun b352 =>
 C.any s349.env[69]? fun v353 =>
 C.any s349.env[70]? fun v354 =>
 C.any s349.env[71]? fun v355 =>
 C.any s349.env[72]? fun v356 =>
 C.any s349.env[73]? fun v357 =>
 C.any s349.env[74]? fun v358 =>
 C.bool s349.env[75]? fun b359 =>
 C.any s349.env[76]? fun v360 =>
 sames C s349.env 77 [v109,v110,v111,v112,v113,v114,v115,v116,v117,v118,v119,v120,v121,v122,v123,v124,v125,v126,v127,v128,v129,v130,v131,v132,v133,v134,v135,v136,v137,v138,v139,v140,v141,v142,v143,v144,v145,tz,tz,tz,tz,tz,tz,tz,tz,tz,tz,tz,tz,tz,tz,tz,tz,tz,tz,tz,tz,tz,tz,tz,tz] <|
 C.iter (r8R6 C d a0 b23 b24 b25 v26 v27 v28 b29 b30 v31 v32 v33 x40 x41 x42 x43 b44 v45 v49 x55 k57 b59 x61 v145 v146 x151 x152 v153 v197 b198 b199 v200 v201 v202 v203 v204 v205 b206 v207 v248 b249 b250 v251 v252 v253 v254 v255 v256 b257 v258 v299 b300 b301 v302 v303 v304 v305 v306 v307 b308 v309 v350 b351 b352 v353 v354 v355 v356 v357 v358 b359 v360) 1 ⟨[(.lst a0),tz,(bz b59),v45,(bz b44),v49,tz,v153,(bz b23),(bz b24),(bz b25),v26,v27,v28,(bz b29),(bz b30),v31,v32,v33,bf,tz,(.tup [(.agg [(iz x40),(iz x41),(iz x42),(iz x43)]),(bz b44)]),(.lst a0),(.tup [(.agg [(iz x40),(iz x41),(iz x42),(iz x43)]),(bz b44)]),(.agg [(iz x40),(iz x41),(iz x42),(iz x43)]),(bz b44),(.agg [bf,bf,bf,bf]),(.lst a0),(iz x55),(iz x61),bt,v146,(.agg [(iz x151),(iz x152)]),v197,(bz b198),(bz b199),v200,v201,v202,v203,v204,v205,(bz b206),v207,v248,(bz b249),(bz b250),v251,v252,v253,v254,v255,v256,(bz b257),v258,v299,(bz b300),(bz b301),v302,v303,v304,v305,v306,v307,(bz b308),v309,v350,(bz b351),(bz b352),v353,v354,v355,v356,v357,v358,(bz b359),v360,v109,v110,v111,v112,v113,v114,v115,v116,v117,v118,v119,v120,v121,v122,v123,v124,v125,v126,v127,v128,v129,v130,v131,v132,v133,v134,v135,v136,v137,v138,v139,v140,v141,v142,v143,v144,v145,tz,tz,tz,tz,tz,tz,tz,tz,tz,tz,tz,tz,tz,tz,tz,tz,tz,tz,tz,tz,tz,tz,tz,tz],(St.H s349)⟩ [2000000] [r8X6_0 C d a0 b23 b24 b25 v26 v27 v28 b29 b30 v31 v32 v33 x40 x41 x42 x43 b44 v45 v49 x55 k57 b59 x61 v145 v146 x151 x152 v153 v197 b198 b199 v200 v201 v202 v203 v204 v205 b206 v207 v248 b249 b250 v251 v252 v253 v254 v255 v256 b257 v258 v299 b300 b301 v302 v303 v304 v305 v306 v307 b308 v309 v350 b351 b352 v353 v354 v355 v356 v357 v358 b359 v360] (r8E6 C d a0 b23 b24 b25 v26 v27 v28 b29 b30 v31 v32 v33 x40 x41 x42 x43 b44 v45 v49 x55 k57 b59 x61 v145 v146 x151 x152 v153 v197 b198 b199 v200 v201 v202 v203 v204 v205 b206 v207 v248 b249 b250 v251 v252 v253 v254 v255 v256 b257 v258 v299 b300 b301 v302 v303 v304 v305 v306 v307 b308 v309 v350 b351 b352 v353 v354 v355 v356 v357 v358 b359 v360))
 (none)
def r8E5 (C:Cb) (d:Nat) (a0:List AV) (b23 b24 b25:Bool) (v26 v27 v28:AV) (b29 b30:Bool) (v31 v32 v33:AV) (x40 x41 x42 x43:Int) (b44:Bool) (v45 v49:AV) (x55:Int) (k57:Ex→St→Ans) (b59:Bool) (x61:Int) (v109 v110 v111 v112 v113 v114 v115 v116 v117 v118 v119 v120 v121 v122 v123 v124 v125 v126 v127 v128 v129 v130 v131 v132 v133 v134 v135 v136 v137 v138 v139 v140 v141 v142 v143 v144 v145 v146:AV) (x151 x152:Int) (v153 v197:AV) (b198 b199:Bool) (v200 v201 v202 v203 v204 v205:AV) (b206:Bool) (v207 v248:AV) (b249 b250:Bool) (v251 v252 v253 v254 v255 v256:AV) (b257:Bool) (v258 v299:AV) (b300 b301:Bool) (v302 v303 v304 v305 v306 v307:AV) (b308:Bool) (v309:AV):St→Ans:=fun s312 =>
 cnd ((List.length s312.env) == 138)
 (sames C s312.env 0 [(.lst a0),tz,(.bool b59),v45,(.bool b44),v49,tz,v153,(.bool b23),(.bool b24),(.bool b25),v26,v27,v28,(.bool b29),(.bool b30),v31,v32,v33,bf,tz,(.tup [(.agg [(iz x40),(iz x41),(iz x42),(iz x43)]),(.bool b44)]),(.lst a0),(.tup [(.agg [(iz x40),(iz x41),(iz x42),(iz x43)]),(.bool b44)]),(.agg [(iz x40),(iz x41),(iz x42),(iz x43)]),(.bool b44),(.agg [bf,bf,bf,bf]),(.lst a0),(iz x55),(iz x61),bt,v146,(.agg [(iz x151),(iz x152)]),v197,(.bool b198),(.bool b199),v200,v201,v202,v203,v204,v205,(.bool b206),v207,v248,(.bool b249),(.bool b250),v251,v252,v253,v254,v255,v256,(.bool b257),v258,v299,(.bool b300),(.bool b301),v302,v303,v304,v305,v306,v307,(.bool b308),v309] <|
 anys C s312.env 66 11 <|
 sames C s312.env 77 [v109,v110,v111,v112,v113,v114,v115,v116,v117,v118,v119,v120,v121,v122,v123,v124,v125,v126,v127,v128,v129,v130,v131,v132,v133,v134,v135,v136,v137,v138,v139,v140,v141,v142,v143,v144,v145,tz,tz,tz,tz,tz,tz,tz,tz,tz,tz,tz,tz,tz,tz,tz,tz,tz,tz,tz,tz,tz,tz,tz,tz] <|
 none)
 (none)
def r8R4 (C:Cb) (d:Nat) (a0:List AV) (b23 b24 b25:Bool) (v26 v27 v28:AV) (b29 b30:Bool) (v31 v32 v33:AV) (x40 x41 x42 x43:Int) (b44:Bool) (v45 v49:AV) (x55:Int) (k57:Ex→St→Ans) (b59:Bool) (x61:Int) (v98 v99 v100 v101 v102 v103 v104 v105 v106 v107 v108 v109 v110 v111 v112 v113 v114 v115 v116 v117 v118 v119 v120 v121 v122 v123 v124 v125 v126 v127 v128 v129 v130 v131 v132 v133 v134 v135 v136 v137 v138 v139 v140 v141 v142 v143 v144 v145 v146:AV) (x151 x152:Int) (v153 v197:AV) (b198 b199:Bool) (v200 v201 v202 v203 v204 v205:AV) (b206:Bool) (v207 v248:AV) (b249 b250:Bool) (v251 v252 v253 v254 v255 v256:AV) (b257:Bool) (v258:AV):St→(Ex→St→Ans)→Ans:=fun s259 k260 =>
 cnd ((List.length s259.env) == 138)
 (sames C s259.env 0 [(.lst a0),tz,(.bool b59),v45,(.bool b44),v49,tz,v153,(.bool b23),(.bool b24),(.bool b25),v26,v27,v28,(.bool b29),(.bool b30),v31,v32,v33,bf,tz,(.tup [(.agg [(iz x40),(iz x41),(iz x42),(iz x43)]),(.bool b44)]),(.lst a0),(.tup [(.agg [(iz x40),(iz x41),(iz x42),(iz x43)]),(.bool b44)]),(.agg [(iz x40),(iz x41),(iz x42),(iz x43)]),(.bool b44),(.agg [bf,bf,bf,bf]),(.lst a0),(iz x55),(iz x61),bt,v146,(.agg [(iz x151),(iz x152)]),v197,(.bool b198),(.bool b199),v200,v201,v202,v203,v204,v205,(.bool b206),v207,v248,(.bool b249),(.bool b250),v251,v252,v253,v254,v255,v256,(.bool b257),v258] <|
 anys C s259.env 55 11 <|
 sames C s259.env 66 [v98,v99,v100,v101,v102,v103,v104,v105,v106,v107,v108,v109,v110,v111,v112,v113,v114,v115,v116,v117,v118,v119,v120,v121,v122,v123,v124,v125,v126,v127,v128,v129,v130,v131,v132,v133,v134,v135,v136,v137,v138,v139,v140,v141,v142,v143,v144,v145,tz,tz,tz,tz,tz,tz,tz,tz,tz,tz,tz,tz,tz,tz,tz,tz,tz,tz,tz,tz,tz,tz,tz,tz] <|
 C.hop (St.H s259) (.ixAA 4 1 (.v v49) (.v (iz 2))) fun v273 h274 =>
 C.hop h274 (.load false 1 (.v v273)) fun v275 h276 =>
 C.bool (some v275) fun b277 =>
 cnd b277
 (C.hop h276 (.ixAA 4 1 (.v v49) (.v (iz 2))) fun v278 h279 =>
 C.hop h279 (.store 1 (.v v278) (.v bt)) fun v280 h281 =>
 k260 (.exit 2000000) ⟨[(.lst a0),tz,(bz b59),v45,(bz b44),v49,tz,v153,(bz b23),(bz b24),(bz b25),v26,v27,v28,(bz b29),(bz b30),v31,v32,v33,bf,tz,(.tup [(.agg [(iz x40),(iz x41),(iz x42),(iz x43)]),(bz b44)]),(.lst a0),(.tup [(.agg [(iz x40),(iz x41),(iz x42),(iz x43)]),(bz b44)]),(.agg [(iz x40),(iz x41),(iz x42),(iz x43)]),(bz b44),(.agg [bf,bf,bf,bf]),(.lst a0),(iz x55),(iz x61),bt,v146,(.agg [(iz x151),(iz x152)]),v197,(bz b198),(bz b199),v200,v201,v202,v203,v204,v205,(bz b206),v207,v248,(bz b249),(bz b250),v251,v252,v253,v254,v255,v256,(bz b257),v258,v273,(bz b277),bt,tz,tz,tz,tz,tz,tz,bt,v278,v98,v99,v100,v101,v102,v103,v104,v105,v106,v107,v108,v109,v110,v111,v112,v113,v114,v115,v116,v117,v118,v119,v120,v121,v122,v123,v124,v125,v126,v127,v128,v129,v130,v131,v132,v133,v134,v135,v136,v137,v138,v139,v140,v141,v142,v143,v144,v145,tz,tz,tz,tz,tz,tz,tz,tz,tz,tz,tz,tz,tz,tz,tz,tz,tz,tz,tz,tz,tz,tz,tz,tz],h281⟩)
 (C.hop h276 (.fldA 1 (.v v153)) fun v282 h283 =>
 C.hop h283 (.load false 1 (.v v282)) fun v284 h285 =>
 C.int .i64 (some v284) fun x286 =>
 C.hop h285 (.fldA 0 (.v v45)) fun v287 h288 =>
 C.hop h288 (.fldA 1 (.v v287)) fun v289 h290 =>
 C.hop h290 (.load false 1 (.v v289)) fun v291 h292 =>
 C.int .i64 (some v291) fun x293 =>
 C.hop h292 (.ixAA 4 1 (.v v49) (.v (iz 2))) fun v294 h295 =>
 C.hop h295 (.store 1 (.v v294) (.v (.bool (x286 == x293)))) fun v296 h297 =>
 k260 (.exit 2000000) ⟨[(.lst a0),tz,(bz b59),v45,(bz b44),v49,tz,v153,(bz b23),(bz b24),(bz b25),v26,v27,v28,(bz b29),(bz b30),v31,v32,v33,bf,tz,(.tup [(.agg [(iz x40),(iz x41),(iz x42),(iz x43)]),(bz b44)]),(.lst a0),(.tup [(.agg [(iz x40),(iz x41),(iz x42),(iz x43)]),(bz b44)]),(.agg [(iz x40),(iz x41),(iz x42),(iz x43)]),(bz b44),(.agg [bf,bf,bf,bf]),(.lst a0),(iz x55),(iz x61),bt,v146,(.agg [(iz x151),(iz x152)]),v197,(bz b198),(bz b199),v200,v201,v202,v203,v204,v205,(bz b206),v207,v248,(bz b249),(bz b250),v251,v252,v253,v254,v255,v256,(bz b257),v258,v273,(bz b277),bf,v282,(iz x286),v287,v289,(iz x293),(bz (x286 == x293)),(bz (x286 == x293)),v294,v98,v99,v100,v101,v102,v103,v104,v105,v106,v107,v108,v109,v110,v111,v112,v113,v114,v115,v116,v117,v118,v119,v120,v121,v122,v123,v124,v125,v126,v127,v128,v129,v130,v131,v132,v133,v134,v135,v136,v137,v138,v139,v140,v141,v142,v143,v144,v145,tz,tz,tz,tz,tz,tz,tz,tz,tz,tz,tz,tz,tz,tz,tz,tz,tz,tz,tz,tz,tz,tz,tz,tz],h297⟩))
 (none)
def r8X4_0 (C:Cb) (d:Nat) (a0:List AV) (b23 b24 b25:Bool) (v26 v27 v28:AV) (b29 b30:Bool) (v31 v32 v33:AV) (x40 x41 x42 x43:Int) (b44:Bool) (v45 v49:AV) (x55:Int) (k57:Ex→St→Ans) (b59:Bool) (x61:Int) (v98 v99 v100 v101 v102 v103 v104 v105 v106 v107 v108 v109 v110 v111 v112 v113 v114 v115 v116 v117 v118 v119 v120 v121 v122 v123 v124 v125 v126 v127 v128 v129 v130 v131 v132 v133 v134 v135 v136 v137 v138 v139 v140 v141 v142 v143 v144 v145 v146:AV) (x151 x152:Int) (v153 v197:AV) (b198 b199:Bool) (v200 v201 v202 v203 v204 v205:AV) (b206:Bool) (v207 v248:AV) (b249 b250:Bool) (v251 v252 v253 v254 v255 v256:AV) (b257:Bool) (v258:AV):St→Ans:=fun s298 =>
 cnd ((List.length s298.env) == 138)
 (sames C s298.env 0 [(.lst a0),tz,(.bool b59),v45,(.bool b44),v49,tz,v153,(.bool b23),(.bool b24),(.bool b25),v26,v27,v28,(.bool b29),(.bool b30),v31,v32,v33,bf,tz,(.tup [(.agg [(iz x40),(iz x41),(iz x42),(iz x43)]),(.bool b44)]),(.lst a0),(.tup [(.agg [(iz x40),(iz x41),(iz x42),(iz x43)]),(.bool b44)]),(.agg [(iz x40),(iz x41),(iz x42),(iz x43)]),(.bool b44),(.agg [bf,bf,bf,bf]),(.lst a0),(iz x55),(iz x61),bt,v146,(.agg [(iz x151),(iz x152)]),v197,(.bool b198),(.bool b199),v200,v201,v202,v203,v204,v205,(.bool b206),v207,v248,(.bool b249),(.bool b250),v251,v252,v253,v254,v255,v256,(.bool b257),v258] <|
 C.any s298.env[55]? fun v299 =>
 C.bool s298.env[56]? fun b300 =>
 C.bool s298.env[57]? fun b301 =>
 C.any s298.env[58]? fun v302 =>
 C.any s298.env[59]? fun v303 =>
 C.any s298.env[60]? fun v304 =>
 C.any s298.env[61]? fun v305 =>
 C.any s298.env[62]? fun v306 =>
 C.any s298.env[63]? fun v307 =>
 C.bool s298.env[64]? fun b308 =>
 C.any s298.env[65]? fun v309 =>
 sames C s298.env 66 [v98,v99,v100,v101,v102,v103,v104,v105,v106,v107,v108,v109,v110,v111,v112,v113,v114,v115,v116,v117,v118,v119,v120,v121,v122,v123,v124,v125,v126,v127,v128,v129,v130,v131,v132,v133,v134,v135,v136,v137,v138,v139,v140,v141,v142,v143,v144,v145,tz,tz,tz,tz,tz,tz,tz,tz,tz,tz,tz,tz,tz,tz,tz,tz,tz,tz,tz,tz,tz,tz,tz,tz] <|
 C.iter (r8R5 C d a0 b23 b24 b25 v26 v27 v28 b29 b30 v31 v32 v33 x40 x41 x42 x43 b44 v45 v49 x55 k57 b59 x61 v109 v110 v111 v112 v113 v114 v115 v116 v117 v118 v119 v120 v121 v122 v123 v124 v125 v126 v127 v128 v129 v130 v131 v132 v133 v134 v135 v136 v137 v138 v139 v140 v141 v142 v143 v144 v145 v146 x151 x152 v153 v197 b198 b199 v200 v201 v202 v203 v204 v205 b206 v207 v248 b249 b250 v251 v252 v253 v254 v255 v256 b257 v258 v299 b300 b301 v302 v303 v304 v305 v306 v307 b308 v309) 1 ⟨[(.lst a0),tz,(bz b59),v45,(bz b44),v49,tz,v153,(bz b23),(bz b24),(bz b25),v26,v27,v28,(bz b29),(bz b30),v31,v32,v33,bf,tz,(.tup [(.agg [(iz x40),(iz x41),(iz x42),(iz x43)]),(bz b44)]),(.lst a0),(.tup [(.agg [(iz x40),(iz x41),(iz x42),(iz x43)]),(bz b44)]),(.agg [(iz x40),(iz x41),(iz x42),(iz x43)]),(bz b44),(.agg [bf,bf,bf,bf]),(.lst a0),(iz x55),(iz x61),bt,v146,(.agg [(iz x151),(iz x152)]),v197,(bz b198),(bz b199),v200,v201,v202,v203,v204,v205,(bz b206),v207,v248,(bz b249),(bz b250),v251,v252,v253,v254,v255,v256,(bz b257),v258,v299,(bz b300),(bz b301),v302,v303,v304,v305,v306,v307,(bz b308),v309,v98,v99,v100,v101,v102,v103,v104,v105,v106,v107,v108,v109,v110,v111,v112,v113,v114,v115,v116,v117,v118,v119,v120,v121,v122,v123,v124,v125,v126,v127,v128,v129,v130,v131,v132,v133,v134,v135,v136,v137,v138,v139,v140,v141,v142,v143,v144,v145,tz,tz,tz,tz,tz,tz,tz,tz,tz,tz,tz,tz,tz,tz,tz,tz,tz,tz,tz,tz,tz,tz,tz,tz],(St.H s298)⟩ [2000000] [r8X5_0 C d a0 b23 b24 b25 v26 v27 v28 b29 b30 v31 v32 v33 x40 x41 x42 x43 b44 v45 v49 x55 k57 b59 x61 v109 v110 v111 v112 v113 v114 v115 v116 v117 v118 v119 v120 v121 v122 v123 v124 v125 v126 v127 v128 v129 v130 v131 v132 v133 v134 v135 v136 v137 v138 v139 v140 v141 v142 v143 v144 v145 v146 x151 x152 v153 v197 b198 b199 v200 v201 v202 v203 v204 v205 b206 v207 v248 b249 b250 v251 v252 v253 v254 v255 v256 b257 v258 v299 b300 b301 v302 v303 v304 v305 v306 v307 b308 v309] (r8E5 C d a0 b23 b24 b25 v26 v27 v28 b29 b30 v31 v32 v33 x40 x41 x42 x43 b44 v45 v49 x55 k57 b59 x61 v109 v110 v111 v112 v113 v114 v115 v116 v117 v118 v119 v120 v121 v122 v123 v124 v125 v126 v127 v128 v129 v130 v131 v132 v133 v134 v135 v136 v137 v138 v139 v140 v141 v142 v143 v144 v145 v146 x151 x152 v153 v197 b198 b199 v200 v201 v202 v203 v204 v205 b206 v207 v248 b249 b250 v251 v252 v253 v254 v255 v256 b257 v258 v299 b300 b301 v302 v303 v304 v305 v306 v307 b308 v309))
 (none)
def r8E4 (C:Cb) (d:Nat) (a0:List AV) (b23 b24 b25:Bool) (v26 v27 v28:AV) (b29 b30:Bool) (v31 v32 v33:AV) (x40 x41 x42 x43:Int) (b44:Bool) (v45 v49:AV) (x55:Int) (k57:Ex→St→Ans) (b59:Bool) (x61:Int) (v98 v99 v100 v101 v102 v103 v104 v105 v106 v107 v108 v109 v110 v111 v112 v113 v114 v115 v116 v117 v118 v119 v120 v121 v122 v123 v124 v125 v126 v127 v128 v129 v130 v131 v132 v133 v134 v135 v136 v137 v138 v139 v140 v141 v142 v143 v144 v145 v146:AV) (x151 x152:Int) (v153 v197:AV) (b198 b199:Bool) (v200 v201 v202 v203 v204 v205:AV) (b206:Bool) (v207 v248:AV) (b249 b250:Bool) (v251 v252 v253 v254 v255 v256:AV) (b257:Bool) (v258:AV):St→Ans:=fun s261 =>
 cnd ((List.length s261.env) == 138)
 (sames C s261.env 0 [(.lst a0),tz,(.bool b59),v45,(.bool b44),v49,tz,v153,(.bool b23),(.bool b24),(.bool b25),v26,v27,v28,(.bool b29),(.bool b30),v31,v32,v33,bf,tz,(.tup [(.agg [(iz x40),(iz x41),(iz x42),(iz x43)]),(.bool b44)]),(.lst a0),(.tup [(.agg [(iz x40),(iz x41),(iz x42),(iz x43)]),(.bool b44)]),(.agg [(iz x40),(iz x41),(iz x42),(iz x43)]),(.bool b44),(.agg [bf,bf,bf,bf]),(.lst a0),(iz x55),(iz x61),bt,v146,(.agg [(iz x151),(iz x152)]),v197,(.bool b198),(.bool b199),v200,v201,v202,v203,v204,v205,(.bool b206),v207,v248,(.bool b249),(.bool b250),v251,v252,v253,v254,v255,v256,(.bool b257),v258] <|
 anys C s261.env 55 11 <|
 sames C s261.env 66 [v98,v99,v100,v101,v102,v103,v104,v105,v106,v107,v108,v109,v110,v111,v112,v113,v114,v115,v116,v117,v118,v119,v120,v121,v122,v123,v124,v125,v126,v127,v128,v129,v130,v131,v132,v133,v134,v135,v136,v137,v138,v139,v140,v141,v142,v143,v144,v145,tz,tz,tz,tz,tz,tz,tz,tz,tz,tz,tz,tz,tz,tz,tz,tz,tz,tz,tz,tz,tz,tz,tz,tz] <|
 none)
 (none)
def r8R3 (C:Cb) (d:Nat) (a0:List AV) (b23 b24 b25:Bool) (v26 v27 v28:AV) (b29 b30:Bool) (v31 v32 v33:AV) (x40 x41 x42 x43:Int) (b44:Bool) (v45 v49:AV) (x55:Int) (k57:Ex→St→Ans) (b59:Bool) (x61:Int) (v87 v88 v89 v90 v91 v92 v93 v94 v95 v96 v97 v98 v99 v100 v101 v102 v103 v104 v105 v106 v107 v108 v109 v110 v111 v112 v113 v114 v115 v116 v117 v118 v119 v120 v121 v122 v123 v124 v125 v126 v127 v128 v129 v130 v131 v132 v133 v134 v135 v136 v137 v138 v139 v140 v141 v142 v143 v144 v145 v146:AV) (x151 x152:Int) (v153 v197:AV) (b198 b199:Bool) (v200 v201 v202 v203 v204 v205:AV) (b206:Bool) (v207:AV):St→(Ex→St→Ans)→Ans:=fun s208 k209 =>
 cnd ((List.length s208.env) == 138)
 (sames C s208.env 0 [(.lst a0),tz,(.bool b59),v45,(.bool b44),v49,tz,v153,(.bool b23),(.bool b24),(.bool b25),v26,v27,v28,(.bool b29),(.bool b30),v31,v32,v33,bf,tz,(.tup [(.agg [(iz x40),(iz x41),(iz x42),(iz x43)]),(.bool b44)]),(.lst a0),(.tup [(.agg [(iz x40),(iz x41),(iz x42),(iz x43)]),(.bool b44)]),(.agg [(iz x40),(iz x41),(iz x42),(iz x43)]),(.bool b44),(.agg [bf,bf,bf,bf]),(.lst a0),(iz x55),(iz x61),bt,v146,(.agg [(iz x151),(iz x152)]),v197,(.bool b198),(.bool b199),v200,v201,v202,v203,v204,v205,(.bool b206),v207] <|
 anys C s208.env 44 11 <|
 sames C s208.env 55 [v87,v88,v89,v90,v91,v92,v93,v94,v95,v96,v97,v98,v99,v100,v101,v102,v103,v104,v105,v106,v107,v108,v109,v110,v111,v112,v113,v114,v115,v116,v117,v118,v119,v120,v121,v122,v123,v124,v125,v126,v127,v128,v129,v130,v131,v132,v133,v134,v135,v136,v137,v138,v139,v140,v141,v142,v143,v144,v145,tz,tz,tz,tz,tz,tz,tz,tz,tz,tz,tz,tz,tz,tz,tz,tz,tz,tz,tz,tz,tz,tz,tz,tz] <|
 C.hop (St.H s208) (.ixAA 4 1 (.v v49) (.v (iz 1))) fun v222 h223 =>
 C.hop h223 (.load false 1 (.v v222)) fun v224 h225 =>
 C.bool (some v224) fun b226 =>
 cnd b226
 (C.hop h225 (.ixAA 4 1 (.v v49) (.v (iz 1))) fun v227 h228 =>
 C.hop h228 (.store 1 (.v v227) (.v bt)) fun v229 h230 =>
 k209 (.exit 2000000) ⟨[(.lst a0),tz,(bz b59),v45,(bz b44),v49,tz,v153,(bz b23),(bz b24),(bz b25),v26,v27,v28,(bz b29),(bz b30),v31,v32,v33,bf,tz,(.tup [(.agg [(iz x40),(iz x41),(iz x42),(iz x43)]),(bz b44)]),(.lst a0),(.tup [(.agg [(iz x40),(iz x41),(iz x42),(iz x43)]),(bz b44)]),(.agg [(iz x40),(iz x41),(iz x42),(iz x43)]),(bz b44),(.agg [bf,bf,bf,bf]),(.lst a0),(iz x55),(iz x61),bt,v146,(.agg [(iz x151),(iz x152)]),v197,(bz b198),(bz b199),v200,v201,v202,v203,v204,v205,(bz b206),v207,v222,(bz b226),bt,tz,tz,tz,tz,tz,tz,bt,v227,v87,v88,v89,v90,v91,v92,v93,v94,v95,v96,v97,v98,v99,v100,v101,v102,v103,v104,v105,v106,v107,v108,v109,v110,v111,v112,v113,v114,v115,v116,v117,v118,v119,v120,v121,v122,v123,v124,v125,v126,v127,v128,v129,v130,v131,v132,v133,v134,v135,v136,v137,v138,v139,v140,v141,v142,v143,v144,v145,tz,tz,tz,tz,tz,tz,tz,tz,tz,tz,tz,tz,tz,tz,tz,tz,tz,tz,tz,tz,tz,tz,tz,tz],h230⟩)
 (C.hop h225 (.fldA 0 (.v v153)) fun v231 h232 =>
 C.hop h232 (.load false 1 (.v v231)) fun v233 h234 =>
 C.int .i64 (some v233) fun x235 =>
 C.hop h234 (.fldA 2 (.v v45)) fun v236 h237 =>
 C.hop h237 (.fldA 0 (.v v236)) fun v238 h239 =>
 C.hop h239 (.load false 1 (.v v238)) fun v240 h241 =>
 C.int .i64 (some v240) fun x242 =>
 C.hop h241 (.ixAA 4 1 (.v v49) (.v (iz 1))) fun v243 h244 =>
 C.hop h244 (.store 1 (.v v243) (.v (.bool (x235 == x242)))) fun v245 h246 =>
 k209 (.exit 2000000) ⟨[(.lst a0),tz,(bz b59),v45,(bz b44),v49,tz,v153,(bz b23),(bz b24),(bz b25),v26,v27,v28,(bz b29),(bz b30),v31,v32,v33,bf,tz,(.tup [(.agg [(iz x40),(iz x41),(iz x42),(iz x43)]),(bz b44)]),(.lst a0),(.tup [(.agg [(iz x40),(iz x41),(iz x42),(iz x43)]),(bz b44)]),(.agg [(iz x40),(iz x41),(iz x42),(iz x43)]),(bz b44),(.agg [bf,bf,bf,bf]),(.lst a0),(iz x55),(iz x61),bt,v146,(.agg [(iz x151),(iz x152)]),v197,(bz b198),(bz b199),v200,v201,v202,v203,v204,v205,(bz b206),v207,v222,(bz b226),bf,v231,(iz x235),v236,v238,(iz x242),(bz (x235 == x242)),(bz (x235 == x242)),v243,v87,v88,v89,v90,v91,v92,v93,v94,v95,v96,v97,v98,v99,v100,v101,v102,v103,v104,v105,v106,v107,v108,v109,v110,v111,v112,v113,v114,v115,v116,v117,v118,v119,v120,v121,v122,v123,v124,v125,v126,v127,v128,v129,v130,v131,v132,v133,v134,v135,v136,v137,v138,v139,v140,v141,v142,v143,v144,v145,tz,tz,tz,tz,tz,tz,tz,tz,tz,tz,tz,tz,tz,tz,tz,tz,tz,tz,tz,tz,tz,tz,tz,tz],h246⟩))
 (none)
def r8X3_0 (C:Cb) (d:Nat) (a0:List AV) (b23 b24 b25:Bool) (v26 v27 v28:AV) (b29 b30:Bool) (v31 v32 v33:AV) (x40 x41 x42 x43:Int) (b44:Bool) (v45 v49:AV) (x55:Int) (k57:Ex→St→Ans) (b59:Bool) (x61:Int) (v87 v88 v89 v90 v91 v92 v93 v94 v95 v96 v97 v98 v99 v100 v101 v102 v103 v104 v105 v106 v107 v108 v109 v110 v111 v112 v113 v114 v115 v116 v117 v118 v119 v120 v121 v122 v123 v124 v125 v126 v127 v128 v129 v130 v131 v132 v133 v134 v135 v136 v137 v138 v139 v140 v141 v142 v143 v144 v145 v146:AV) (x151 x152:Int) (v153 v197:AV) (b198 b199:Bool) (v200 v201 v202 v203 v204 v205:AV) (b206:Bool) (v207:AV):St→Ans:=fun s247 =>
 cnd ((List.length s247.env) == 138)
 (sames C s247.env 0 [(.lst a0),tz,(.bool b59),v45,(.bool b44),v49,tz,v153,(.bool b23),(.bool b24),(.bool b25),v26,v27,v28,(.bool b29),(.bool b30),v31,v32,v33,bf,tz,(.tup [(.agg [(iz x40),(iz x41),(iz x42),(iz x43)]),(.bool b44)]),(.lst a0),(.tup [(.agg [(iz x40),(iz x41),(iz x42),(iz x43)]),(.bool b44)]),(.agg [(iz x40),(iz x41),(iz x42),(iz x43)]),(.bool b44),(.agg [bf,bf,bf,bf]),(.lst a0),(iz x55),(iz x61),bt,v146,(.agg [(iz x151),(iz x152)]),v197,(.bool b198),(.bool b199),v200,v201,v202,v203,v204,v205,(.bool b206),v207] <|
 C.any s247.env[44]? fun v248 =>
 C.bool s247.env[45]? fun b249 =>
 C.bool s247.env[46]? fun b250 =>
 C.any s247.env[47]? fun v251 =>
 C.any s247.env[48]? fun v252 =>
 C.any s247.env[49]? fun v253 =>
 C.any s247.env[50]? fun v254 =>
 C.any s247.env[51]? fun v255 =>
 C.any s247.env[52]? fun v256 =>
 C.bool s247.env[53]? fun b257 =>
 C.any s247.env[54]? fun v258 =>
 sames C s247.env 55 [v87,v88,v89,v90,v91,v92,v93,v94,v95,v96,v97,v98,v99,v100,v101,v102,v103,v104,v105,v106,v107,v108,v109,v110,v111,v112,v113,v114,v115,v116,v117,v118,v119,v120,v121,v122,v123,v124,v125,v126,v127,v128,v129,v130,v131,v132,v133,v134,v135,v136,v137,v138,v139,v140,v141,v142,v143,v144,v145,tz,tz,tz,tz,tz,tz,tz,tz,tz,tz,tz,tz,tz,tz,tz,tz,tz,tz,tz,tz,tz,tz,tz,tz] <|
 C.iter (r8R4 C d a0 b23 b24 b25 v26 v27 v28 b29 b30 v31 v32 v33 x40 x41 x42 x43 b44 v45 v49 x55 k57 b59 x61 v98 v99 v100 v101 v102 v103 v104 v105 v106 v107 v108 v109 v110 v111 v112 v113 v114 v115 v116 v117 v118 v119 v120 v121 v122 v123 v124 v125 v126 v127 v128 v129 v130 v131 v132 v133 v134 v135 v136 v137 v138 v139 v140 v141 v142 v143 v144 v145 v146 x151 x152 v153 v197 b198 b199 v200 v201 v202 v203 v204 v205 b206 v207 v248 b249 b250 v251 v252 v253 v254 v255 v256 b257 v258) 1 ⟨[(.lst a0),tz,(bz b59),v45,(bz b44),v49,tz,v153,(bz b23),(bz b24),(bz b25),v26,v27,v28,(bz b29),(bz b30),v31,v32,v33,bf,tz,(.tup [(.agg [(iz x40),(iz x41),(iz x42),(iz x43)]),(bz b44)]),(.lst a0),(.tup [(.agg [(iz x40),(iz x41),(iz x42),(iz x43)]),(bz b44)]),(.agg [(iz x40),(iz x41),(iz x42),(iz x43)]),(bz b44),(.agg [bf,bf,bf,bf]),(.lst a0),(iz x55),(iz x61),bt,v146,(.agg [(iz x151),(iz x152)]),v197,(bz b198),(bz b199),v200,v201,v202,v203,v204,v205,(bz b206),v207,v248,(bz b249),(bz b250),v251,v252,v253,v254,v255,v256,(bz b257),v258,v87,v88,v89,v90,v91,v92,v93,v94,v95,v96,v97,v98,v99,v100,v101,v102,v103,v104,v105,v106,v107,v108,v109,v110,v111,v112,v113,v114,v115,v116,v117,v118,v119,v120,v121,v122,v123,v124,v125,v126,v127,v128,v129,v130,v131,v132,v133,v134,v135,v136,v137,v138,v139,v140,v141,v142,v143,v144,v145,tz,tz,tz,tz,tz,tz,tz,tz,tz,tz,tz,tz,tz,tz,tz,tz,tz,tz,tz,tz,tz,tz,tz,tz],(St.H s247)⟩ [2000000] [r8X4_0 C d a0 b23 b24 b25 v26 v27 v28 b29 b30 v31 v32 v33 x40 x41 x42 x43 b44 v45 v49 x55 k57 b59 x61 v98 v99 v100 v101 v102 v103 v104 v105 v106 v107 v108 v109 v110 v111 v112 v113 v114 v115 v116 v117 v118 v119 v120 v121 v122 v123 v124 v125 v126 v127 v128 v129 v130 v131 v132 v133 v134 v135 v136 v137 v138 v139 v140 v141 v142 v143 v144 v145 v146 x151 x152 v153 v197 b198 b199 v200 v201 v202 v203 v204 v205 b206 v207 v248 b249 b250 v251 v252 v253 v254 v255 v256 b257 v258] (r8E4 C d a0 b23 b24 b25 v26 v27 v28 b29 b30 v31 v32 v33 x40 x41 x42 x43 b44 v45 v49 x55 k57 b59 x61 v98 v99 v100 v101 v102 v103 v104 v105 v106 v107 v108 v109 v110 v111 v112 v113 v114 v115 v116 v117 v118 v119 v120 v121 v122 v123 v124 v125 v126 v127 v128 v129 v130 v131 v132 v133 v134 v135 v136 v137 v138 v139 v140 v141 v142 v143 v144 v145 v146 x151 x152 v153 v197 b198 b199 v200 v201 v202 v203 v204 v205 b206 v207 v248 b249 b250 v251 v252 v253 v254 v255 v256 b257 v258))
 (none)
def r8E3 (C:Cb) (d:Nat) (a0:List AV) (b23 b24 b25:Bool) (v26 v27 v28:AV) (b29 b30:Bool) (v31 v32 v33:AV) (x40 x41 x42 x43:Int) (b44:Bool) (v45 v49:AV) (x55:Int) (k57:Ex→St→Ans) (b59:Bool) (x61:Int) (v87 v88 v89 v90 v91 v92 v93 v94 v95 v96 v97 v98 v99 v100 v101 v102 v103 v104 v105 v106 v107 v108 v109 v110 v111 v112 v113 v114 v115 v116 v117 v118 v119 v120 v121 v122 v123 v124 v125 v126 v127 v128 v129 v130 v131 v132 v133 v134 v135 v136 v137 v138 v139 v140 v141 v142 v143 v144 v145 v146:AV) (x151 x152:Int) (v153 v197:AV) (b198 b199:Bool) (v200 v201 v202 v203 v204 v205:AV) (b206:Bool) (v207:AV):St→Ans:=fun s210 =>
 cnd ((List.length s210.env) == 138)
 (sames C s210.env 0 [(.lst a0),tz,(.bool b59),v45,(.bool b44),v49,tz,v153,(.bool b23),(.bool b24),(.bool b25),v26,v27,v28,(.bool b29),(.bool b30),v31,v32,v33,bf,tz,(.tup [(.agg [(iz x40),(iz x41),(iz x42),(iz x43)]),(.bool b44)]),(.lst a0),(.tup [(.agg [(iz x40),(iz x41),(iz x42),(iz x43)]),(.bool b44)]),(.agg [(iz x40),(iz x41),(iz x42),(iz x43)]),(.bool b44),(.agg [bf,bf,bf,bf]),(.lst a0),(iz x55),(iz x61),bt,v146,(.agg [(iz x151),(iz x152)]),v197,(.bool b198),(.bool b199),v200,v201,v202,v203,v204,v205,(.bool b206),v207] <|
 anys C s210.env 44 11 <|
 sames C s210.env 55 [v87,v88,v89,v90,v91,v92,v93,v94,v95,v96,v97,v98,v99,v100,v101,v102,v103,v104,v105,v106,v107,v108,v109,v110,v111,v112,v113,v114,v115,v116,v117,v118,v119,v120,v121,v122,v123,v124,v125,v126,v127,v128,v129,v130,v131,v132,v133,v134,v135,v136,v137,v138,v139,v140,v141,v142,v143,v144,v145,tz,tz,tz,tz,tz,tz,tz,tz,tz,tz,tz,tz,tz,tz,tz,tz,tz,tz,tz,tz,tz,tz,tz,tz] <|
 none)
 (none)
def r8R2 (C:Cb) (d:Nat) (a0:List AV) (b23 b24 b25:Bool) (v26 v27 v28:AV) (b29 b30:Bool) (v31 v32 v33:AV) (x40 x41 x42 x43:Int) (b44:Bool) (v45 v49:AV) (x55:Int) (k57:Ex→St→Ans) (b59:Bool) (x61:Int) (v76 v77 v78 v79 v80 v81 v82 v83 v84 v85 v86 v87 v88 v89 v90 v91 v92 v93 v94 v95 v96 v97 v98 v99 v100 v101 v102 v103 v104 v105 v106 v107 v108 v109 v110 v111 v112 v113 v114 v115 v116 v117 v118 v119 v120 v121 v122 v123 v124 v125 v126 v127 v128 v129 v130 v131 v132 v133 v134 v135 v136 v137 v138 v139 v140 v141 v142 v143 v144 v145 v146:AV) (x151 x152:Int) (v153:AV):St→(Ex→St→Ans)→Ans:=fun s157 k158 =>
 cnd ((List.length s157.env) == 138)
 (sames C s157.env 0 [(.lst a0),tz,(.bool b59),v45,(.bool b44),v49,tz,v153,(.bool b23),(.bool b24),(.bool b25),v26,v27,v28,(.bool b29),(.bool b30),v31,v32,v33,bf,tz,(.tup [(.agg [(iz x40),(iz x41),(iz x42),(iz x43)]),(.bool b44)]),(.lst a0),(.tup [(.agg [(iz x40),(iz x41),(iz x42),(iz x43)]),(.bool b44)]),(.agg [(iz x40),(iz x41),(iz x42),(iz x43)]),(.bool b44),(.agg [bf,bf,bf,bf]),(.lst a0),(iz x55),(iz x61),bt,v146,(.agg [(iz x151),(iz x152)])] <|
 anys C s157.env 33 11 <|
 sames C s157.env 44 [v76,v77,v78,v79,v80,v81,v82,v83,v84,v85,v86,v87,v88,v89,v90,v91,v92,v93,v94,v95,v96,v97,v98,v99,v100,v101,v102,v103,v104,v105,v106,v107,v108,v109,v110,v111,v112,v113,v114,v115,v116,v117,v118,v119,v120,v121,v122,v123,v124,v125,v126,v127,v128,v129,v130,v131,v132,v133,v134,v135,v136,v137,v138,v139,v140,v141,v142,v143,v144,v145,tz,tz,tz,tz,tz,tz,tz,tz,tz,tz,tz,tz,tz,tz,tz,tz,tz,tz,tz,tz,tz,tz,tz,tz] <|
 C.hop (St.H s157) (.ixAA 4 1 (.v v49) (.v (iz 0))) fun v171 h172 =>
 C.hop h172 (.load false 1 (.v v171)) fun v173 h174 =>
 C.bool (some v173) fun b175 =>
 cnd b175
 (C.hop h174 (.ixAA 4 1 (.v v49) (.v (iz 0))) fun v176 h177 =>
 C.hop h177 (.store 1 (.v v176) (.v bt)) fun v178 h179 =>
 k158 (.exit 2000000) ⟨[(.lst a0),tz,(bz b59),v45,(bz b44),v49,tz,v153,(bz b23),(bz b24),(bz b25),v26,v27,v28,(bz b29),(bz b30),v31,v32,v33,bf,tz,(.tup [(.agg [(iz x40),(iz x41),(iz x42),(iz x43)]),(bz b44)]),(.lst a0),(.tup [(.agg [(iz x40),(iz x41),(iz x42),(iz x43)]),(bz b44)]),(.agg [(iz x40),(iz x41),(iz x42),(iz x43)]),(bz b44),(.agg [bf,bf,bf,bf]),(.lst a0),(iz x55),(iz x61),bt,v146,(.agg [(iz x151),(iz x152)]),v171,(bz b175),bt,tz,tz,tz,tz,tz,tz,bt,v176,v76,v77,v78,v79,v80,v81,v82,v83,v84,v85,v86,v87,v88,v89,v90,v91,v92,v93,v94,v95,v96,v97,v98,v99,v100,v101,v102,v103,v104,v105,v106,v107,v108,v109,v110,v111,v112,v113,v114,v115,v116,v117,v118,v119,v120,v121,v122,v123,v124,v125,v126,v127,v128,v129,v130,v131,v132,v133,v134,v135,v136,v137,v138,v139,v140,v141,v142,v143,v144,v145,tz,tz,tz,tz,tz,tz,tz,tz,tz,tz,tz,tz,tz,tz,tz,tz,tz,tz,tz,tz,tz,tz,tz,tz],h179⟩)
 (C.hop h174 (.fldA 0 (.v v153)) fun v180 h181 =>
 C.hop h181 (.load false 1 (.v v180)) fun v182 h183 =>
 C.int .i64 (some v182) fun x184 =>
 C.hop h183 (.fldA 0 (.v v45)) fun v185 h186 =>
 C.hop h186 (.fldA 0 (.v v185)) fun v187 h188 =>
 C.hop h188 (.load false 1 (.v v187)) fun v189 h190 =>
 C.int .i64 (some v189) fun x191 =>
 C.hop h190 (.ixAA 4 1 (.v v49) (.v (iz 0))) fun v192 h193 =>
 C.hop h193 (.store 1 (.v v192) (.v (.bool (x184 == x191)))) fun v194 h195 =>
 k158 (.exit 2000000) ⟨[(.lst a0),tz,(bz b59),v45,(bz b44),v49,tz,v153,(bz b23),(bz b24),(bz b25),v26,v27,v28,(bz b29),(bz b30),v31,v32,v33,bf,tz,(.tup [(.agg [(iz x40),(iz x41),(iz x42),(iz x43)]),(bz b44)]),(.lst a0),(.tup [(.agg [(iz x40),(iz x41),(iz x42),(iz x43)]),(bz b44)]),(.agg [(iz x40),(iz x41),(iz x42),(iz x43)]),(bz b44),(.agg [bf,bf,bf,bf]),(.lst a0),(iz x55),(iz x61),bt,v146,(.agg [(iz x151),(iz x152)]),v171,(bz b175),bf,v180,(iz x184),v185,v187,(iz x191),(bz (x184 == x191)),(bz (x184 == x191)),v192,v76,v77,v78,v79,v80,v81,v82,v83,v84,v85,v86,v87,v88,v89,v90,v91,v92,v93,v94,v95,v96,v97,v98,v99,v100,v101,v102,v103,v104,v105,v106,v107,v108,v109,v110,v111,v112,v113,v114,v115,v116,v117,v118,v119,v120,v121,v122,v123,v124,v125,v126,v127,v128,v129,v130,v131,v132,v133,v134,v135,v136,v137,v138,v139,v140,v141,v142,v143,v144,v145,tz,tz,tz,tz,tz,tz,tz,tz,tz,tz,tz,tz,tz,tz,tz,tz,tz,tz,tz,tz,tz,tz,tz,tz],h195⟩))
 (none)
def r8X2_0 (C:Cb) (d:Nat) (a0:List AV) (b23 b24 b25:Bool) (v26 v27 v28:AV) (b29 b30:Bool) (v31 v32 v33:AV) (x40 x41 x42 x43:Int) (b44:Bool) (v45 v49:AV) (x55:Int) (k57:Ex→St→Ans) (b59:Bool) (x61:Int) (v76 v77 v78 v79 v80 v81 v82 v83 v84 v85 v86 v87 v88 v89 v90 v91 v92 v93 v94 v95 v96 v97 v98 v99 v100 v101 v102 v103 v104 v105 v106 v107 v108 v109 v110 v111 v112 v113 v114 v115 v116 v117 v118 v119 v120 v121 v122 v123 v124 v125 v126 v127 v128 v129 v130 v131 v132 v133 v134 v135 v136 v137 v138 v139 v140 v141 v142 v143 v144 v145 v146:AV) (x151 x152:Int) (v153:AV):St→Ans:=fun s196 =>
 cnd ((List.length s196.env) == 138)
 (sames C s196.env 0 [(.lst a0),tz,(.bool b59),v45,(.bool b44),v49,tz,v153,(.bool b23),(.bool b24),(.bool b25),v26,v27,v28,(.bool b29),(.bool b30),v31,v32,v33,bf,tz,(.tup [(.agg [(iz x40),(iz x41),(iz x42),(iz x43)]),(.bool b44)]),(.lst a0),(.tup [(.agg [(iz x40),(iz x41),(iz x42),(iz x43)]),(.bool b44)]),(.agg [(iz x40),(iz x41),(iz x42),(iz x43)]),(.bool b44),(.agg [bf,bf,bf,bf]),(.lst a0),(iz x55),(iz x61),bt,v146,(.agg [(iz x151),(iz x152)])] <|
 C.any s196.env[33]? fun v197 =>
 C.bool s196.env[34]? fun b198 =>
 C.bool s196.env[35]? fun b199 =>
 C.any s196.env[36]? fun v200 =>
 C.any s196.env[37]? fun v201 =>
 C.any s196.env[38]? fun v202 =>
 C.any s196.env[39]? fun v203 =>
 C.any s196.env[40]? fun v204 =>
 C.any s196.env[41]? fun v205 =>
 C.bool s196.env[42]? fun b206 =>
 C.any s196.env[43]? fun v207 =>
 sames C s196.env 44 [v76,v77,v78,v79,v80,v81,v82,v83,v84,v85,v86,v87,v88,v89,v90,v91,v92,v93,v94,v95,v96,v97,v98,v99,v100,v101,v102,v103,v104,v105,v106,v107,v108,v109,v110,v111,v112,v113,v114,v115,v116,v117,v118,v119,v120,v121,v122,v123,v124,v125,v126,v127,v128,v129,v130,v131,v132,v133,v134,v135,v136,v137,v138,v139,v140,v141,v142,v143,v144,v145,tz,tz,tz,tz,tz,tz,tz,tz,tz,tz,tz,tz,tz,tz,tz,tz,tz,tz,tz,tz,tz,tz,tz,tz] <|
 C.iter (r8R3 C d a0 b23 b24 b25 v26 v27 v28 b29 b30 v31 v32 v33 x40 x41 x42 x43 b44 v45 v49 x55 k57 b59 x61 v87 v88 v89 v90 v91 v92 v93 v94 v95 v96 v97 v98 v99 v100 v101 v102 v103 v104 v105 v106 v107 v108 v109 v110 v111 v112 v113 v114 v115 v116 v117 v118 v119 v120 v121 v122 v123 v124 v125 v126 v127 v128 v129 v130 v131 v132 v133 v134 v135 v136 v137 v138 v139 v140 v141 v142 v143 v144 v145 v146 x151 x152 v153 v197 b198 b199 v200 v201 v202 v203 v204 v205 b206 v207) 1 ⟨[(.lst a0),tz,(bz b59),v45,(bz b44),v49,tz,v153,(bz b23),(bz b24),(bz b25),v26,v27,v28,(bz b29),(bz b30),v31,v32,v33,bf,tz,(.tup [(.agg [(iz x40),(iz x41),(iz x42),(iz x43)]),(bz b44)]),(.lst a0),(.tup [(.agg [(iz x40),(iz x41),(iz x42),(iz x43)]),(bz b44)]),(.agg [(iz x40),(iz x41),(iz x42),(iz x43)]),(bz b44),(.agg [bf,bf,bf,bf]),(.lst a0),(iz x55),(iz x61),bt,v146,(.agg [(iz x151),(iz x152)]),v197,(bz b198),(bz b199),v200,v201,v202,v203,v204,v205,(bz b206),v207,v76,v77,v78,v79,v80,v81,v82,v83,v84,v85,v86,v87,v88,v89,v90,v91,v92,v93,v94,v95,v96,v97,v98,v99,v100,v101,v102,v103,v104,v105,v106,v107,v108,v109,v110,v111,v112,v113,v114,v115,v116,v117,v118,v119,v120,v121,v122,v123,v124,v125,v126,v127,v128,v129,v130,v131,v132,v133,v134,v135,v136,v137,v138,v139,v140,v141,v142,v143,v144,v145,tz,tz,tz,tz,tz,tz,tz,tz,tz,tz,tz,tz,tz,tz,tz,tz,tz,tz,tz,tz,tz,tz,tz,tz],(St.H s196)⟩ [2000000] [r8X3_0 C d a0 b23 b24 b25 v26 v27 v28 b29 b30 v31 v32 v33 x40 x41 x42 x43 b44 v45 v49 x55 k57 b59 x61 v87 v88 v89 v90 v91 v92 v93 v94 v95 v96 v97 v98 v99 v100 v101 v102 v103 v104 v105 v106 v107 v108 v109 v110 v111 v112 v113 v114 v115 v116 v117 v118 v119 v120 v121 v122 v123 v124 v125 v126 v127 v128 v129 v130 v131 v132 v133 v134 v135 v136 v137 v138 v139 v140 v141 v142 v143 v144 v145 v146 x151 x152 v153 v197 b198 b199 v200 v201 v202 v203 v204 v205 b206 v207] (r8E3 C d a0 b23 b24 b25 v26 v27 v28 b29 b30 v31 v32 v33 x40 x41 x42 x43 b44 v45 v49 x55 k57 b59 x61 v87 v88 v89 v90 v91 v92 v93 v94 v95 v96 v97 v98 v99 v100 v101 v102 v103 v104 v105 v106 v107 v108 v109 v110 v111 v112 v113 v114 v115 v116 v117 v118 v119 v120 v121 v122 v123 v124 v125 v126 v127 v128 v129 v130 v131 v132 v133 v134 v135 v136 v137 v138 v139 v140 v141 v142 v143 v144 v145 v146 x151 x152 v153 v197 b198 b199 v200 v201 v202 v203 v204 v205 b206 v207))
 (none)
def r8E2 (C:Cb) (d:Nat) (a0:List AV) (b23 b24 b25:Bool) (v26 v27 v28:AV) (b29 b30:Bool) (v31 v32 v33:AV) (x40 x41 x42 x43:Int) (b44:Bool) (v45 v49:AV) (x55:Int) (k57:Ex→St→Ans) (b59:Bool) (x61:Int) (v76 v77 v78 v79 v80 v81 v82 v83 v84 v85 v86 v87 v88 v89 v90 v91 v92 v93 v94 v95 v96 v97 v98 v99 v100 v101 v102 v103 v104 v105 v106 v107 v108 v109 v110 v111 v112 v113 v114 v115 v116 v117 v118 v119 v120 v121 v122 v123 v124 v125 v126 v127 v128 v129 v130 v131 v132 v133 v134 v135 v136 v137 v138 v139 v140 v141 v142 v143 v144 v145 v146:AV) (x151 x152:Int) (v153:AV):St→Ans:=fun s159 =>
 cnd ((List.length s159.env) == 138)
 (sames C s159.env 0 [(.lst a0),tz,(.bool b59),v45,(.bool b44),v49,tz,v153,(.bool b23),(.bool b24),(.bool b25),v26,v27,v28,(.bool b29),(.bool b30),v31,v32,v33,bf,tz,(.tup [(.agg [(iz x40),(iz x41),(iz x42),(iz x43)]),(.bool b44)]),(.lst a0),(.tup [(.agg [(iz x40),(iz x41),(iz x42),(iz x43)]),(.bool b44)]),(.agg [(iz x40),(iz x41),(iz x42),(iz x43)]),(.bool b44),(.agg [bf,bf,bf,bf]),(.lst a0),(iz x55),(iz x61),bt,v146,(.agg [(iz x151),(iz x152)])] <|
 anys C s159.env 33 11 <|
 sames C s159.env 44 [v76,v77,v78,v79,v80,v81,v82,v83,v84,v85,v86,v87,v88,v89,v90,v91,v92,v93,v94,v95,v96,v97,v98,v99,v100,v101,v102,v103,v104,v105,v106,v107,v108,v109,v110,v111,v112,v113,v114,v115,v116,v117,v118,v119,v120,v121,v122,v123,v124,v125,v126,v127,v128,v129,v130,v131,v132,v133,v134,v135,v136,v137,v138,v139,v140,v141,v142,v143,v144,v145,tz,tz,tz,tz,tz,tz,tz,tz,tz,tz,tz,tz,tz,tz,tz,tz,tz,tz,tz,tz,tz,tz,tz,tz] <|
 none)
 (none)
def r8R12 (C:Cb) (d:Nat) (a0:List AV) (b23 b24 b25:Bool) (v26 v27 v28:AV) (b29 b30:Bool) (v31 v32 v33:AV) (x40 x41 x42 x43:Int) (b44:Bool) (v45 v49:AV) (x55:Int) (v575:AV) (x576:Int) (v577 v578 v579 v580 v581 v582 v583 v584 v585 v586 v587 v588 v589 v590 v591 v592 v593 v594 v595 v596 v597 v598 v599 v600 v601 v602 v603 v604 v605 v606 v607 v608 v609 v610 v611 v612 v613 v614 v615 v616 v617 v618 v619 v620 v621 v622 v623 v624 v625 v626 v627 v628 v629 v630 v631 v632 v633 v634 v635 v636 v637 v638 v639 v640 v641 v642 v643 v644 v645 v646 v647 v648 v649 v650 v651 v652 v653 v654 v655 v656 v657 v658 v659 v660:AV):St→(Ex→St→Ans)→Ans:=fun s661 k662 =>
 cnd ((List.length s661.env) == 138)
 (sames C s661.env 0 [(.lst a0),tz] <|
 C.bool s661.env[2]? fun b664 =>
 sames C s661.env 3 [v45,(.bool b44),v49,tz,v575,(.bool b23),(.bool b24),(.bool b25),v26,v27,v28,(.bool b29),(.bool b30),v31,v32,v33,bf,tz,(.tup [(.agg [(iz x40),(iz x41),(iz x42),(iz x43)]),(.bool b44)]),(.lst a0),(.tup [(.agg [(iz x40),(iz x41),(iz x42),(iz x43)]),(.bool b44)]),(.agg [(iz x40),(iz x41),(iz x42),(iz x43)]),(.bool b44),(.agg [bf,bf,bf,bf]),(.lst a0),(iz x55),(iz x576),v577,v578,v579,v580,v581,v582,v583,v584,v585,v586,v587,v588,v589,v590,v591,v592,v593,v594,v595,v596,v597,v598,v599,v600,v601,v602,v603,v604,v605,v606,v607,v608,v609,v610,v611,v612,v613,v614,v615,v616,v617,v618,v619,v620,v621,v622,v623,v624,v625,v626,v627,v628,v629,v630,v631,v632,v633,v634,v635,v636,v637,v638,v639,v640,v641,v642,v643,v644,v645,v646,v647,v648,v649,v650,v651,v652,v653,v654,v655,v656,v657,v658,v659,v660] <|
 anys C s661.env 114 24 <|
 cnd b44
 (C.hop (St.H s661) (.load true 4 (.v v49)) fun v689 h690 =>
 C.agg 4 (some v689) fun l691 =>
 C.bool l691[0]? fun b692 =>
 C.bool l691[1]? fun b693 =>
 C.bool l691[2]? fun b694 =>
 C.bool l691[3]? fun b695 =>
 cnd (xor false ((b692 == true) && ((b693 == true) && ((b694 == true) && ((b695 == true) && true)))))
 (C.hop h690 (.fldA 0 (.v v45)) fun v696 h697 =>
 C.hop h697 (.fldA 0 (.v v696)) fun v698 h699 =>
 C.hop h699 (.load false 1 (.v v698)) fun v700 h701 =>
 C.int .i64 (some v700) fun x702 =>
 C.hop h701 (.fldA 2 (.v v45)) fun v703 h704 =>
 C.hop h704 (.fldA 0 (.v v703)) fun v705 h706 =>
 C.hop h706 (.load false 1 (.v v705)) fun v707 h708 =>
 C.int .i64 (some v707) fun x709 =>
 cnd (decide (x702 < x709))
 (C.hop h708 (.fldA 0 (.v v45)) fun v710 h711 =>
 C.hop h711 (.fldA 1 (.v v710)) fun v712 h713 =>
 C.hop h713 (.load false 1 (.v v712)) fun v714 h715 =>
 C.int .i64 (some v714) fun x716 =>
 C.hop h715 (.fldA 2 (.v v45)) fun v717 h718 =>
 C.hop h718 (.fldA 1 (.v v717)) fun v719 h720 =>
 C.hop h720 (.load false 1 (.v v719)) fun v721 h722 =>
 C.int .i64 (some v721) fun x723 =>
 k662 (.exit 2000000) ⟨[(.lst a0),tz,(bz (decide (x716 < x723))),v45,(bz b44),v49,tz,v575,(bz b23),(bz b24),(bz b25),v26,v27,v28,(bz b29),(bz b30),v31,v32,v33,bf,tz,(.tup [(.agg [(iz x40),(iz x41),(iz x42),(iz x43)]),(bz b44)]),(.lst a0),(.tup [(.agg [(iz x40),(iz x41),(iz x42),(iz x43)]),(bz b44)]),(.agg [(iz x40),(iz x41),(iz x42),(iz x43)]),(bz b44),(.agg [bf,bf,bf,bf]),(.lst a0),(iz x55),(iz x576),v577,v578,v579,v580,v581,v582,v583,v584,v585,v586,v587,v588,v589,v590,v591,v592,v593,v594,v595,v596,v597,v598,v599,v600,v601,v602,v603,v604,v605,v606,v607,v608,v609,v610,v611,v612,v613,v614,v615,v616,v617,v618,v619,v620,v621,v622,v623,v624,v625,v626,v627,v628,v629,v630,v631,v632,v633,v634,v635,v636,v637,v638,v639,v640,v641,v642,v643,v644,v645,v646,v647,v648,v649,v650,v651,v652,v653,v654,v655,v656,v657,v658,v659,v660,(bz b44),bt,(.agg [(bz b692),(bz b693),(bz b694),(bz b695)]),(.agg [bt,bt,bt,bt]),(bz (xor false ((b692 == true) && ((b693 == true) && ((b694 == true) && ((b695 == true) && true)))))),(bz (xor false ((b692 == true) && ((b693 == true) && ((b694 == true) && ((b695 == true) && true)))))),bt,v696,v698,(iz x702),v703,v705,(iz x709),(bz (decide (x702 < x709))),(bz (decide (x702 < x709))),bt,v710,v712,(iz x716),v717,v719,(iz x723),(bz (decide (x716 < x723))),(bz (decide (x716 < x723)))],h722⟩)
 (k662 (.exit 2000000) ⟨[(.lst a0),tz,bf,v45,(bz b44),v49,tz,v575,(bz b23),(bz b24),(bz b25),v26,v27,v28,(bz b29),(bz b30),v31,v32,v33,bf,tz,(.tup [(.agg [(iz x40),(iz x41),(iz x42),(iz x43)]),(bz b44)]),(.lst a0),(.tup [(.agg [(iz x40),(iz x41),(iz x42),(iz x43)]),(bz b44)]),(.agg [(iz x40),(iz x41),(iz x42),(iz x43)]),(bz b44),(.agg [bf,bf,bf,bf]),(.lst a0),(iz x55),(iz x576),v577,v578,v579,v580,v581,v582,v583,v584,v585,v586,v587,v588,v589,v590,v591,v592,v593,v594,v595,v596,v597,v598,v599,v600,v601,v602,v603,v604,v605,v606,v607,v608,v609,v610,v611,v612,v613,v614,v615,v616,v617,v618,v619,v620,v621,v622,v623,v624,v625,v626,v627,v628,v629,v630,v631,v632,v633,v634,v635,v636,v637,v638,v639,v640,v641,v642,v643,v644,v645,v646,v647,v648,v649,v650,v651,v652,v653,v654,v655,v656,v657,v658,v659,v660,(bz b44),bt,(.agg [(bz b692),(bz b693),(bz b694),(bz b695)]),(.agg [bt,bt,bt,bt]),(bz (xor false ((b692 == true) && ((b693 == true) && ((b694 == true) && ((b695 == true) && true)))))),(bz (xor false ((b692 == true) && ((b693 == true) && ((b694 == true) && ((b695 == true) && true)))))),bt,v696,v698,(iz x702),v703,v705,(iz x709),(bz (decide (x702 < x709))),(bz (decide (x702 < x709))),bf,tz,tz,tz,tz,tz,tz,tz,bf],h708⟩))
 (k662 (.exit 2000000) ⟨[(.lst a0),tz,bf,v45,(bz b44),v49,tz,v575,(bz b23),(bz b24),(bz b25),v26,v27,v28,(bz b29),(bz b30),v31,v32,v33,bf,tz,(.tup [(.agg [(iz x40),(iz x41),(iz x42),(iz x43)]),(bz b44)]),(.lst a0),(.tup [(.agg [(iz x40),(iz x41),(iz x42),(iz x43)]),(bz b44)]),(.agg [(iz x40),(iz x41),(iz x42),(iz x43)]),(bz b44),(.agg [bf,bf,bf,bf]),(.lst a0),(iz x55),(iz x576),v577,v578,v579,v580,v581,v582,v583,v584,v585,v586,v587,v588,v589,v590,v591,v592,v593,v594,v595,v596,v597,v598,v599,v600,v601,v602,v603,v604,v605,v606,v607,v608,v609,v610,v611,v612,v613,v614,v615,v616,v617,v618,v619,v620,v621,v622,v623,v624,v625,v626,v627,v628,v629,v630,v631,v632,v633,v634,v635,v636,v637,v638,v639,v640,v641,v642,v643,v644,v645,v646,v647,v648,v649,v650,v651,v652,v653,v654,v655,v656,v657,v658,v659,v660,(bz b44),bt,(.agg [(bz b692),(bz b693),(bz b694),(bz b695)]),(.agg [bt,bt,bt,bt]),(bz (xor false ((b692 == true) && ((b693 == true) && ((b694 == true) && ((b695 == true) && true)))))),(bz (xor false ((b692 == true) && ((b693 == true) && ((b694 == true) && ((b695 == true) && true)))))),bf,tz,tz,tz,tz,tz,tz,tz,bf,bf,tz,tz,tz,tz,tz,tz,tz,bf],h690⟩))
 (k662 (.exit 2000000) ⟨[(.lst a0),tz,bf,v45,(bz b44),v49,tz,v575,(bz b23),(bz b24),(bz b25),v26,v27,v28,(bz b29),(bz b30),v31,v32,v33,bf,tz,(.tup [(.agg [(iz x40),(iz x41),(iz x42),(iz x43)]),(bz b44)]),(.lst a0),(.tup [(.agg [(iz x40),(iz x41),(iz x42),(iz x43)]),(bz b44)]),(.agg [(iz x40),(iz x41),(iz x42),(iz x43)]),(bz b44),(.agg [bf,bf,bf,bf]),(.lst a0),(iz x55),(iz x576),v577,v578,v579,v580,v581,v582,v583,v584,v585,v586,v587,v588,v589,v590,v591,v592,v593,v594,v595,v596,v597,v598,v599,v600,v601,v602,v603,v604,v605,v606,v607,v608,v609,v610,v611,v612,v613,v614,v615,v616,v617,v618,v619,v620,v621,v622,v623,v624,v625,v626,v627,v628,v629,v630,v631,v632,v633,v634,v635,v636,v637,v638,v639,v640,v641,v642,v643,v644,v645,v646,v647,v648,v649,v650,v651,v652,v653,v654,v655,v656,v657,v658,v659,v660,(bz b44),bf,tz,tz,tz,bf,bf,tz,tz,tz,tz,tz,tz,tz,bf,bf,tz,tz,tz,tz,tz,tz,tz,bf],(St.H s661)⟩))
 (none)
def r8X12_0 (C:Cb) (d:Nat) (a0:List AV) (b23 b24 b25:Bool) (v26 v27 v28:AV) (b29 b30:Bool) (v31 v32 v33:AV) (x40 x41 x42 x43:Int) (b44:Bool) (v45 v49:AV) (x55:Int) (v575:AV) (x576:Int) (v577 v578 v579 v580 v581 v582 v583 v584 v585 v586 v587 v588 v589 v590 v591 v592 v593 v594 v595 v596 v597 v598 v599 v600 v601 v602 v603 v604 v605 v606 v607 v608 v609 v610 v611 v612 v613 v614 v615 v616 v617 v618 v619 v620 v621 v622 v623 v624 v625 v626 v627 v628 v629 v630 v631 v632 v633 v634 v635 v636 v637 v638 v639 v640 v641 v642 v643 v644 v645 v646 v647 v648 v649 v650 v651 v652 v653 v654 v655 v656 v657 v658 v659 v660:AV):St→Ans:=fun s724 =>
 cnd ((List.length s724.env) == 138)
 (sames C s724.env 0 [(.lst a0),tz] <|
 C.bool s724.env[2]? fun b725 =>
 sames C s724.env 3 [v45,(.bool b44),v49,tz,v575,(.bool b23),(.bool b24),(.bool b25),v26,v27,v28,(.bool b29),(.bool b30),v31,v32,v33,bf,tz,(.tup [(.agg [(iz x40),(iz x41),(iz x42),(iz x43)]),(.bool b44)]),(.lst a0),(.tup [(.agg [(iz x40),(iz x41),(iz x42),(iz x43)]),(.bool b44)]),(.agg [(iz x40),(iz x41),(iz x42),(iz x43)]),(.bool b44),(.agg [bf,bf,bf,bf]),(.lst a0),(iz x55),(iz x576),v577,v578,v579,v580,v581,v582,v583,v584,v585,v586,v587,v588,v589,v590,v591,v592,v593,v594,v595,v596,v597,v598,v599,v600,v601,v602,v603,v604,v605,v606,v607,v608,v609,v610,v611,v612,v613,v614,v615,v616,v617,v618,v619,v620,v621,v622,v623,v624,v625,v626,v627,v628,v629,v630,v631,v632,v633,v634,v635,v636,v637,v638,v639,v640,v641,v642,v643,v644,v645,v646,v647,v648,v649,v650,v651,v652,v653,v654,v655,v656,v657,v658,v659,v660] <|
 C.bool s724.env[114]? fun b726 =>
 C.bool s724.env[115]? fun b727 =>
 anys C s724.env 116 3 <|
 C.bool s724.env[119]? fun b731 =>
 C.bool s724.env[120]? fun b732 =>
 anys C s724.env 121 7 <|
 C.bool s724.env[128]? fun b740 =>
 C.bool s724.env[129]? fun b741 =>
 anys C s724.env 130 7 <|
 C.bool s724.env[137]? fun b749 =>
 C.fin (St.H s724) (.bool b725))
 (none)
def r8E12 (C:Cb) (d:Nat) (a0:List AV) (b23 b24 b25:Bool) (v26 v27 v28:AV) (b29 b30:Bool) (v31 v32 v33:AV) (x40 x41 x42 x43:Int) (b44:Bool) (v45 v49:AV) (x55:Int) (v575:AV) (x576:Int) (v577 v578 v579 v580 v581 v582 v583 v584 v585 v586 v587 v588 v589 v590 v591 v592 v593 v594 v595 v596 v597 v598 v599 v600 v601 v602 v603 v604 v605 v606 v607 v608 v609 v610 v611 v612 v613 v614 v615 v616 v617 v618 v619 v620 v621 v622 v623 v624 v625 v626 v627 v628 v629 v630 v631 v632 v633 v634 v635 v636 v637 v638 v639 v640 v641 v642 v643 v644 v645 v646 v647 v648 v649 v650 v651 v652 v653 v654 v655 v656 v657 v658 v659 v660:AV):St→Ans:=fun s663 =>
 cnd ((List.length s663.env) == 138)
 (sames C s663.env 0 [(.lst a0),tz] <|
 C.bool s663.env[2]? fun b750 =>
 sames C s663.env 3 [v45,(.bool b44),v49,tz,v575,(.bool b23),(.bool b24),(.bool b25),v26,v27,v28,(.bool b29),(.bool b30),v31,v32,v33,bf,tz,(.tup [(.agg [(iz x40),(iz x41),(iz x42),(iz x43)]),(.bool b44)]),(.lst a0),(.tup [(.agg [(iz x40),(iz x41),(iz x42),(iz x43)]),(.bool b44)]),(.agg [(iz x40),(iz x41),(iz x42),(iz x43)]),(.bool b44),(.agg [bf,bf,bf,bf]),(.lst a0),(iz x55),(iz x576),v577,v578,v579,v580,v581,v582,v583,v584,v585,v586,v587,v588,v589,v590,v591,v592,v593,v594,v595,v596,v597,v598,v599,v600,v601,v602,v603,v604,v605,v606,v607,v608,v609,v610,v611,v612,v613,v614,v615,v616,v617,v618,v619,v620,v621,v622,v623,v624,v625,v626,v627,v628,v629,v630,v631,v632,v633,v634,v635,v636,v637,v638,v639,v640,v641,v642,v643,v644,v645,v646,v647,v648,v649,v650,v651,v652,v653,v654,v655,v656,v657,v658,v659,v660] <|
 anys C s663.env 114 24 <|
 none)
 (none)
def r8R1 (C:Cb) (d:Nat) (a0:List AV) (b23 b24 b25:Bool) (v26 v27 v28:AV) (b29 b30:Bool) (v31 v32 v33:AV) (x40 x41 x42 x43:Int) (b44:Bool) (v45 v49:AV) (x55:Int):St→(Ex→St→Ans)→Ans:=fun s56 k57 =>
 cnd ((List.length s56.env) == 138)
 (sames C s56.env 0 [(.lst a0),tz] <|
 C.bool s56.env[2]? fun b59 =>
 sames C s56.env 3 [v45,(.bool b44),v49,tz] <|
 C.any s56.env[7]? fun v60 =>
 sames C s56.env 8 [(.bool b23),(.bool b24),(.bool b25),v26,v27,v28,(.bool b29),(.bool b30),v31,v32,v33,bf,tz,(.tup [(.agg [(iz x40),(iz x41),(iz x42),(iz x43)]),(.bool b44)]),(.lst a0),(.tup [(.agg [(iz x40),(iz x41),(iz x42),(iz x43)]),(.bool b44)]),(.agg [(iz x40),(iz x41),(iz x42),(iz x43)]),(.bool b44),(.agg [bf,bf,bf,bf]),(.lst a0),(iz x55)] <|
 C.int .i64 s56.env[29]? fun x61 =>
 C.any s56.env[30]? fun v62 =>
 C.any s56.env[31]? fun v63 =>
 C.any s56.env[32]? fun v64 =>
 C.any s56.env[33]? fun v65 =>
 C.any s56.env[34]? fun v66 =>
 C.any s56.env[35]? fun v67 =>
 C.any s56.env[36]? fun v68 =>
 C.any s56.env[37]? fun v69 =>
 C.any s56.env[38]? fun v70 =>
 C.any s56.env[39]? fun v71 =>
 C.any s56.env[40]? fun v72 =>
 C.any s56.env[41]? fun v73 =>
 C.any s56.env[42]? fun v74 =>
 C.any s56.env[43]? fun v75 =>
 C.any s56.env[44]? fun v76 =>
 C.any s56.env[45]? fun v77 =>
 C.any s56.env[46]? fun v78 =>
 C.any s56.env[47]? fun v79 =>
 C.any s56.env[48]? fun v80 =>
 C.any s56.env[49]? fun v81 =>
 C.any s56.env[50]? fun v82 =>
 C.any s56.env[51]? fun v83 =>
 C.any s56.env[52]? fun v84 =>
 C.any s56.env[53]? fun v85 =>
 C.any s56.env[54]? fun v86 =>
 C.any s56.env[55]? fun v87 =>
 C.any s56.env[56]? fun v88 =>
 C.any s56.env[57]? fun v89 =>
 C.any s56.env[58]? fun v90 =>
 C.any s56.env[59]? fun v91 =>
 C.any s56.env[60]? fun v92 =>
 C.any s56.env[61]? fun v93 =>
 C.any s56.env[62]? fun v94 =>
 C.any s56.env[63]? fun v95 =>
 C.any s56.env[64]? fun v96 =>
 C.any s56.env[65]? fun v97 =>
 C.any s56.env[66]? fun v98 =>
 C.any s56.env[67]? fun v99 =>
 C.any s56.env[68]? fun v100 =>
 C.any s56.env[69]? fun v101 =>
 C.any s56.env[70]? fun v102 =>
 C.any s56.env[71]? fun v103 =>
 C.any s56.env[72]? fun v104 =>
 C.any s56.env[73]? fun v105 =>
 C.any s56.env[74]? fun v106 =>
 C.any s56.env[75]? fun v107 =>
 C.any s56.env[76]? fun v108 =>
 C.any s56.env[77]? fun v109 =>
 C.any s56.env[78]? fun v110 =>
 C.any s56.env[79]? fun v111 =>
 C.any s56.env[80]? fun v112 =>
 C.any s56.env[81]? fun v113 =>
 C.any s56.env[82]? fun v114 =>
 C.any s56.env[83]? fun v115 =>
 C.any s56.env[84]? fun v116 =>
 C.any s56.env[85]? fun v117 =>
 C.any s56.env[86]? fun v118 =>
 C.any s56.env[87]? fun v119 =>
 C.any s56.env[88]? fun v120 =>
 C.any s56.env[89]? fun v121 =>
 C.any s56.env[90]? fun v122 =>
 C.any s56.env[91]? fun v123 =>
 C.any s56.env[92]? fun v124 =>
 C.any s56.env[93]? fun v125 =>
 C.any s56.env[94]? fun v126 =>
 C.any s56.env[95]? fun v127 =>
 C.any s56.env[96]? fun v128 =>
 C.any s56.env[97]? fun v129 =>
 C.any s56.env[98]? fun v130 =>
 C.any s56.env[99]? fun v131 =>
 C.any s56.env[100]? fun v132 =>
 C.any s56.env[101]? fun v133 =>
 C.any s56.env[102]? fun v134 =>
 C.any s56.env[103]? fun v135 =>
 C.any s56.env[104]? fun v136 =>
 C.any s56.env[105]? fun v137 =>
 C.any s56.env[106]? fun v138 =>
 C.any s56.env[107]? fun v139 =>
 C.any s56.env[108]? fun v140 =>
 C.any s56.env[109]? fun v141 =>
 C.any s56.env[110]? fun v142 =>
 C.any s56.env[111]? fun v143 =>
 C.any s56.env[112]? fun v144 =>
 C.any s56.env[113]? fun v145 =>
 sames C s56.env 114 [tz,tz,tz,tz,tz,tz,tz,tz,tz,tz,tz,tz,tz,tz,tz,tz,tz,tz,tz,tz,tz,tz,tz,tz] <|
 cnd (decide (x61 < x55))
 (C.hop (St.H s56) (.ixAS .any 2 (.v (.lst a0)) (.v (iz x61))) fun v146 h147 =>
 C.hop h147 (.load true 2 (.v v146)) fun v148 h149 =>
 C.agg 2 (some v148) fun l150 =>
 C.int .i64 l150[0]? fun x151 =>
 C.int .i64 l150[1]? fun x152 =>
 C.hop h149 (.alloc E24) fun v153 h154 =>
 C.hop h154 (.store 2 (.v v153) (.v (.agg [(iz x151),(iz x152)]))) fun v155 h156 =>
 C.iter (r8R2 C d a0 b23 b24 b25 v26 v27 v28 b29 b30 v31 v32 v33 x40 x41 x42 x43 b44 v45 v49 x55 k57 b59 x61 v76 v77 v78 v79 v80 v81 v82 v83 v84 v85 v86 v87 v88 v89 v90 v91 v92 v93 v94 v95 v96 v97 v98 v99 v100 v101 v102 v103 v104 v105 v106 v107 v108 v109 v110 v111 v112 v113 v114 v115 v116 v117 v118 v119 v120 v121 v122 v123 v124 v125 v126 v127 v128 v129 v130 v131 v132 v133 v134 v135 v136 v137 v138 v139 v140 v141 v142 v143 v144 v145 v146 x151 x152 v153) 1 ⟨[(.lst a0),tz,(bz b59),v45,(bz b44),v49,tz,v153,(bz b23),(bz b24),(bz b25),v26,v27,v28,(bz b29),(bz b30),v31,v32,v33,bf,tz,(.tup [(.agg [(iz x40),(iz x41),(iz x42),(iz x43)]),(bz b44)]),(.lst a0),(.tup [(.agg [(iz x40),(iz x41),(iz x42),(iz x43)]),(bz b44)]),(.agg [(iz x40),(iz x41),(iz x42),(iz x43)]),(bz b44),(.agg [bf,bf,bf,bf]),(.lst a0),(iz x55),(iz x61),bt,v146,(.agg [(iz x151),(iz x152)]),v65,v66,v67,v68,v69,v70,v71,v72,v73,v74,v75,v76,v77,v78,v79,v80,v81,v82,v83,v84,v85,v86,v87,v88,v89,v90,v91,v92,v93,v94,v95,v96,v97,v98,v99,v100,v101,v102,v103,v104,v105,v106,v107,v108,v109,v110,v111,v112,v113,v114,v115,v116,v117,v118,v119,v120,v121,v122,v123,v124,v125,v126,v127,v128,v129,v130,v131,v132,v133,v134,v135,v136,v137,v138,v139,v140,v141,v142,v143,v144,v145,tz,tz,tz,tz,tz,tz,tz,tz,tz,tz,tz,tz,tz,tz,tz,tz,tz,tz,tz,tz,tz,tz,tz,tz],h156⟩ [2000000] [r8X2_0 C d a0 b23 b24 b25 v26 v27 v28 b29 b30 v31 v32 v33 x40 x41 x42 x43 b44 v45 v49 x55 k57 b59 x61 v76 v77 v78 v79 v80 v81 v82 v83 v84 v85 v86 v87 v88 v89 v90 v91 v92 v93 v94 v95 v96 v97 v98 v99 v100 v101 v102 v103 v104 v105 v106 v107 v108 v109 v110 v111 v112 v113 v114 v115 v116 v117 v118 v119 v120 v121 v122 v123 v124 v125 v126 v127 v128 v129 v130 v131 v132 v133 v134 v135 v136 v137 v138 v139 v140 v141 v142 v143 v144 v145 v146 x151 x152 v153] (r8E2 C d a0 b23 b24 b25 v26 v27 v28 b29 b30 v31 v32 v33 x40 x41 x42 x43 b44 v45 v49 x55 k57 b59 x61 v76 v77 v78 v79 v80 v81 v82 v83 v84 v85 v86 v87 v88 v89 v90 v91 v92 v93 v94 v95 v96 v97 v98 v99 v100 v101 v102 v103 v104 v105 v106 v107 v108 v109 v110 v111 v112 v113 v114 v115 v116 v117 v118 v119 v120 v121 v122 v123 v124 v125 v126 v127 v128 v129 v130 v131 v132 v133 v134 v135 v136 v137 v138 v139 v140 v141 v142 v143 v144 v145 v146 x151 x152 v153))
 (k57 (.exit 0) ⟨[(.lst a0),tz,(bz b59),v45,(bz b44),v49,tz,v60,(bz b23),(bz b24),(bz b25),v26,v27,v28,(bz b29),(bz b30),v31,v32,v33,bf,tz,(.tup [(.agg [(iz x40),(iz x41),(iz x42),(iz x43)]),(bz b44)]),(.lst a0),(.tup [(.agg [(iz x40),(iz x41),(iz x42),(iz x43)]),(bz b44)]),(.agg [(iz x40),(iz x41),(iz x42),(iz x43)]),(bz b44),(.agg [bf,bf,bf,bf]),(.lst a0),(iz x55),(iz x61),bf,v63,v64,v65,v66,v67,v68,v69,v70,v71,v72,v73,v74,v75,v76,v77,v78,v79,v80,v81,v82,v83,v84,v85,v86,v87,v88,v89,v90,v91,v92,v93,v94,v95,v96,v97,v98,v99,v100,v101,v102,v103,v104,v105,v106,v107,v108,v109,v110,v111,v112,v113,v114,v115,v116,v117,v118,v119,v120,v121,v122,v123,v124,v125,v126,v127,v128,v129,v130,v131,v132,v133,v134,v135,v136,v137,v138,v139,v140,v141,v142,v143,v144,v145,tz,tz,tz,tz,tz,tz,tz,tz,tz,tz,tz,tz,tz,tz,tz,tz,tz,tz,tz,tz,tz,tz,tz,tz],(St.H s56)⟩))
 (none)
def r8X1_0 (C:Cb) (d:Nat) (a0:List AV) (b23 b24 b25:Bool) (v26 v27 v28:AV) (b29 b30:Bool) (v31 v32 v33:AV) (x40 x41 x42 x43:Int) (b44:Bool) (v45 v49:AV) (x55:Int):St→Ans:=fun s573 =>
 cnd ((List.length s573.env) == 138)
 (sames C s573.env 0 [(.lst a0),tz] <|
 C.bool s573.env[2]? fun b574 =>
 sames C s573.env 3 [v45,(.bool b44),v49,tz] <|
 C.any s573.env[7]? fun v575 =>
 sames C s573.env 8 [(.bool b23),(.bool b24),(.bool b25),v26,v27,v28,(.bool b29),(.bool b30),v31,v32,v33,bf,tz,(.tup [(.agg [(iz x40),(iz x41),(iz x42),(iz x43)]),(.bool b44)]),(.lst a0),(.tup [(.agg [(iz x40),(iz x41),(iz x42),(iz x43)]),(.bool b44)]),(.agg [(iz x40),(iz x41),(iz x42),(iz x43)]),(.bool b44),(.agg [bf,bf,bf,bf]),(.lst a0),(iz x55)] <|
 C.int .i64 s573.env[29]? fun x576 =>
 C.any s573.env[30]? fun v577 =>
 C.any s573.env[31]? fun v578 =>
 C.any s573.env[32]? fun v579 =>
 C.any s573.env[33]? fun v580 =>
 C.any s573.env[34]? fun v581 =>
 C.any s573.env[35]? fun v582 =>
 C.any s573.env[36]? fun v583 =>
 C.any s573.env[37]? fun v584 =>
 C.any s573.env[38]? fun v585 =>
 C.any s573.env[39]? fun v586 =>
 C.any s573.env[40]? fun v587 =>
 C.any s573.env[41]? fun v588 =>
 C.any s573.env[42]? fun v589 =>
 C.any s573.env[43]? fun v590 =>
 C.any s573.env[44]? fun v591 =>
 C.any s573.env[45]? fun v592 =>
 C.any s573.env[46]? fun v593 =>
 C.any s573.env[47]? fun v594 =>
 C.any s573.env[48]? fun v595 =>
 C.any s573.env[49]? fun v596 =>
 C.any s573.env[50]? fun v597 =>
 C.any s573.env[51]? fun v598 =>
 C.any s573.env[52]? fun v599 =>
 C.any s573.env[53]? fun v600 =>
 C.any s573.env[54]? fun v601 =>
 C.any s573.env[55]? fun v602 =>
 C.any s573.env[56]? fun v603 =>
 C.any s573.env[57]? fun v604 =>
 C.any s573.env[58]? fun v605 =>
 C.any s573.env[59]? fun v606 =>
 C.any s573.env[60]? fun v607 =>
 C.any s573.env[61]? fun v608 =>
 C.any s573.env[62]? fun v609 =>
 C.any s573.env[63]? fun v610 =>
 C.any s573.env[64]? fun v611 =>
 C.any s573.env[65]? fun v612 =>
 C.any s573.env[66]? fun v613 =>
 C.any s573.env[67]? fun v614 =>
 C.any s573.env[68]? fun v615 =>
 C.any s573.env[69]? fun v616 =>
 C.any s573.env[70]? fun v617 =>
 C.any s573.env[71]? fun v618 =>
 C.any s573.env[72]? fun v619 =>
 C.any s573.env[73]? fun v620 =>
 C.any s573.env[74]? fun v621 =>
 C.any s573.env[75]? fun v622 =>
 C.any s573.env[76]? fun v623 =>
 C.any s573.env[77]? fun v624 =>
 C.any s573.env[78]? fun v625 =>
 C.any s573.env[79]? fun v626 =>
 C.any s573.env[80]? fun v627 =>
 C.any s573.env[81]? fun v628 =>
 C.any s573.env[82]? fun v629 =>
 C.any s573.env[83]? fun v630 =>
 C.any s573.env[84]? fun v631 =>
 C.any s573.env[85]? fun v632 =>
 C.any s573.env[86]? fun v633 =>
 C.any s573.env[87]? fun v634 =>
 C.any s573.env[88]? fun v635 =>
 C.any s573.env[89]? fun v636 =>
 C.any s573.env[90]? fun v637 =>
 C.any s573.env[91]? fun v638 =>
 C.any s573.env[92]? fun v639 =>
 C.any s573.env[93]? fun v640 =>
 C.any s573.env[94]? fun v641 =>
 C.any s573.env[95]? fun v642 =>
 C.any s573.env[96]? fun v643 =>
 C.any s573.env[97]? fun v644 =>
 C.any s573.env[98]? fun v645 =>
 C.any s573.env[99]? fun v646 =>
 C.any s573.env[100]? fun v647 =>
 C.any s573.env[101]? fun v648 =>
 C.any s573.env[102]? fun v649 =>
 C.any s573.env[103]? fun v650 =>
 C.any s573.env[104]? fun v651 =>
 C.any s573.env[105]? fun v652 =>
 C.any s573.env[106]? fun v653 =>
 C.any s573.env[107]? fun v654 =>
 C.any s573.env[108]? fun v655 =>
 C.any s573.env[109]? fun v656 =>
 C.any s573.env[110]? fun v657 =>
 C.any s573.env[111]? fun v658 =>
 C.any s573.env[112]? fun v659 =>
 C.any s573.env[113]? fun v660 =>
 sames C s573.env 114 [tz,tz,tz,tz,tz,tz,tz,tz,tz,tz,tz,tz,tz,tz,tz,tz,tz,tz,tz,tz,tz,tz,tz,tz] <|
 C.iter (r8R12 C d a0 b23 b24 b25 v26 v27 v28 b29 b30 v31 v32 v33 x40 x41 x42 x43 b44 v45 v49 x55 v575 x576 v577 v578 v579 v580 v581 v582 v583 v584 v585 v586 v587 v588 v589 v590 v591 v592 v593 v594 v595 v596 v597 v598 v599 v600 v601 v602 v603 v604 v605 v606 v607 v608 v609 v610 v611 v612 v613 v614 v615 v616 v617 v618 v619 v620 v621 v622 v623 v624 v625 v626 v627 v628 v629 v630 v631 v632 v633 v634 v635 v636 v637 v638 v639 v640 v641 v642 v643 v644 v645 v646 v647 v648 v649 v650 v651 v652 v653 v654 v655 v656 v657 v658 v659 v660) 1 ⟨[(.lst a0),tz,(bz b574),v45,(bz b44),v49,tz,v575,(bz b23),(bz b24),(bz b25),v26,v27,v28,(bz b29),(bz b30),v31,v32,v33,bf,tz,(.tup [(.agg [(iz x40),(iz x41),(iz x42),(iz x43)]),(bz b44)]),(.lst a0),(.tup [(.agg [(iz x40),(iz x41),(iz x42),(iz x43)]),(bz b44)]),(.agg [(iz x40),(iz x41),(iz x42),(iz x43)]),(bz b44),(.agg [bf,bf,bf,bf]),(.lst a0),(iz x55),(iz x576),v577,v578,v579,v580,v581,v582,v583,v584,v585,v586,v587,v588,v589,v590,v591,v592,v593,v594,v595,v596,v597,v598,v599,v600,v601,v602,v603,v604,v605,v606,v607,v608,v609,v610,v611,v612,v613,v614,v615,v616,v617,v618,v619,v620,v621,v622,v623,v624,v625,v626,v627,v628,v629,v630,v631,v632,v633,v634,v635,v636,v637,v638,v639,v640,v641,v642,v643,v644,v645,v646,v647,v648,v649,v650,v651,v652,v653,v654,v655,v656,v657,v658,v659,v660,tz,tz,tz,tz,tz,tz,tz,tz,tz,tz,tz,tz,tz,tz,tz,tz,tz,tz,tz,tz,tz,tz,tz,tz],(St.H s573)⟩ [2000000] [r8X12_0 C d a0 b23 b24 b25 v26 v27 v28 b29 b30 v31 v32 v33 x40 x41 x42 x43 b44 v45 v49 x55 v575 x576 v577 v578 v579 v580 v581 v582 v583 v584 v585 v586 v587 v588 v589 v590 v591 v592 v593 v594 v595 v596 v597 v598 v599 v600 v601 v602 v603 v604 v605 v606 v607 v608 v609 v610 v611 v612 v613 v614 v615 v616 v617 v618 v619 v620 v621 v622 v623 v624 v625 v626 v627 v628 v629 v630 v631 v632 v633 v634 v635 v636 v637 v638 v639 v640 v641 v642 v643 v644 v645 v646 v647 v648 v649 v650 v651 v652 v653 v654 v655 v656 v657 v658 v659 v660] (r8E12 C d a0 b23 b24 b25 v26 v27 v28 b29 b30 v31 v32 v33 x40 x41 x42 x43 b44 v45 v49 x55 v575 x576 v577 v578 v579 v580 v581 v582 v583 v584 v585 v586 v587 v588 v589 v590 v591 v592 v593 v594 v595 v596 v597 v598 v599 v600 v601 v602 v603 v604 v605 v606 v607 v608 v609 v610 v611 v612 v613 v614 v615 v616 v617 v618 v619 v620 v621 v622 v623 v624 v625 v626 v627 v628 v629 v630 v631 v632 v633 v634 v635 v636 v637 v638 v639 v640 v641 v642 v643 v644 v645 v646 v647 v648 v649 v650 v651 v652 v653 v654 v655 v656 v657 v658 v659 v660))
 (none)
def r8E1 (C:Cb) (d:Nat) (a0:List AV) (b23 b24 b25:Bool) (v26 v27 v28:AV) (b29 b30:Bool) (v31 v32 v33:AV) (x40 x41 x42 x43:Int) (b44:Bool) (v45 v49:AV) (x55:Int):St→Ans:=fun s58 =>
 cnd ((List.length s58.env) == 138)
 (sames C s58.env 0 [(.lst a0),tz] <|
 C.bool s58.env[2]? fun b775 =>
 sames C s58.env 3 [v45,(.bool b44),v49,tz] <|
 C.any s58.env[7]? fun v776 =>
 sames C s58.env 8 [(.bool b23),(.bool b24),(.bool b25),v26,v27,v28,(.bool b29),(.bool b30),v31,v32,v33,bf,tz,(.tup [(.agg [(iz x40),(iz x41),(iz x42),(iz x43)]),(.bool b44)]),(.lst a0),(.tup [(.agg [(iz x40),(iz x41),(iz x42),(iz x43)]),(.bool b44)]),(.agg [(iz x40),(iz x41),(iz x42),(iz x43)]),(.bool b44),(.agg [bf,bf,bf,bf]),(.lst a0),(iz x55)] <|
 C.int .i64 s58.env[29]? fun x777 =>
 anys C s58.env 30 2 <|
 C.agg 2 s58.env[32]? fun l780 =>
 C.int .i64 l780[0]? fun x781 =>
 C.int .i64 l780[1]? fun x782 =>
 C.any s58.env[33]? fun v783 =>
 C.bool s58.env[34]? fun b784 =>
 C.bool s58.env[35]? fun b785 =>
 anys C s58.env 36 6 <|
 C.bool s58.env[42]? fun b792 =>
 anys C s58.env 43 2 <|
 C.bool s58.env[45]? fun b795 =>
 C.bool s58.env[46]? fun b796 =>
 anys C s58.env 47 6 <|
 C.bool s58.env[53]? fun b803 =>
 anys C s58.env 54 2 <|
 C.bool s58.env[56]? fun b806 =>
 C.bool s58.env[57]? fun b807 =>
 anys C s58.env 58 6 <|
 C.bool s58.env[64]? fun b814 =>
 anys C s58.env 65 2 <|
 C.bool s58.env[67]? fun b817 =>
 C.bool s58.env[68]? fun b818 =>
 anys C s58.env 69 6 <|
 C.bool s58.env[75]? fun b825 =>
 anys C s58.env 76 2 <|
 C.int .i64 s58.env[78]? fun x828 =>
 anys C s58.env 79 2 <|
 C.int .i64 s58.env[81]? fun x831 =>
 C.bool s58.env[82]? fun b832 =>
 C.bool s58.env[83]? fun b833 =>
 anys C s58.env 84 6 <|
 C.bool s58.env[90]? fun b840 =>
 C.bool s58.env[91]? fun b841 =>
 anys C s58.env 92 6 <|
 C.bool s58.env[98]? fun b848 =>
 C.bool s58.env[99]? fun b849 =>
 anys C s58.env 100 6 <|
 C.bool s58.env[106]? fun b856 =>
 C.bool s58.env[107]? fun b857 =>
 anys C s58.env 108 4 <|
 C.bool s58.env[112]? fun b862 =>
 C.any s58.env[113]? fun v863 =>
 sames C s58.env 114 [tz,tz,tz,tz,tz,tz,tz,tz,tz,tz,tz,tz,tz,tz,tz,tz,tz,tz,tz,tz,tz,tz,tz,tz] <|
 C.fin (St.H s58) (.bool b775))
 (none)
def r8R0 (C:Cb) (d:Nat) (a0:List AV):St→(Ex→St→Ans)→Ans:=fun s0 k1 =>
 cnd ((List.length s0.env) == 138)
 (sames C s0.env 0 [(.lst a0),tz,bf,tz,tz,tz,tz,tz] <|
 anys C s0.env 8 12 <|
 sames C s0.env 20 [tz,tz,tz,tz,tz,tz,tz,tz,tz,tz,tz,tz,tz,tz,tz,tz,tz,tz,tz,tz,tz,tz,tz,tz,tz,tz,tz,tz,tz,tz,tz,tz,tz,tz,tz,tz,tz,tz,tz,tz,tz,tz,tz,tz,tz,tz,tz,tz,tz,tz,tz,tz,tz,tz,tz,tz,tz,tz,tz,tz,tz,tz,tz,tz,tz,tz,tz,tz,tz,tz,tz,tz,tz,tz,tz,tz,tz,tz,tz,tz,tz,tz,tz,tz,tz,tz,tz,tz,tz,tz,tz,tz,tz,tz,tz,tz,tz,tz,tz,tz,tz,tz,tz,tz,tz,tz,tz,tz,tz,tz,tz,tz,tz,tz,tz,tz,tz,tz] <|
 C.bool (pcall M d 9 []) fun b15 =>
 cnd (!b15)
 (k1 (.exit 2000000) ⟨[(.lst a0),tz,bf,tz,tz,tz,tz,tz,(bz b15),(bz (!b15)),bt,tz,tz,tz,bt,bt,tz,tz,tz,bt,tz,tz,tz,tz,tz,tz,tz,tz,tz,tz,tz,tz,tz,tz,tz,tz,tz,tz,tz,tz,tz,tz,tz,tz,tz,tz,tz,tz,tz,tz,tz,tz,tz,tz,tz,tz,tz,tz,tz,tz,tz,tz,tz,tz,tz,tz,tz,tz,tz,tz,tz,tz,tz,tz,tz,tz,tz,tz,tz,tz,tz,tz,tz,tz,tz,tz,tz,tz,tz,tz,tz,tz,tz,tz,tz,tz,tz,tz,tz,tz,tz,tz,tz,tz,tz,tz,tz,tz,tz,tz,tz,tz,tz,tz,tz,tz,tz,tz,tz,tz,tz,tz,tz,tz,tz,tz,tz,tz,tz,tz,tz,tz,tz,tz,tz,tz,tz,tz],(St.H s0)⟩)
 (C.snp (St.H s0) [(.lst a0)] fun l16 b17 =>
 C.bool (pcall M d 10 l16) fun b18 =>
 cnd (b17 || true)
 (cnd (!b18)
 (k1 (.exit 2000000) ⟨[(.lst a0),tz,bf,tz,tz,tz,tz,tz,(bz b15),(bz (!b15)),bf,(.lst a0),(bz b18),(bz (!b18)),(bz (!b18)),bt,tz,tz,tz,bt,tz,tz,tz,tz,tz,tz,tz,tz,tz,tz,tz,tz,tz,tz,tz,tz,tz,tz,tz,tz,tz,tz,tz,tz,tz,tz,tz,tz,tz,tz,tz,tz,tz,tz,tz,tz,tz,tz,tz,tz,tz,tz,tz,tz,tz,tz,tz,tz,tz,tz,tz,tz,tz,tz,tz,tz,tz,tz,tz,tz,tz,tz,tz,tz,tz,tz,tz,tz,tz,tz,tz,tz,tz,tz,tz,tz,tz,tz,tz,tz,tz,tz,tz,tz,tz,tz,tz,tz,tz,tz,tz,tz,tz,tz,tz,tz,tz,tz,tz,tz,tz,tz,tz,tz,tz,tz,tz,tz,tz,tz,tz,tz,tz,tz,tz,tz,tz,tz],(St.H s0)⟩)
 (C.snp (St.H s0) [(.lst a0)] fun l19 b20 =>
 C.bool (pcall M d 12 l19) fun b21 =>
 cnd (b20 || true)
 (k1 (.exit 2000000) ⟨[(.lst a0),tz,bf,tz,tz,tz,tz,tz,(bz b15),(bz (!b15)),bf,(.lst a0),(bz b18),(bz (!b18)),(bz (!b18)),bf,(.lst a0),(bz b21),(bz (!b21)),(bz (!b21)),tz,tz,tz,tz,tz,tz,tz,tz,tz,tz,tz,tz,tz,tz,tz,tz,tz,tz,tz,tz,tz,tz,tz,tz,tz,tz,tz,tz,tz,tz,tz,tz,tz,tz,tz,tz,tz,tz,tz,tz,tz,tz,tz,tz,tz,tz,tz,tz,tz,tz,tz,tz,tz,tz,tz,tz,tz,tz,tz,tz,tz,tz,tz,tz,tz,tz,tz,tz,tz,tz,tz,tz,tz,tz,tz,tz,tz,tz,tz,tz,tz,tz,tz,tz,tz,tz,tz,tz,tz,tz,tz,tz,tz,tz,tz,tz,tz,tz,tz,tz,tz,tz,tz,tz,tz,tz,tz,tz,tz,tz,tz,tz,tz,tz,tz,tz,tz,tz],(St.H s0)⟩)
 (none)))
 (none)))
 (none)
def r8X0_0 (C:Cb) (d:Nat) (a0:List AV):St→Ans:=fun s22 =>
 cnd ((List.length s22.env) == 138)
 (sames C s22.env 0 [(.lst a0),tz,bf,tz,tz,tz,tz,tz] <|
 C.bool s22.env[8]? fun b23 =>
 C.bool s22.env[9]? fun b24 =>
 C.bool s22.env[10]? fun b25 =>
 C.any s22.env[11]? fun v26 =>
 C.any s22.env[12]? fun v27 =>
 C.any s22.env[13]? fun v28 =>
 C.bool s22.env[14]? fun b29 =>
 C.bool s22.env[15]? fun b30 =>
 C.any s22.env[16]? fun v31 =>
 C.any s22.env[17]? fun v32 =>
 C.any s22.env[18]? fun v33 =>
 C.bool s22.env[19]? fun b34 =>
 sames C s22.env 20 [tz,tz,tz,tz,tz,tz,tz,tz,tz,tz,tz,tz,tz,tz,tz,tz,tz,tz,tz,tz,tz,tz,tz,tz,tz,tz,tz,tz,tz,tz,tz,tz,tz,tz,tz,tz,tz,tz,tz,tz,tz,tz,tz,tz,tz,tz,tz,tz,tz,tz,tz,tz,tz,tz,tz,tz,tz,tz,tz,tz,tz,tz,tz,tz,tz,tz,tz,tz,tz,tz,tz,tz,tz,tz,tz,tz,tz,tz,tz,tz,tz,tz,tz,tz,tz,tz,tz,tz,tz,tz,tz,tz,tz,tz,tz,tz,tz,tz,tz,tz,tz,tz,tz,tz,tz,tz,tz,tz,tz,tz,tz,tz,tz,tz,tz,tz,tz,tz] <|
 cnd b34
 (C.bool (pcall M d 9 []) fun b35 =>
 C.fin (St.H s22) (.bool b35))
 (C.snp (St.H s22) [(.lst a0)] fun l36 b37 =>
 C.tup 2 (pcall M d 11 l36) fun l38 =>
 C.agg 4 l38[0]? fun l39 =>
 C.int .i64 l39[0]? fun x40 =>
 C.int .i64 l39[1]? fun x41 =>
 C.int .i64 l39[2]? fun x42 =>
 C.int .i64 l39[3]? fun x43 =>
 C.bool l38[1]? fun b44 =>
 cnd (b37 || true)
 (C.hop (St.H s22) (.alloc E28) fun v45 h46 =>
 C.hop h46 (.store 4 (.v v45) (.v (.agg [(iz x40),(iz x41),(iz x42),(iz x43)]))) fun v47 h48 =>
 C.hop h48 (.alloc E48) fun v49 h50 =>
 C.hop h50 (.store 4 (.v v49) (.v (.agg [bf,bf,bf,bf]))) fun v51 h52 =>
 C.hop h52 (.bk .lenV [(.v (.lst a0))]) fun v53 h54 =>
 C.int .i64 (some v53) fun x55 =>
 C.iter (r8R1 C d a0 b23 b24 b25 v26 v27 v28 b29 b30 v31 v32 v33 x40 x41 x42 x43 b44 v45 v49 x55) 1000000000000000000 ⟨[(.lst a0),tz,bf,v45,(bz b44),v49,tz,tz,(bz b23),(bz b24),(bz b25),v26,v27,v28,(bz b29),(bz b30),v31,v32,v33,bf,tz,(.tup [(.agg [(iz x40),(iz x41),(iz x42),(iz x43)]),(bz b44)]),(.lst a0),(.tup [(.agg [(iz x40),(iz x41),(iz x42),(iz x43)]),(bz b44)]),(.agg [(iz x40),(iz x41),(iz x42),(iz x43)]),(bz b44),(.agg [bf,bf,bf,bf]),(.lst a0),(iz x55),(iz 0),tz,tz,tz,tz,tz,tz,tz,tz,tz,tz,tz,tz,tz,tz,tz,tz,tz,tz,tz,tz,tz,tz,tz,tz,tz,tz,tz,tz,tz,tz,tz,tz,tz,tz,tz,tz,tz,tz,tz,tz,tz,tz,tz,tz,tz,tz,tz,tz,tz,tz,tz,tz,tz,tz,tz,tz,tz,tz,tz,tz,tz,tz,tz,tz,tz,tz,tz,tz,tz,tz,tz,tz,tz,tz,tz,tz,tz,tz,tz,tz,tz,tz,tz,tz,tz,tz,tz,tz,tz,tz,tz,tz,tz,tz,tz,tz,tz,tz,tz,tz,tz,tz,tz,tz,tz,tz,tz,tz],h54⟩ [0] [r8X1_0 C d a0 b23 b24 b25 v26 v27 v28 b29 b30 v31 v32 v33 x40 x41 x42 x43 b44 v45 v49 x55] (r8E1 C d a0 b23 b24 b25 v26 v27 v28 b29 b30 v31 v32 v33 x40 x41 x42 x43 b44 v45 v49 x55))
 (none)))
 (none)
def r8E0 (C:Cb) (d:Nat) (a0:List AV):St→Ans:=fun s2 =>
 cnd ((List.length s2.env) == 138)
 (sames C s2.env 0 [(.lst a0),tz,bf,tz,tz,tz,tz,tz] <|
 anys C s2.env 8 12 <|
 sames C s2.env 20 [tz,tz,tz,tz,tz,tz,tz,tz,tz,tz,tz,tz,tz,tz,tz,tz,tz,tz,tz,tz,tz,tz,tz,tz,tz,tz,tz,tz,tz,tz,tz,tz,tz,tz,tz,tz,tz,tz,tz,tz,tz,tz,tz,tz,tz,tz,tz,tz,tz,tz,tz,tz,tz,tz,tz,tz,tz,tz,tz,tz,tz,tz,tz,tz,tz,tz,tz,tz,tz,tz,tz,tz,tz,tz,tz,tz,tz,tz,tz,tz,tz,tz,tz,tz,tz,tz,tz,tz,tz,tz,tz,tz,tz,tz,tz,tz,tz,tz,tz,tz,tz,tz,tz,tz,tz,tz,tz,tz,tz,tz,tz,tz,tz,tz,tz,tz,tz,tz] <|
 none)
 (none)
theorem r8 (C:Cb) (d:Nat) (a0:List AV):xcall C M unr d 8 [(.lst a0)] =
 C.iter (r8R0 C d a0) 1 ⟨[(.lst a0),tz,bf,tz,tz,tz,tz,tz,tz,tz,tz,tz,tz,tz,tz,tz,tz,tz,tz,tz,tz,tz,tz,tz,tz,tz,tz,tz,tz,tz,tz,tz,tz,tz,tz,tz,tz,tz,tz,tz,tz,tz,tz,tz,tz,tz,tz,tz,tz,tz,tz,tz,tz,tz,tz,tz,tz,tz,tz,tz,tz,tz,tz,tz,tz,tz,tz,tz,tz,tz,tz,tz,tz,tz,tz,tz,tz,tz,tz,tz,tz,tz,tz,tz,tz,tz,tz,tz,tz,tz,tz,tz,tz,tz,tz,tz,tz,tz,tz,tz,tz,tz,tz,tz,tz,tz,tz,tz,tz,tz,tz,tz,tz,tz,tz,tz,tz,tz,tz,tz,tz,tz,tz,tz,tz,tz,tz,tz,tz,tz,tz,tz,tz,tz,tz,tz,tz,tz],[]⟩ [2000000] [r8X0_0 C d a0] (r8E0 C d a0):=by kernel_rfl
end Go.Proofs.Ytkfppigcjdapnaa.AE
