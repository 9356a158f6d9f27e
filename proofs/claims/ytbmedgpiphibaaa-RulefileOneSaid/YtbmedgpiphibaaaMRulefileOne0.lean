/- The texts that the law RulefileOne needs, part 0. No conditions. -/
import Derived.Test.YtbmedgpiphibaaaMc5
namespace Go.Proofs.Ytbmedgpiphibaaa.AE
set_option linter.unusedVariables false
set_option linter.unusedSimpArgs false
set_option linter.constructorNameAsVariable false
open Go Go.Proofs.Ytbmedgpiphibaaa.Geo
theorem maxLen_eq:Go.maxLen=9223372036854775807:=by decide
theorem rows_pts:∀ l:List AV,(∀ x ∈ l,∃ cs,x=.agg cs∧CTall [(.i .i64),(.i .i64)] cs)→∃ ps:List Pt,l=ps.map pt
 | [],_=>⟨[],rfl⟩
 | x::l,h=>by
   obtain ⟨ps,rfl⟩:=rows_pts l fun y hy=>h y (List.mem_cons_of_mem _ hy)
   obtain ⟨_,rfl,_,_,rfl,⟨a,rfl,_⟩,_,_,rfl,⟨b,rfl,_⟩,rfl⟩:=h x (List.mem_cons_self ..)
   exact ⟨(a,b)::ps,rfl⟩
end Go.Proofs.Ytbmedgpiphibaaa.AE

namespace Go.Proofs.Ytbmedgpiphibaaa.AE
set_option linter.unusedVariables false
set_option linter.unusedSimpArgs false
set_option linter.constructorNameAsVariable false
open Go Go.Proofs.Ytbmedgpiphibaaa.Geo
attribute [local irreducible] pcall C0
set_option maxRecDepth 100000
theorem rows_phs:∀ l:List AV,(∀ x ∈ l,∃ cs,x=.agg cs∧CTall [(.sl true [(.i .i64),(.i .i64)]),(.i .i64),(.i .i64),(.i .i64),(.i .i64)] cs)→∃ ps:List Phs,l=ps.map phA
 | [],_=>⟨[],rfl⟩
 | x::l,h=>by
   obtain ⟨ps,rfl⟩:=rows_phs l fun y hy=>h y (List.mem_cons_of_mem _ hy)
   obtain ⟨_,rfl,_,_,rfl,⟨r,rfl,hl,hx⟩,_,_,rfl,⟨g,rfl,_⟩,_,_,rfl,⟨w,rfl,_⟩,_,_,rfl,⟨m,rfl,_⟩,_,_,rfl,⟨u,rfl,_⟩,rfl⟩:=h x (List.mem_cons_self ..)
   obtain ⟨qs,rfl⟩:=rows_pts r hx
   exact ⟨⟨qs,g,w,m,u⟩::ps,rfl⟩
theorem ty_rul {v:AV} (h:TyOK true [(.sl true [(.sl true [(.i .i64),(.i .i64)]),(.i .i64),(.i .i64),(.i .i64),(.i .i64)]),(.i .i64),(.i .i64),(.i .i64),(.i .i64),(.i .i64),(.i .i64),(.i .i64),(.i .i64)] v):∃ r,v=rl r∧r.phs.length≤9223372036854775807:=by
 obtain ⟨l,rfl,_,_,rfl,⟨r,rfl,hl,hx⟩,_,_,rfl,⟨a,rfl,_⟩,_,_,rfl,⟨b,rfl,_⟩,_,_,rfl,⟨c,rfl,_⟩,_,_,rfl,⟨d,rfl,_⟩,_,_,rfl,⟨e,rfl,_⟩,_,_,rfl,⟨f,rfl,_⟩,_,_,rfl,⟨g,rfl,_⟩,_,_,rfl,⟨i,rfl,_⟩,rfl⟩:=h
 obtain ⟨ps,rfl⟩:=rows_phs r hx
 exact ⟨⟨ps,a,b,c,d,e,f,g,i⟩,rfl,by rw [← maxLen_eq]; simpa using hl⟩
def fewX (l:List Phs):Bool:=l.all (fun p=>decide (p.ps.length≤12)) && decide (l.length≤8)
theorem few_go (d:Nat) (l:List Phs) (hl:l.length≤9223372036854775807):∀ (k i:Nat),i+k=l.length→∀ f,k < f →
 L9_0 d (l.map phA) f (i:Nat)=some (.bool ((l.drop i).all (fun p=>decide (p.ps.length≤12)) && decide (l.length≤8)))
 | 0,i,h,f+1,_=>by
   rw [L9_0,decide_eq_false (by simp; omega),cnd_f,List.drop_of_length_le (by omega)]
   unfold X9_0_0
   simp
   omega
 | k+1,i,h,f+1,hf=>by
   have hi:i < l.length:=by omega
   rw [L9_0,decide_eq_true (by simp; omega),cnd_t,decide_eq_true (by omega),cnd_t,show (((i:Nat):Int)).toNat=i by omega,phs_at hi]
   repeat with_reducible first | refine tt sh_ptr ?_ | refine tt sh_fptr ?_ | refine tt w2 ?_ | refine tt w3 ?_ | refine tt w8 ?_ | refine tt w9 ?_ | refine tt wf ?_ | refine tt wg ?_ | refine tt wh ?_ | refine tt wi ?_ | refine tt wj ?_ | refine tt wk ?_ | refine tt wl ?_ | refine tt wn ?_ | refine tt c_ort ?_ | refine tt c_nt ?_ | refine tt c_nf ?_ | refine tt (cnd_t _ _) ?_ | refine tt (cnd_f _ _) ?_ | refine tt w6 ?_ | refine tt w4 ?_ | refine tt w5 ?_ | refine tt w7 ?_ | refine tt wm ?_ | refine tt wo ?_ | refine tt wx ?_ | refine tt nil_ptr ?_ | refine tt len_lst ?_ | refine tt len_zsl ?_
   rw [List.drop_eq_getElem_cons hi,List.all_cons,List.length_map]
   by_cases c:l[i].ps.length≤12
   ·rw [decide_eq_false (show ¬ ((l[i].ps.length:Nat):Int) > 12 by omega),cnd_f,decide_eq_true c,Bool.true_and,show IntKind.wrap .i64 (((i:Nat):Int)+1)=((i+1:Nat):Int) by rw [i64w]; omega]
    exact few_go d l hl k (i+1) (by omega) f (by omega)
   ·rw [decide_eq_true (show ((l[i].ps.length:Nat):Int) > 12 by omega),cnd_t,decide_eq_false c]; rfl
theorem s9 (d:Nat) (r:Rul) (hl:r.phs.length≤9223372036854775807):pcall M (d+1) 9 [rl r]=some (.bool (fewX r.phs)):=told (q9 d _ _ _ _ _ _ _ _ _) (by
 have:=few_go d r.phs hl r.phs.length 0 (by omega) 10000000000000000000 (by omega)
 rw [List.drop_zero] at this
 exact this)
theorem few_t {l:List Phs} (h:fewX l=true):(∀ p ∈ l,p.ps.length≤12)∧l.length≤8:=by
 unfold fewX at h
 simp only [Bool.and_eq_true,List.all_eq_true,decide_eq_true_iff] at h
 exact h
theorem sameP_eq {p q:Phs} (h:sameP p q=true):p=q:=by
 obtain ⟨a,b,c,d,e⟩:=p; obtain ⟨a',b',c',d',e'⟩:=q
 simpa [sameP] using h
theorem sameL_eq:∀ {l m:List Phs},sameL l m=true→l=m
 | [],[],_=>rfl
 | [],_::_,h=>by cases h
 | _::_,[],h=>by cases h
 | p::l,q::m,h=>by
   rw [sameL,Bool.and_eq_true] at h
   rw [sameP_eq h.1,sameL_eq h.2]
theorem sameX_eq {a b:Rul} (h:sameX a b=true):a=b:=by
 unfold sameX at h
 rw [Bool.and_eq_true] at h
 obtain ⟨p,a1,a2,a3,a4,a5,a6,a7,a8⟩:=a; obtain ⟨q,b1,b2,b3,b4,b5,b6,b7,b8⟩:=b
 have:=sameL_eq h.1
 simp only at this
 subst this
 simpa [sameI] using h.2
theorem sameX_dec (a b:Rul):sameX a b=true ↔ a=b:=⟨sameX_eq,fun h=>by rw [h]; exact sameX_r b⟩
end Go.Proofs.Ytbmedgpiphibaaa.AE

namespace Go.Proofs.Ytbmedgpiphibaaa.AE
set_option linter.unusedVariables false
set_option linter.unusedSimpArgs false
set_option linter.constructorNameAsVariable false
open Go Go.Proofs.Ytbmedgpiphibaaa.Geo
set_option maxRecDepth 100000
theorem print_eq {a b:Rul} (ha:wrongX a=0) (hb:wrongX b=0):printF a=printF b ↔ a=b:=by
 constructor
 ·intro e
  have h1:=read_print ha
  have h2:=read_print hb
  rw [e,h2] at h1
  exact (congrArg Prod.fst h1).symm
 ·intro e; rw [e]
end Go.Proofs.Ytbmedgpiphibaaa.AE

namespace Go.Proofs.Ytbmedgpiphibaaa.AE
set_option linter.unusedVariables false
set_option linter.unusedSimpArgs false
set_option linter.constructorNameAsVariable false
open Go
set_option maxRecDepth 100000
set_option maxHeartbeats 0
theorem r7 (C:Cb) (d:Nat) (a0:List AV) (a1 a2 a3 a4 a5 a6 a7 a8:Int) (a9:List AV) (a10 a11 a12 a13 a14 a15 a16 a17:Int):xcall C M unr d 7 [(.agg [(.lst a0),(iz a1),(iz a2),(iz a3),(iz a4),(iz a5),(iz a6),(iz a7),(iz a8)]),(.agg [(.lst a9),(iz a10),(iz a11),(iz a12),(iz a13),(iz a14),(iz a15),(iz a16),(iz a17)])] =
 C.bool (pcall M d 8 []) fun b0 =>
 cnd (!b0)
 (C.bool (pcall M d 8 []) fun b1 =>
 some (.bool b1))
 (C.bool (pcall M d 9 [(.agg [(.lst a0),(iz a1),(iz a2),(iz a3),(iz a4),(iz a5),(iz a6),(iz a7),(iz a8)])]) fun b2 =>
 cnd (!b2)
 (C.bool (pcall M d 8 []) fun b3 =>
 some (.bool b3))
 (C.bool (pcall M d 9 [(.agg [(.lst a9),(iz a10),(iz a11),(iz a12),(iz a13),(iz a14),(iz a15),(iz a16),(iz a17)])]) fun b4 =>
 cnd (!b4)
 (C.bool (pcall M d 8 []) fun b5 =>
 some (.bool b5))
 (C.int .i64 (pcall M d 11 [(.agg [(.lst a0),(iz a1),(iz a2),(iz a3),(iz a4),(iz a5),(iz a6),(iz a7),(iz a8)])]) fun x6 =>
 cnd (x6 != 0)
 (C.bool (pcall M d 8 []) fun b7 =>
 some (.bool b7))
 (C.int .i64 (pcall M d 11 [(.agg [(.lst a9),(iz a10),(iz a11),(iz a12),(iz a13),(iz a14),(iz a15),(iz a16),(iz a17)])]) fun x8 =>
 cnd (x8 != 0)
 (C.bool (pcall M d 8 []) fun b9 =>
 some (.bool b9))
 (C.tup 2 (pcall M d 10 [(.agg [(.lst a0),(iz a1),(iz a2),(iz a3),(iz a4),(iz a5),(iz a6),(iz a7),(iz a8)])]) fun l10 =>
 C.str l10[0]? fun s11 =>
 C.int .i64 l10[1]? fun x12 =>
 C.tup 2 (pcall M d 10 [(.agg [(.lst a9),(iz a10),(iz a11),(iz a12),(iz a13),(iz a14),(iz a15),(iz a16),(iz a17)])]) fun l13 =>
 C.str l13[0]? fun s14 =>
 C.int .i64 l13[1]? fun x15 =>
 C.bool (pcall M d 15 [(.agg [(.lst a0),(iz a1),(iz a2),(iz a3),(iz a4),(iz a5),(iz a6),(iz a7),(iz a8)]),(.agg [(.lst a9),(iz a10),(iz a11),(iz a12),(iz a13),(iz a14),(iz a15),(iz a16),(iz a17)])]) fun b16 =>
 some (.bool (xor false ((s11 == s14) == b16)))))))):=by kernel_rfl
end Go.Proofs.Ytbmedgpiphibaaa.AE

namespace Go.Proofs.Ytbmedgpiphibaaa.AE
set_option linter.unusedVariables false
set_option linter.unusedSimpArgs false
set_option linter.constructorNameAsVariable false
open Go Go.Proofs.Ytbmedgpiphibaaa.Geo
attribute [local irreducible] pcall C0
set_option maxRecDepth 100000
theorem one_law (a b:Rul) (hla:a.phs.length≤9223372036854775807) (hlb:b.phs.length≤9223372036854775807):pcall M 41 7 [rl a,rl b]=some (.bool true):=told (r7 C0 40 _ _ _ _ _ _ _ _ _ _ _ _ _ _ _ _ _ _) (by
 refine Eq.trans (pl_bool awake14) ?_
 repeat with_reducible first | refine tt sh_ptr ?_ | refine tt sh_fptr ?_ | refine tt w2 ?_ | refine tt w3 ?_ | refine tt w8 ?_ | refine tt w9 ?_ | refine tt wf ?_ | refine tt wg ?_ | refine tt wh ?_ | refine tt wi ?_ | refine tt wj ?_ | refine tt wk ?_ | refine tt wl ?_ | refine tt wn ?_ | refine tt c_ort ?_ | refine tt c_nt ?_ | refine tt c_nf ?_ | refine tt (cnd_t _ _) ?_ | refine tt (cnd_f _ _) ?_ | refine tt w6 ?_ | refine tt w4 ?_ | refine tt w5 ?_ | refine tt w7 ?_ | refine tt wm ?_ | refine tt wo ?_ | refine tt wx ?_ | refine tt nil_ptr ?_ | refine tt len_lst ?_ | refine tt len_zsl ?_
 refine Eq.trans (pl_bool (s9 39 a hla)) ?_
 by_cases hf:fewX a.phs=true
 rotate_left
 ·refine Eq.trans (pl_len (by rw [Bool.eq_false_iff.mpr hf]; rfl)) ?_
  exact pl_bool awake14
 refine Eq.trans (pl_f (by rw [hf]; rfl)) ?_
 obtain ⟨f1,f2⟩:=few_t hf
 have ha:∀ p ∈ a.phs,p.ps.length≤140737488355328:=fun p hp=>by have:=f1 p hp; omega
 refine Eq.trans (pl_bool (s9 39 b hlb)) ?_
 by_cases hg:fewX b.phs=true
 rotate_left
 ·refine Eq.trans (pl_len (by rw [Bool.eq_false_iff.mpr hg]; rfl)) ?_
  exact pl_bool awake14
 refine Eq.trans (pl_f (by rw [hg]; rfl)) ?_
 obtain ⟨g1,g2⟩:=few_t hg
 have hb:∀ p ∈ b.phs,p.ps.length≤140737488355328:=fun p hp=>by have:=g1 p hp; omega
 refine Eq.trans (pl_int (s11 29 a (by omega) ha)) ?_
 by_cases h:wrongX a=0
 rotate_left
 ·refine Eq.trans (pl_len (bne_iff_ne.mpr h)) ?_
  exact pl_bool awake14
 refine Eq.trans (pl_f (by rw [h]; rfl)) ?_
 refine Eq.trans (pl_int (s11 29 b (by omega) hb)) ?_
 by_cases k:wrongX b=0
 rotate_left
 ·refine Eq.trans (pl_len (bne_iff_ne.mpr k)) ?_
  exact pl_bool awake14
 refine Eq.trans (pl_f (by rw [k]; rfl)) ?_
 refine Eq.trans (pl_tup (s10 21 a (by omega) ha) rfl) ?_
 refine Eq.trans (pl_str rfl) ?_
 refine Eq.trans (pl_int rfl) ?_
 refine Eq.trans (pl_tup (s10 21 b (by omega) hb) rfl) ?_
 refine Eq.trans (pl_str rfl) ?_
 refine Eq.trans (pl_int rfl) ?_
 refine Eq.trans (pl_bool (s15 37 a b (by omega) (by omega) ha hb)) ?_
 by_cases e:a=b
 ·rw [(sameX_dec a b).mpr e,e]; simp
 ·rw [Bool.eq_false_iff.mpr (fun c=>e ((sameX_dec a b).mp c)),beq_eq_false_iff_ne.mpr (fun c=>e ((print_eq h k).mp c))]; rfl)
theorem law_RulefileOne (a0:AV) (a1:AV) (w0:TyOK true [(.sl true [(.sl true [(.i .i64),(.i .i64)]),(.i .i64),(.i .i64),(.i .i64),(.i .i64)]),(.i .i64),(.i .i64),(.i .i64),(.i .i64),(.i .i64),(.i .i64),(.i .i64),(.i .i64)] a0) (w1:TyOK true [(.sl true [(.sl true [(.i .i64),(.i .i64)]),(.i .i64),(.i .i64),(.i .i64),(.i .i64)]),(.i .i64),(.i .i64),(.i .i64),(.i .i64),(.i .i64),(.i .i64),(.i .i64),(.i .i64)] a1) :
 pcall M 41 7 [a0,a1]=some (.bool true):=by
 obtain ⟨r,rfl,hl⟩:=ty_rul w0
 obtain ⟨s,rfl,hm⟩:=ty_rul w1
 exact one_law r s hl hm
end Go.Proofs.Ytbmedgpiphibaaa.AE
