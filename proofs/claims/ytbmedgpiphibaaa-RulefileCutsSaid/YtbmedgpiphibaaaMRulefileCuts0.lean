/- The texts that the law RulefileCuts needs, part 0. No conditions. -/
import Derived.Test.YtbmedgpiphibaaaMc5
namespace Go.Proofs.Ytbmedgpiphibaaa.AE
set_option linter.unusedVariables false
set_option linter.unusedSimpArgs false
open Go Go.Proofs.Ytbmedgpiphibaaa.Geo
attribute [local irreducible] pcall C0
theorem sealF_len (s:List UInt8):(sealF s).length=s.length+4:=by simp [sealF,be4_len]
end Go.Proofs.Ytbmedgpiphibaaa.AE

namespace Go.Proofs.Ytbmedgpiphibaaa.AE
set_option linter.unusedVariables false
set_option linter.unusedSimpArgs false
set_option linter.constructorNameAsVariable false
open Go Go.Proofs.Ytbmedgpiphibaaa.Geo
theorem maxLen_eq:Go.maxLen=9223372036854775807:=by decide
theorem rows_pts:∀ l:List AV,(∀ x ∈ l,∃ cs,x=.agg cs∧CTall [(.i .i64),(.i .i64)] cs)→∃ ps:List Pt,l=ps.map pt
 | [],_=>⟨[],rfl⟩
 | x::l,h=>by
   obtain ⟨ps,rfl⟩:=rows_pts l fun y hy=>h y (List.mem_cons_of_mem _ hy)
   obtain ⟨_,rfl,_,_,rfl,⟨a,rfl,_⟩,_,_,rfl,⟨b,rfl,_⟩,rfl⟩:=h x (List.mem_cons_self ..)
   exact ⟨(a,b)::ps,rfl⟩
end Go.Proofs.Ytbmedgpiphibaaa.AE

namespace Go.Proofs.Ytbmedgpiphibaaa.AE
set_option linter.unusedVariables false
set_option linter.unusedSimpArgs false
set_option linter.constructorNameAsVariable false
open Go Go.Proofs.Ytbmedgpiphibaaa.Geo
attribute [local irreducible] pcall C0
set_option maxRecDepth 100000
theorem rows_phs:∀ l:List AV,(∀ x ∈ l,∃ cs,x=.agg cs∧CTall [(.sl true [(.i .i64),(.i .i64)]),(.i .i64),(.i .i64),(.i .i64),(.i .i64)] cs)→∃ ps:List Phs,l=ps.map phA
 | [],_=>⟨[],rfl⟩
 | x::l,h=>by
   obtain ⟨ps,rfl⟩:=rows_phs l fun y hy=>h y (List.mem_cons_of_mem _ hy)
   obtain ⟨_,rfl,_,_,rfl,⟨r,rfl,hl,hx⟩,_,_,rfl,⟨g,rfl,_⟩,_,_,rfl,⟨w,rfl,_⟩,_,_,rfl,⟨m,rfl,_⟩,_,_,rfl,⟨u,rfl,_⟩,rfl⟩:=h x (List.mem_cons_self ..)
   obtain ⟨qs,rfl⟩:=rows_pts r hx
   exact ⟨⟨qs,g,w,m,u⟩::ps,rfl⟩
theorem ty_rul {v:AV} (h:TyOK true [(.sl true [(.sl true [(.i .i64),(.i .i64)]),(.i .i64),(.i .i64),(.i .i64),(.i .i64)]),(.i .i64),(.i .i64),(.i .i64),(.i .i64),(.i .i64),(.i .i64),(.i .i64),(.i .i64)] v):∃ r,v=rl r∧r.phs.length≤9223372036854775807:=by
 obtain ⟨l,rfl,_,_,rfl,⟨r,rfl,hl,hx⟩,_,_,rfl,⟨a,rfl,_⟩,_,_,rfl,⟨b,rfl,_⟩,_,_,rfl,⟨c,rfl,_⟩,_,_,rfl,⟨d,rfl,_⟩,_,_,rfl,⟨e,rfl,_⟩,_,_,rfl,⟨f,rfl,_⟩,_,_,rfl,⟨g,rfl,_⟩,_,_,rfl,⟨i,rfl,_⟩,rfl⟩:=h
 obtain ⟨ps,rfl⟩:=rows_phs r hx
 exact ⟨⟨ps,a,b,c,d,e,f,g,i⟩,rfl,by rw [← maxLen_eq]; simpa using hl⟩
def fewX (l:List Phs):Bool:=l.all (fun p=>decide (p.ps.length≤12)) && decide (l.length≤8)
theorem few_go (d:Nat) (l:List Phs) (hl:l.length≤9223372036854775807):∀ (k i:Nat),i+k=l.length→∀ f,k < f →
 L9_0 d (l.map phA) f (i:Nat)=some (.bool ((l.drop i).all (fun p=>decide (p.ps.length≤12)) && decide (l.length≤8)))
 | 0,i,h,f+1,_=>by
   rw [L9_0,decide_eq_false (by simp; omega),cnd_f,List.drop_of_length_le (by omega)]
   unfold X9_0_0
   simp
   omega
 | k+1,i,h,f+1,hf=>by
   have hi:i < l.length:=by omega
   rw [L9_0,decide_eq_true (by simp; omega),cnd_t,decide_eq_true (by omega),cnd_t,show (((i:Nat):Int)).toNat=i by omega,phs_at hi]
   repeat with_reducible first | refine tt sh_ptr ?_ | refine tt sh_fptr ?_ | refine tt w2 ?_ | refine tt w3 ?_ | refine tt w8 ?_ | refine tt w9 ?_ | refine tt wf ?_ | refine tt wg ?_ | refine tt wh ?_ | refine tt wi ?_ | refine tt wj ?_ | refine tt wk ?_ | refine tt wl ?_ | refine tt wn ?_ | refine tt c_ort ?_ | refine tt c_nt ?_ | refine tt c_nf ?_ | refine tt (cnd_t _ _) ?_ | refine tt (cnd_f _ _) ?_ | refine tt w6 ?_ | refine tt w4 ?_ | refine tt w5 ?_ | refine tt w7 ?_ | refine tt wm ?_ | refine tt wo ?_ | refine tt wx ?_ | refine tt nil_ptr ?_ | refine tt len_lst ?_ | refine tt len_zsl ?_
   rw [List.drop_eq_getElem_cons hi,List.all_cons,List.length_map]
   by_cases c:l[i].ps.length≤12
   ·rw [decide_eq_false (show ¬ ((l[i].ps.length:Nat):Int) > 12 by omega),cnd_f,decide_eq_true c,Bool.true_and,show IntKind.wrap .i64 (((i:Nat):Int)+1)=((i+1:Nat):Int) by rw [i64w]; omega]
    exact few_go d l hl k (i+1) (by omega) f (by omega)
   ·rw [decide_eq_true (show ((l[i].ps.length:Nat):Int) > 12 by omega),cnd_t,decide_eq_false c]; rfl
theorem s9 (d:Nat) (r:Rul) (hl:r.phs.length≤9223372036854775807):pcall M (d+1) 9 [rl r]=some (.bool (fewX r.phs)):=told (q9 d _ _ _ _ _ _ _ _ _) (by
 have:=few_go d r.phs hl r.phs.length 0 (by omega) 10000000000000000000 (by omega)
 rw [List.drop_zero] at this
 exact this)
theorem few_t {l:List Phs} (h:fewX l=true):(∀ p ∈ l,p.ps.length≤12)∧l.length≤8:=by
 unfold fewX at h
 simp only [Bool.and_eq_true,List.all_eq_true,decide_eq_true_iff] at h
 exact h
end Go.Proofs.Ytbmedgpiphibaaa.AE

namespace Go.Proofs.Ytbmedgpiphibaaa.AE
set_option linter.unusedVariables false
set_option linter.unusedSimpArgs false
set_option linter.constructorNameAsVariable false
open Go
set_option maxRecDepth 100000
set_option maxHeartbeats 0
theorem r5 (C:Cb) (d:Nat) (a0:List AV) (a1 a2 a3 a4 a5 a6 a7 a8 a9:Int) (a10:List UInt8):xcall C M unr d 5 [(.agg [(.lst a0),(iz a1),(iz a2),(iz a3),(iz a4),(iz a5),(iz a6),(iz a7),(iz a8)]),(iz a9),(.str a10)] =
 C.bool (pcall M d 8 []) fun b0 =>
 cnd (!b0)
 (C.bool (pcall M d 8 []) fun b1 =>
 some (.bool b1))
 (C.bool (pcall M d 9 [(.agg [(.lst a0),(iz a1),(iz a2),(iz a3),(iz a4),(iz a5),(iz a6),(iz a7),(iz a8)])]) fun b2 =>
 cnd (!b2)
 (C.bool (pcall M d 8 []) fun b3 =>
 some (.bool b3))
 (C.int .i64 (pcall M d 11 [(.agg [(.lst a0),(iz a1),(iz a2),(iz a3),(iz a4),(iz a5),(iz a6),(iz a7),(iz a8)])]) fun x4 =>
 cnd (x4 != 0)
 (C.bool (pcall M d 8 []) fun b5 =>
 some (.bool b5))
 (cnd (decide ((((List.length a10):Nat):Int) > 100))
 (C.bool (pcall M d 8 []) fun b6 =>
 some (.bool b6))
 (C.tup 2 (pcall M d 10 [(.agg [(.lst a0),(iz a1),(iz a2),(iz a3),(iz a4),(iz a5),(iz a6),(iz a7),(iz a8)])]) fun l7 =>
 C.str l7[0]? fun s8 =>
 C.int .i64 l7[1]? fun x9 =>
 cnd (x9 != 0)
 (some bf)
 (cnd ((((List.length s8):Nat):Int) == 0)
 (some bf)
 (cnd (decide ((IntKind.wrap .u64 (((List.length s8):Nat):Int))=0))
 (none)
 (cnd (decide (((0:Int)≤(IntKind.wrap .i64 (Int.tmod (IntKind.wrap .u64 a9) (IntKind.wrap .u64 (((List.length s8):Nat):Int)))))∧((IntKind.wrap .i64 (Int.tmod (IntKind.wrap .u64 a9) (IntKind.wrap .u64 (((List.length s8):Nat):Int))))≤(((List.length s8):Nat):Int))))
 (C.tup 2 (pcall M d 13 [(.str (List.drop 0 (List.take (Int.toNat (IntKind.wrap .i64 (Int.tmod (IntKind.wrap .u64 a9) (IntKind.wrap .u64 (((List.length s8):Nat):Int))))) s8)))]) fun l10 =>
 C.agg 9 l10[0]? fun l11 =>
 C.lst l11[0]? (fun l12 =>
 C.int .i64 l11[1]? fun x14 =>
 C.int .i64 l11[2]? fun x15 =>
 C.int .i64 l11[3]? fun x16 =>
 C.int .i64 l11[4]? fun x17 =>
 C.int .i64 l11[5]? fun x18 =>
 C.int .i64 l11[6]? fun x19 =>
 C.int .i64 l11[7]? fun x20 =>
 C.int .i64 l11[8]? fun x21 =>
 C.int .i64 l10[1]? fun x22 =>
 cnd (decide (((List.length s8)+(List.length a10))≤9223372036854775807))
 (C.tup 2 (pcall M d 13 [(.str (s8 ++ a10))]) fun l23 =>
 C.agg 9 l23[0]? fun l24 =>
 C.lst l24[0]? (fun l25 =>
 C.int .i64 l24[1]? fun x27 =>
 C.int .i64 l24[2]? fun x28 =>
 C.int .i64 l24[3]? fun x29 =>
 C.int .i64 l24[4]? fun x30 =>
 C.int .i64 l24[5]? fun x31 =>
 C.int .i64 l24[6]? fun x32 =>
 C.int .i64 l24[7]? fun x33 =>
 C.int .i64 l24[8]? fun x34 =>
 C.int .i64 l23[1]? fun x35 =>
 cnd (x22 == 5)
 (cnd (a10 == [])
 (some bt)
 (some (.bool (x35 == 3))))
 (some bf))
 (fun z26 =>
 none))
 (none))
 (fun z13 =>
 none))
 (none)))))))):=by kernel_rfl
end Go.Proofs.Ytbmedgpiphibaaa.AE

namespace Go.Proofs.Ytbmedgpiphibaaa.AE
set_option linter.unusedVariables false
set_option linter.unusedSimpArgs false
set_option linter.constructorNameAsVariable false
open Go Go.Proofs.Ytbmedgpiphibaaa.Geo
attribute [local irreducible] pcall C0
set_option maxRecDepth 100000
theorem mod_nat (a:Int) (L:Nat) (h:1≤L) (h':L≤1000000):∃ c:Nat,c < L∧IntKind.wrap .i64 (Int.tmod (IntKind.wrap .u64 a) (IntKind.wrap .u64 ((L:Nat):Int)))=(c:Nat):=by
 have e1:IntKind.wrap .u64 a=a % 18446744073709551616:=by simp [IntKind.wrap,IntKind.bits,IntKind.signed]
 have e2:IntKind.wrap .u64 ((L:Nat):Int)=((L:Nat):Int):=by simp [IntKind.wrap,IntKind.bits,IntKind.signed]; omega
 rw [e1,e2,Int.tmod_eq_emod_of_nonneg (by omega)]
 have b1:=Int.emod_nonneg (a % 18446744073709551616) (show ((L:Nat):Int) ≠ 0 by omega)
 have b2:=Int.emod_lt_of_pos (a % 18446744073709551616) (show (0:Int) < ((L:Nat):Int) by omega)
 rw [i64_small (by omega) (by omega)]
 exact ⟨(a % 18446744073709551616 % ((L:Nat):Int)).toNat,by omega,by omega⟩
theorem cuts_law (r:Rul) (c:Int) (m:List UInt8) (hl:r.phs.length≤9223372036854775807):pcall M 41 5 [rl r,.int .i64 c,.str m]=some (.bool true):=told (r5 C0 40 _ _ _ _ _ _ _ _ _ _ _) (by
 refine Eq.trans (pl_bool awake14) ?_
 repeat with_reducible first | refine tt sh_ptr ?_ | refine tt sh_fptr ?_ | refine tt w2 ?_ | refine tt w3 ?_ | refine tt w8 ?_ | refine tt w9 ?_ | refine tt wf ?_ | refine tt wg ?_ | refine tt wh ?_ | refine tt wi ?_ | refine tt wj ?_ | refine tt wk ?_ | refine tt wl ?_ | refine tt wn ?_ | refine tt c_ort ?_ | refine tt c_nt ?_ | refine tt c_nf ?_ | refine tt (cnd_t _ _) ?_ | refine tt (cnd_f _ _) ?_ | refine tt w6 ?_ | refine tt w4 ?_ | refine tt w5 ?_ | refine tt w7 ?_ | refine tt wm ?_ | refine tt wo ?_ | refine tt wx ?_ | refine tt nil_ptr ?_ | refine tt len_lst ?_ | refine tt len_zsl ?_
 refine Eq.trans (pl_bool (s9 39 r hl)) ?_
 by_cases hf:fewX r.phs=true
 rotate_left
 ·refine Eq.trans (pl_len (by rw [Bool.eq_false_iff.mpr hf]; rfl)) ?_
  exact pl_bool awake14
 refine Eq.trans (pl_f (by rw [hf]; rfl)) ?_
 obtain ⟨f1,f2⟩:=few_t hf
 have ha:∀ p ∈ r.phs,p.ps.length≤140737488355328:=fun p hp=>by have:=f1 p hp; omega
 refine Eq.trans (pl_int (s11 29 r (by omega) ha)) ?_
 by_cases h:wrongX r=0
 rotate_left
 ·refine Eq.trans (pl_len (bne_iff_ne.mpr h)) ?_
  exact pl_bool awake14
 refine Eq.trans (pl_f (by rw [h]; rfl)) ?_
 by_cases hm:m.length > 100
 ·rw [decide_eq_true (by omega),cnd_t]
  exact pl_bool awake14
 rw [decide_eq_false (by omega),cnd_f]
 refine Eq.trans (pl_tup (s10 21 r (by omega) ha) rfl) ?_
 refine Eq.trans (pl_str rfl) ?_
 refine Eq.trans (pl_int rfl) ?_
 refine Eq.trans (pl_f (by rw [if_pos h]; rfl)) ?_
 obtain ⟨-,hlen⟩:=seal_len h
 have hb:=body_le h
 have hle:(printF r).length≤404:=by unfold printF; rw [if_pos h,sealF_len]; omega
 refine Eq.trans (pl_f (beq_eq_false_iff_ne.mpr (by omega))) ?_
 have eu:IntKind.wrap .u64 (((printF r).length:Nat):Int)=(((printF r).length:Nat):Int):=by simp [IntKind.wrap,IntKind.bits,IntKind.signed]; omega
 refine Eq.trans (b:=_) (by rw [eu,decide_eq_false (by omega),cnd_f]) ?_
 rw [← eu]
 obtain ⟨k,hk,ek⟩:=mod_nat c (printF r).length (by omega) (by omega)
 rw [eu] at ek ⊢
 rw [ek]
 refine Eq.trans (pl_len (by rw [decide_eq_true_iff]; omega)) ?_
 rw [Int.toNat_natCast,List.drop_zero]
 refine Eq.trans (pl_tup (s13 21 _ (by rw [List.length_take]; omega)) rfl) ?_
 repeat with_reducible first | refine tt sh_ptr ?_ | refine tt sh_fptr ?_ | refine tt w2 ?_ | refine tt w3 ?_ | refine tt w8 ?_ | refine tt w9 ?_ | refine tt wf ?_ | refine tt wg ?_ | refine tt wh ?_ | refine tt wi ?_ | refine tt wj ?_ | refine tt wk ?_ | refine tt wl ?_ | refine tt wn ?_ | refine tt c_ort ?_ | refine tt c_nt ?_ | refine tt c_nf ?_ | refine tt (cnd_t _ _) ?_ | refine tt (cnd_f _ _) ?_ | refine tt w6 ?_ | refine tt w4 ?_ | refine tt w5 ?_ | refine tt w7 ?_ | refine tt wm ?_ | refine tt wo ?_ | refine tt wx ?_ | refine tt nil_ptr ?_ | refine tt len_lst ?_ | refine tt len_zsl ?_
 refine Eq.trans (pl_len (by rw [decide_eq_true_iff]; omega)) ?_
 refine Eq.trans (pl_tup (s13 21 (printF r ++ m) (by rw [List.length_append]; omega)) rfl) ?_
 repeat with_reducible first | refine tt sh_ptr ?_ | refine tt sh_fptr ?_ | refine tt w2 ?_ | refine tt w3 ?_ | refine tt w8 ?_ | refine tt w9 ?_ | refine tt wf ?_ | refine tt wg ?_ | refine tt wh ?_ | refine tt wi ?_ | refine tt wj ?_ | refine tt wk ?_ | refine tt wl ?_ | refine tt wn ?_ | refine tt c_ort ?_ | refine tt c_nt ?_ | refine tt c_nf ?_ | refine tt (cnd_t _ _) ?_ | refine tt (cnd_f _ _) ?_ | refine tt w6 ?_ | refine tt w4 ?_ | refine tt w5 ?_ | refine tt w7 ?_ | refine tt wm ?_ | refine tt wo ?_ | refine tt wx ?_ | refine tt nil_ptr ?_ | refine tt len_lst ?_ | refine tt len_zsl ?_
 rw [read_cut h hk]
 refine Eq.trans (pl_len rfl) ?_
 by_cases hn:m=[]
 ·refine Eq.trans (pl_len (by rw [hn]; rfl)) ?_
  rfl
 ·refine Eq.trans (pl_f (beq_eq_false_iff_ne.mpr hn)) ?_
  rw [read_more h hn]; rfl)
theorem law_RulefileCuts (a0:AV) (a1:Int) (a2:List UInt8) (w0:TyOK true [(.sl true [(.sl true [(.i .i64),(.i .i64)]),(.i .i64),(.i .i64),(.i .i64),(.i .i64)]),(.i .i64),(.i .i64),(.i .i64),(.i .i64),(.i .i64),(.i .i64),(.i .i64),(.i .i64)] a0) (w1:(Lit.int .i64 a1).wf=true) (w2:a2.length≤maxLen) :
 pcall M 41 5 [a0,.int .i64 a1,.str a2]=some (.bool true):=by
 obtain ⟨r,rfl,hl⟩:=ty_rul w0
 exact cuts_law r a1 a2 hl
end Go.Proofs.Ytbmedgpiphibaaa.AE
