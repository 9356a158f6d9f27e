/- The texts that the law RulefileTurns needs, part 0. No conditions. -/
import Derived.Test.YtbmedgpiphibaaaMc5
namespace Go.Proofs.Ytbmedgpiphibaaa.Geo
set_option linter.unusedVariables false
theorem xlc (x y z:BitVec 32):x ^^^ (y ^^^ z)=y ^^^ (x ^^^ z):=by rw [← BitVec.xor_assoc,BitVec.xor_comm x y,BitVec.xor_assoc]
theorem st_xor (x y:BitVec 32):st (x ^^^ y)=st x ^^^ st y:=by
 unfold st
 rw [BitVec.ushiftRight_xor_distrib,BitVec.getLsbD_xor]
 cases x.getLsbD 0 <;> cases y.getLsbD 0 <;> simp [BitVec.xor_assoc,BitVec.xor_comm,xlc]
theorem st_inj {x:BitVec 32} (h:st x=0#32):x=0#32:=by
 unfold st at h
 cases hb:x.getLsbD 0
 ·rw [hb,cond_false,BitVec.xor_zero] at h
  apply BitVec.eq_of_getLsbD_eq
  intro i hi
  match i with
  | 0=>rw [hb]; rfl
  | i+1 =>
    have:=congrArg (fun v=>v.getLsbD i) h
    simp only [BitVec.getLsbD_ushiftRight] at this
    rw [show i+1=1+i by omega,this]; simp
 ·rw [hb,cond_true] at h
  have:=congrArg (fun v=>v.getLsbD 31) h
  simp only [BitVec.getLsbD_xor,BitVec.getLsbD_ushiftRight] at this
  rw [BitVec.getLsbD_of_ge x (1+31) (by omega)] at this
  exact absurd this (by decide)
theorem stN_xor:∀ (n:Nat) (x y:BitVec 32),stN n (x ^^^ y)=stN n x ^^^ stN n y
 | 0,x,y=>rfl
 | n+1,x,y=>by simp only [stN,st_xor,stN_xor n]
theorem stN_succ:∀ (n:Nat) (x:BitVec 32),stN (n+1) x=st (stN n x)
 | 0,x=>rfl
 | n+1,x=>by rw [stN,stN_succ n (st x)]; rfl
theorem stN_inj:∀ (n:Nat) {x:BitVec 32},stN n x=0#32→x=0#32
 | 0,x,h=>h
 | n+1,x,h=>st_inj (stN_inj n h)
theorem bt_xor (e f:Bool):bt (xor e f)=bt e ^^^ bt f:=by cases e <;> cases f <;> decide
def word:List Bool→BitVec 32
 | []=>0#32
 | e::l=>bt e ^^^ (word l <<< 1)
theorem word_snoc:∀ (l:List Bool) (e:Bool),word (l ++ [e])=word l ^^^ (bt e <<< l.length)
 | [],e=>by simp [word]
 | f::l,e=>by
   rw [List.cons_append,word,word_snoc l e,BitVec.shiftLeft_xor_distrib,word,List.length_cons,← BitVec.shiftLeft_add,BitVec.xor_assoc]
theorem feed (x:BitVec 32):∀ (n:Nat) (l:List Bool),l.length=n→n≤32→l.foldl bf x=stN n (x ^^^ word l)
 | 0,l,hl,_=>by
   have:l=[]:=List.eq_nil_of_length_eq_zero hl
   subst this; simp [word,stN]
 | n+1,l,hl,h=>by
   obtain ⟨l',e,rfl⟩:∃ l' e,l=l' ++ [e]:=⟨l.dropLast,l.getLast (by intro c; rw [c] at hl; simp at hl),(List.dropLast_concat_getLast _).symm⟩
   have hl':l'.length=n:=by simpa using hl
   rw [List.foldl_append,List.foldl_cons,List.foldl_nil,feed x n l' hl' (by omega),word_snoc,← BitVec.xor_assoc,stN_succ,stN_xor n _ (bt e <<< _),hl',up n (by omega)]
   rfl
theorem feed_xor:∀ (l m:List Bool) (x y:BitVec 32),l.length=m.length→l.foldl bf x ^^^ m.foldl bf y=(List.zipWith xor l m).foldl bf (x ^^^ y)
 | [],[],x,y,_=>rfl
 | e::l,f::m,x,y,h=>by
   simp only [List.foldl_cons,List.zipWith_cons_cons]
   rw [feed_xor l m _ _ (by simpa using h)]
   congr 1
   unfold bf
   rw [← st_xor,bt_xor]
   congr 1
   simp only [BitVec.xor_assoc]
   congr 1
   rw [← BitVec.xor_assoc,BitVec.xor_comm (bt e) y,BitVec.xor_assoc]
theorem feed_none:∀ (n:Nat) (x:BitVec 32),(List.replicate n false).foldl bf x=stN n x
 | 0,x=>rfl
 | n+1,x=>by
   rw [List.replicate_succ,List.foldl_cons,feed_none n]
   show stN n (st (x ^^^ 0#32))=stN n (st x)
   rw [BitVec.xor_zero]
theorem word_bit:∀ (l:List Bool) (i:Nat),i < 32→(word l).getLsbD i=l.getD i false
 | [],i,_=>by simp [word]
 | e::l,0,_=>by cases e <;> simp [word,bt]
 | e::l,i+1,h=>by
   rw [word,BitVec.getLsbD_xor,BitVec.getLsbD_shiftLeft]
   have:(bt e).getLsbD (i+1)=false:=by cases e <;> simp [bt]
   rw [this,Bool.false_xor]
   simp [h,word_bit l i (by omega)]
theorem word_ne {l:List Bool} (hl:l.length≤32) (h:true ∈ l):word l ≠ 0#32:=by
 intro c
 obtain ⟨i,hi,he⟩:=List.mem_iff_getElem.mp h
 have:=word_bit l i (by omega)
 rw [c,List.getD_eq_getElem?_getD,List.getElem?_eq_getElem hi,he] at this
 simp at this
theorem burst {l m w:List Bool} {a r:Nat} (x:BitVec 32) (hlm:l.length=m.length) (hw:List.zipWith xor l m=List.replicate a false ++ w ++ List.replicate r false) (h32:w.length≤32) (ht:true ∈ w):l.foldl bf x ≠ m.foldl bf x:=by
 intro c
 have k:=feed_xor l m x x hlm
 rw [c,BitVec.xor_self,BitVec.xor_self,hw,List.foldl_append,List.foldl_append,feed_none r,feed_none a,stN_zero,feed _ w.length w rfl h32,BitVec.zero_xor] at k
 exact word_ne h32 ht (stN_inj _ (stN_inj _ k.symm))
def bitsOf (b:UInt8):List Bool:=(List.range 8).map fun i=>b.toBitVec.getLsbD i
theorem bitsOf_len (b:UInt8):(bitsOf b).length=8:=by simp [bitsOf]
theorem word_byte (b:UInt8):word (bitsOf b)=b32 b:=by
 apply BitVec.eq_of_getLsbD_eq
 intro i hi
 rw [word_bit _ i hi]
 unfold bitsOf b32
 rw [BitVec.getLsbD_setWidth,List.getD_eq_getElem?_getD,List.getElem?_map]
 by_cases h:i < 8
 ·rw [List.getElem?_range h]; simp [hi]
 ·rw [List.getElem?_eq_none (by simp; omega),BitVec.getLsbD_of_ge _ _ (by omega)]; simp
theorem byte_bits (x:BitVec 32) (b:UInt8):byteF x b=(bitsOf b).foldl bf x:=by
 rw [feed x 8 _ (bitsOf_len b) (by decide),word_byte]; rfl
theorem bytes_bits:∀ (s:List UInt8) (x:BitVec 32),s.foldl byteF x=(s.flatMap bitsOf).foldl bf x
 | [],x=>rfl
 | b::s,x=>by rw [List.foldl_cons,bytes_bits s,List.flatMap_cons,List.foldl_append,byte_bits]
theorem crc_burst {s t:List UInt8} {w:List Bool} {a r:Nat} (hl:s.length=t.length) (hw:List.zipWith xor (s.flatMap bitsOf) (t.flatMap bitsOf)=List.replicate a false ++ w ++ List.replicate r false) (h32:w.length≤32) (ht:true ∈ w):crcF s ≠ crcF t:=by
 have len:∀ s:List UInt8,(s.flatMap bitsOf).length=8 * s.length:=by
  intro s
  induction s with
  | nil=>rfl
  | cons b s ih=>rw [List.flatMap_cons,List.length_append,bitsOf_len,ih,List.length_cons]; omega
 intro c
 unfold crcF at c
 have c':s.foldl byteF 0xffffffff#32=t.foldl byteF 0xffffffff#32:=by
  have:=congrArg (fun v=>v ^^^ 0xffffffff#32) c
  simpa [BitVec.xor_assoc] using this
 rw [bytes_bits,bytes_bits] at c'
 exact burst _ (by rw [len,len,hl]) hw h32 ht c'
end Go.Proofs.Ytbmedgpiphibaaa.Geo

namespace Go.Proofs.Ytbmedgpiphibaaa.AE
set_option linter.unusedVariables false
set_option linter.unusedSimpArgs false
open Go Go.Proofs.Ytbmedgpiphibaaa.Geo
attribute [local irreducible] pcall C0
theorem sealF_len (s:List UInt8):(sealF s).length=s.length+4:=by simp [sealF,be4_len]
end Go.Proofs.Ytbmedgpiphibaaa.AE

namespace Go.Proofs.Ytbmedgpiphibaaa.AE
set_option linter.unusedVariables false
set_option linter.unusedSimpArgs false
set_option linter.constructorNameAsVariable false
open Go Go.Proofs.Ytbmedgpiphibaaa.Geo
theorem maxLen_eq:Go.maxLen=9223372036854775807:=by decide
theorem rows_pts:∀ l:List AV,(∀ x ∈ l,∃ cs,x=.agg cs∧CTall [(.i .i64),(.i .i64)] cs)→∃ ps:List Pt,l=ps.map pt
 | [],_=>⟨[],rfl⟩
 | x::l,h=>by
   obtain ⟨ps,rfl⟩:=rows_pts l fun y hy=>h y (List.mem_cons_of_mem _ hy)
   obtain ⟨_,rfl,_,_,rfl,⟨a,rfl,_⟩,_,_,rfl,⟨b,rfl,_⟩,rfl⟩:=h x (List.mem_cons_self ..)
   exact ⟨(a,b)::ps,rfl⟩
end Go.Proofs.Ytbmedgpiphibaaa.AE

namespace Go.Proofs.Ytbmedgpiphibaaa.AE
set_option linter.unusedVariables false
set_option linter.unusedSimpArgs false
set_option linter.constructorNameAsVariable false
open Go Go.Proofs.Ytbmedgpiphibaaa.Geo
attribute [local irreducible] pcall C0
set_option maxRecDepth 100000
theorem rows_phs:∀ l:List AV,(∀ x ∈ l,∃ cs,x=.agg cs∧CTall [(.sl true [(.i .i64),(.i .i64)]),(.i .i64),(.i .i64),(.i .i64),(.i .i64)] cs)→∃ ps:List Phs,l=ps.map phA
 | [],_=>⟨[],rfl⟩
 | x::l,h=>by
   obtain ⟨ps,rfl⟩:=rows_phs l fun y hy=>h y (List.mem_cons_of_mem _ hy)
   obtain ⟨_,rfl,_,_,rfl,⟨r,rfl,hl,hx⟩,_,_,rfl,⟨g,rfl,_⟩,_,_,rfl,⟨w,rfl,_⟩,_,_,rfl,⟨m,rfl,_⟩,_,_,rfl,⟨u,rfl,_⟩,rfl⟩:=h x (List.mem_cons_self ..)
   obtain ⟨qs,rfl⟩:=rows_pts r hx
   exact ⟨⟨qs,g,w,m,u⟩::ps,rfl⟩
theorem ty_rul {v:AV} (h:TyOK true [(.sl true [(.sl true [(.i .i64),(.i .i64)]),(.i .i64),(.i .i64),(.i .i64),(.i .i64)]),(.i .i64),(.i .i64),(.i .i64),(.i .i64),(.i .i64),(.i .i64),(.i .i64),(.i .i64)] v):∃ r,v=rl r∧r.phs.length≤9223372036854775807:=by
 obtain ⟨l,rfl,_,_,rfl,⟨r,rfl,hl,hx⟩,_,_,rfl,⟨a,rfl,_⟩,_,_,rfl,⟨b,rfl,_⟩,_,_,rfl,⟨c,rfl,_⟩,_,_,rfl,⟨d,rfl,_⟩,_,_,rfl,⟨e,rfl,_⟩,_,_,rfl,⟨f,rfl,_⟩,_,_,rfl,⟨g,rfl,_⟩,_,_,rfl,⟨i,rfl,_⟩,rfl⟩:=h
 obtain ⟨ps,rfl⟩:=rows_phs r hx
 exact ⟨⟨ps,a,b,c,d,e,f,g,i⟩,rfl,by rw [← maxLen_eq]; simpa using hl⟩
def fewX (l:List Phs):Bool:=l.all (fun p=>decide (p.ps.length≤12)) && decide (l.length≤8)
theorem few_go (d:Nat) (l:List Phs) (hl:l.length≤9223372036854775807):∀ (k i:Nat),i+k=l.length→∀ f,k < f →
 L9_0 d (l.map phA) f (i:Nat)=some (.bool ((l.drop i).all (fun p=>decide (p.ps.length≤12)) && decide (l.length≤8)))
 | 0,i,h,f+1,_=>by
   rw [L9_0,decide_eq_false (by simp; omega),cnd_f,List.drop_of_length_le (by omega)]
   unfold X9_0_0
   simp
   omega
 | k+1,i,h,f+1,hf=>by
   have hi:i < l.length:=by omega
   rw [L9_0,decide_eq_true (by simp; omega),cnd_t,decide_eq_true (by omega),cnd_t,show (((i:Nat):Int)).toNat=i by omega,phs_at hi]
   repeat with_reducible first | refine tt sh_ptr ?_ | refine tt sh_fptr ?_ | refine tt w2 ?_ | refine tt w3 ?_ | refine tt w8 ?_ | refine tt w9 ?_ | refine tt wf ?_ | refine tt wg ?_ | refine tt wh ?_ | refine tt wi ?_ | refine tt wj ?_ | refine tt wk ?_ | refine tt wl ?_ | refine tt wn ?_ | refine tt c_ort ?_ | refine tt c_nt ?_ | refine tt c_nf ?_ | refine tt (cnd_t _ _) ?_ | refine tt (cnd_f _ _) ?_ | refine tt w6 ?_ | refine tt w4 ?_ | refine tt w5 ?_ | refine tt w7 ?_ | refine tt wm ?_ | refine tt wo ?_ | refine tt wx ?_ | refine tt nil_ptr ?_ | refine tt len_lst ?_ | refine tt len_zsl ?_
   rw [List.drop_eq_getElem_cons hi,List.all_cons,List.length_map]
   by_cases c:l[i].ps.length≤12
   ·rw [decide_eq_false (show ¬ ((l[i].ps.length:Nat):Int) > 12 by omega),cnd_f,decide_eq_true c,Bool.true_and,show IntKind.wrap .i64 (((i:Nat):Int)+1)=((i+1:Nat):Int) by rw [i64w]; omega]
    exact few_go d l hl k (i+1) (by omega) f (by omega)
   ·rw [decide_eq_true (show ((l[i].ps.length:Nat):Int) > 12 by omega),cnd_t,decide_eq_false c]; rfl
theorem s9 (d:Nat) (r:Rul) (hl:r.phs.length≤9223372036854775807):pcall M (d+1) 9 [rl r]=some (.bool (fewX r.phs)):=told (q9 d _ _ _ _ _ _ _ _ _) (by
 have:=few_go d r.phs hl r.phs.length 0 (by omega) 10000000000000000000 (by omega)
 rw [List.drop_zero] at this
 exact this)
theorem few_t {l:List Phs} (h:fewX l=true):(∀ p ∈ l,p.ps.length≤12)∧l.length≤8:=by
 unfold fewX at h
 simp only [Bool.and_eq_true,List.all_eq_true,decide_eq_true_iff] at h
 exact h
end Go.Proofs.Ytbmedgpiphibaaa.AE

namespace Go.Proofs.Ytbmedgpiphibaaa.AE
set_option linter.unusedVariables false
set_option linter.unusedSimpArgs false
set_option linter.constructorNameAsVariable false
open Go
set_option maxRecDepth 100000
set_option maxHeartbeats 0
def r6R0 (C:Cb) (d:Nat) (a0:List AV) (a1 a2 a3 a4 a5 a6 a7 a8 a9 a10:Int) (v0:AV) (b2:Bool) (v7:AV) (x8 x9 x10 x11 x12 x13 x14 x15:Int) (b18:Bool) (v23:AV) (x24 x25 x26 x27 x28 x29 x30 x31 x34:Int) (v40:AV) (x41 x42 x43 x44 x45 x46 x47 x48:Int) (s52:List UInt8) (x53:Int) (v54:AV):St→(Ex→St→Ans)→Ans:=fun s56 k57 =>
 cnd ((List.length s56.env) == 82)
 (sames C s56.env 0 [(.agg [(.lst a0),(iz a1),(iz a2),(iz a3),(iz a4),(iz a5),(iz a6),(iz a7),(iz a8)]),(iz a9),(.int .u32 a10),v0,tz,tz,bf,(.str s52),(iz x53),v54,(iz (IntKind.wrap .i64 (8 * (IntKind.wrap .i64 (5+(IntKind.wrap .i64 (Int.tmod (IntKind.wrap .u64 a9) 12)))))))] <|
 C.any s56.env[11]? fun v59 =>
 C.any s56.env[12]? fun v60 =>
 sames C s56.env 13 [tz,tz,(.bool b2),(.bool (!b2)),bf,(.agg [v7,(iz x8),(iz x9),(iz x10),(iz x11),(iz x12),(iz x13),(iz x14),(iz x15)]),(.bool b18),(.bool (!b18)),(.bool (!b18)),bf,(.agg [v23,(iz x24),(iz x25),(iz x26),(iz x27),(iz x28),(iz x29),(iz x30),(iz x31)]),(iz x34),(.bool (x34 != 0)),(.bool (x34 != 0)),bf,(.int .u32 a10),(.bool (a10 == 0)),bf,tz,(.tup [(.str s52),(iz x53)]),(.agg [v40,(iz x41),(iz x42),(iz x43),(iz x44),(iz x45),(iz x46),(iz x47),(iz x48)]),(.tup [(.str s52),(iz x53)]),(.str s52),(iz x53),(iz x53),(.bool (x53 != 0)),bf,(.str s52),(iz (((List.length s52):Nat):Int)),(.bool (decide ((((List.length s52):Nat):Int) < 30))),bf,(.str s52),v54,(iz a9),(.int .u64 (IntKind.wrap .u64 a9)),(.int .u64 (Int.tmod (IntKind.wrap .u64 a9) 12)),(iz (IntKind.wrap .i64 (Int.tmod (IntKind.wrap .u64 a9) 12))),(iz (IntKind.wrap .i64 (5+(IntKind.wrap .i64 (Int.tmod (IntKind.wrap .u64 a9) 12))))),(iz (IntKind.wrap .i64 (8 * (IntKind.wrap .i64 (5+(IntKind.wrap .i64 (Int.tmod (IntKind.wrap .u64 a9) 12)))))))] <|
 C.int .i64 s56.env[52]? fun x61 =>
 C.any s56.env[53]? fun v62 =>
 C.any s56.env[54]? fun v63 =>
 C.any s56.env[55]? fun v64 =>
 C.any s56.env[56]? fun v65 =>
 C.any s56.env[57]? fun v66 =>
 C.any s56.env[58]? fun v67 =>
 C.any s56.env[59]? fun v68 =>
 C.any s56.env[60]? fun v69 =>
 C.any s56.env[61]? fun v70 =>
 C.any s56.env[62]? fun v71 =>
 C.any s56.env[63]? fun v72 =>
 C.any s56.env[64]? fun v73 =>
 C.any s56.env[65]? fun v74 =>
 C.any s56.env[66]? fun v75 =>
 C.any s56.env[67]? fun v76 =>
 C.any s56.env[68]? fun v77 =>
 C.any s56.env[69]? fun v78 =>
 C.any s56.env[70]? fun v79 =>
 C.any s56.env[71]? fun v80 =>
 C.any s56.env[72]? fun v81 =>
 C.any s56.env[73]? fun v82 =>
 sames C s56.env 74 [tz,tz,tz,tz,tz,tz,tz,tz] <|
 cnd (decide (x61 < 32))
 (cnd (decide (x61 < 0))
 (none)
 (cnd ((bits .and .u32 (Int.fdiv a10 (2 ^ (min (Int.toNat x61) 32))) 1) == 1)
 (C.hop (St.H s56) (.ixAS .any 1 (.v v54) (.v (iz (IntKind.wrap .i64 (Int.tdiv (IntKind.wrap .i64 ((IntKind.wrap .i64 (8 * (IntKind.wrap .i64 (5+(IntKind.wrap .i64 (Int.tmod (IntKind.wrap .u64 a9) 12))))))+x61)) 8))))) fun v83 h84 =>
 C.hop h84 (.load false 1 (.v v83)) fun v85 h86 =>
 C.int .u8 (some v85) fun x87 =>
 cnd (decide ((Int.tmod (IntKind.wrap .i64 ((IntKind.wrap .i64 (8 * (IntKind.wrap .i64 (5+(IntKind.wrap .i64 (Int.tmod (IntKind.wrap .u64 a9) 12))))))+x61)) 8) < 0))
 (none)
 (C.hop h86 (.ixAS .any 1 (.v v54) (.v (iz (IntKind.wrap .i64 (Int.tdiv (IntKind.wrap .i64 ((IntKind.wrap .i64 (8 * (IntKind.wrap .i64 (5+(IntKind.wrap .i64 (Int.tmod (IntKind.wrap .u64 a9) 12))))))+x61)) 8))))) fun v88 h89 =>
 C.hop h89 (.store 1 (.v v88) (.v (.int .u8 (bits .xor .u8 x87 (IntKind.wrap .u8 (1 * (2 ^ (min (Int.toNat (Int.tmod (IntKind.wrap .i64 ((IntKind.wrap .i64 (8 * (IntKind.wrap .i64 (5+(IntKind.wrap .i64 (Int.tmod (IntKind.wrap .u64 a9) 12))))))+x61)) 8)) 8)))))))) fun v90 h91 =>
 k57 .normal ⟨[(.agg [(.lst a0),(iz a1),(iz a2),(iz a3),(iz a4),(iz a5),(iz a6),(iz a7),(iz a8)]),(iz a9),(.int .u32 a10),v0,tz,tz,bf,(.str s52),(iz x53),v54,(iz (IntKind.wrap .i64 (8 * (IntKind.wrap .i64 (5+(IntKind.wrap .i64 (Int.tmod (IntKind.wrap .u64 a9) 12))))))),(iz x61),(iz (IntKind.wrap .i64 ((IntKind.wrap .i64 (8 * (IntKind.wrap .i64 (5+(IntKind.wrap .i64 (Int.tmod (IntKind.wrap .u64 a9) 12))))))+x61))),tz,tz,(bz b2),(bz (!b2)),bf,(.agg [v7,(iz x8),(iz x9),(iz x10),(iz x11),(iz x12),(iz x13),(iz x14),(iz x15)]),(bz b18),(bz (!b18)),(bz (!b18)),bf,(.agg [v23,(iz x24),(iz x25),(iz x26),(iz x27),(iz x28),(iz x29),(iz x30),(iz x31)]),(iz x34),(bz (x34 != 0)),(bz (x34 != 0)),bf,(.int .u32 a10),(bz (a10 == 0)),bf,tz,(.tup [(.str s52),(iz x53)]),(.agg [v40,(iz x41),(iz x42),(iz x43),(iz x44),(iz x45),(iz x46),(iz x47),(iz x48)]),(.tup [(.str s52),(iz x53)]),(.str s52),(iz x53),(iz x53),(bz (x53 != 0)),bf,(.str s52),(iz (((List.length s52):Nat):Int)),(bz (decide ((((List.length s52):Nat):Int) < 30))),bf,(.str s52),v54,(iz a9),(.int .u64 (IntKind.wrap .u64 a9)),(.int .u64 (Int.tmod (IntKind.wrap .u64 a9) 12)),(iz (IntKind.wrap .i64 (Int.tmod (IntKind.wrap .u64 a9) 12))),(iz (IntKind.wrap .i64 (5+(IntKind.wrap .i64 (Int.tmod (IntKind.wrap .u64 a9) 12))))),(iz (IntKind.wrap .i64 (8 * (IntKind.wrap .i64 (5+(IntKind.wrap .i64 (Int.tmod (IntKind.wrap .u64 a9) 12))))))),(iz (IntKind.wrap .i64 (x61+1))),bt,(iz x61),(.int .u32 a10),(iz x61),(.int .u32 (Int.fdiv a10 (2 ^ (min (Int.toNat x61) 32)))),(.int .u32 (bits .and .u32 (Int.fdiv a10 (2 ^ (min (Int.toNat x61) 32))) 1)),bt,(iz (IntKind.wrap .i64 (8 * (IntKind.wrap .i64 (5+(IntKind.wrap .i64 (Int.tmod (IntKind.wrap .u64 a9) 12))))))),(iz x61),(iz (IntKind.wrap .i64 ((IntKind.wrap .i64 (8 * (IntKind.wrap .i64 (5+(IntKind.wrap .i64 (Int.tmod (IntKind.wrap .u64 a9) 12))))))+x61))),v54,(iz (IntKind.wrap .i64 ((IntKind.wrap .i64 (8 * (IntKind.wrap .i64 (5+(IntKind.wrap .i64 (Int.tmod (IntKind.wrap .u64 a9) 12))))))+x61))),(iz (IntKind.wrap .i64 (Int.tdiv (IntKind.wrap .i64 ((IntKind.wrap .i64 (8 * (IntKind.wrap .i64 (5+(IntKind.wrap .i64 (Int.tmod (IntKind.wrap .u64 a9) 12))))))+x61)) 8))),v83,(.int .u8 x87),(iz (IntKind.wrap .i64 ((IntKind.wrap .i64 (8 * (IntKind.wrap .i64 (5+(IntKind.wrap .i64 (Int.tmod (IntKind.wrap .u64 a9) 12))))))+x61))),(iz (Int.tmod (IntKind.wrap .i64 ((IntKind.wrap .i64 (8 * (IntKind.wrap .i64 (5+(IntKind.wrap .i64 (Int.tmod (IntKind.wrap .u64 a9) 12))))))+x61)) 8)),(.int .u8 (IntKind.wrap .u8 (1 * (2 ^ (min (Int.toNat (Int.tmod (IntKind.wrap .i64 ((IntKind.wrap .i64 (8 * (IntKind.wrap .i64 (5+(IntKind.wrap .i64 (Int.tmod (IntKind.wrap .u64 a9) 12))))))+x61)) 8)) 8))))),(.int .u8 (bits .xor .u8 x87 (IntKind.wrap .u8 (1 * (2 ^ (min (Int.toNat (Int.tmod (IntKind.wrap .i64 ((IntKind.wrap .i64 (8 * (IntKind.wrap .i64 (5+(IntKind.wrap .i64 (Int.tmod (IntKind.wrap .u64 a9) 12))))))+x61)) 8)) 8)))))),v88,(iz (IntKind.wrap .i64 (x61+1))),tz,tz,tz,tz,tz,tz,tz,tz],h91⟩))
 (k57 .normal ⟨[(.agg [(.lst a0),(iz a1),(iz a2),(iz a3),(iz a4),(iz a5),(iz a6),(iz a7),(iz a8)]),(iz a9),(.int .u32 a10),v0,tz,tz,bf,(.str s52),(iz x53),v54,(iz (IntKind.wrap .i64 (8 * (IntKind.wrap .i64 (5+(IntKind.wrap .i64 (Int.tmod (IntKind.wrap .u64 a9) 12))))))),(iz x61),v60,tz,tz,(bz b2),(bz (!b2)),bf,(.agg [v7,(iz x8),(iz x9),(iz x10),(iz x11),(iz x12),(iz x13),(iz x14),(iz x15)]),(bz b18),(bz (!b18)),(bz (!b18)),bf,(.agg [v23,(iz x24),(iz x25),(iz x26),(iz x27),(iz x28),(iz x29),(iz x30),(iz x31)]),(iz x34),(bz (x34 != 0)),(bz (x34 != 0)),bf,(.int .u32 a10),(bz (a10 == 0)),bf,tz,(.tup [(.str s52),(iz x53)]),(.agg [v40,(iz x41),(iz x42),(iz x43),(iz x44),(iz x45),(iz x46),(iz x47),(iz x48)]),(.tup [(.str s52),(iz x53)]),(.str s52),(iz x53),(iz x53),(bz (x53 != 0)),bf,(.str s52),(iz (((List.length s52):Nat):Int)),(bz (decide ((((List.length s52):Nat):Int) < 30))),bf,(.str s52),v54,(iz a9),(.int .u64 (IntKind.wrap .u64 a9)),(.int .u64 (Int.tmod (IntKind.wrap .u64 a9) 12)),(iz (IntKind.wrap .i64 (Int.tmod (IntKind.wrap .u64 a9) 12))),(iz (IntKind.wrap .i64 (5+(IntKind.wrap .i64 (Int.tmod (IntKind.wrap .u64 a9) 12))))),(iz (IntKind.wrap .i64 (8 * (IntKind.wrap .i64 (5+(IntKind.wrap .i64 (Int.tmod (IntKind.wrap .u64 a9) 12))))))),(iz (IntKind.wrap .i64 (x61+1))),bt,(iz x61),(.int .u32 a10),(iz x61),(.int .u32 (Int.fdiv a10 (2 ^ (min (Int.toNat x61) 32)))),(.int .u32 (bits .and .u32 (Int.fdiv a10 (2 ^ (min (Int.toNat x61) 32))) 1)),bf,v69,v70,v71,v72,v73,v74,v75,v76,v77,v78,v79,v80,v81,(iz (IntKind.wrap .i64 (x61+1))),tz,tz,tz,tz,tz,tz,tz,tz],(St.H s56)⟩)))
 (k57 (.exit 0) ⟨[(.agg [(.lst a0),(iz a1),(iz a2),(iz a3),(iz a4),(iz a5),(iz a6),(iz a7),(iz a8)]),(iz a9),(.int .u32 a10),v0,tz,tz,bf,(.str s52),(iz x53),v54,(iz (IntKind.wrap .i64 (8 * (IntKind.wrap .i64 (5+(IntKind.wrap .i64 (Int.tmod (IntKind.wrap .u64 a9) 12))))))),v59,v60,tz,tz,(bz b2),(bz (!b2)),bf,(.agg [v7,(iz x8),(iz x9),(iz x10),(iz x11),(iz x12),(iz x13),(iz x14),(iz x15)]),(bz b18),(bz (!b18)),(bz (!b18)),bf,(.agg [v23,(iz x24),(iz x25),(iz x26),(iz x27),(iz x28),(iz x29),(iz x30),(iz x31)]),(iz x34),(bz (x34 != 0)),(bz (x34 != 0)),bf,(.int .u32 a10),(bz (a10 == 0)),bf,tz,(.tup [(.str s52),(iz x53)]),(.agg [v40,(iz x41),(iz x42),(iz x43),(iz x44),(iz x45),(iz x46),(iz x47),(iz x48)]),(.tup [(.str s52),(iz x53)]),(.str s52),(iz x53),(iz x53),(bz (x53 != 0)),bf,(.str s52),(iz (((List.length s52):Nat):Int)),(bz (decide ((((List.length s52):Nat):Int) < 30))),bf,(.str s52),v54,(iz a9),(.int .u64 (IntKind.wrap .u64 a9)),(.int .u64 (Int.tmod (IntKind.wrap .u64 a9) 12)),(iz (IntKind.wrap .i64 (Int.tmod (IntKind.wrap .u64 a9) 12))),(iz (IntKind.wrap .i64 (5+(IntKind.wrap .i64 (Int.tmod (IntKind.wrap .u64 a9) 12))))),(iz (IntKind.wrap .i64 (8 * (IntKind.wrap .i64 (5+(IntKind.wrap .i64 (Int.tmod (IntKind.wrap .u64 a9) 12))))))),(iz x61),bf,v63,v64,v65,v66,v67,v68,v69,v70,v71,v72,v73,v74,v75,v76,v77,v78,v79,v80,v81,v82,tz,tz,tz,tz,tz,tz,tz,tz],(St.H s56)⟩))
 (none)
def r6X0_0 (C:Cb) (d:Nat) (a0:List AV) (a1 a2 a3 a4 a5 a6 a7 a8 a9 a10:Int) (v0:AV) (b2:Bool) (v7:AV) (x8 x9 x10 x11 x12 x13 x14 x15:Int) (b18:Bool) (v23:AV) (x24 x25 x26 x27 x28 x29 x30 x31 x34:Int) (v40:AV) (x41 x42 x43 x44 x45 x46 x47 x48:Int) (s52:List UInt8) (x53:Int) (v54:AV):St→Ans:=fun s92 =>
 cnd ((List.length s92.env) == 82)
 (sames C s92.env 0 [(.agg [(.lst a0),(iz a1),(iz a2),(iz a3),(iz a4),(iz a5),(iz a6),(iz a7),(iz a8)]),(iz a9),(.int .u32 a10),v0,tz,tz,bf,(.str s52),(iz x53),v54,(iz (IntKind.wrap .i64 (8 * (IntKind.wrap .i64 (5+(IntKind.wrap .i64 (Int.tmod (IntKind.wrap .u64 a9) 12)))))))] <|
 anys C s92.env 11 2 <|
 sames C s92.env 13 [tz,tz,(.bool b2),(.bool (!b2)),bf,(.agg [v7,(iz x8),(iz x9),(iz x10),(iz x11),(iz x12),(iz x13),(iz x14),(iz x15)]),(.bool b18),(.bool (!b18)),(.bool (!b18)),bf,(.agg [v23,(iz x24),(iz x25),(iz x26),(iz x27),(iz x28),(iz x29),(iz x30),(iz x31)]),(iz x34),(.bool (x34 != 0)),(.bool (x34 != 0)),bf,(.int .u32 a10),(.bool (a10 == 0)),bf,tz,(.tup [(.str s52),(iz x53)]),(.agg [v40,(iz x41),(iz x42),(iz x43),(iz x44),(iz x45),(iz x46),(iz x47),(iz x48)]),(.tup [(.str s52),(iz x53)]),(.str s52),(iz x53),(iz x53),(.bool (x53 != 0)),bf,(.str s52),(iz (((List.length s52):Nat):Int)),(.bool (decide ((((List.length s52):Nat):Int) < 30))),bf,(.str s52),v54,(iz a9),(.int .u64 (IntKind.wrap .u64 a9)),(.int .u64 (Int.tmod (IntKind.wrap .u64 a9) 12)),(iz (IntKind.wrap .i64 (Int.tmod (IntKind.wrap .u64 a9) 12))),(iz (IntKind.wrap .i64 (5+(IntKind.wrap .i64 (Int.tmod (IntKind.wrap .u64 a9) 12))))),(iz (IntKind.wrap .i64 (8 * (IntKind.wrap .i64 (5+(IntKind.wrap .i64 (Int.tmod (IntKind.wrap .u64 a9) 12)))))))] <|
 C.int .i64 s92.env[52]? fun x95 =>
 C.bool s92.env[53]? fun b96 =>
 anys C s92.env 54 20 <|
 sames C s92.env 74 [tz,tz,tz,tz,tz,tz,tz,tz] <|
 C.hop (St.H s92) (.b2s (.v v54)) fun v117 h118 =>
 C.str (some v117) fun s119 =>
 C.tup 2 (pcall M d 13 [(.str s119)]) fun l120 =>
 C.agg 9 l120[0]? fun l121 =>
 C.any l121[0]? fun v122 =>
 C.int .i64 l121[1]? fun x123 =>
 C.int .i64 l121[2]? fun x124 =>
 C.int .i64 l121[3]? fun x125 =>
 C.int .i64 l121[4]? fun x126 =>
 C.int .i64 l121[5]? fun x127 =>
 C.int .i64 l121[6]? fun x128 =>
 C.int .i64 l121[7]? fun x129 =>
 C.int .i64 l121[8]? fun x130 =>
 C.int .i64 l120[1]? fun x131 =>
 C.hop h118 (.alloc E24) fun v132 h133 =>
 C.hop h133 (.store 9 (.v v132) (.v (.agg [v122,(iz x123),(iz x124),(iz x125),(iz x126),(iz x127),(iz x128),(iz x129),(iz x130)]))) fun v134 h135 =>
 C.fin h135 (.bool (x131 == 4)))
 (none)
def r6E0 (C:Cb) (d:Nat) (a0:List AV) (a1 a2 a3 a4 a5 a6 a7 a8 a9 a10:Int) (v0:AV) (b2:Bool) (v7:AV) (x8 x9 x10 x11 x12 x13 x14 x15:Int) (b18:Bool) (v23:AV) (x24 x25 x26 x27 x28 x29 x30 x31 x34:Int) (v40:AV) (x41 x42 x43 x44 x45 x46 x47 x48:Int) (s52:List UInt8) (x53:Int) (v54:AV):St→Ans:=fun s58 =>
 cnd ((List.length s58.env) == 82)
 (sames C s58.env 0 [(.agg [(.lst a0),(iz a1),(iz a2),(iz a3),(iz a4),(iz a5),(iz a6),(iz a7),(iz a8)]),(iz a9),(.int .u32 a10),v0,tz,tz,bf,(.str s52),(iz x53),v54,(iz (IntKind.wrap .i64 (8 * (IntKind.wrap .i64 (5+(IntKind.wrap .i64 (Int.tmod (IntKind.wrap .u64 a9) 12)))))))] <|
 anys C s58.env 11 2 <|
 sames C s58.env 13 [tz,tz,(.bool b2),(.bool (!b2)),bf,(.agg [v7,(iz x8),(iz x9),(iz x10),(iz x11),(iz x12),(iz x13),(iz x14),(iz x15)]),(.bool b18),(.bool (!b18)),(.bool (!b18)),bf,(.agg [v23,(iz x24),(iz x25),(iz x26),(iz x27),(iz x28),(iz x29),(iz x30),(iz x31)]),(iz x34),(.bool (x34 != 0)),(.bool (x34 != 0)),bf,(.int .u32 a10),(.bool (a10 == 0)),bf,tz,(.tup [(.str s52),(iz x53)]),(.agg [v40,(iz x41),(iz x42),(iz x43),(iz x44),(iz x45),(iz x46),(iz x47),(iz x48)]),(.tup [(.str s52),(iz x53)]),(.str s52),(iz x53),(iz x53),(.bool (x53 != 0)),bf,(.str s52),(iz (((List.length s52):Nat):Int)),(.bool (decide ((((List.length s52):Nat):Int) < 30))),bf,(.str s52),v54,(iz a9),(.int .u64 (IntKind.wrap .u64 a9)),(.int .u64 (Int.tmod (IntKind.wrap .u64 a9) 12)),(iz (IntKind.wrap .i64 (Int.tmod (IntKind.wrap .u64 a9) 12))),(iz (IntKind.wrap .i64 (5+(IntKind.wrap .i64 (Int.tmod (IntKind.wrap .u64 a9) 12))))),(iz (IntKind.wrap .i64 (8 * (IntKind.wrap .i64 (5+(IntKind.wrap .i64 (Int.tmod (IntKind.wrap .u64 a9) 12)))))))] <|
 C.int .i64 s58.env[52]? fun x138 =>
 anys C s58.env 53 21 <|
 sames C s58.env 74 [tz,tz,tz,tz,tz,tz,tz,tz] <|
 C.fin (St.H s58) bf)
 (none)
theorem r6 (C:Cb) (d:Nat) (a0:List AV) (a1 a2 a3 a4 a5 a6 a7 a8 a9 a10:Int):xcall C M unr d 6 [(.agg [(.lst a0),(iz a1),(iz a2),(iz a3),(iz a4),(iz a5),(iz a6),(iz a7),(iz a8)]),(iz a9),(.int .u32 a10)] =
 C.hop [] (.box E24 (.v (.agg [(.lst a0),(iz a1),(iz a2),(iz a3),(iz a4),(iz a5),(iz a6),(iz a7),(iz a8)]))) fun v0 h1 =>
 C.bool (pcall M d 8 []) fun b2 =>
 cnd (!b2)
 (C.bool (pcall M d 8 []) fun b3 =>
 C.fin h1 (.bool b3))
 (C.hop h1 (.load true 9 (.v v0)) fun v4 h5 =>
 C.agg 9 (some v4) fun l6 =>
 C.any l6[0]? fun v7 =>
 C.int .i64 l6[1]? fun x8 =>
 C.int .i64 l6[2]? fun x9 =>
 C.int .i64 l6[3]? fun x10 =>
 C.int .i64 l6[4]? fun x11 =>
 C.int .i64 l6[5]? fun x12 =>
 C.int .i64 l6[6]? fun x13 =>
 C.int .i64 l6[7]? fun x14 =>
 C.int .i64 l6[8]? fun x15 =>
 C.snp h5 [(.agg [v7,(iz x8),(iz x9),(iz x10),(iz x11),(iz x12),(iz x13),(iz x14),(iz x15)])] fun l16 b17 =>
 C.bool (pcall M d 9 l16) fun b18 =>
 cnd (b17 || true)
 (cnd (!b18)
 (C.bool (pcall M d 8 []) fun b19 =>
 C.fin h5 (.bool b19))
 (C.hop h5 (.load true 9 (.v v0)) fun v20 h21 =>
 C.agg 9 (some v20) fun l22 =>
 C.any l22[0]? fun v23 =>
 C.int .i64 l22[1]? fun x24 =>
 C.int .i64 l22[2]? fun x25 =>
 C.int .i64 l22[3]? fun x26 =>
 C.int .i64 l22[4]? fun x27 =>
 C.int .i64 l22[5]? fun x28 =>
 C.int .i64 l22[6]? fun x29 =>
 C.int .i64 l22[7]? fun x30 =>
 C.int .i64 l22[8]? fun x31 =>
 C.snp h21 [(.agg [v23,(iz x24),(iz x25),(iz x26),(iz x27),(iz x28),(iz x29),(iz x30),(iz x31)])] fun l32 b33 =>
 C.int .i64 (pcall M d 11 l32) fun x34 =>
 cnd (b33 || true)
 (cnd (x34 != 0)
 (C.bool (pcall M d 8 []) fun b35 =>
 C.fin h21 (.bool b35))
 (cnd (a10 == 0)
 (C.bool (pcall M d 8 []) fun b36 =>
 C.fin h21 (.bool b36))
 (C.hop h21 (.load true 9 (.v v0)) fun v37 h38 =>
 C.agg 9 (some v37) fun l39 =>
 C.any l39[0]? fun v40 =>
 C.int .i64 l39[1]? fun x41 =>
 C.int .i64 l39[2]? fun x42 =>
 C.int .i64 l39[3]? fun x43 =>
 C.int .i64 l39[4]? fun x44 =>
 C.int .i64 l39[5]? fun x45 =>
 C.int .i64 l39[6]? fun x46 =>
 C.int .i64 l39[7]? fun x47 =>
 C.int .i64 l39[8]? fun x48 =>
 C.snp h38 [(.agg [v40,(iz x41),(iz x42),(iz x43),(iz x44),(iz x45),(iz x46),(iz x47),(iz x48)])] fun l49 b50 =>
 C.tup 2 (pcall M d 10 l49) fun l51 =>
 C.str l51[0]? fun s52 =>
 C.int .i64 l51[1]? fun x53 =>
 cnd (b50 || true)
 (cnd (x53 != 0)
 (C.fin h38 bf)
 (cnd (decide ((((List.length s52):Nat):Int) < 30))
 (C.fin h38 bf)
 (C.hop h38 (.s2b E5 (.v (.str s52))) fun v54 h55 =>
 C.iter (r6R0 C d a0 a1 a2 a3 a4 a5 a6 a7 a8 a9 a10 v0 b2 v7 x8 x9 x10 x11 x12 x13 x14 x15 b18 v23 x24 x25 x26 x27 x28 x29 x30 x31 x34 v40 x41 x42 x43 x44 x45 x46 x47 x48 s52 x53 v54) 10000000000000000000 ⟨[(.agg [(.lst a0),(iz a1),(iz a2),(iz a3),(iz a4),(iz a5),(iz a6),(iz a7),(iz a8)]),(iz a9),(.int .u32 a10),v0,tz,tz,bf,(.str s52),(iz x53),v54,(iz (IntKind.wrap .i64 (8 * (IntKind.wrap .i64 (5+(IntKind.wrap .i64 (Int.tmod (IntKind.wrap .u64 a9) 12))))))),tz,tz,tz,tz,(bz b2),(bz (!b2)),bf,(.agg [v7,(iz x8),(iz x9),(iz x10),(iz x11),(iz x12),(iz x13),(iz x14),(iz x15)]),(bz b18),(bz (!b18)),(bz (!b18)),bf,(.agg [v23,(iz x24),(iz x25),(iz x26),(iz x27),(iz x28),(iz x29),(iz x30),(iz x31)]),(iz x34),(bz (x34 != 0)),(bz (x34 != 0)),bf,(.int .u32 a10),(bz (a10 == 0)),bf,tz,(.tup [(.str s52),(iz x53)]),(.agg [v40,(iz x41),(iz x42),(iz x43),(iz x44),(iz x45),(iz x46),(iz x47),(iz x48)]),(.tup [(.str s52),(iz x53)]),(.str s52),(iz x53),(iz x53),(bz (x53 != 0)),bf,(.str s52),(iz (((List.length s52):Nat):Int)),(bz (decide ((((List.length s52):Nat):Int) < 30))),bf,(.str s52),v54,(iz a9),(.int .u64 (IntKind.wrap .u64 a9)),(.int .u64 (Int.tmod (IntKind.wrap .u64 a9) 12)),(iz (IntKind.wrap .i64 (Int.tmod (IntKind.wrap .u64 a9) 12))),(iz (IntKind.wrap .i64 (5+(IntKind.wrap .i64 (Int.tmod (IntKind.wrap .u64 a9) 12))))),(iz (IntKind.wrap .i64 (8 * (IntKind.wrap .i64 (5+(IntKind.wrap .i64 (Int.tmod (IntKind.wrap .u64 a9) 12))))))),(iz 0),tz,tz,tz,tz,tz,tz,tz,tz,tz,tz,tz,tz,tz,tz,tz,tz,tz,tz,tz,tz,tz,tz,tz,tz,tz,tz,tz,tz,tz],h55⟩ [0] [r6X0_0 C d a0 a1 a2 a3 a4 a5 a6 a7 a8 a9 a10 v0 b2 v7 x8 x9 x10 x11 x12 x13 x14 x15 b18 v23 x24 x25 x26 x27 x28 x29 x30 x31 x34 v40 x41 x42 x43 x44 x45 x46 x47 x48 s52 x53 v54] (r6E0 C d a0 a1 a2 a3 a4 a5 a6 a7 a8 a9 a10 v0 b2 v7 x8 x9 x10 x11 x12 x13 x14 x15 b18 v23 x24 x25 x26 x27 x28 x29 x30 x31 x34 v40 x41 x42 x43 x44 x45 x46 x47 x48 s52 x53 v54))))
 (none))))
 (none)))
 (none)):=by kernel_rfl
noncomputable def X6_0_0 (d:Nat) (a9 a10:Int) (v54:AV) (H:Heap):Ans :=
 C0.hop H (.b2s (.v v54)) fun v117 h118 =>
  C0.str (some v117) fun s119 =>
  C0.tup 2 (pcall M d 13 [(.str s119)]) fun l120 =>
  C0.agg 9 l120[0]? fun l121 =>
  C0.any l121[0]? fun v122 =>
  C0.int .i64 l121[1]? fun x123 =>
  C0.int .i64 l121[2]? fun x124 =>
  C0.int .i64 l121[3]? fun x125 =>
  C0.int .i64 l121[4]? fun x126 =>
  C0.int .i64 l121[5]? fun x127 =>
  C0.int .i64 l121[6]? fun x128 =>
  C0.int .i64 l121[7]? fun x129 =>
  C0.int .i64 l121[8]? fun x130 =>
  C0.int .i64 l120[1]? fun x131 =>
  C0.hop h118 (.alloc E24) fun v132 h133 =>
  C0.hop h133 (.store 9 (.v v132) (.v (.agg [v122,(iz x123),(iz x124),(iz x125),(iz x126),(iz x127),(iz x128),(iz x129),(iz x130)]))) fun v134 h135 =>
  C0.fin h135 (.bool (x131 == 4))
theorem X6_0_0_ok (d:Nat) (a0:List AV) (a1 a2 a3 a4 a5 a6 a7 a8 a9 a10:Int) (v0:AV) (b2:Bool) (v7:AV) (x8 x9 x10 x11 x12 x13 x14 x15:Int) (b18:Bool) (v23:AV) (x24 x25 x26 x27 x28 x29 x30 x31 x34:Int) (v40:AV) (x41 x42 x43 x44 x45 x46 x47 x48:Int) (s52:List UInt8) (x53:Int) (v54 v93 v94:AV) (x95:Int) (b96:Bool) (v97 v98 v99 v100 v101 v102 v103 v104 v105 v106 v107 v108 v109 v110 v111 v112 v113 v114 v115 v116:AV) (H:Heap):r6X0_0 C0 d a0 a1 a2 a3 a4 a5 a6 a7 a8 a9 a10 v0 b2 v7 x8 x9 x10 x11 x12 x13 x14 x15 b18 v23 x24 x25 x26 x27 x28 x29 x30 x31 x34 v40 x41 x42 x43 x44 x45 x46 x47 x48 s52 x53 v54 ⟨[(.agg [(.lst a0),(iz a1),(iz a2),(iz a3),(iz a4),(iz a5),(iz a6),(iz a7),(iz a8)]),(iz a9),(.int .u32 a10),v0,tz,tz,bf,(.str s52),(iz x53),v54,(iz (IntKind.wrap .i64 (8 * (IntKind.wrap .i64 (5+(IntKind.wrap .i64 (Int.tmod (IntKind.wrap .u64 a9) 12))))))),v93,v94,tz,tz,(bz b2),(bz (!b2)),bf,(.agg [v7,(iz x8),(iz x9),(iz x10),(iz x11),(iz x12),(iz x13),(iz x14),(iz x15)]),(bz b18),(bz (!b18)),(bz (!b18)),bf,(.agg [v23,(iz x24),(iz x25),(iz x26),(iz x27),(iz x28),(iz x29),(iz x30),(iz x31)]),(iz x34),(bz (x34 != 0)),(bz (x34 != 0)),bf,(.int .u32 a10),(bz (a10 == 0)),bf,tz,(.tup [(.str s52),(iz x53)]),(.agg [v40,(iz x41),(iz x42),(iz x43),(iz x44),(iz x45),(iz x46),(iz x47),(iz x48)]),(.tup [(.str s52),(iz x53)]),(.str s52),(iz x53),(iz x53),(bz (x53 != 0)),bf,(.str s52),(iz (((List.length s52):Nat):Int)),(bz (decide ((((List.length s52):Nat):Int) < 30))),bf,(.str s52),v54,(iz a9),(.int .u64 (IntKind.wrap .u64 a9)),(.int .u64 (Int.tmod (IntKind.wrap .u64 a9) 12)),(iz (IntKind.wrap .i64 (Int.tmod (IntKind.wrap .u64 a9) 12))),(iz (IntKind.wrap .i64 (5+(IntKind.wrap .i64 (Int.tmod (IntKind.wrap .u64 a9) 12))))),(iz (IntKind.wrap .i64 (8 * (IntKind.wrap .i64 (5+(IntKind.wrap .i64 (Int.tmod (IntKind.wrap .u64 a9) 12))))))),(iz x95),(bz b96),v97,v98,v99,v100,v101,v102,v103,v104,v105,v106,v107,v108,v109,v110,v111,v112,v113,v114,v115,v116,tz,tz,tz,tz,tz,tz,tz,tz],H⟩=X6_0_0 d a9 a10 v54 H:=by
 unfold r6X0_0; refine Eq.trans (pl_len (by rfl)) ?_; refine yt ySs ?_; refine yt yAs ?_; refine yt ySs ?_; refine yt yI ?_; refine yt yB ?_; refine yt yAs ?_; refine yt ySs ?_
 rfl
noncomputable def L6_0 (d:Nat) (a9 a10:Int) (v54:AV):Nat→Int→Heap→Ans
 | 0,_,_=>none
 | n+1,x61,H =>
 cnd (decide (x61 < 32))
  (cnd (decide (x61 < 0))
  (none)
  (cnd ((bits .and .u32 (Int.fdiv a10 (2 ^ (min (Int.toNat x61) 32))) 1) == 1)
  (C0.hop H (.ixAS .any 1 (.v v54) (.v (iz (IntKind.wrap .i64 (Int.tdiv (IntKind.wrap .i64 ((IntKind.wrap .i64 (8 * (IntKind.wrap .i64 (5+(IntKind.wrap .i64 (Int.tmod (IntKind.wrap .u64 a9) 12))))))+x61)) 8))))) fun v83 h84 =>
  C0.hop h84 (.load false 1 (.v v83)) fun v85 h86 =>
  C0.int .u8 (some v85) fun x87 =>
  cnd (decide ((Int.tmod (IntKind.wrap .i64 ((IntKind.wrap .i64 (8 * (IntKind.wrap .i64 (5+(IntKind.wrap .i64 (Int.tmod (IntKind.wrap .u64 a9) 12))))))+x61)) 8) < 0))
  (none)
  (C0.hop h86 (.ixAS .any 1 (.v v54) (.v (iz (IntKind.wrap .i64 (Int.tdiv (IntKind.wrap .i64 ((IntKind.wrap .i64 (8 * (IntKind.wrap .i64 (5+(IntKind.wrap .i64 (Int.tmod (IntKind.wrap .u64 a9) 12))))))+x61)) 8))))) fun v88 h89 =>
  C0.hop h89 (.store 1 (.v v88) (.v (.int .u8 (bits .xor .u8 x87 (IntKind.wrap .u8 (1 * (2 ^ (min (Int.toNat (Int.tmod (IntKind.wrap .i64 ((IntKind.wrap .i64 (8 * (IntKind.wrap .i64 (5+(IntKind.wrap .i64 (Int.tmod (IntKind.wrap .u64 a9) 12))))))+x61)) 8)) 8)))))))) fun v90 h91 =>
  L6_0 d a9 a10 v54 n (IntKind.wrap .i64 (x61+1)) h91))
  (L6_0 d a9 a10 v54 n (IntKind.wrap .i64 (x61+1)) H)))
  (X6_0_0 d a9 a10 v54 H)
theorem L6_0_s (d:Nat) (a9 a10:Int) (v54:AV) (n:Nat) (x61:Int) (H:Heap):L6_0 d a9 a10 v54 (n+1) x61 H=(cnd (decide (x61 < 32))
 (cnd (decide (x61 < 0))
 (none)
 (cnd ((bits .and .u32 (Int.fdiv a10 (2 ^ (min (Int.toNat x61) 32))) 1) == 1)
 (C0.hop H (.ixAS .any 1 (.v v54) (.v (iz (IntKind.wrap .i64 (Int.tdiv (IntKind.wrap .i64 ((IntKind.wrap .i64 (8 * (IntKind.wrap .i64 (5+(IntKind.wrap .i64 (Int.tmod (IntKind.wrap .u64 a9) 12))))))+x61)) 8))))) fun v83 h84 =>
 C0.hop h84 (.load false 1 (.v v83)) fun v85 h86 =>
 C0.int .u8 (some v85) fun x87 =>
 cnd (decide ((Int.tmod (IntKind.wrap .i64 ((IntKind.wrap .i64 (8 * (IntKind.wrap .i64 (5+(IntKind.wrap .i64 (Int.tmod (IntKind.wrap .u64 a9) 12))))))+x61)) 8) < 0))
 (none)
 (C0.hop h86 (.ixAS .any 1 (.v v54) (.v (iz (IntKind.wrap .i64 (Int.tdiv (IntKind.wrap .i64 ((IntKind.wrap .i64 (8 * (IntKind.wrap .i64 (5+(IntKind.wrap .i64 (Int.tmod (IntKind.wrap .u64 a9) 12))))))+x61)) 8))))) fun v88 h89 =>
 C0.hop h89 (.store 1 (.v v88) (.v (.int .u8 (bits .xor .u8 x87 (IntKind.wrap .u8 (1 * (2 ^ (min (Int.toNat (Int.tmod (IntKind.wrap .i64 ((IntKind.wrap .i64 (8 * (IntKind.wrap .i64 (5+(IntKind.wrap .i64 (Int.tmod (IntKind.wrap .u64 a9) 12))))))+x61)) 8)) 8)))))))) fun v90 h91 =>
 L6_0 d a9 a10 v54 n (IntKind.wrap .i64 (x61+1)) h91))
 (L6_0 d a9 a10 v54 n (IntKind.wrap .i64 (x61+1)) H)))
 (X6_0_0 d a9 a10 v54 H)):=by kernel_rfl
theorem it6_0 (d:Nat) (a0:List AV) (a1 a2 a3 a4 a5 a6 a7 a8 a9 a10:Int) (v0:AV) (b2:Bool) (v7:AV) (x8 x9 x10 x11 x12 x13 x14 x15:Int) (b18:Bool) (v23:AV) (x24 x25 x26 x27 x28 x29 x30 x31 x34:Int) (v40:AV) (x41 x42 x43 x44 x45 x46 x47 x48:Int) (s52:List UInt8) (x53:Int) (v54:AV)  :∀ (n:Nat) (v59 v60:AV) (x61:Int) (v62 v63 v64 v65 v66 v67 v68 v69 v70 v71 v72 v73 v74 v75 v76 v77 v78 v79 v80 v81 v82:AV) (H:Heap),C0.iter (r6R0 C0 d a0 a1 a2 a3 a4 a5 a6 a7 a8 a9 a10 v0 b2 v7 x8 x9 x10 x11 x12 x13 x14 x15 b18 v23 x24 x25 x26 x27 x28 x29 x30 x31 x34 v40 x41 x42 x43 x44 x45 x46 x47 x48 s52 x53 v54) n ⟨[(.agg [(.lst a0),(iz a1),(iz a2),(iz a3),(iz a4),(iz a5),(iz a6),(iz a7),(iz a8)]),(iz a9),(.int .u32 a10),v0,tz,tz,bf,(.str s52),(iz x53),v54,(iz (IntKind.wrap .i64 (8 * (IntKind.wrap .i64 (5+(IntKind.wrap .i64 (Int.tmod (IntKind.wrap .u64 a9) 12))))))),v59,v60,tz,tz,(bz b2),(bz (!b2)),bf,(.agg [v7,(iz x8),(iz x9),(iz x10),(iz x11),(iz x12),(iz x13),(iz x14),(iz x15)]),(bz b18),(bz (!b18)),(bz (!b18)),bf,(.agg [v23,(iz x24),(iz x25),(iz x26),(iz x27),(iz x28),(iz x29),(iz x30),(iz x31)]),(iz x34),(bz (x34 != 0)),(bz (x34 != 0)),bf,(.int .u32 a10),(bz (a10 == 0)),bf,tz,(.tup [(.str s52),(iz x53)]),(.agg [v40,(iz x41),(iz x42),(iz x43),(iz x44),(iz x45),(iz x46),(iz x47),(iz x48)]),(.tup [(.str s52),(iz x53)]),(.str s52),(iz x53),(iz x53),(bz (x53 != 0)),bf,(.str s52),(iz (((List.length s52):Nat):Int)),(bz (decide ((((List.length s52):Nat):Int) < 30))),bf,(.str s52),v54,(iz a9),(.int .u64 (IntKind.wrap .u64 a9)),(.int .u64 (Int.tmod (IntKind.wrap .u64 a9) 12)),(iz (IntKind.wrap .i64 (Int.tmod (IntKind.wrap .u64 a9) 12))),(iz (IntKind.wrap .i64 (5+(IntKind.wrap .i64 (Int.tmod (IntKind.wrap .u64 a9) 12))))),(iz (IntKind.wrap .i64 (8 * (IntKind.wrap .i64 (5+(IntKind.wrap .i64 (Int.tmod (IntKind.wrap .u64 a9) 12))))))),(iz x61),v62,v63,v64,v65,v66,v67,v68,v69,v70,v71,v72,v73,v74,v75,v76,v77,v78,v79,v80,v81,v82,tz,tz,tz,tz,tz,tz,tz,tz],H⟩ [0] [r6X0_0 C0 d a0 a1 a2 a3 a4 a5 a6 a7 a8 a9 a10 v0 b2 v7 x8 x9 x10 x11 x12 x13 x14 x15 b18 v23 x24 x25 x26 x27 x28 x29 x30 x31 x34 v40 x41 x42 x43 x44 x45 x46 x47 x48 s52 x53 v54] (r6E0 C0 d a0 a1 a2 a3 a4 a5 a6 a7 a8 a9 a10 v0 b2 v7 x8 x9 x10 x11 x12 x13 x14 x15 b18 v23 x24 x25 x26 x27 x28 x29 x30 x31 x34 v40 x41 x42 x43 x44 x45 x46 x47 x48 s52 x53 v54)=L6_0 d a9 a10 v54 n x61 H:=by
 generalize hR:r6R0 C0 d a0 a1 a2 a3 a4 a5 a6 a7 a8 a9 a10 v0 b2 v7 x8 x9 x10 x11 x12 x13 x14 x15 b18 v23 x24 x25 x26 x27 x28 x29 x30 x31 x34 v40 x41 x42 x43 x44 x45 x46 x47 x48 s52 x53 v54=R
 intro n
 induction n with
 | zero=>intros; rfl
 | succ n ih =>
   intro v59 v60 x61 v62 v63 v64 v65 v66 v67 v68 v69 v70 v71 v72 v73 v74 v75 v76 v77 v78 v79 v80 v81 v82 H
   simp only [it_ret] at ih
   rw [it_ret,xiter_s]
   refine Eq.trans (congrFun (congrFun hR.symm _) _) ?_
   unfold r6R0
   refine Eq.trans (pl_len (by rfl)) ?_; refine yt ySs ?_; (iterate 2 (refine yt yA ?_)); refine yt ySs ?_; refine yt yI ?_; (iterate 21 (refine yt yA ?_)); refine yt ySs ?_
   simp only [kIter_n,kIter_x,kIter_r,kOut_x,kOut_r,xgo_hit,xgo_miss,ih,X6_0_0_ok d a0 a1 a2 a3 a4 a5 a6 a7 a8 a9 a10 v0 b2 v7 x8 x9 x10 x11 x12 x13 x14 x15 b18 v23 x24 x25 x26 x27 x28 x29 x30 x31 x34 v40 x41 x42 x43 x44 x45 x46 x47 x48 s52 x53 v54  ]
   exact (L6_0_s d a9 a10 v54 n x61 H).symm
theorem q6 (d:Nat) (a0:List AV) (a1 a2 a3 a4 a5 a6 a7 a8 a9 a10:Int):xcall C0 M unr d 6 [(.agg [(.lst a0),(iz a1),(iz a2),(iz a3),(iz a4),(iz a5),(iz a6),(iz a7),(iz a8)]),(iz a9),(.int .u32 a10)] =
 C0.hop [] (.box E24 (.v (.agg [(.lst a0),(iz a1),(iz a2),(iz a3),(iz a4),(iz a5),(iz a6),(iz a7),(iz a8)]))) fun v0 h1 =>
 C0.bool (pcall M d 8 []) fun b2 =>
 cnd (!b2)
  (C0.bool (pcall M d 8 []) fun b3 =>
  C0.fin h1 (.bool b3))
  (C0.hop h1 (.load true 9 (.v v0)) fun v4 h5 =>
  C0.agg 9 (some v4) fun l6 =>
  C0.any l6[0]? fun v7 =>
  C0.int .i64 l6[1]? fun x8 =>
  C0.int .i64 l6[2]? fun x9 =>
  C0.int .i64 l6[3]? fun x10 =>
  C0.int .i64 l6[4]? fun x11 =>
  C0.int .i64 l6[5]? fun x12 =>
  C0.int .i64 l6[6]? fun x13 =>
  C0.int .i64 l6[7]? fun x14 =>
  C0.int .i64 l6[8]? fun x15 =>
  C0.snp h5 [(.agg [v7,(iz x8),(iz x9),(iz x10),(iz x11),(iz x12),(iz x13),(iz x14),(iz x15)])] fun l16 b17 =>
  C0.bool (pcall M d 9 l16) fun b18 =>
  cnd (b17 || true)
  (cnd (!b18)
  (C0.bool (pcall M d 8 []) fun b19 =>
  C0.fin h5 (.bool b19))
  (C0.hop h5 (.load true 9 (.v v0)) fun v20 h21 =>
  C0.agg 9 (some v20) fun l22 =>
  C0.any l22[0]? fun v23 =>
  C0.int .i64 l22[1]? fun x24 =>
  C0.int .i64 l22[2]? fun x25 =>
  C0.int .i64 l22[3]? fun x26 =>
  C0.int .i64 l22[4]? fun x27 =>
  C0.int .i64 l22[5]? fun x28 =>
  C0.int .i64 l22[6]? fun x29 =>
  C0.int .i64 l22[7]? fun x30 =>
  C0.int .i64 l22[8]? fun x31 =>
  C0.snp h21 [(.agg [v23,(iz x24),(iz x25),(iz x26),(iz x27),(iz x28),(iz x29),(iz x30),(iz x31)])] fun l32 b33 =>
  C0.int .i64 (pcall M d 11 l32) fun x34 =>
  cnd (b33 || true)
  (cnd (x34 != 0)
  (C0.bool (pcall M d 8 []) fun b35 =>
  C0.fin h21 (.bool b35))
  (cnd (a10 == 0)
  (C0.bool (pcall M d 8 []) fun b36 =>
  C0.fin h21 (.bool b36))
  (C0.hop h21 (.load true 9 (.v v0)) fun v37 h38 =>
  C0.agg 9 (some v37) fun l39 =>
  C0.any l39[0]? fun v40 =>
  C0.int .i64 l39[1]? fun x41 =>
  C0.int .i64 l39[2]? fun x42 =>
  C0.int .i64 l39[3]? fun x43 =>
  C0.int .i64 l39[4]? fun x44 =>
  C0.int .i64 l39[5]? fun x45 =>
  C0.int .i64 l39[6]? fun x46 =>
  C0.int .i64 l39[7]? fun x47 =>
  C0.int .i64 l39[8]? fun x48 =>
  C0.snp h38 [(.agg [v40,(iz x41),(iz x42),(iz x43),(iz x44),(iz x45),(iz x46),(iz x47),(iz x48)])] fun l49 b50 =>
  C0.tup 2 (pcall M d 10 l49) fun l51 =>
  C0.str l51[0]? fun s52 =>
  C0.int .i64 l51[1]? fun x53 =>
  cnd (b50 || true)
  (cnd (x53 != 0)
  (C0.fin h38 bf)
  (cnd (decide ((((List.length s52):Nat):Int) < 30))
  (C0.fin h38 bf)
  (C0.hop h38 (.s2b E5 (.v (.str s52))) fun v54 h55 =>
  L6_0 d a9 a10 v54 10000000000000000000 0 h55)))
  (none))))
  (none)))
  (none)):=(r6 C0 d a0 a1 a2 a3 a4 a5 a6 a7 a8 a9 a10).trans (by simp only [it6_0])
end Go.Proofs.Ytbmedgpiphibaaa.AE

namespace Go.Proofs.Ytbmedgpiphibaaa.Geo
set_option linter.unusedVariables false
set_option linter.unusedSimpArgs false
def tb (s:List UInt8):List Bool:=s.flatMap bitsOf
theorem tb_cons (b:UInt8) (s:List UInt8):tb (b::s)=bitsOf b ++ tb s:=rfl
theorem tb_len:∀ s:List UInt8,(tb s).length=8 * s.length
 | []=>rfl
 | b::s=>by rw [tb_cons,List.length_append,bitsOf_len,tb_len s,List.length_cons]; omega
theorem bitsOf_at (b:UInt8) {i:Nat} (h:i < 8):(bitsOf b)[i]?=some (b.toBitVec.getLsbD i):=by
 unfold bitsOf
 rw [List.getElem?_map,List.getElem?_range h]; rfl
theorem tb_at:∀ (s:List UInt8) (q r:Nat),r < 8→(tb s)[8 * q+r]?=s[q]?.map fun b=>b.toBitVec.getLsbD r
 | [],q,r,h=>by simp [tb]
 | b::s,0,r,h=>by
   rw [tb_cons,List.getElem?_append_left (by rw [bitsOf_len]; omega),show 8 * 0+r=r by omega,bitsOf_at b h]; rfl
 | b::s,q+1,r,h=>by
   rw [tb_cons,List.getElem?_append_right (by rw [bitsOf_len]; omega),bitsOf_len,show 8 * (q+1)+r - 8=8 * q+r by omega,tb_at s q r h,List.getElem?_cons_succ]
theorem byte_ext {a b:UInt8} (h:∀ r,r < 8→a.toBitVec.getLsbD r=b.toBitVec.getLsbD r):a=b:=by
 apply UInt8.eq_of_toBitVec_eq
 apply BitVec.eq_of_getLsbD_eq
 intro i hi
 exact h i hi
theorem tb_inj {s t:List UInt8} (hl:s.length=t.length) (h:∀ j:Nat,(tb s)[j]?=(tb t)[j]?):s=t:=by
 apply List.ext_getElem?
 intro q
 rcases Nat.lt_or_ge q s.length with hq | hq
 ·rw [List.getElem?_eq_getElem hq,List.getElem?_eq_getElem (by omega)]
  congr 1
  apply byte_ext
  intro r hr
  have:=h (8 * q+r)
  rw [tb_at s q r hr,tb_at t q r hr,List.getElem?_eq_getElem hq,List.getElem?_eq_getElem (by omega)] at this
  simpa using this
 ·rw [List.getElem?_eq_none hq,List.getElem?_eq_none (by omega)]
def flip (s:List UInt8) (k:Nat):List UInt8:=s.set (k / 8) (s.getD (k / 8) 0 ^^^ UInt8.ofNat (2 ^ (k % 8)))
theorem flip_len (s:List UInt8) (k:Nat):(flip s k).length=s.length:=by simp [flip]
theorem pow_bit:∀ (j r:Fin 8),(UInt8.ofNat (2 ^ j.val)).toBitVec.getLsbD r.val=decide (r=j):=by decide
theorem flip_bit (b:UInt8) {j r:Nat} (hj:j < 8) (hr:r < 8):(b ^^^ UInt8.ofNat (2 ^ j)).toBitVec.getLsbD r=xor (b.toBitVec.getLsbD r) (decide (r=j)):=by
 rw [UInt8.toBitVec_xor,BitVec.getLsbD_xor]
 have:=pow_bit ⟨j,hj⟩ ⟨r,hr⟩
 simp only [Fin.mk.injEq] at this
 rw [this]
theorem tb_flip (s:List UInt8) {k:Nat} (hk:k < 8 * s.length) (j:Nat):(tb (flip s k))[j]?=(tb s)[j]?.map fun b=>xor b (decide (j=k)):=by
 have hj:j=8 * (j / 8)+j % 8:=(Nat.div_add_mod j 8).symm
 have hj8:j % 8 < 8:=Nat.mod_lt _ (by decide)
 rw [hj,tb_at _ _ _ hj8,tb_at _ _ _ hj8,← hj]
 unfold flip
 by_cases h:k / 8=j / 8
 ·have hlt:k / 8 < s.length:=by omega
  rw [← h,List.getElem?_set_self hlt,List.getElem?_eq_getElem hlt,List.getD_eq_getElem?_getD,List.getElem?_eq_getElem hlt]
  simp only [Option.map_some,Option.getD_some]
  rw [flip_bit _ (Nat.mod_lt _ (by decide)) hj8]
  congr 2
  rw [decide_eq_decide]
  omega
 ·rw [List.getElem?_set_ne h]
  have hne:decide (j=k)=false:=by rw [decide_eq_false_iff_not]; rintro rfl; exact h rfl
  rw [hne]
  simp only [Bool.xor_false,Option.map_map]
  rfl
def offs (s t:List UInt8) (j:Nat):Prop:=(tb s)[j]? ≠ (tb t)[j]?
theorem crc_window {s t:List UInt8} {a:Nat} (hl:s.length=t.length) (h:∀ j,offs s t j→a≤j∧j < a+32) (hne:s ≠ t):crcF s ≠ crcF t:=by
 have hl8:(tb s).length=(tb t).length:=by rw [tb_len,tb_len,hl]
 obtain ⟨j,hj⟩:∃ j,offs s t j:=by
  refine Classical.byContradiction fun c=>hne (tb_inj hl fun j=>?_)
  exact Classical.byContradiction fun k=>c ⟨j,k⟩
 have hjl:j < (tb s).length:=by
  rcases Nat.lt_or_ge j (tb s).length with h1 | h1
  ·exact h1
  ·exact absurd (by rw [List.getElem?_eq_none h1,List.getElem?_eq_none (by omega)]) hj
 obtain ⟨j1,j2⟩:=h j hj
 have hd:(List.zipWith xor (tb s) (tb t)).length=(tb s).length:=by simp [hl8]
 have hat:∀ i (hi:i < (tb s).length),(List.zipWith xor (tb s) (tb t))[i]?=some (xor (tb s)[i] ((tb t)[i]'(by omega))):=by
  intro i hi
  rw [List.getElem?_zipWith,List.getElem?_eq_getElem hi,List.getElem?_eq_getElem (by omega)]
 have hfalse:∀ i,i < (tb s).length→¬ (a≤i∧i < a+32)→(List.zipWith xor (tb s) (tb t))[i]?=some false:=by
  intro i hi hn
  have:¬ offs s t i:=fun k=>hn (h i k)
  have:(tb s)[i]?=(tb t)[i]?:=Classical.byContradiction this
  rw [hat i hi]
  rw [List.getElem?_eq_getElem hi,List.getElem?_eq_getElem (by omega)] at this
  simp only [Option.some.injEq] at this
  rw [this,Bool.xor_self]
 refine crc_burst (a:=a) (r:=(tb s).length - (a+32)) (w:=((List.zipWith xor (tb s) (tb t)).drop a).take 32) hl ?_ (by simp; omega) ?_
 ·change List.zipWith xor (tb s) (tb t)=_
  apply List.ext_getElem?
  intro i
  have hw:(((List.zipWith xor (tb s) (tb t)).drop a).take 32).length=min 32 ((tb s).length - a):=by simp only [List.length_take,List.length_drop,hd]
  rcases Nat.lt_or_ge i (tb s).length with hi | hi
  ·rcases Nat.lt_or_ge i a with h1 | h1
   ·rw [hfalse i hi (by omega),List.append_assoc,List.getElem?_append_left (by simpa using h1),List.getElem?_replicate,if_pos h1]
   ·rw [List.append_assoc,List.getElem?_append_right (by simpa using h1),List.length_replicate]
    rcases Nat.lt_or_ge i (a+32) with h2 | h2
    ·rw [List.getElem?_append_left (by rw [hw]; omega),List.getElem?_take,if_pos (by omega),List.getElem?_drop]
     congr 1; omega
    ·rw [List.getElem?_append_right (by rw [hw]; omega),hw,List.getElem?_replicate,if_pos (by omega),hfalse i hi (by omega)]
  ·rw [List.getElem?_eq_none (by rw [hd]; exact hi),List.getElem?_eq_none]
   simp only [List.length_append,List.length_replicate,hw]
   omega
 ·have:(List.zipWith xor (tb s) (tb t))[j]?=some true:=by
   rw [hat j hjl]
   have hj':(tb s)[j]? ≠ (tb t)[j]?:=hj
   rw [List.getElem?_eq_getElem hjl,List.getElem?_eq_getElem (by omega)] at hj'
   simp only [ne_eq,Option.some.injEq] at hj'
   congr 1
   cases h1:(tb s)[j] <;> cases h2:((tb t)[j]'(by omega)) <;> simp_all
  refine List.mem_of_getElem? (i:=j - a) ?_
  rw [List.getElem?_take,if_pos (by omega),List.getElem?_drop,show a+(j - a)=j by omega,this]
def turned (s:List UInt8) (from_ n turns:Nat):Nat→List UInt8
 | 0=>s
 | i+1=>if turns.testBit i=true∧from_+i < n then flip (turned s from_ n turns i) (from_+i) else turned s from_ n turns i
def anyT (from_ n turns:Nat):Nat→Bool
 | 0=>false
 | i+1=>if turns.testBit i=true∧from_+i < n then true else anyT from_ n turns i
theorem turned_len (s:List UInt8) (f n t:Nat):∀ m,(turned s f n t m).length=s.length
 | 0=>rfl
 | i+1=>by unfold turned; split <;> simp [flip_len,turned_len s f n t i]
theorem turned_at (s:List UInt8) (f n t:Nat) (hn:n≤8 * s.length) (j:Nat):∀ m,(tb (turned s f n t m))[j]?=(tb s)[j]?.map fun b=>xor b (decide (f≤j∧j < f+m∧j < n∧t.testBit (j - f)=true))
 | 0=>by
   have:decide (f≤j∧j < f+0∧j < n∧t.testBit (j - f)=true)=false:=by rw [decide_eq_false_iff_not]; omega
   rw [this]; simp [turned]
 | i+1=>by
   have ih:=turned_at s f n t hn j i
   unfold turned
   split
   ·rename_i hc
    rw [tb_flip _ (by rw [turned_len]; omega),ih,Option.map_map]
    congr 1
    funext b
    simp only [Function.comp,Bool.xor_assoc]
    congr 1
    by_cases he:j=f+i
    ·subst he
     have h1:decide (f≤f+i∧f+i < f+i∧f+i < n∧t.testBit (f+i - f)=true)=false:=by rw [decide_eq_false_iff_not]; omega
     have h2:decide (f≤f+i∧f+i < f+(i+1)∧f+i < n∧t.testBit (f+i - f)=true)=true:=by
      rw [decide_eq_true_iff,show f+i - f=i by omega]
      exact ⟨by omega,by omega,hc.2,hc.1⟩
     rw [h1,h2,decide_eq_true rfl]; rfl
    ·rw [decide_eq_false he,Bool.xor_false,decide_eq_decide]
     constructor
     ·rintro ⟨a,b,c⟩; exact ⟨a,by omega,c⟩
     ·rintro ⟨a,b,c⟩; exact ⟨a,by omega,c⟩
   ·rename_i hc
    rw [ih]
    congr 1
    funext b
    congr 1
    rw [decide_eq_decide]
    constructor
    ·rintro ⟨a,b,c⟩; exact ⟨a,by omega,c⟩
    ·rintro ⟨a,b,c,d⟩
     refine ⟨a,?_,c,d⟩
     rcases Nat.lt_or_ge j (f+i) with h1 | h1
     ·exact h1
     ·have:j=f+i:=by omega
      subst this
      rw [show f+i - f=i by omega] at d
      exact absurd ⟨d,c⟩ hc
theorem anyT_iff (f n t:Nat):∀ m,anyT f n t m=true ↔ ∃ i,i < m∧t.testBit i=true∧f+i < n
 | 0=>by simp [anyT]
 | m+1=>by
   unfold anyT
   split
   ·rename_i h
    simp only [true_iff]
    exact ⟨m,by omega,h.1,h.2⟩
   ·rename_i h
    rw [anyT_iff f n t m]
    constructor
    ·rintro ⟨i,h1,h2⟩; exact ⟨i,by omega,h2⟩
    ·rintro ⟨i,h1,h2⟩
     refine ⟨i,?_,h2⟩
     rcases Nat.lt_or_ge i m with h3 | h3
     ·exact h3
     ·have:i=m:=by omega
      subst this; exact absurd h2 h
theorem turned_offs {s:List UInt8} {f n t m j:Nat} (hn:n≤8 * s.length) (h:offs (turned s f n t m) s j):f≤j∧j < f+m∧j < n∧t.testBit (j - f)=true:=by
 unfold offs at h
 rw [turned_at s f n t hn j m] at h
 by_cases hc:f≤j∧j < f+m∧j < n∧t.testBit (j - f)=true
 ·exact hc
 ·rw [decide_eq_false hc] at h
  exact absurd (by simp) h
theorem turned_ne {s:List UInt8} {f n t m:Nat} (hn:n≤8 * s.length):turned s f n t m ≠ s ↔ anyT f n t m=true:=by
 rw [anyT_iff]
 constructor
 ·intro h
  refine Classical.byContradiction fun c=>h (tb_inj (turned_len ..) fun j=>?_)
  refine Classical.byContradiction fun k=>c ?_
  obtain ⟨h1,h2,h3,h4⟩:=turned_offs hn k
  exact ⟨j - f,by omega,h4,by omega⟩
 ·rintro ⟨i,h1,h2,h3⟩ c
  have:=turned_at s f n t hn (f+i) m
  rw [c,decide_eq_true ⟨by omega,by omega,h3,by rw [show f+i - f=i by omega]; exact h2⟩] at this
  have hlt:f+i < (tb s).length:=by rw [tb_len]; omega
  rw [List.getElem?_eq_getElem hlt] at this
  simp at this
theorem offs_take {s t:List UInt8} {n:Nat} (hl:s.length=t.length) (h:∀ j,offs s t j→j < 8 * n):s.drop n=t.drop n:=by
 apply List.ext_getElem?
 intro q
 rw [List.getElem?_drop,List.getElem?_drop]
 rcases Nat.lt_or_ge (n+q) s.length with hq | hq
 ·rw [List.getElem?_eq_getElem hq,List.getElem?_eq_getElem (by omega)]
  congr 1
  apply byte_ext
  intro r hr
  have:¬ offs s t (8 * (n+q)+r):=fun k=>by have:=h _ k; omega
  have:(tb s)[8 * (n+q)+r]?=(tb t)[8 * (n+q)+r]?:=Classical.byContradiction this
  rw [tb_at s _ r hr,tb_at t _ r hr,List.getElem?_eq_getElem hq,List.getElem?_eq_getElem (by omega)] at this
  simpa using this
 ·rw [List.getElem?_eq_none hq,List.getElem?_eq_none (by omega)]
theorem tb_take (s:List UInt8) (n j:Nat) (hj:j < 8 * n):(tb (s.take n))[j]?=(tb s)[j]?:=by
 have e:j=8 * (j / 8)+j % 8:=(Nat.div_add_mod j 8).symm
 have h8:j % 8 < 8:=Nat.mod_lt _ (by decide)
 rw [e,tb_at _ _ _ h8,tb_at _ _ _ h8,List.getElem?_take,if_pos (by omega)]
theorem take_offs {s t:List UInt8} {n j:Nat} (h:offs (s.take n) (t.take n) j):offs s t j:=by
 unfold offs at *
 rcases Nat.lt_or_ge j (8 * n) with hj | hj
 ·rwa [tb_take s n j hj,tb_take t n j hj] at h
 ·refine absurd ?_ h
  rw [List.getElem?_eq_none (by rw [tb_len,List.length_take]; omega),List.getElem?_eq_none (by rw [tb_len,List.length_take]; omega)]
end Go.Proofs.Ytbmedgpiphibaaa.Geo

namespace Go.Proofs.Ytbmedgpiphibaaa.AE
set_option linter.unusedVariables false
set_option linter.unusedSimpArgs false
set_option linter.constructorNameAsVariable false
open Go Go.Proofs.Ytbmedgpiphibaaa.Geo
attribute [local irreducible] pcall C0
set_option maxRecDepth 100000
/-! What a turned text is -/
theorem any_of {t:Nat} (h0:t ≠ 0) (h:t < 4294967296):∃ i,i < 32∧t.testBit i=true:=by
 refine Classical.byContradiction fun hn=>h0 (Nat.eq_of_testBit_eq fun i=>?_)
 rw [Nat.zero_testBit]
 by_cases hi:i < 32
 ·exact Bool.eq_false_iff.mpr fun c=>hn ⟨i,hi,c⟩
 ·exact Nat.testBit_lt_two_pow (Nat.lt_of_lt_of_le h (Nat.pow_le_pow_right (n:=2) (by decide) (show 32≤i by omega)))
theorem read_turned {r:Rul} (h:wrongX r=0) {f t:Nat} (f1:40≤f) (f2:f+32≤176) (ht:t ≠ 0) (ht':t < 4294967296):(readF (turned (printF r) f 176 t 32)).2=4:=by
 obtain ⟨e,hl⟩:=seal_len h
 obtain ⟨⟨k1,k2⟩,h2,h3⟩:=wrong_zero h
 obtain ⟨b,hb⟩:∃ b,b=turned (printF r) f 176 t 32:=⟨_,rfl⟩
 rw [← hb]
 have hn:(176:Nat)≤8 * (printF r).length:=by omega
 have blen:b.length=(printF r).length:=by rw [hb]; exact turned_len ..
 have ho:∀ j,offs b (printF r) j→f≤j∧j < f+32∧j < 176:=fun j hj=>by
  rw [hb] at hj
  obtain ⟨a1,a2,a3,-⟩:=turned_offs hn hj
  exact ⟨a1,a2,a3⟩
 have d22:b.drop 22=(printF r).drop 22:=offs_take blen fun j hj=>by have:=(ho j hj).2.2; omega
 have t5:b.take 5=(printF r).take 5:=by
  refine tb_inj (by rw [List.length_take,List.length_take,blen]) fun j=>?_
  rcases Nat.lt_or_ge j (8 * 5) with hj | hj
  ·rw [tb_take _ _ _ hj,tb_take _ _ _ hj]
   refine Classical.byContradiction fun c=>?_
   have:=(ho j c).1
   omega
  ·rw [List.getElem?_eq_none (by rw [tb_len,List.length_take]; omega),List.getElem?_eq_none (by rw [tb_len,List.length_take]; omega)]
 have hne:b ≠ printF r:=by
  rw [hb]
  rw [turned_ne hn,anyT_iff]
  obtain ⟨i,i1,i2⟩:=any_of ht ht'
  exact ⟨i,i1,i2,by omega⟩
 have s4:(printF r).take 4=[65,70,84,85]:=by rw [e,head_shape]; rfl
 have b4:b.take 4=[65,70,84,85]:=by
  have:=congrArg (List.take 4) t5
  rw [List.take_take,List.take_take] at this
  exact this.trans s4
 have x4:s8 b 4=r.phs.length:=by
  have e1:s8 b 4=s8 (b.take 5) 4:=by unfold s8; rw [List.getD_eq_getElem?_getD,List.getD_eq_getElem?_getD,List.getElem?_take,if_pos (by decide)]
  have e2:s8 (printF r) 4=s8 ((printF r).take 5) 4:=by unfold s8; rw [List.getD_eq_getElem?_getD,List.getD_eq_getElem?_getD,List.getElem?_take,if_pos (by decide)]
  rw [e1,t5,← e2,e,head_shape]
  show (by8 ((r.phs.length:Nat):Int)).toNat=_
  have:=s8_by (n:=((r.phs.length:Nat):Int)) (by omega) (by omega)
  omega
 have bp:pre4 b=true:=by
  have:=pre4_cut b4 b.length
  rw [List.take_length] at this
  exact this
 obtain ⟨T,hT⟩:∃ T,T=be4 (w32 (crcF (bodyB r))):=⟨_,rfl⟩
 have lT:T.length=4:=by rw [hT]; exact be4_len _
 have s22:(printF r).drop 22=phsB r.phs ++ T:=by rw [e,← hT]; exact d_app (headB_len r)
 unfold readF
 rw [bp,if_neg (by decide),if_neg (by omega),x4,d22,s22,phs_back r.phs h2 T]
 show (tailF b r.phs T).2=4
 unfold tailF
 rw [lT,if_neg (by decide),if_neg (by decide),if_pos]
 -- the sums differ
 have hbl:(printF r).length - 4=(bodyB r).length:=by
  have:(bodyB r).length=22+(phsB r.phs).length:=by unfold bodyB; rw [List.length_append,headB_len]
  omega
 have sb:(printF r).take ((printF r).length - 4)=bodyB r:=by
  rw [hbl]
  unfold printF
  rw [if_pos h]
  exact List.take_left' rfl
 have hnum:=num4_be4 (w32_bd (crcF (bodyB r))).1 (w32_bd (crcF (bodyB r))).2 []
 rw [List.append_nil] at hnum
 rw [blen,hT,hnum]
 intro hc
 have hc:crcF (b.take ((printF r).length - 4))=crcF (bodyB r):=BitVec.eq_of_toNat_eq (by
  have:((crcF (b.take ((printF r).length - 4))).toNat:Int)=((crcF (bodyB r)).toNat:Int):=hc
  omega)
 rw [← sb] at hc
 refine crc_window (a:=f) (by rw [List.length_take,List.length_take,blen]) (fun j hj=>?_) ?_ hc
 ·have:=ho j (take_offs hj)
  exact ⟨this.1,this.2.1⟩
 ·intro hq
  refine hne ?_
  have dn:b.drop ((printF r).length - 4)=(printF r).drop ((printF r).length - 4):=offs_take blen fun j hj=>by have:=(ho j hj).2.2; omega
  rw [← List.take_append_drop ((printF r).length - 4) b,hq,dn,List.take_append_drop]
theorem bit_one (x:BitVec 32) (i:Nat) (hi:i < 32):((Go.bits .and .u32 (Int.fdiv (w32 x) (2 ^ (min (Int.toNat ((i:Nat):Int)) 32))) 1) == 1)=x.toNat.testBit i:=by
 have e:Int.fdiv (w32 x) (2 ^ (min (Int.toNat ((i:Nat):Int)) 32))=w32 (x >>> i):=by
  show Int.fdiv (x.toNat:Int) _=((x >>> i).toNat:Int)
  have:(2:Int) ^ (min (Int.toNat ((i:Nat):Int)) 32)=((2 ^ i:Nat):Int):=by
   rw [show min (Int.toNat ((i:Nat):Int)) 32=i by omega]; exact (Int.natCast_pow 2 i).symm
  rw [this,Int.fdiv_eq_ediv_of_nonneg _ (Int.natCast_nonneg _),BitVec.toNat_ushiftRight,Nat.shiftRight_eq_div_pow]; rfl
 have k:x.toNat.testBit i=(x >>> i).getLsbD 0:=by rw [BitVec.getLsbD_ushiftRight]; rfl
 rw [e,k,show (1:Int)=w32 1#32 from rfl,u32_and,lsb]
 have:((x >>> i) &&& 1#32).toNat=(x >>> i).toNat % 2:=by rw [BitVec.toNat_and]; exact Nat.and_one_is_mod _
 rw [this]
 by_cases h:(x >>> i).toNat % 2=1
 ·rw [h,decide_eq_true rfl]; rfl
 ·have h0:(x >>> i).toNat % 2=0:=by omega
  rw [h0,decide_eq_false (by omega)]; rfl
theorem lo_mask:∀ r:Fin 8,IntKind.wrap .u8 (1 * (2 ^ (min (Int.toNat ((r.val:Nat):Int)) 8)))=(((UInt8.ofNat (2 ^ r.val)).toNat:Nat):Int):=by decide
theorem u8_xorN {a b:Nat} (ha:a < 256) (hb:b < 256):Go.bits .xor .u8 (a:Int) (b:Int)=((a ^^^ b:Nat):Int):=by
 show IntKind.u8.wrap ((BitVec.ofInt 8 (a:Int) ^^^ BitVec.ofInt 8 (b:Int)).toNat:Int)=_
 have e:IntKind.u8.wrap=fun n=>n % 256:=by funext n; simp [IntKind.wrap,IntKind.bits,IntKind.signed]
 rw [BitVec.ofInt_natCast,BitVec.ofInt_natCast,BitVec.toNat_xor,BitVec.toNat_ofNat,BitVec.toNat_ofNat,Nat.mod_eq_of_lt ha,Nat.mod_eq_of_lt hb,e]
 have:=Nat.xor_lt_two_pow (n:=8) ha hb
 simp only
 omega
theorem xor_u8 (a b:UInt8):Go.bits .xor .u8 (a.toNat:Int) (b.toNat:Int)=((a ^^^ b).toNat:Int):=by
 rw [u8_xorN a.toNat_lt b.toNat_lt,UInt8.toNat_xor]
theorem set_bytes (s:List UInt8) (q:Nat) (b:UInt8):(bytesAV s).set q (.int .u8 (b.toNat:Int))=bytesAV (s.set q b):=by simp [bytesAV,List.map_set]
theorem byte_ge {s:List UInt8} {q:Nat} (h:q < s.length):(bytesAV s)[q]?=some (.int .u8 ((s.getD q 0).toNat:Int)):=by rw [bytes_at h,List.getD_eq_getElem?_getD,List.getElem?_eq_getElem h]; rfl
theorem flip_step {H:Heap} {u:Nat} {B:List UInt8} {k:Nat} {K:AV→Heap→Ans} (hb:hget H u=some ⟨E5,bytesAV B⟩) (hk:k < 8 * B.length) {q r:Int} (hq:q=((k / 8:Nat):Int)) (hr:r=((k % 8:Nat):Int)) {n:Nat} (hn:n=B.length) :
 (C0.hop H (.ixAS .any 1 (.v (.slc u 0 n)) (.v (.int .i64 q))) fun v328 h329 =>
   C0.hop h329 (.load false 1 (.v v328)) fun v330 h331 =>
   C0.int .u8 (some v330) fun x332 =>
   cnd (decide (r < 0))
    (none)
    (C0.hop h331 (.ixAS .any 1 (.v (.slc u 0 n)) (.v (.int .i64 q))) fun v333 h334 =>
     C0.hop h334 (.store 1 (.v v333) (.v (.int .u8 (bits .xor .u8 x332 (IntKind.wrap .u8 (1 * (2 ^ (min (Int.toNat r) 8)))))))) K))=K .undef (H.set u (some ⟨E5,bytesAV (flip B k)⟩)):=by
 subst hq hr hn
 have q8:k / 8 < B.length:=by omega
 have m2:=lo_mask ⟨k % 8,Nat.mod_lt _ (by decide)⟩
 simp only at m2
 rw [m2]
 refine Eq.trans (ix_slc (b:=⟨E5,bytesAV B⟩) hb (by omega) (by omega) rfl) ?_
 refine Eq.trans (ld_ptr (b:=⟨E5,bytesAV B⟩) (v:=.int .u8 ((B.getD (k / 8) 0).toNat:Int)) hb (by rw [Nat.zero_add,Int.toNat_natCast]; exact byte_ge q8) rfl) ?_
 refine Eq.trans (pl_int rfl) ?_
 rw [decide_eq_false (by omega),cnd_f]
 refine Eq.trans (ix_slc (b:=⟨E5,bytesAV B⟩) hb (by omega) (by omega) rfl) ?_
 rw [xor_u8]
 refine Eq.trans (st_ptr (b:=⟨E5,bytesAV B⟩) (el:=.int .u8 ((B.getD (k / 8) 0).toNat:Int)) (el':=.int .u8 ((B.getD (k / 8) 0 ^^^ UInt8.ofNat (2 ^ (k % 8))).toNat:Int)) hb (by rw [Nat.zero_add,Int.toNat_natCast]; exact byte_ge q8) rfl) ?_
 rw [Nat.zero_add,Int.toNat_natCast,set_bytes]
 rfl
theorem mod12 (a:Int):∃ f:Nat,IntKind.wrap .i64 (Int.tmod (IntKind.wrap .u64 a) 12)=((f:Nat):Int)∧f < 12:=by
 have e1:IntKind.wrap .u64 a=a % 18446744073709551616:=by simp [IntKind.wrap,IntKind.bits,IntKind.signed]
 rw [e1,Int.tmod_eq_emod_of_nonneg (by omega),i64_small (by omega) (by omega)]
 exact ⟨(a % 18446744073709551616 % 12).toNat,by omega,by omega⟩
theorem turn_go (a:Int) (x:BitVec 32) (s:List UInt8) (u f:Nat) (hf:IntKind.wrap .i64 (8 * (IntKind.wrap .i64 (5+(IntKind.wrap .i64 (Int.tmod (IntKind.wrap .u64 a) 12)))))=((f:Nat):Int)) (f2:f+32≤176) (hs:22≤s.length):∀ (k i:Nat),i+k=32→∀ F,k < F→∀ H,hget H u=some ⟨E5,bytesAV (turned s f 176 x.toNat i)⟩ →
 ∃ H',hget H' u=some ⟨E5,bytesAV (turned s f 176 x.toNat 32)⟩∧L6_0 40 a (w32 x) (.slc u 0 s.length) F ((i:Nat):Int) H=X6_0_0 40 a (w32 x) (.slc u 0 s.length) H'
 | 0,i,h,F+1,_,H,hP=>by
   have:i=32:=by omega
   subst this
   refine ⟨H,hP,?_⟩
   rw [L6_0_s,decide_eq_false (by omega),cnd_f]
 | k+1,i,h,F+1,hF,H,hP=>by
   have ek:IntKind.wrap .i64 (((f:Nat):Int)+((i:Nat):Int))=((f+i:Nat):Int):=by rw [i64_small (by omega) (by omega)]; omega
   have eq:IntKind.wrap .i64 (Int.tdiv ((f+i:Nat):Int) 8)=(((f+i) / 8:Nat):Int):=by rw [Int.tdiv_eq_ediv_of_nonneg (by omega),i64_small (by omega) (by omega)]; omega
   have er:Int.tmod ((f+i:Nat):Int) 8=(((f+i) % 8:Nat):Int):=by rw [Int.tmod_eq_emod_of_nonneg (by omega)]; omega
   have hl:=turned_len s f 176 x.toNat i
   rw [L6_0_s,decide_eq_true (by omega),cnd_t,decide_eq_false (by omega),cnd_f,bit_one x i (by omega)]
   rw [i64_up (by omega)]
   simp only [hf,ek,eq,er]
   by_cases hc:x.toNat.testBit i=true
   ·have t32:turned s f 176 x.toNat (i+1)=flip (turned s f 176 x.toNat i) (f+i):=if_pos ⟨hc,by omega⟩
    rw [hc,cnd_t]
    obtain ⟨H',h1,h2⟩:=turn_go a x s u f hf f2 hs k (i+1) (by omega) F (by omega) (H.set u (some ⟨E5,bytesAV (flip (turned s f 176 x.toNat i) (f+i))⟩)) (by rw [t32]; exact hget_set (hg_lt hP))
    refine ⟨H',h1,?_⟩
    rw [← h2]
    exact flip_step hP (by omega) rfl rfl hl.symm
   ·have t32:turned s f 176 x.toNat (i+1)=turned s f 176 x.toNat i:=if_neg (fun k=>hc k.1)
    rw [Bool.eq_false_iff.mpr hc,cnd_f]
    exact turn_go a x s u f hf f2 hs k (i+1) (by omega) F (by omega) H (by rw [t32]; exact hP)
theorem fin_b {H:Heap} {b:Bool}:C0.fin H (.bool b)=some (.bool b):=f_free rfl
theorem turns_law (r:Rul) (a:Int) (x:BitVec 32) (hl:r.phs.length≤9223372036854775807):pcall M 41 6 [rl r,.int .i64 a,.int .u32 (w32 x)]=some (.bool true):=told (q6 40 _ _ _ _ _ _ _ _ _ _ _) (by
 refine Eq.trans (bx_n (H:=[]) (by rfl)) ?_
 rw [show ([] ++ [some (⟨E24,[rl r]⟩:Blk)]:Heap)=[some ⟨E24,[rl r]⟩] from rfl,show List.length ([]:Heap)+0=0 from rfl]
 have h0:hget [some (⟨E24,[rl r]⟩:Blk)] 0=some ⟨E24,[rl r]⟩:=rfl
 refine Eq.trans (pl_bool awake14) ?_
 refine Eq.trans (pl_f rfl) ?_
 refine Eq.trans (ld_ptr h0 rfl rfl) ?_
 refine Eq.trans (pl_agg rfl rfl) ?_
 refine Eq.trans (pl_any rfl) ?_
 refine Eq.trans (pl_int rfl) ?_
 refine Eq.trans (pl_int rfl) ?_
 refine Eq.trans (pl_int rfl) ?_
 refine Eq.trans (pl_int rfl) ?_
 refine Eq.trans (pl_int rfl) ?_
 refine Eq.trans (pl_int rfl) ?_
 refine Eq.trans (pl_int rfl) ?_
 refine Eq.trans (pl_int rfl) ?_
 refine Eq.trans (snp_free rfl) ?_
 refine Eq.trans (pl_bool (s9 39 r hl)) ?_
 rw [c_ort]
 by_cases hf:fewX r.phs=true
 rotate_left
 ·refine Eq.trans (pl_len (by rw [Bool.eq_false_iff.mpr hf]; rfl)) ?_
  refine Eq.trans (pl_bool awake14) ?_
  exact fin_b
 refine Eq.trans (pl_f (by rw [hf]; rfl)) ?_
 obtain ⟨f1,f2⟩:=few_t hf
 have ha:∀ p ∈ r.phs,p.ps.length≤140737488355328:=fun p hp=>by have:=f1 p hp; omega
 refine Eq.trans (ld_ptr h0 rfl rfl) ?_
 refine Eq.trans (pl_agg rfl rfl) ?_
 refine Eq.trans (pl_any rfl) ?_
 refine Eq.trans (pl_int rfl) ?_
 refine Eq.trans (pl_int rfl) ?_
 refine Eq.trans (pl_int rfl) ?_
 refine Eq.trans (pl_int rfl) ?_
 refine Eq.trans (pl_int rfl) ?_
 refine Eq.trans (pl_int rfl) ?_
 refine Eq.trans (pl_int rfl) ?_
 refine Eq.trans (pl_int rfl) ?_
 refine Eq.trans (snp_free rfl) ?_
 refine Eq.trans (pl_int (s11 29 r (by omega) ha)) ?_
 rw [c_ort]
 by_cases h:wrongX r=0
 rotate_left
 ·refine Eq.trans (pl_len (bne_iff_ne.mpr h)) ?_
  refine Eq.trans (pl_bool awake14) ?_
  exact fin_b
 refine Eq.trans (pl_f (by rw [h]; rfl)) ?_
 by_cases hx:w32 x=0
 ·refine Eq.trans (pl_len (by rw [hx]; rfl)) ?_
  refine Eq.trans (pl_bool awake14) ?_
  exact fin_b
 refine Eq.trans (pl_f (beq_eq_false_iff_ne.mpr hx)) ?_
 refine Eq.trans (ld_ptr h0 rfl rfl) ?_
 refine Eq.trans (pl_agg rfl rfl) ?_
 refine Eq.trans (pl_any rfl) ?_
 refine Eq.trans (pl_int rfl) ?_
 refine Eq.trans (pl_int rfl) ?_
 refine Eq.trans (pl_int rfl) ?_
 refine Eq.trans (pl_int rfl) ?_
 refine Eq.trans (pl_int rfl) ?_
 refine Eq.trans (pl_int rfl) ?_
 refine Eq.trans (pl_int rfl) ?_
 refine Eq.trans (pl_int rfl) ?_
 refine Eq.trans (snp_free rfl) ?_
 refine Eq.trans (pl_tup (s10 21 r (by omega) ha) rfl) ?_
 refine Eq.trans (pl_str rfl) ?_
 refine Eq.trans (pl_int rfl) ?_
 rw [c_ort]
 refine Eq.trans (pl_f (by rw [if_pos h]; rfl)) ?_
 obtain ⟨⟨k1,k2⟩,h2,h3⟩:=wrong_zero h
 obtain ⟨-,hlen⟩:=seal_len h
 have hph:14≤(phsB r.phs).length:=by
  cases hp:r.phs with
  | nil=>rw [hp] at k1; exact absurd k1 (by decide)
  | cons p l=>rw [phsB_cons,List.length_append,phB_len]; omega
 have hb:=body_le h
 have hle:(printF r).length≤404:=by unfold printF; rw [if_pos h,sealF_len]; omega
 rw [decide_eq_false (by omega),cnd_f]
 refine Eq.trans s2b_h ?_
 obtain ⟨m,e1,e2⟩:=mod12 a
 have ef:IntKind.wrap .i64 (8 * (IntKind.wrap .i64 (5+(IntKind.wrap .i64 (Int.tmod (IntKind.wrap .u64 a) 12)))))=((8 * (5+m):Nat):Int):=by
  rw [e1,i64_small (n:=5+((m:Nat):Int)) (by omega) (by omega),i64_small (by omega) (by omega)]; omega
 obtain ⟨H',p1,p2⟩:=turn_go a x (printF r) [some (⟨E24,[rl r]⟩:Blk)].length (8 * (5+m)) ef (by omega) (by omega) 32 0 rfl 10000000000000000000 (by omega) _ (hget_new (H:=[some (⟨E24,[rl r]⟩:Blk)]))
 refine Eq.trans p2 ?_
 unfold X6_0_0
 have hx0:x.toNat ≠ 0:=fun c=>hx (by show ((x.toNat:Nat):Int)=0; rw [c]; rfl)
 have ob:OwnB H' (.slc [some (⟨E24,[rl r]⟩:Blk)].length 0 (printF r).length) (turned (printF r) (8 * (5+m)) 176 x.toNat 32):=.inr ⟨_,by rw [bytesAV_len,turned_len],p1⟩
 refine Eq.trans (b2s_o ob) ?_
 refine Eq.trans (pl_str rfl) ?_
 refine Eq.trans (pl_tup (s13 21 _ (by rw [turned_len]; omega)) rfl) ?_
 refine Eq.trans (pl_agg rfl rfl) ?_
 refine Eq.trans (pl_any rfl) ?_
 refine Eq.trans (pl_int rfl) ?_
 refine Eq.trans (pl_int rfl) ?_
 refine Eq.trans (pl_int rfl) ?_
 refine Eq.trans (pl_int rfl) ?_
 refine Eq.trans (pl_int rfl) ?_
 refine Eq.trans (pl_int rfl) ?_
 refine Eq.trans (pl_int rfl) ?_
 refine Eq.trans (pl_int rfl) ?_
 refine Eq.trans (pl_int rfl) ?_
 refine Eq.trans alc ?_
 refine Eq.trans (stl rfl) ?_
 rw [read_turned h (by omega) (by omega) hx0 x.isLt]
 exact fin_b)
theorem w32_of {n:Int} (h:(Lit.int .u32 n).wf=true):∃ x:BitVec 32,n=w32 x:=by
 have h2:0≤n∧n < 4294967296:=by
  have e1:IntKind.u32.min=0:=rfl
  have e2:IntKind.u32.max=4294967295:=rfl
  simp [Lit.wf,e1,e2] at h; omega
 refine ⟨BitVec.ofNat 32 n.toNat,?_⟩
 show n=((BitVec.ofNat 32 n.toNat).toNat:Int)
 rw [BitVec.toNat_ofNat]; omega
theorem law_RulefileTurns (a0:AV) (a1:Int) (a2:Int) (w0:TyOK true [(.sl true [(.sl true [(.i .i64),(.i .i64)]),(.i .i64),(.i .i64),(.i .i64),(.i .i64)]),(.i .i64),(.i .i64),(.i .i64),(.i .i64),(.i .i64),(.i .i64),(.i .i64),(.i .i64)] a0) (w1:(Lit.int .i64 a1).wf=true) (w2:(Lit.int .u32 a2).wf=true) :
 pcall M 41 6 [a0,.int .i64 a1,.int .u32 a2]=some (.bool true):=by
 obtain ⟨r,rfl,hl⟩:=ty_rul w0
 obtain ⟨x,rfl⟩:=w32_of w2
 exact turns_law r a1 x hl
end Go.Proofs.Ytbmedgpiphibaaa.AE
