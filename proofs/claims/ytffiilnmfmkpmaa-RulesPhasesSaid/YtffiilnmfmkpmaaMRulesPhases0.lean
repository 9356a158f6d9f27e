/- The texts that the law RulesPhases needs, part 0. No conditions. -/
import Derived.WalkKit
import Derived.ProofKit
import Derived.Below
import Derived.Test.YtffiilnmfmkpmaaProg
import Derived.Lib.ConvBytes
namespace Go.Proofs.Ytffiilnmfmkpmaa.AE
set_option linter.unusedVariables false
set_option linter.unusedSimpArgs false
set_option linter.constructorNameAsVariable false
open Go

inductive AV where
 | int (k:IntKind) (n:Int)
 | bool (b:Bool)
 | str (s:List UInt8)
 | nilp
 | zsl (nil:Bool)
 | ptr (id i j:Nat)
 | slc (id o n:Nat)
 | lst (l:List AV)
 | fptr (v:AV) (j:Nat)
 | agg (cs:List AV)
 | tup (vs:List AV)
 | fn (g:FuncId) (first caps:List AV)
 | nilf
 | undef
 | emp
 | slk (id o n:Nat)
 deriving Inhabited

def AV.cells:AV→List AV
 | .agg cs=>cs
 | v=>[v]

structure ETy where
 tid:TypeId
 es:Nat
 ag:Bool
 bytes:Nat
 zero:AV
 deriving Inhabited

def isSc:AV→Bool
 | .agg _ | .tup _ | .undef=>false
 | _=>true

structure Blk where
 e:ETy
 els:List AV
 deriving Inhabited

abbrev Heap:=List (Option Blk)

inductive Sh where
 | i (k:IntKind)
 | b
 | s
 | l
 | agg (l:List Sh)
 | tup (l:List Sh)
 | any
 | lo
 | z
 deriving Inhabited

inductive Opd where
 | t (n:Nat)
 | v (v:AV)
 deriving Inhabited

inductive BK where
 | lenS | lenV | min | max
 deriving Inhabited

inductive IOp where
 | mov (x:Opd)
 | pick (c a b:Opd)
 | box (e:ETy) (x:Opd)
 | alloc (e:ETy)
 | build (z:List AV) (parts:List (Nat × Nat × Opd))
 | mkrow (e:ETy) (n:Nat) (parts:List (Nat × Opd))
 | load (ag:Bool) (n:Nat) (a:Opd)
 | store (n:Nat) (a v:Opd)
 | nilck (x:Opd)
 | bin (op:BinOp) (x y:Opd)
 | eqv (neg:Bool) (k:Nat) (sh:List Sh) (x y:Opd)
 | un (op:UnOp) (x:Opd)
 | conv (k:IntKind) (x:Opd)
 | cid (x:Opd)
 | s2b (e:ETy) (x:Opd)
 | b2s (x:Opd)
 | mark (x:Opd)
 | mkfn (g:FuncId) (first caps:List Opd)
 | mkslice (e:ETy) (n c:Opd)
 | subS (x:Opd) (lo hi:Option Opd)
 | subV (es:Nat) (x:Opd) (lo hi mx:Option Opd)
 | fldA (off:Nat) (x:Opd)
 | fld (ag:Bool) (n off:Nat) (x:Opd)
 | ixAS (sh:Sh) (es:Nat) (x i:Opd)
 | ixAA (len es:Nat) (x i:Opd)
 | ixS (x i:Opd)
 | ixA (ag:Bool) (len es:Nat) (x i:Opd)
 | extr (x:Opd) (i:Nat)
 | call (sh:Sh) (f:Opd) (args:List Opd)
 | bk (b:BK) (args:List Opd)
 | app (e:ETy) (s x:Opd)
 deriving Inhabited

structure IOper where
 dst:Option Nat
 op:IOp
 guard:Option (Option Nat × Bool)
 deriving Inhabited

structure SOp where
 op:IOper
 slot:Option Nat
 chk:List Nat
 kp:List Nat
 deriving Inhabited

inductive IC where
 | skip
 | reg (ops:List IOper)
 | regD (ops:List (IOper × List Nat))
 | regS (ops:List SOp)
 | seq (a b:IC)
 | cond (c:Opd) (a b:IC)
 | block (id:Nat) (a:IC)
 | loop (a:IC)
 | exit (id:Nat)
 | ret
 deriving Inhabited

inductive RV where
 | tmp (t:Nat)
 | cell (ag:Bool) (n:Nat) (t:Nat)
 deriving Inhabited

structure AFn where
 ntmps:Nat
 results:List RV
 body:IC
 deriving Inhabited

def hget (H:Heap) (id:Nat):Option Blk:=match H[id]? with
 | some (some b)=>some b
 | _=>none

def DEPTH:Nat:=12

def snap:Nat→Heap→AV→AV
 | 0,_,_=>.undef
 | k+1,H,v =>
   match v with
   | .int a b=>.int a b
   | .bool b=>.bool b
   | .str s=>.str s
   | .nilp=>.nilp
   | .zsl _=>.lst []
   | .ptr id i j=>if k=0 then .undef else match hget H id with
     | some b=>match b.els[i]? with
       | some el=>.fptr (snap k H el) j
       | none=>.undef
     | none=>.undef
   | .slc id o n=>if k=0 then .undef else match hget H id with
     | some b=>if o+n≤b.els.length then .lst (((b.els.drop o).take n).map (snap k H)) else .undef
     | none=>.undef
   | .lst l=>.lst l
   | .fptr v j=>.fptr v j
   | .agg cs=>.agg (cs.map (snap k H))
   | .tup cs=>.tup (cs.map (snap k H))
   | .fn g a b=>.fn g (a.map (snap k H)) (b.map (snap k H))
   | .nilf=>.nilf
   | .undef=>.undef
   | .emp=>.emp
   | .slk id o n=>if k=0 then .undef else match hget H id with
     | some b=>if o+n≤b.els.length then .lst (((b.els.drop o).take n).map (snap k H)) else .undef
     | none=>.undef

def noId:Nat→AV→Bool
 | 0,_=>false
 | k+1,v =>
   match v with
   | .ptr .. | .slc .. | .slk ..=>false
   | .agg cs | .tup cs=>cs.all (noId k)
   | .fn _ a b=>a.all (noId k) && b.all (noId k)
   | _=>true

def noMem:Nat→AV→Bool
 | 0,_=>false
 | k+1,v =>
   match v with
   | .ptr .. | .slc .. | .slk .. | .fptr ..=>false
   | .lst l=>l.isEmpty
   | .zsl b=>b
   | .agg cs | .tup cs=>cs.all (noMem k)
   | .fn _ a b=>a.all (noMem k) && b.all (noMem k)
   | _=>true

def wrapB (k:IntKind) (n:Int):AV:=.int k (k.wrap n)

def aBin (op:BinOp):AV→AV→Option AV
 | .int k a,.int k' b =>
   match op with
   | .shl=>if b < 0 then none else some (.int k (k.wrap (a * 2 ^ min b.toNat k.bits)))
   | .shr=>if b < 0 then none else some (.int k (a.fdiv (2 ^ min b.toNat k.bits)))
   | _=>if k=k' then
     match op with
     | .add=>some (.int k (k.wrap (a+b)))
     | .sub=>some (.int k (k.wrap (a - b)))
     | .mul=>some (.int k (k.wrap (a * b)))
     | .quo=>if b=0 then none else some (.int k (k.wrap (a.tdiv b)))
     | .rem=>if b=0 then none else some (.int k (a.tmod b))
     | .and | .or | .xor | .andNot=>some (.int k (bits op k a b))
     | .eql=>some (.bool (a == b))
     | .neq=>some (.bool (a != b))
     | .lss=>some (.bool (decide (a < b)))
     | .leq=>some (.bool (decide (a≤b)))
     | .gtr=>some (.bool (decide (a > b)))
     | .geq=>some (.bool (decide (a ≥ b)))
     | _=>none
     else none
 | .str a,.str b =>
   match op with
   | .add=>if (a.length+b.length)≤9223372036854775807 then some (.str (a ++ b)) else none
   | .eql=>some (.bool (a == b))
   | .neq=>some (.bool (!(a == b)))
   | _=>none
 | _,_=>none

def eqL:List Sh→List AV→List AV→Option Bool
 | [],[],[]=>some true
 | .i _::sh,.int k a::l,.int k' b::m=>if k=k' then match eqL sh l m with
    | some r=>some (a == b && r)
    | none=>none
   else none
 | .b::sh,.bool a::l,.bool b::m=>match eqL sh l m with
   | some r=>some (a == b && r)
   | none=>none
 | .s::sh,.str a::l,.str b::m=>match eqL sh l m with
   | some r=>some (a == b && r)
   | none=>none
 | _,_,_=>none
def eqB:AV→AV→Option Bool
 | .bool a,.bool b=>some (a == b)
 | _,_=>none
def eqP:AV→AV→Option Bool
 | .nilp,.nilp=>some true
 | .nilp,.ptr ..=>some false
 | .ptr ..,.nilp=>some false
 | .nilp,.fptr ..=>some false
 | .fptr ..,.nilp=>some false
 | _,_=>none
def eqS:AV→AV→Option Bool
 | .zsl true,.zsl true=>some true
 | .slc _ _ (_+1),.zsl true=>some false
 | .lst (_::_),.zsl true=>some false
 | .emp,.zsl true=>some false
 | _,_=>none
def eqF:AV→AV→Option Bool
 | .nilf,.nilf=>some true
 | .nilf,.fn ..=>some false
 | .fn ..,.nilf=>some false
 | _,_=>none
def eqA (sh:List Sh):AV→AV→Option Bool
 | .agg a,.agg b=>eqL sh a b
 | _,_=>none
def eqV (k:Nat) (sh:List Sh) (x y:AV):Option Bool :=
 match k with
 | 0=>eqB x y
 | 1=>eqP x y
 | 2=>eqS x y
 | 3=>eqF x y
 | 4=>eqA sh x y
 | _=>none

def sub (ag:Bool) (n j:Nat):AV→Option AV
 | .agg cs=>if ag then (if j+n≤cs.length then some (.agg ((cs.drop j).take n)) else none) else cs[j]?
 | v=>if ag then none else match j with
   | 0=>some v
   | _=>none
def putSub (n j:Nat) (x:AV):AV→Option AV
 | .agg cs=>if j+n≤cs.length∧x.cells.length=n∧x.cells.all isSc then some (.agg (cs.take j ++ x.cells ++ cs.drop (j+n))) else none
 | _=>if j=0∧n=1∧isSc x then some x else none

def aLoad (H:Heap) (ag:Bool) (n:Nat):AV→Option AV
 | .ptr id i j=>match hget H id with
   | some b=>match b.els[i]? with
     | some el=>sub ag n j el
     | none=>none
   | none=>none
 | .fptr v j=>sub ag n j v
 | _=>none

def aStore (H:Heap) (n:Nat) (x:AV):AV→Option Heap
 | .ptr id i j=>match hget H id with
   | some b=>match b.els[i]? with
     | some el=>match putSub n j x el with
       | some el'=>some (H.set id (some { b with els:=b.els.set i el' }))
       | none=>none
     | none=>none
   | none=>none
 | _=>none

def bytesAV (s:List UInt8):List AV:=s.map fun b=>.int .u8 b.toNat

def elsOf (H:Heap):AV→Option (List AV)
 | .zsl _=>some []
 | .lst l=>some l
 | .slc id o n=>match hget H id with
   | some b=>if o+n≤b.els.length then some ((b.els.drop o).take n) else none
   | none=>none
 | .str s=>some (bytesAV s)
 | .emp=>some []
 | _=>none

def lenOf (H:Heap):AV→Option Nat
 | .zsl _=>some 0
 | .lst l=>some l.length
 | .slc id _ n=>match hget H id with
   | some _=>some n
   | none=>none
 | .emp=>some 0
 | .slk id _ n=>match hget H id with
   | some _=>some n
   | none=>none
 | _=>none

def aInt:AV→Option Int
 | .int _ n=>some n
 | _=>none
def aInt64:AV→Option Int
 | .int .i64 n=>some n
 | _=>none

def bound (x:Option AV) (d:Nat) (top:Nat):Option Nat :=
 match x with
 | none=>some d
 | some v=>match aInt v with
   | some i=>if 0≤i∧i≤(top:Int) then some i.toNat else none
   | none=>none

def aSubS (x:AV) (lo hi:Option AV):Option AV :=
 match x with
 | .str s=>match bound hi s.length s.length with
   | some h=>match bound lo 0 h with
     | some l=>some (.str ((s.take h).drop l))
     | none=>none
   | none=>none
 | _=>none

def aSubV (H:Heap) (es:Nat) (x:AV) (lo hi mx:Option AV):Option AV :=
 match lenOf H x with
 | none=>none
 | some n =>
   match bound mx n n with
   | none=>none
   | some m=>match bound hi n m with
     | none=>none
     | some h=>match bound lo 0 h with
       | none=>none
       | some l =>
         match x with
          | .zsl b=>some (.zsl b)
          | .lst a=>if mx.isSome && m == 0 then some (.zsl false) else if a.all (fun x=>x.cells.length == es) then some (.lst ((a.take h).drop l)) else none
          | .slc id o _=>if mx.isSome && m == 0 then some (.zsl false) else if l=h then some (.lst []) else match hget H id with
            | some b=>if b.e.es=es then (if mx.isSome then (if m=h then some (.slk id (o+l) (h - l)) else none) else some (.slc id (o+l) (h - l))) else none
            | none=>none
          | .emp=>if mx.isSome && m == 0 then some (.zsl false) else none
          | _=>none

def aIx (H:Heap) (es:Nat) (x:AV) (i:Int):Option AV :=
 match x with
 | .lst l=>if 0≤i then match l[i.toNat]? with
    | some v=>if v.cells.length=es then some (.fptr v 0) else none
    | none=>none
   else none
 | .slc id o n=>match hget H id with
   | some b=>if 0≤i∧i < (n:Int)∧b.e.es=es then some (.ptr id (o+i.toNat) 0) else none
   | none=>none
 | _=>none

def aShift (d:Nat):AV→Option AV
 | .ptr id i j=>some (.ptr id i (j+d))
 | .fptr v j=>some (.fptr v (j+d))
 | _=>none

def aUn (op:UnOp):AV→Option AV
 | .int k n=>match op with
   | .neg=>some (.int k (k.wrap (0 - n)))
   | .xor=>some (.int k (bits .xor k (if k.signed then -1 else k.max) n))
   | _=>none
 | .bool b=>match op with
   | .not=>some (.bool (!b))
   | _=>none
 | _=>none

def minStep:Option AV→AV→Option AV
 | some (.int k x),.int k' y=>if k=k' then some (.int k (if y < x then y else x)) else none
 | _,_=>none
def maxStep:Option AV→AV→Option AV
 | some (.int k x),.int k' y=>if k=k' then some (.int k (if y > x then y else x)) else none
 | _,_=>none
def aMin:List AV→Option AV
 | .int k x::l=>l.foldl minStep (some (.int k x))
 | _=>none
def aMax:List AV→Option AV
 | .int k x::l=>l.foldl maxStep (some (.int k x))
 | _=>none

def fillP (cs:List AV):List (Nat × Nat × AV)→Option (List AV)
 | []=>some cs
 | (off,n,v)::l=>if v.cells.length=n∧v.cells.all isSc then (if off+n≤cs.length then fillP (cs.take off ++ v.cells ++ cs.drop (off+n)) l else none) else none

def elOk (e:ETy) (x:AV):Bool:=x.cells.length == e.es && x.cells.all isSc

def fillR (e:ETy) (els:List AV):List (Nat × AV)→Option (List AV)
 | []=>some els
 | (i,v)::l=>if elOk e v then (if i < els.length then fillR e (els.set i v) l else none) else none

def b2sL:List AV→Option (List UInt8)
 | []=>some []
 | .int .u8 n::l=>match b2sL l with
   | some s=>some (UInt8.ofNat n.toNat::s)
   | none=>none
 | _::_=>none

def aApp (H:Heap) (e:ETy) (xs:List AV):AV→Option (AV × Heap)
 | .zsl _=>if xs.length * e.bytes≤140737488355328∧xs.length≤9223372036854775807∧xs.all (elOk e) then some (.slc H.length 0 xs.length,H ++ [some ⟨e,xs⟩]) else none
 | .slc id 0 n=>match hget H id with
   | some b=>if b.els.length=n∧(n+xs.length) * e.bytes≤140737488355328∧n+xs.length≤9223372036854775807∧b.e.tid=e.tid∧b.e.es=e.es∧xs.all (elOk e) then
      some (.slc H.length 0 (n+xs.length),H.set id none ++ [some ⟨e,b.els ++ xs⟩]) else none
   | none=>none
 | .slk id o n=>match hget H id with
   | some b=>match xs.isEmpty with
     | true=>some (.slk id o n,H)
     | false=>if o+n≤b.els.length∧(n+xs.length) * e.bytes≤140737488355328∧n+xs.length≤9223372036854775807∧b.e.tid=e.tid∧b.e.es=e.es∧xs.all (elOk e) then
       some (.slc H.length 0 (n+xs.length),H ++ [some ⟨e,(b.els.drop o).take n ++ xs⟩]) else none
   | none=>none
 | _=>none

abbrev CallF:=FuncId→List AV→Heap→Option (AV × Heap)

def aop (call:CallF) (ev:Opd→AV) (H:Heap):IOp→Option (AV × Heap)
 | .mov x=>some (ev x,H)
 | .pick c a b=>match ev c with
   | .bool t=>some (bif t then ev a else ev b,H)
   | _=>none
 | .box e x=>if elOk e (ev x) then some (.ptr H.length 0 0,H ++ [some ⟨e,[ev x]⟩]) else none
 | .alloc e=>some (.ptr H.length 0 0,H ++ [some ⟨e,[e.zero]⟩])
 | .build z ps=>match fillP z (ps.map fun p=>(p.1,p.2.1,ev p.2.2)) with
   | some cs=>some (.agg cs,H)
   | none=>none
 | .mkrow e n ps=>match fillR e (List.replicate n e.zero) (ps.map fun p=>(p.1,ev p.2)) with
   | some els=>some (.slc H.length 0 n,H ++ [some ⟨e,els⟩])
   | none=>none
 | .load ag n a=>match aLoad H ag n (ev a) with
   | some v=>some (v,H)
   | none=>none
 | .store n a v=>match aStore H n (ev v) (ev a) with
   | some H'=>some (.undef,H')
   | none=>none
 | .nilck x=>match ev x with
   | .ptr id i j=>some (.ptr id i j,H)
   | .fptr v j=>some (.fptr v j,H)
   | .fn g a b=>some (.fn g a b,H)
   | _=>none
 | .bin op x y=>match aBin op (ev x) (ev y) with
   | some v=>some (v,H)
   | none=>none
 | .eqv neg k sh x y=>match eqV k sh (ev x) (ev y) with
   | some b=>some (.bool (xor neg b),H)
   | none=>none
 | .un op x=>match aUn op (ev x) with
   | some v=>some (v,H)
   | none=>none
 | .conv k x=>match ev x with
   | .int _ n=>some (.int k (k.wrap n),H)
   | _=>none
 | .cid x=>match ev x with
   | .str s=>some (.str s,H)
   | _=>none
 | .s2b e x=>match ev x with
   | .str s=>some (.slc H.length 0 s.length,H ++ [some ⟨e,bytesAV s⟩])
   | _=>none
 | .mark x=>match ev x with
   | .slc id q n=>match hget H id with
     | some b=>match b.els with
       | []=>none
       | _::_=>some (.slc id q n,H)
     | none=>none
   | _=>none
 | .b2s x=>match ev x with
   | .str _=>none
   | x=>match elsOf H x with
     | some l=>match b2sL l with
       | some s=>some (.str s,H)
       | none=>none
     | none=>none
 | .mkfn g a b=>some (.fn g (a.map ev) (b.map ev),H)
 | .mkslice e n c=>match aInt (ev n),aInt (ev c) with
   | some n,some c=>if 0≤n∧n=c∧n * e.bytes≤140737488355328∧n≤9223372036854775807 then some (.slc H.length 0 n.toNat,H ++ [some ⟨e,List.replicate n.toNat e.zero⟩]) else none
   | _,_=>none
 | .subS x lo hi=>match aSubS (ev x) (lo.map ev) (hi.map ev) with
   | some v=>some (v,H)
   | none=>none
 | .subV es x lo hi mx=>match aSubV H es (ev x) (lo.map ev) (hi.map ev) (mx.map ev) with
   | some v=>some (v,H)
   | none=>none
 | .fldA off x=>match aShift off (ev x) with
   | some v=>some (v,H)
   | none=>none
 | .fld ag n off x=>match ev x with
   | .agg cs=>match sub ag n off (.agg cs) with
     | some v=>some (v,H)
     | none=>none
   | _=>none
 | .ixAS _ es x i=>match aInt (ev i) with
   | some i=>match aIx H es (ev x) i with
     | some v=>some (v,H)
     | none=>none
   | none=>none
 | .ixAA len es x i=>match aInt (ev i) with
   | some i=>if 0≤i∧i < (len:Int) then match aShift (i.toNat * es) (ev x) with
      | some v=>some (v,H)
      | none=>none
     else none
   | none=>none
 | .ixS x i=>match ev x,aInt (ev i) with
   | .str s,some i=>if 0≤i then match s[i.toNat]? with
      | some b=>some (.int .u8 b.toNat,H)
      | none=>none
     else none
   | _,_=>none
 | .ixA ag len es x i=>match ev x,aInt (ev i) with
   | .agg cs,some i=>if 0≤i∧i < (len:Int) then match sub ag es (i.toNat * es) (.agg cs) with
      | some v=>some (v,H)
      | none=>none
     else none
   | _,_=>none
 | .extr x i=>match ev x with
   | .tup vs=>match vs[i]? with
     | some v=>some (v,H)
     | none=>none
   | _=>none
 | .call _ f args=>match ev f with
   | .fn g a b=>call g (a ++ args.map ev ++ b) H
   | _=>none
 | .bk .lenS args=>match args with
   | [x]=>match ev x with
     | .str s=>some (.int .i64 s.length,H)
     | _=>none
   | _=>none
 | .bk .lenV args=>match args with
   | [x]=>match lenOf H (ev x) with
     | some n=>some (.int .i64 n,H)
     | none=>none
   | _=>none
 | .bk .min args=>match aMin (args.map ev) with
   | some v=>some (v,H)
   | none=>none
 | .bk .max args=>match aMax (args.map ev) with
   | some v=>some (v,H)
   | none=>none
 | .app e s x=>match elsOf H (ev x) with
   | some xs=>aApp H e xs (ev s)
   | none=>none

structure St where
 env:List AV
 H:Heap
 deriving Inhabited

def evO (env:List AV):Opd→AV
 | .t n=>env.getD n .undef
 | .v v=>v

def put (env:List AV) (d:Option Nat) (v:AV):List AV :=
 match d with
 | some d=>env.set d v
 | none=>env

def want (env:List AV):Option (Option Nat × Bool)→Option Bool
 | none=>some true
 | some (some t,b)=>match env.getD t .undef with
   | .bool c=>some (c == b)
   | .tup []=>some false
   | _=>none
 | some (none,_)=>some false

def runOps (call:CallF):List IOper→St→Option St
 | [],s=>some s
 | o::l,s=>match want s.env o.guard with
   | some true=>match aop call (evO s.env) s.H o.op with
     | some (v,H)=>runOps call l ⟨put s.env o.dst v,H⟩
     | none=>none
   | some false=>runOps call l ⟨put s.env o.dst (.tup []),s.H⟩
   | none=>none

def touch (ev:Opd→AV) (H:Heap):IOp→List Nat
 | .load _ _ a | .store _ a _=>match ev a with
   | .ptr id _ _=>[id]
   | _=>[]
 | .b2s x=>match ev x with
   | .slc id _ _=>[id]
   | _=>[]
 | .call _ f args=>match ev f with
   | .fn _ p q=>if (p ++ args.map ev ++ q).all (noId DEPTH) then [] else List.range H.length
   | _=>[]
 | _=>[]

def FULLID:Nat:=1000000
def isFull (chk:List Nat):Bool:=chk.contains FULLID

def runOpsD (call callP:CallF):List (IOper × List Nat)→Nat→List (Nat × Nat)→St→Option St
 | [],_,_,s=>some s
 | (o,chk)::l,i,log,s=>match want s.env o.guard with
   | some true =>
     let tc:=touch (evO s.env) s.H o.op
     if log.all (fun p=>!(chk.contains p.1) || !(tc.contains p.2)) then
      match aop (bif isFull chk then call else callP) (evO s.env) s.H o.op with
      | some (v,H)=>runOpsD call callP l (i+1) (log ++ tc.map fun id=>(i,id)) ⟨put s.env o.dst v,H⟩
      | none=>none
     else none
   | some false=>runOpsD call callP l (i+1) log ⟨put s.env o.dst (.tup []),s.H⟩
   | none=>none

/-! Regions where calls may do anything -/
mutual
def eqAV:AV→AV→Bool
 | .int k n,.int k' n'=>decide (k=k') && decide (n=n')
 | .bool b,.bool b'=>decide (b=b')
 | .str s,.str s'=>decide (s=s')
 | .nilp,.nilp=>true
 | .zsl b,.zsl b'=>decide (b=b')
 | .ptr i j k,.ptr i' j' k'=>decide (i=i') && decide (j=j') && decide (k=k')
 | .slc i j k,.slc i' j' k'=>decide (i=i') && decide (j=j') && decide (k=k')
 | .slk i j k,.slk i' j' k'=>decide (i=i') && decide (j=j') && decide (k=k')
 | .lst l,.lst l'=>eqAVs l l'
 | .fptr v j,.fptr v' j'=>eqAV v v' && decide (j=j')
 | .agg l,.agg l'=>eqAVs l l'
 | .tup l,.tup l'=>eqAVs l l'
 | .fn g a b,.fn g' a' b'=>decide (g=g') && eqAVs a a' && eqAVs b b'
 | .nilf,.nilf=>true
 | .undef,.undef=>true
 | .emp,.emp=>true
 | _,_=>false
def eqAVs:List AV→List AV→Bool
 | [],[]=>true
 | a::l,b::m=>eqAV a b && eqAVs l m
 | _,_=>false
end
def eqBlk (a b:Blk):Bool:=decide (a.e.tid=b.e.tid) && decide (a.e.es=b.e.es) && decide (a.e.ag=b.e.ag) && decide (a.e.bytes=b.e.bytes) && eqAV a.e.zero b.e.zero && eqAVs a.els b.els
def keepB (H H':Heap) (id:Nat):Bool:=match H[id]?,H'[id]? with
 | some (some a),some (some b)=>eqBlk a b
 | some none,some none=>true
 | none,none=>true
 | _,_=>false
def idsOf:AV→List Nat
 | .ptr id _ _=>[id]
 | .slc id _ _=>[id]
 | .slk id _ _=>[id]
 | _=>[]
def keepL (H H':Heap) (l:List AV):Bool:=l.all fun v=>(idsOf v).all fun id=>keepB H H' id

def lightOp:IOp→Bool
 | .box .. | .alloc _ | .mkrow .. | .s2b .. | .mkslice .. | .store .. | .app .. | .call ..=>false
 | _=>true
def mkOp:IOp→Bool
 | .box .. | .alloc _ | .mkrow ..=>true
 | _=>false
def allocOp:IOp→Bool
 | .alloc _=>true
 | _=>false
def stApp:IOp→Bool
 | .store .. | .app ..=>true
 | _=>false
def namesOf (ev:Opd→AV):IOp→List AV
 | .load _ _ a=>[ev a]
 | .b2s x=>[ev x]
 | .mark x=>[ev x]
 | .subV _ x _ _ _=>[ev x]
 | .ixAS _ _ x _=>[ev x]
 | .bk .lenV args=>args.map ev
 | .app _ s x=>[ev s,ev x]
 | .store _ a _=>[ev a]
 | _=>[]
def hasNames:IOp→Bool
 | .load .. | .b2s _ | .mark _ | .subV .. | .ixAS .. | .bk .lenV _ | .app .. | .store ..=>true
 | _=>false
def chgS (o:SOp):Bool:=!lightOp o.op.op && !(o.slot.isSome && allocOp o.op.op)

def rjunk:Blk:=⟨⟨0,1,false,0,.undef⟩,[.undef]⟩
def preH:List SOp→Heap
 | []=>[]
 | o::l=>match o.slot with
   | none=>preH l
   | some _=>(match o.op.op with
     | .alloc e=>some ⟨e,[e.zero]⟩
     | _=>some rjunk)::preH l
def makeAt (ev:Opd→AV) (id:Nat):IOp→Option (AV × Blk)
 | .box e x=>match elOk e (ev x) with
   | true=>some (.ptr id 0 0,⟨e,[ev x]⟩)
   | false=>none
 | .mkrow e n ps=>match fillR e (List.replicate n e.zero) (ps.map fun p=>(p.1,ev p.2)) with
   | some els=>some (.slc id 0 n,⟨e,els⟩)
   | none=>none
 | _=>none
def stepS (call:CallF) (base:Nat) (o:SOp) (s:St):Option (AV × Heap):=match o.slot with
 | none=>aop call (evO s.env) s.H o.op.op
 | some j=>match allocOp o.op.op with
   | true=>some (.ptr (base+j) 0 0,s.H)
   | false=>match makeAt (evO s.env) (base+j) o.op.op with
     | some (v,k)=>some (v,s.H.set (base+j) (some k))
     | none=>none
structure LogE where
 idx:Nat
 nm:List AV
 chg:Option (Heap × Heap)
def logC (e:LogE) (o:SOp) (ev:Opd→AV) (H H':Heap):Bool :=
 (match e.chg with
   | some (A,B)=>keepL A B (namesOf ev o.op.op)
   | none=>true) && (match chgS o with
   | true=>keepL H H' e.nm
   | false=>true)
def entS (i:Nat) (o:SOp) (ev:Opd→AV) (H H':Heap):LogE:=⟨i,namesOf ev o.op.op,match chgS o with
 | true=>some (H,H')
 | false=>none⟩
def runOpsS (call:CallF) (base:Nat):List SOp→Nat→List LogE→St→Option St
 | [],_,_,s=>some s
 | o::l,i,log,s=>match want s.env o.op.guard with
   | some true=>match stepS call base o s with
     | some (v,H')=>match (log.all fun e=>!(o.chk.contains e.idx) || logC e o (evO s.env) s.H H') && o.kp.all fun j=>keepB s.H H' (base+j) with
       | true=>runOpsS call base l (i+1) (entS i o (evO s.env) s.H H'::log) ⟨put s.env o.op.dst v,H'⟩
       | false=>none
     | none=>none
   | some false=>runOpsS call base l (i+1) log ⟨put s.env o.op.dst (.tup []),s.H⟩
   | none=>none

inductive Ex where
 | normal
 | exit (id:Nat)
 | ret
 deriving Inhabited,DecidableEq

def iter (g:St→Option (Ex × St)):Nat→St→Option (Ex × St)
 | 0,_=>none
 | n+1,s=>match g s with
   | some (.normal,s')=>iter g n s'
   | r=>r

def exec (call callP:CallF) (fu:Nat):IC→St→Option (Ex × St)
 | .skip,s=>some (.normal,s)
 | .regD ops,s=>match runOpsD call callP ops 0 [] s with
   | some s'=>some (.normal,s')
   | none=>none
 | .regS ops,s=>match runOpsS call s.H.length ops 0 [] ⟨s.env,s.H ++ preH ops⟩ with
   | some s'=>some (.normal,s')
   | none=>none
 | .reg ops,s=>match runOps call ops s with
   | some s'=>some (.normal,s')
   | none=>none
 | .seq a b,s=>match exec call callP fu a s with
   | some (.normal,s')=>exec call callP fu b s'
   | r=>r
 | .cond c a b,s=>match evO s.env c with
   | .bool t=>bif t then exec call callP fu a s else exec call callP fu b s
   | _=>none
 | .block id a,s=>match exec call callP fu a s with
   | some (.exit i,s')=>if i=id then some (.normal,s') else some (.exit i,s')
   | r=>r
 | .loop a,s=>iter (exec call callP fu a) fu s
 | .exit id,s=>some (.exit id,s)
 | .ret,s=>some (.ret,s)

def resOf (s:St):RV→Option AV
 | .tmp t=>some (s.env.getD t .undef)
 | .cell ag n t=>aLoad s.H ag n (s.env.getD t .undef)

def resAll (s:St):List RV→Option (List AV)
 | []=>some []
 | r::l=>match resOf s r with
   | some v=>match resAll s l with
     | some vs=>some (v::vs)
     | none=>none
   | none=>none

def packRes:List AV→AV
 | [v]=>v
 | vs=>.tup vs

def runFn (call callP:CallF) (fu:Nat) (fn:AFn) (args:List AV) (H:Heap):Option (AV × Heap) :=
 match exec call callP fu fn.body ⟨args ++ List.replicate (fn.ntmps - args.length) (.tup []),H⟩ with
 | some (.normal,s) | some (.ret,s)=>match resAll s fn.results with
   | some vs=>some (packRes vs,s.H)
   | none=>none
 | _=>none

structure Mod where
 code:FuncId→Nat→Option AFn
 inl:FuncId→Bool
 ext:FuncId→Option (List AV→Option AV)
 fu:Nat
 cl:FuncId→Bool:=fun _=>false
 fr:FuncId→Bool:=fun _=>false


def pureCall (pc:FuncId→List AV→Option AV):CallF:=fun g args H =>
 if args.all (noId DEPTH) then match pc g args with
  | some v=>some (v,H)
  | none=>none
 else match pc g (args.map (snap DEPTH H)) with
  | some v=>if noMem DEPTH v then some (v,H) else none
  | none=>none

def extCall (e:List AV→Option AV):CallF:=fun _ args H=>match e args with
 | some v=>some (v,H)
 | none=>none

def clr:AV→Option AV
 | .lst l=>some (.bool l.isEmpty)
 | .zsl _=>some (.bool true)
 | .slc ..=>some (.bool false)
 | _=>none
def emptyQ (pc:FuncId→List AV→Option AV) (g:FuncId):Option AV:=match pc g [.zsl true],pc g [.emp] with
 | some (.lst []),some (.lst [])=>some (.lst [])
 | _,_=>none
def emptyR (M:Mod) (pc:FuncId→List AV→Option AV) (g:FuncId) (args:List AV):Option AV:=match M.cl g with
 | true=>match args with
   | [x]=>match clr x with
     | some (.bool true)=>emptyQ pc g
     | _=>none
   | _=>none
 | false=>none
def emptyCall (M:Mod) (pc:FuncId→List AV→Option AV):CallF:=fun g args H=>match emptyR M pc g args with
 | some v=>some (v,H)
 | none=>none

def callZ (M:Mod) (pc:FuncId→List AV→Option AV):CallF:=fun g args H =>
 match M.ext g with
 | some e=>extCall e g args H
 | none=>if M.inl g then (match emptyR M pc g args with
   | some v=>some (v,H)
   | none=>pureCall pc g args H) else pureCall pc g args H

def junk:Blk:=⟨⟨0,0,false,0,.undef⟩,[.undef]⟩
def padH:Nat→Heap
 | 0=>[]
 | n+1=>some junk::padH n
def padOk:Nat→Heap→Bool
 | 0,_=>true
 | n+1,some b::l=>Nat.beq b.e.es 0 && !b.els.isEmpty && padOk n l
 | _+1,_=>false
def freshRun (rf:List AV→Heap→Option (AV × Heap)) (args:List AV) (H:Heap):Option (AV × Heap) :=
 match rf args (padH H.length) with
 | some (v,H1)=>match padOk H.length H1 with
   | true=>some (v,H ++ H1.drop H.length)
   | false=>none
 | none=>none

def callB (M:Mod) (pc:FuncId→List AV→Option AV):Nat→Bool→CallF
 | 0,_=>callZ M pc
 | n+1,b=>fun g args H =>
   match M.ext g with
   | some e=>extCall e g args H
   | none=>if M.inl g then (match emptyR M pc g args with
     | some v=>some (v,H)
     | none=>match b with
       | true=>match M.code g args.length with
         | some fn=>runFn (callB M pc n true) (callB M pc n false) M.fu fn args H
         | none=>none
       | false=>match M.fr g && args.all (noId DEPTH) with
         | true=>match M.code g args.length with
           | some fn=>freshRun (runFn (callB M pc n true) (callB M pc n false) M.fu fn) args H
           | none=>none
         | false=>pureCall pc g args H) else pureCall pc g args H

def IDEPTH:Nat:=12

def pcall (M:Mod):Nat→FuncId→List AV→Option AV
 | 0=>fun _ _=>none
 | d+1=>fun g args=>match M.code g args.length with
   | none=>none
   | some fn=>match runFn (callB M (pcall M d) IDEPTH true) (callB M (pcall M d) IDEPTH false) M.fu fn args [] with
     | some (v,H')=>some (snap DEPTH H' v)
     | none=>none

/-! Short names -/
abbrev tz:AV:=.tup []
abbrev bt:AV:=.bool true
abbrev bf:AV:=.bool false
abbrev bz (b:Bool):AV:=.bool b
abbrev iz (n:Int):AV:=.int .i64 n
abbrev i6:Sh:=.i .i64
abbrev i62:List Sh:=[i6,i6]
abbrev ag2:Sh:=.agg i62
abbrev O (n:Nat) (op:IOp):IOper:=⟨some n,op,none⟩
abbrev vz (n:Int):Opd:=.v (iz n)
def hof:List (Sh × List Nat)→List (Nat × Sh)
 | []=>[]
 | (s,l)::r=>(l.map fun n=>(n,s)) ++ hof r
end Go.Proofs.Ytffiilnmfmkpmaa.AE

namespace Go.Proofs.Ytffiilnmfmkpmaa.AE
set_option linter.unusedVariables false
set_option linter.unusedSimpArgs false
set_option linter.constructorNameAsVariable false
open Go

def optAll {α β:Type} (f:α→Option β):List α→Option (List β)
 | []=>some []
 | a::l=>match f a with
   | some b=>match optAll f l with
     | some m=>some (b::m)
     | none=>none
   | none=>none

def cvS:Value→Option AV
 | .int k n=>some (.int k n)
 | .bool b=>some (.bool b)
 | .string s=>some (.str s.data.toList)
 | .pointer none=>some .nilp
 | .slice none 0 0=>some (.zsl true)
 | .nilFunc=>some .nilf
 | .func (.func g) ⟨[]⟩ ⟨[]⟩=>some (.fn g [] [])
 | _=>none
def cv:Value→Option AV
 | .agg ⟨cs⟩=>match optAll cvS cs with
   | some l=>some (.agg l)
   | none=>none
 | v=>cvS v

def cOpd:Operand→Option Opd
 | .tmp t=>some (.t t)
 | .const v=>match cv v with
   | some x=>some (.v x)
   | none=>none
 | .func g=>some (.v (.fn g [] []))
 | .global _=>none

section
variable (P:Program)

def agB (t:TypeId):Option Bool:=match P.underlying t with
 | some (.struct _) | some (.array _ _)=>some true
 | some _=>some false
 | none=>none

def cETy (t:TypeId):Option ETy :=
 match P.info? t,agB P t with
 | some i,some ag=>match i.zero with
   | some z=>match cv z with
     | some v=>if elOk ⟨t,i.size,ag,i.bytes,v⟩ v∧0 < i.size then some ⟨t,i.size,ag,i.bytes,v⟩ else none
     | none=>none
   | none=>none
 | _,_=>none

def cField (s:TypeId) (f:Nat):Option (Nat × Nat × TypeId) :=
 match P.underlying s with
 | some (.struct fs)=>match fs[f]? with
   | some fd=>match P.info? fd.type with
     | some i=>if 0 < i.size then some (fd.offset,i.size,fd.type) else none
     | none=>none
   | none=>none
 | _=>none

def cSh:Nat→TypeId→Sh
 | 0,_=>.any
 | d+1,t=>match P.underlying t with
   | some (.int k)=>.i k
   | some .bool=>.b
   | some .string=>.s
   | some (.slice _)=>.l
   | some (.struct fs)=>.agg (fs.toList.flatMap fun f=>match cSh d f.type with
     | .agg l=>l
     | x=>[x])
   | some (.array n e)=>.agg ((List.replicate n (match cSh d e with
     | .agg l=>l
     | x=>[x])).flatten)
   | some (.tuple ts)=>.tup (ts.toList.map (cSh d))
   | _=>.any

def cParts (ps:List (Nat × Operand)):Option (List (Nat × Opd)) :=
 optAll (fun p=>match cOpd p.2 with | some x=>some (p.1,x) | none=>none) ps

def cBuild (t:TypeId) (ps:List (Nat × Operand)):Option IOp :=
 match P.info? t with
 | some i=>match i.zero with
   | some z=>match cv z with
     | some (.agg zs)=>match P.underlying t with
       | some (.struct fs)=>match fs.toList.mapM (fun f=>(P.info? f.type).map fun i=>(f.offset,i.size)) with
         | some pl=>match optAll (fun p=>match pl[p.1]?,cOpd p.2 with | some (off,n),some x=>some (off,n,x) | _,_=>none) ps with
           | some l=>some (.build zs l)
           | none=>none
         | none=>none
       | some (.array _ e)=>match P.info? e with
         | some ie=>match optAll (fun p=>match cOpd p.2 with | some x=>some (p.1 * ie.size,ie.size,x) | none=>none) ps with
           | some l=>some (.build zs l)
           | none=>none
         | none=>none
       | _=>none
     | _=>none
   | none=>none
 | none=>none

def cOpds (xs:List Operand):Option (List Opd):=optAll cOpd xs

def cOptOpd:Option Operand→Option (Option Opd)
 | none=>some none
 | some x=>match cOpd x with
   | some y=>some (some y)
   | none=>none

def cCall (t:TypeId) (c:Call):Option IOp :=
 match c.callee with
 | .value f=>match cOpd f,cOpds c.args.toList with
   | some f,some as_=>some (.call (cSh P 8 t) f as_)
   | _,_=>none
 | .builtin .len=>match c.args.toList,c.argTypes.toList with
   | [x],[t]=>match P.underlying t,cOpd x with
     | some .string,some x=>some (.bk .lenS [x])
     | some (.slice _),some x=>some (.bk .lenV [x])
     | some (.array n _),some _=>some (.mov (.v (.int .i64 n)))
     | _,_=>none
   | _,_=>none
 | .builtin .min=>match cOpds c.args.toList with
   | some as_=>some (.bk .min as_)
   | none=>none
 | .builtin .max=>match cOpds c.args.toList with
   | some as_=>some (.bk .max as_)
   | none=>none
 | .builtin .append=>match c.args.toList,c.argTypes.toList with
   | [s,x],[t,u]=>match P.underlying t,P.underlying u,cOpd s,cOpd x with
     | some (.slice e),some d,some s,some x=>match d with
       | .slice _ | .string=>match cETy P e with
         | some e=>some (.app e s x)
         | none=>none
       | _=>none
     | _,_,_,_=>none
   | _,_=>none
 | _=>none

def eqFs (g:TypeId→Option (List Sh)):List Field→Nat→Option (List Sh)
 | [],_=>some []
 | f :: fs, off => if f.name ≠ "_" ∧ f.offset = off then match g f.type with
     | some l=>match eqFs g fs (off+l.length) with
       | some m=>some (l ++ m)
       | none=>none
     | none=>none
   else none
def eqSh:Nat→TypeId→Option (List Sh)
 | 0,_=>none
 | d+1,t=>match P.underlying t with
   | some (.struct fs)=>if P.stoodInHeld t then none else match eqFs (eqSh d) fs.toList 0 with
     | some l=>if P.cellsOf t=l.length then some l else none
     | none=>none
   | some (.array n e)=>match eqSh d e with
     | some l=>if P.cellsOf t=n * l.length∧P.cellsOf e=l.length then some ((List.replicate n l).flatten) else none
     | none=>none
   | some (.int k)=>if P.cellsOf t=1 then some [.i k] else none
   | some .bool=>if P.cellsOf t=1 then some [.b] else none
   | some .string=>if P.cellsOf t=1 then some [.s] else none
   | _=>none
def eqKind (t:TypeId):Option (Nat × List Sh):=match P.underlying t with
 | some .bool=>some (0,[])
 | some (.pointer _)=>some (1,[])
 | some (.slice _)=>some (2,[])
 | some (.func _ _ _)=>some (3,[])
 | some (.struct _) | some (.array _ _)=>if P.eqGuardType P.depth t then none else match eqSh P 5 t with
   | some l=>some (4,l)
   | none=>none
 | _=>none

def bytesT (t:TypeId):Bool:=match P.underlying t with
 | some (.slice e)=>match P.underlying e with
   | some (.int .u8)=>true
   | _=>false
 | _=>false
theorem bytesT_spec {t:TypeId} (h:bytesT P t=true):∃ e,P.underlying t=some (.slice e)∧P.underlying e=some (.int .u8):=by
 unfold bytesT at h
 split at h <;> (try (cases h; done))
 rename_i e h1
 split at h <;> (try (cases h; done))
 rename_i h2
 exact ⟨e,h1,h2⟩
def cOp (ty:TypeId) (o:Op):Option IOp :=
 match o with
 | .move x | .assign x=>(cOpd x).map .mov
 | .pick c a b=>match cOpd c,cOpd a,cOpd b with
   | some c,some a,some b=>some (.pick c a b)
   | _,_,_=>none
 | .alloc t=>(cETy P t).map .alloc
 | .box t x=>match cETy P t,cOpd x with
   | some e,some x=>some (.box e x)
   | _,_=>none
 | .build t ps=>cBuild P t ps.toList
 | .buildSlice t n ps=>match P.underlying t with
   | some (.slice e)=>match cETy P e,cParts ps.toList with
     | some e,some l=>if n * e.es≤16777216 then some (.mkrow e n l) else none
     | _,_=>none
   | _=>none
 | .load t a=>match P.info? t,agB P t,cOpd a with
   | some i,some ag,some a=>some (.load ag i.size a)
   | _,_,_=>none
 | .store t a v=>match P.info? t,cOpd a,cOpd v with
   | some i,some a,some v=>if 0 < i.size then some (.store i.size a v) else none
   | _,_,_=>none
 | .nilCheck x=>(cOpd x).map .nilck
 | .binOp op t x y _=>match P.underlying t,cOpd x,cOpd y with
   | some d,some x,some y=>match op with
     | .eql=>match d with
       | .int _ | .string=>some (.bin .eql x y)
       | _=>match eqKind P t with
         | some (k,sh)=>some (.eqv false k sh x y)
         | none=>none
     | .neq=>match d with
       | .int _ | .string=>some (.bin .neq x y)
       | _=>match eqKind P t with
         | some (k,sh)=>some (.eqv true k sh x y)
         | none=>none
     | op=>some (.bin op x y)
   | _,_,_=>none
 | .unOp op _ x=>(cOpd x).map (.un op)
 | .convert s d x=>if s=d∧bytesT P s=true then (cOpd x).map .mark else match P.underlying s,P.underlying d,cOpd x with
   | some (.int _),some (.int k),some x=>some (.conv k x)
   | some .string,some .string,some x=>some (.cid x)
   | some .string,some (.slice e),some x=>match P.underlying e,cETy P e with
     | some (.int .u8),some e=>if e.es=1 then some (.s2b e x) else none
     | _,_=>none
   | some (.slice e),some .string,some x=>match P.underlying e with
     | some (.int .u8)=>some (.b2s x)
     | _=>none
   | _,_,_=>none
 | .makeFunc (.func g) first caps=>match cOpds first.toList,cOpds caps.toList with
   | some a,some b=>some (.mkfn g a b)
   | _,_=>none
 | .makeSlice t n c=>match P.underlying t with
   | some (.slice e)=>match cETy P e,cOpd n,cOpd c with
     | some e,some n,some c=>some (.mkslice e n c)
     | _,_,_=>none
   | _=>none
 | .slice t x lo hi mx=>match P.underlying t,cOpd x,cOptOpd lo,cOptOpd hi,cOptOpd mx with
   | some .string,some x,some lo,some hi,some none=>some (.subS x lo hi)
   | some (.slice e),some x,some lo,some hi,some mx=>match P.info? e with
     | some ie=>if mx.isSome && hi.isNone then none else some (.subV ie.size x lo hi mx)
     | none=>none
   | _,_,_,_,_=>none
 | .fieldAddr s x f=>match cField P s f,cOpd x with
   | some (off,_,_),some x=>some (.fldA off x)
   | _,_=>none
 | .field s x f=>match cField P s f,cOpd x with
   | some (off,n,t),some x=>match agB P t with
     | some ag=>some (.fld ag n off x)
     | none=>none
   | _,_=>none
 | .indexAddr t x i=>match P.underlying t,cOpd x,cOpd i with
   | some (.slice e),some x,some i=>match P.info? e with
     | some ie=>if 0 < ie.size then some (.ixAS (cSh P 8 e) ie.size x i) else none
     | none=>none
   | some (.array n e),some x,some i=>match P.info? e with
     | some ie=>some (.ixAA n ie.size x i)
     | none=>none
   | _,_,_=>none
 | .index t x i=>match P.underlying t,cOpd x,cOpd i with
   | some .string,some x,some i=>some (.ixS x i)
   | some (.array n e),some x,some i=>match P.info? e,agB P e with
     | some ie,some ag=>some (.ixA ag n ie.size x i)
     | _,_=>none
   | _,_,_=>none
 | .extract x i=>match cOpd x with
   | some x=>some (.extr x i)
   | none=>none
 | .call c=>cCall P ty c
 | _=>none

def cOper (ops:List Oper) (o:Oper):Option IOper :=
 match cOp P o.type o.op with
 | some op=>some ⟨o.dst,op,match o.guard with
   | none=>none
   | some (j,b)=>some ((ops[j]?).bind (·.dst),b)⟩
 | none=>none

def predsOf:List Oper→List Nat→List Nat
 | [],acc=>acc
 | o::l,acc=>predsOf l (acc ++ [o.after.toList.foldl (fun m e=>if Region.binds .any e then m ||| 2 ^ e.on ||| acc.getD e.on 0 else m) 0])

def storeOp:IOp→Bool
 | .store ..=>true
 | _=>false
def fullOp:IOp→Bool
 | .app .. | .mark _=>true
 | _=>false
def readOp:IOp→Bool
 | .load .. | .b2s .. | .call ..=>true
 | _=>false

def pairOk (ops:Array Oper) (o p:Oper) (a b:IOp):Bool :=
 o.apart ops p && !(storeOp a && storeOp b) && !fullOp a && !fullOp b

def meets (a b:IOp):Bool:=(storeOp a && readOp b) || (readOp a && storeOp b)

def drawOk (ops:Array Oper) (ios:List IOper) (ps:List Nat):Bool :=
 decide (ops.size≤FULLID) && (List.range ops.size).all fun j=>(List.range j).all fun i =>
  (ps.getD j 0).testBit i || (match ops[i]?,ops[j]?,ios[i]?,ios[j]? with
    | some o,some p,some a,some b=>pairOk ops o p a.op b.op
    | _,_,_,_=>false)

def isCall:IOp→Bool
 | .call ..=>true
 | _=>false
def fullAt (n:Nat) (ps:List Nat) (j:Nat) (b:IOp):Bool :=
 isCall b && (List.range n).all fun i=>i == j || (if i < j then (ps.getD j 0).testBit i else (ps.getD i 0).testBit j)

def chkOf (ios:List IOper) (ps:List Nat) (j:Nat) (b:IOper):List Nat :=
 ((List.range j).filter fun i=>!(ps.getD j 0).testBit i && (match ios[i]? with
   | some a=>meets a.op b.op
   | none=>true)) ++ if fullAt ios.length ps j b.op then [FULLID] else []

def edgesOk (ops:Array Oper):Bool :=
 ops.toList.zipIdx.all fun p=>p.1.after.toList.all fun e=>!Region.binds .any e || decide (e.on < p.2)

/-! Regions where calls may do anything -/
def noOrd (ps:List Nat) (i j:Nat):Bool:=i != j && !(if i < j then (ps.getD j 0).testBit i else (ps.getD i 0).testBit j)
def floatAt (ios:List IOper) (ps:List Nat) (j:Nat):Bool:=match ios[j]? with
 | some b=>mkOp b.op && (List.range ios.length).any fun i=>noOrd ps i j && (match ios[i]? with
   | some a=>!lightOp a.op
   | none=>false)
 | none=>false
def slotAt (ios:List IOper) (ps:List Nat) (j:Nat):Option Nat:=if floatAt ios ps j then some ((List.range j).filter (floatAt ios ps)).length else none
def meetsS (a b:SOp):Bool:=(chgS a && hasNames b.op.op) || (hasNames a.op.op && chgS b)
def sopsOf (ios:List IOper) (ps:List Nat):List SOp :=
 let l:=ios.zipIdx.map fun p=>(⟨p.1,slotAt ios ps p.2,[],[]⟩:SOp)
 l.zipIdx.map fun p=>{ p.1 with
  chk:=(List.range p.2).filter fun i=>noOrd ps i p.2 && (match l[i]? with
   | some a=>meetsS a p.1
   | none=>false)
  kp:=if chgS p.1 && p.1.slot.isNone then l.zipIdx.filterMap fun q=>if (ps.getD p.2 0).testBit q.2 then none else q.1.slot else [] }
def slotsOk:List SOp→Nat→Bool
 | [],_=>true
 | o::l,c=>match o.slot with
   | none=>slotsOk l c
   | some s=>s == c && o.op.guard.isNone && (match o.op.op with
     | .alloc e=>e.es != 0
     | .box e _=>e.bytes != 0
     | .mkrow e _ _=>e.bytes != 0
     | _=>false) && slotsOk l (c+1)
def pairS (ops:Array Oper) (o p:Oper) (a b:SOp) (i:Nat):Bool :=
 o.apart ops p && (lightOp a.op.op || lightOp b.op.op || (a.slot.isSome && b.slot.isSome) || (a.slot.isSome && (stApp b.op.op || allocOp a.op.op)) || (b.slot.isSome && (stApp a.op.op || allocOp b.op.op))) && (!meetsS a b || b.chk.contains i)
def transOk (ps:List Nat) (n:Nat):Bool:=(List.range n).all fun j=>(List.range j).all fun h=>!(ps.getD j 0).testBit h || (ps.getD h 0 &&& ps.getD j 0) == ps.getD h 0
def drawSOk (ops:Array Oper) (l:List SOp) (ps:List Nat):Bool :=
 transOk ps ops.size && slotsOk l 0 && ((List.range ops.size).all fun j=>(List.range j).all fun i =>
  (ps.getD j 0).testBit i || (match ops[i]?,ops[j]?,l[i]?,l[j]? with
    | some o,some p,some a,some b=>pairS ops o p a b i
    | _,_,_,_=>false)) && ((List.range ops.size).all fun j=>(List.range ops.size).all fun i=>match l[i]?,l[j]? with
    | some a,some b=>(ps.getD j 0).testBit i || !(chgS b && b.slot.isNone) || (match a.slot with
      | some s=>b.kp.contains s
      | none=>true)
    | _,_=>false)

def cCode (sq:Bool):Code→Option IC
 | .skip=>some .skip
 | .region _ ops draw=>match optAll (cOper P ops.toList) ops.toList with
   | some l =>
     if draw then
      let ps:=predsOf ops.toList []
      if sq && drawSOk ops (sopsOf l ps) ps && edgesOk ops && Region.noSelect ops && P.follows .mixedOrders then some (.regS (sopsOf l ps)) else
      if drawOk ops l ps && edgesOk ops && Region.noSelect ops && P.follows .mixedOrders then some (.regD (l.zipIdx.map fun p=>(p.1,chkOf l ps p.2 p.1))) else none
     else some (.reg l)
   | none=>none
 | .seq a b=>match cCode sq a,cCode sq b with
   | some a,some b=>some (.seq a b)
   | _,_=>none
 | .cond c a b=>match cOpd c,cCode sq a,cCode sq b with
   | some c,some a,some b=>some (.cond c a b)
   | _,_,_=>none
 | .block id a=>match cCode sq a with
   | some a=>some (.block id a)
   | none=>none
 | .loop a=>match cCode sq a with
   | some a=>some (.loop a)
   | none=>none
 | .exit id=>some (.exit id)
 | .ret=>some .ret
 | _=>none

def cRV:ResultVar→Option RV
 | .tmp t=>some (.tmp t)
 | .cell a t=>match P.info? t,agB P t with
   | some i,some ag=>some (.cell ag i.size a)
   | _,_=>none

def cFnQ (sq:Bool) (g:FuncId):Option AFn :=
 match P.funcs[g]? with
 | none=>none
 | some fn=>match fn.body with
   | none=>none
   | some c => if fn.name == "runtime.NumGoroutine" then none else match cCode P sq c, optAll (cRV P) fn.results.toList with
     | some b,some rs=>some ⟨fn.ntmps,rs,b⟩
     | _,_=>none

def cFn (g:FuncId):Option AFn:=cFnQ P false g
end
end Go.Proofs.Ytffiilnmfmkpmaa.AE

namespace Go.Proofs.Ytffiilnmfmkpmaa.AE
set_option linter.unusedVariables false
set_option linter.unusedSimpArgs false
set_option linter.constructorNameAsVariable false
open Go
def E3:ETy:=⟨3,1,false,8,(iz 0)⟩
def E24:ETy:=⟨24,9,true,88,(.agg [(.zsl true),(iz 0),(iz 0),(iz 0),(iz 0),(iz 0),(iz 0),(iz 0),(iz 0)])⟩
def E30:ETy:=⟨30,5,true,56,(.agg [(.zsl true),(iz 0),(iz 0),(iz 0),(iz 0)])⟩
def E39:ETy:=⟨39,2,true,16,(.agg [(iz 0),(iz 0)])⟩
def E70:ETy:=⟨70,2,true,16,(.agg [(iz 0),(.int .u64 0)])⟩
def E72:ETy:=⟨72,2,true,16,(.agg [(iz 0),(.int .u64 0)])⟩
def c7:AFn:=⟨113,[(.tmp 4)],(.seq (.reg [O 2 (.box E24 (.t 0)),O 4 (.mov (.v bf))]) (.seq (.seq (.reg [O 12 (.call .b (.v (.fn 8 [] [])) []),O 13 (.un .not (.t 12)),O 14 (.mov (.t 13)),⟨(some 15),(.load true 9 (.t 2)),(some ((some 14),false))⟩,⟨(some 16),(.call .b (.v (.fn 9 [] [])) [(.t 15)]),(some ((some 14),false))⟩,⟨(some 17),(.un .not (.t 16)),(some ((some 14),false))⟩,O 18 (.pick (.t 14) (.v bt) (.t 17)),O 19 (.mov (.t 18)),⟨(some 20),(.load true 9 (.t 2)),(some ((some 19),false))⟩,⟨(some 21),(.call i6 (.v (.fn 10 [] [])) [(.t 20)]),(some ((some 19),false))⟩,⟨(some 22),(.bin .neq (.t 21) (vz 0)),(some ((some 19),false))⟩,O 23 (.pick (.t 19) (.v bt) (.t 22))]) (.cond (.t 23) (.seq (.reg [O 24 (.call .b (.v (.fn 8 [] [])) []),O 4 (.mov (.t 24))]) .ret) .skip)) (.seq (.seq (.reg [O 25 (.fldA 0 (.t 2)),O 26 (.load false 1 (.t 25)),O 27 (.bk .lenV [(.t 26)]),O 28 (.mov (vz 0))]) (.block 0 (.loop (.seq (.reg [O 29 (.bin .lss (.t 28) (.t 27))]) (.seq (.cond (.t 29) .skip (.exit 0)) (.seq (.block 1 (.seq (.reg [O 30 (.mov (.t 28)),O 5 (.mov (.t 30))]) (.seq (.reg [O 32 (.load true 9 (.t 2)),O 33 (.mov (.t 5)),O 34 (.call (.tup [(.agg [.l,i6,i6,i6,i6]),.b]) (.v (.fn 11 [] [])) [(.t 32),(.t 33)]),O 31 (.mov (.t 34)),O 35 (.extr (.t 31) 0),O 36 (.extr (.t 31) 1),O 6 (.alloc E30),⟨none,(.store 5 (.t 6) (.t 35)),none⟩,O 7 (.mov (.t 36))]) (.seq (.reg [O 37 (.mov (.t 7)),O 38 (.un .not (.t 37)),O 39 (.mov (.t 38)),⟨(some 40),(.load true 5 (.t 6)),(some ((some 39),false))⟩,⟨(some 41),(.call .b (.v (.fn 16 [] [])) [(.t 40)]),(some ((some 39),false))⟩,⟨(some 42),(.un .not (.t 41)),(some ((some 39),false))⟩,O 43 (.pick (.t 39) (.v bt) (.t 42))]) (.cond (.t 43) (.seq (.reg [O 4 (.mov (.v bf))]) .ret) .skip))))) (.reg [O 44 (.bin .add (.t 28) (vz 1)),O 28 (.mov (.t 44))]))))))) (.seq (.reg [O 45 (.load true 9 (.t 2)),O 46 (.call (.agg [.l,i6,i6,i6,i6,i6,i6,i6,i6]) (.v (.fn 18 [] [])) [(.t 45)]),O 8 (.alloc E24),⟨none,(.store 9 (.t 8) (.t 46)),none⟩]) (.seq (.block 2 (.loop (.seq (.seq (.reg [O 47 (.fldA 0 (.t 8)),O 48 (.load false 1 (.t 47)),O 49 (.bk .lenV [(.t 48)]),O 50 (.bin .lss (.t 49) (vz 5))]) (.cond (.t 50) .skip (.exit 2))) (.block 3 (.seq (.seq (.reg [O 51 (.fldA 0 (.t 8)),O 52 (.load false 1 (.t 51)),O 53 (.bk .lenV [(.t 52)]),O 54 (.bin .eql (.t 53) (vz 0))]) (.cond (.t 54) (.seq (.reg [O 4 (.mov (.v bf))]) .ret) .skip)) (.regS [⟨(O 55 (.fldA 0 (.t 8))),none,[],[]⟩,⟨(O 56 (.load false 1 (.t 55))),none,[],[]⟩,⟨(O 57 (.fldA 0 (.t 8))),none,[],[]⟩,⟨(O 58 (.load false 1 (.t 57))),none,[],[]⟩,⟨(O 59 (.ixAS (.agg [.l,i6,i6,i6,i6]) 5 (.t 58) (vz 0))),none,[],[]⟩,⟨(O 60 (.load true 5 (.t 59))),none,[],[]⟩,⟨(O 61 (.mkrow E30 1 [(0,(.t 60))])),none,[1],[]⟩,⟨(O 62 (.app E30 (.t 56) (.t 61))),none,[],[]⟩,⟨(O 63 (.fldA 0 (.t 8))),none,[],[]⟩,⟨⟨none,(.store 1 (.t 63) (.t 62)),none⟩,none,[],[]⟩])))))) (.seq (.reg [O 64 (.load true 9 (.t 2)),O 65 (.call (.agg [.l,i6,i6,i6,i6,i6,i6,i6,i6]) (.v (.fn 18 [] [])) [(.t 64)]),O 9 (.alloc E24),⟨none,(.store 9 (.t 9) (.t 65)),none⟩]) (.seq (.seq (.reg [O 66 (.fldA 0 (.t 9)),O 67 (.load false 1 (.t 66)),O 68 (.bk .lenV [(.t 67)]),O 69 (.fldA 0 (.t 2)),O 70 (.load false 1 (.t 69)),O 71 (.bk .lenV [(.t 70)]),O 72 (.bin .neq (.t 68) (.t 71))]) (.cond (.t 72) (.seq (.reg [O 4 (.mov (.v bf))]) .ret) .skip)) (.seq (.reg [O 73 (.mov (.t 1)),O 74 (.conv .u64 (.t 73)),O 75 (.fldA 0 (.t 9)),O 76 (.load false 1 (.t 75)),O 77 (.bk .lenV [(.t 76)]),O 78 (.conv .u64 (.t 77)),O 79 (.bin .rem (.t 74) (.t 78)),O 80 (.conv .i64 (.t 79)),O 10 (.mov (.t 80))]) (.seq (.regS [⟨(O 81 (.fldA 0 (.t 9))),none,[],[]⟩,⟨(O 82 (.load false 1 (.t 81))),none,[],[]⟩,⟨(O 83 (.mov (.t 10))),none,[],[]⟩,⟨(O 84 (.mov (.t 10))),none,[],[]⟩,⟨(O 85 (.subV 5 (.t 82) none (some (.t 83)) (some (.t 84)))),none,[],[]⟩,⟨(O 86 (.fldA 0 (.t 9))),none,[],[]⟩,⟨(O 87 (.load false 1 (.t 86))),none,[],[]⟩,⟨(O 88 (.mov (.t 10))),none,[],[]⟩,⟨(O 89 (.bin .add (.t 88) (vz 1))),none,[],[]⟩,⟨(O 90 (.subV 5 (.t 87) (some (.t 89)) none none)),none,[],[]⟩,⟨(O 91 (.app E30 (.t 85) (.t 90))),none,[],[]⟩,⟨(O 92 (.fldA 0 (.t 9))),none,[],[]⟩,⟨⟨none,(.store 1 (.t 92) (.t 91)),none⟩,none,[],[]⟩]) (.seq (.reg [O 93 (.fldA 8 (.t 9)),O 94 (.load false 1 (.t 93)),O 95 (.fldA 0 (.t 9)),O 96 (.load false 1 (.t 95)),O 97 (.bk .lenV [(.t 96)]),O 98 (.bk .min [(.t 94),(.t 97)]),O 99 (.fldA 8 (.t 9)),⟨none,(.store 1 (.t 99) (.t 98)),none⟩]) (.seq (.reg [O 11 (.mov (vz 0))]) (.seq (.seq (.reg [O 100 (.fldA 0 (.t 9)),O 101 (.load false 1 (.t 100)),O 102 (.bk .lenV [(.t 101)]),O 103 (.bin .eql (.t 102) (vz 0))]) (.cond (.t 103) (.reg [O 11 (.mov (vz 1))]) .skip)) (.seq (.reg [O 104 (.load true 9 (.t 8)),O 105 (.call i6 (.v (.fn 12 [] [])) [(.t 104)]),O 106 (.bin .eql (.t 105) (vz 1)),O 107 (.mov (.t 106)),⟨(some 108),(.load true 9 (.t 9)),(some ((some 107),true))⟩,⟨(some 109),(.call i6 (.v (.fn 12 [] [])) [(.t 108)]),(some ((some 107),true))⟩,⟨(some 110),(.mov (.t 11)),(some ((some 107),true))⟩,⟨(some 111),(.bin .eql (.t 109) (.t 110)),(some ((some 107),true))⟩,O 112 (.pick (.t 107) (.t 111) (.v bf)),O 4 (.mov (.t 112))]) .ret)))))))))))))⟩
def c8:AFn:=⟨86,[(.tmp 0)],(.seq (.reg [O 0 (.mov (.v bf))]) (.seq (.reg [O 8 (.call (.agg [.l,i6,i6,i6,i6,i6,i6,i6,i6]) (.v (.fn 21 [] [])) [(vz 2)]),O 1 (.alloc E24),⟨none,(.store 9 (.t 1) (.t 8)),none⟩]) (.seq (.reg [O 10 (.load true 9 (.t 1)),O 11 (.call (.tup [(.agg [.l,i6,i6,i6,i6]),.b]) (.v (.fn 11 [] [])) [(.t 10),(vz 1)]),O 9 (.mov (.t 11)),O 12 (.extr (.t 9) 0),O 13 (.extr (.t 9) 1),O 2 (.alloc E30),⟨none,(.store 5 (.t 2) (.t 12)),none⟩,O 3 (.mov (.t 13))]) (.seq (.reg [O 15 (.load true 9 (.t 1)),O 16 (.call (.tup [(.agg [.l,i6,i6,i6,i6]),.b]) (.v (.fn 11 [] [])) [(.t 15),(vz 2)]),O 14 (.mov (.t 16)),O 17 (.extr (.t 14) 0),O 18 (.extr (.t 14) 1),O 4 (.alloc E30),⟨none,(.store 5 (.t 4) (.t 17)),none⟩,O 5 (.mov (.t 18))]) (.seq (.reg [O 19 (.load true 9 (.t 1)),O 20 (.call (.agg [.l,i6,i6,i6,i6,i6,i6,i6,i6]) (.v (.fn 18 [] [])) [(.t 19)]),O 6 (.alloc E24),⟨none,(.store 9 (.t 6) (.t 20)),none⟩]) (.seq (.reg [O 21 (.fldA 1 (.t 6)),⟨none,(.store 1 (.t 21) (vz 0)),none⟩]) (.seq (.reg [O 22 (.load true 9 (.t 1)),O 23 (.call (.agg [.l,i6,i6,i6,i6,i6,i6,i6,i6]) (.v (.fn 18 [] [])) [(.t 22)]),O 7 (.alloc E24),⟨none,(.store 9 (.t 7) (.t 23)),none⟩]) (.seq (.seq (.reg [O 24 (.fldA 0 (.t 7)),O 25 (.load false 1 (.t 24)),O 26 (.bk .lenV [(.t 25)]),O 27 (.bin .neq (.t 26) (vz 2))]) (.cond (.t 27) (.seq (.reg [O 0 (.mov (.v bf))]) .ret) .skip)) (.seq (.reg [O 28 (.fldA 0 (.t 7)),O 29 (.load false 1 (.t 28)),O 30 (.ixAS (.agg [.l,i6,i6,i6,i6]) 5 (.t 29) (vz 0)),O 31 (.fldA 1 (.t 30)),⟨none,(.store 1 (.t 31) (vz 0)),none⟩]) (.seq (.regD [((O 32 (.load true 9 (.t 1))),[]),((O 33 (.call .b (.v (.fn 13 [] [])) [(.t 32)])),[1000000]),((O 34 (.mov (.t 33))),[]),(⟨(some 35),(.load true 9 (.t 1)),(some ((some 34),true))⟩,[]),(⟨(some 36),(.call i6 (.v (.fn 12 [] [])) [(.t 35)]),(some ((some 34),true))⟩,[1000000]),(⟨(some 37),(.bin .eql (.t 36) (vz 0)),(some ((some 34),true))⟩,[]),((O 38 (.pick (.t 34) (.t 37) (.v bf))),[]),((O 39 (.mov (.t 38))),[]),(⟨(some 40),(.load true 9 (.t 6)),(some ((some 39),true))⟩,[]),(⟨(some 41),(.call i6 (.v (.fn 12 [] [])) [(.t 40)]),(some ((some 39),true))⟩,[1000000]),(⟨(some 42),(.bin .eql (.t 41) (vz 3)),(some ((some 39),true))⟩,[]),((O 43 (.pick (.t 39) (.t 42) (.v bf))),[]),((O 44 (.mov (.t 43))),[]),(⟨(some 45),(.load true 9 (.t 7)),(some ((some 44),true))⟩,[]),(⟨(some 46),(.call i6 (.v (.fn 12 [] [])) [(.t 45)]),(some ((some 44),true))⟩,[1000000]),(⟨(some 47),(.bin .eql (.t 46) (vz 2)),(some ((some 44),true))⟩,[]),((O 48 (.pick (.t 44) (.t 47) (.v bf))),[]),((O 49 (.mov (.t 48))),[]),(⟨(some 50),(.build [(.zsl true),(iz 0),(iz 0),(iz 0),(iz 0),(iz 0),(iz 0),(iz 0),(iz 0)] []),(some ((some 49),true))⟩,[]),(⟨(some 51),(.call i6 (.v (.fn 12 [] [])) [(.t 50)]),(some ((some 49),true))⟩,[1000000]),(⟨(some 52),(.bin .eql (.t 51) (vz 1)),(some ((some 49),true))⟩,[]),((O 53 (.pick (.t 49) (.t 52) (.v bf))),[]),((O 54 (.mov (.t 53))),[]),(⟨(some 55),(.load true 5 (.t 2)),(some ((some 54),true))⟩,[]),(⟨(some 56),(.call .b (.v (.fn 16 [] [])) [(.t 55)]),(some ((some 54),true))⟩,[1000000]),((O 57 (.pick (.t 54) (.t 56) (.v bf))),[]),((O 58 (.mov (.t 57))),[]),(⟨(some 59),(.mov (.t 3)),(some ((some 58),true))⟩,[]),((O 60 (.pick (.t 58) (.t 59) (.v bf))),[]),((O 61 (.mov (.t 60))),[]),(⟨(some 62),(.mov (.t 5)),(some ((some 61),true))⟩,[]),(⟨(some 63),(.un .not (.t 62)),(some ((some 61),true))⟩,[]),((O 64 (.pick (.t 61) (.t 63) (.v bf))),[]),((O 65 (.mov (.t 64))),[]),(⟨(some 66),(.load true 9 (.t 1)),(some ((some 65),true))⟩,[]),(⟨(some 67),(.call (.agg [.l,i6,i6,i6,i6,i6,i6,i6,i6]) (.v (.fn 21 [] [])) [(vz 2)]),(some ((some 65),true))⟩,[]),(⟨(some 68),(.call .b (.v (.fn 20 [] [])) [(.t 66),(.t 67)]),(some ((some 65),true))⟩,[1000000]),((O 69 (.pick (.t 65) (.t 68) (.v bf))),[]),((O 70 (.mov (.t 69))),[]),(⟨(some 71),(.load true 9 (.t 1)),(some ((some 70),true))⟩,[]),(⟨(some 72),(.load true 9 (.t 6)),(some ((some 70),true))⟩,[]),(⟨(some 73),(.call .b (.v (.fn 20 [] [])) [(.t 71),(.t 72)]),(some ((some 70),true))⟩,[1000000]),(⟨(some 74),(.un .not (.t 73)),(some ((some 70),true))⟩,[]),((O 75 (.pick (.t 70) (.t 74) (.v bf))),[]),((O 76 (.mov (.t 75))),[]),(⟨(some 77),(.load true 9 (.t 1)),(some ((some 76),true))⟩,[]),(⟨(some 78),(.call i6 (.v (.fn 14 [] [])) [(.t 77)]),(some ((some 76),true))⟩,[1000000]),(⟨(some 79),(.bin .eql (.t 78) (vz 7)),(some ((some 76),true))⟩,[]),((O 80 (.pick (.t 76) (.t 79) (.v bf))),[]),((O 81 (.mov (.t 80))),[]),(⟨(some 82),(.load true 9 (.t 6)),(some ((some 81),true))⟩,[]),(⟨(some 83),(.call i6 (.v (.fn 14 [] [])) [(.t 82)]),(some ((some 81),true))⟩,[1000000]),(⟨(some 84),(.bin .eql (.t 83) (vz 0)),(some ((some 81),true))⟩,[]),((O 85 (.pick (.t 81) (.t 84) (.v bf))),[]),((O 0 (.mov (.t 85))),[])]) .ret))))))))))⟩
def c9:AFn:=⟨23,[(.tmp 2)],(.seq (.reg [O 1 (.box E24 (.t 0)),O 2 (.mov (.v bf))]) (.seq (.seq (.reg [O 3 (.mov (vz 0))]) (.block 0 (.loop (.seq (.seq (.reg [O 4 (.mov (.t 3)),O 5 (.fldA 0 (.t 1)),O 6 (.load false 1 (.t 5)),O 7 (.bk .lenV [(.t 6)]),O 8 (.bin .lss (.t 4) (.t 7))]) (.cond (.t 8) .skip (.exit 0))) (.seq (.block 1 (.seq (.reg [O 11 (.fldA 0 (.t 1)),O 12 (.load false 1 (.t 11)),O 13 (.mov (.t 3)),O 14 (.ixAS (.agg [.l,i6,i6,i6,i6]) 5 (.t 12) (.t 13)),O 15 (.fldA 0 (.t 14)),O 16 (.load false 1 (.t 15)),O 17 (.bk .lenV [(.t 16)]),O 18 (.bin .gtr (.t 17) (vz 12))]) (.cond (.t 18) (.seq (.reg [O 2 (.mov (.v bf))]) .ret) .skip))) (.reg [O 9 (.mov (.t 3)),O 10 (.bin .add (.t 9) (vz 1)),O 3 (.mov (.t 10))])))))) (.seq (.reg [O 19 (.fldA 0 (.t 1)),O 20 (.load false 1 (.t 19)),O 21 (.bk .lenV [(.t 20)]),O 22 (.bin .leq (.t 21) (vz 8)),O 2 (.mov (.t 22))]) .ret)))⟩
def c10:AFn:=⟨73,[(.tmp 2)],(.seq (.reg [O 1 (.box E24 (.t 0)),O 2 (.mov (vz 0))]) (.seq (.seq (.reg [O 4 (.fldA 0 (.t 1)),O 5 (.load false 1 (.t 4)),O 6 (.bk .lenV [(.t 5)]),O 7 (.bin .lss (.t 6) (vz 1)),O 8 (.mov (.t 7)),⟨(some 9),(.fldA 0 (.t 1)),(some ((some 8),false))⟩,⟨(some 10),(.load false 1 (.t 9)),(some ((some 8),false))⟩,⟨(some 11),(.bk .lenV [(.t 10)]),(some ((some 8),false))⟩,⟨(some 12),(.bin .gtr (.t 11) (vz 4)),(some ((some 8),false))⟩,O 13 (.pick (.t 8) (.v bt) (.t 12))]) (.cond (.t 13) (.seq (.reg [O 2 (.mov (vz 1))]) .ret) .skip)) (.seq (.seq (.reg [O 3 (.mov (vz 0))]) (.block 0 (.loop (.seq (.seq (.reg [O 14 (.mov (.t 3)),O 15 (.fldA 0 (.t 1)),O 16 (.load false 1 (.t 15)),O 17 (.bk .lenV [(.t 16)]),O 18 (.bin .lss (.t 14) (.t 17))]) (.cond (.t 18) .skip (.exit 0))) (.seq (.block 1 (.seq (.reg [O 21 (.fldA 0 (.t 1)),O 22 (.load false 1 (.t 21)),O 23 (.mov (.t 3)),O 24 (.ixAS (.agg [.l,i6,i6,i6,i6]) 5 (.t 22) (.t 23)),O 25 (.load true 5 (.t 24)),O 26 (.call .b (.v (.fn 17 [] [])) [(.t 25)]),O 27 (.un .not (.t 26))]) (.cond (.t 27) (.seq (.reg [O 2 (.mov (vz 2))]) .ret) .skip))) (.reg [O 19 (.mov (.t 3)),O 20 (.bin .add (.t 19) (vz 1)),O 3 (.mov (.t 20))])))))) (.seq (.block 2 (.seq (.reg [O 29 (.fldA 1 (.t 1)),O 30 (.load false 1 (.t 29)),O 31 (.call .b (.v (.fn 22 [] [])) [(.t 30),(vz 1),(vz 50)]),O 32 (.un .not (.t 31)),O 33 (.mov (.t 32)),⟨(some 34),(.fldA 2 (.t 1)),(some ((some 33),false))⟩,⟨(some 35),(.load false 1 (.t 34)),(some ((some 33),false))⟩,⟨(some 36),(.call .b (.v (.fn 22 [] [])) [(.t 35),(vz 1),(vz 50)]),(some ((some 33),false))⟩,⟨(some 37),(.un .not (.t 36)),(some ((some 33),false))⟩,O 38 (.pick (.t 33) (.v bt) (.t 37)),O 39 (.mov (.t 38)),⟨(some 40),(.fldA 3 (.t 1)),(some ((some 39),false))⟩,⟨(some 41),(.load false 1 (.t 40)),(some ((some 39),false))⟩,⟨(some 42),(.call .b (.v (.fn 22 [] [])) [(.t 41),(vz 1),(vz 50)]),(some ((some 39),false))⟩,⟨(some 43),(.un .not (.t 42)),(some ((some 39),false))⟩,O 44 (.pick (.t 39) (.v bt) (.t 43)),O 28 (.mov (.t 44))]) (.cond (.t 28) (.seq (.reg [O 2 (.mov (vz 3))]) .ret) (.seq (.reg [O 46 (.fldA 4 (.t 1)),O 47 (.load false 1 (.t 46)),O 48 (.call .b (.v (.fn 22 [] [])) [(.t 47),(vz 0),(vz 1024)]),O 49 (.un .not (.t 48)),O 45 (.mov (.t 49))]) (.cond (.t 45) (.seq (.reg [O 2 (.mov (vz 4))]) .ret) (.seq (.reg [O 51 (.fldA 5 (.t 1)),O 52 (.load false 1 (.t 51)),O 53 (.call .b (.v (.fn 22 [] [])) [(.t 52),(vz 1),(vz 65536)]),O 54 (.un .not (.t 53)),O 50 (.mov (.t 54))]) (.cond (.t 50) (.seq (.reg [O 2 (.mov (vz 5))]) .ret) (.seq (.reg [O 56 (.fldA 6 (.t 1)),O 57 (.load false 1 (.t 56)),O 58 (.call .b (.v (.fn 22 [] [])) [(.t 57),(vz 1),(vz 50)]),O 59 (.un .not (.t 58)),O 55 (.mov (.t 59))]) (.cond (.t 55) (.seq (.reg [O 2 (.mov (vz 6))]) .ret) (.seq (.reg [O 61 (.fldA 7 (.t 1)),O 62 (.load false 1 (.t 61)),O 63 (.call .b (.v (.fn 22 [] [])) [(.t 62),(vz 1),(vz 1073741824)]),O 64 (.un .not (.t 63)),O 60 (.mov (.t 64))]) (.cond (.t 60) (.seq (.reg [O 2 (.mov (vz 7))]) .ret) (.seq (.reg [O 66 (.fldA 8 (.t 1)),O 67 (.load false 1 (.t 66)),O 68 (.fldA 0 (.t 1)),O 69 (.load false 1 (.t 68)),O 70 (.bk .lenV [(.t 69)]),O 71 (.call .b (.v (.fn 22 [] [])) [(.t 67),(vz 0),(.t 70)]),O 72 (.un .not (.t 71)),O 65 (.mov (.t 72))]) (.cond (.t 65) (.seq (.reg [O 2 (.mov (vz 8))]) .ret) .skip))))))))))))) (.seq (.reg [O 2 (.mov (vz 0))]) .ret)))))⟩
def c11:AFn:=⟨26,[(.cell true 5 4),(.tmp 5)],(.seq (.reg [O 2 (.box E24 (.t 0)),O 4 (.alloc E30),O 5 (.mov (.v bf))]) (.seq (.seq (.reg [O 6 (.mov (.t 1)),O 7 (.bin .lss (.t 6) (vz 0)),O 8 (.mov (.t 7)),⟨(some 9),(.mov (.t 1)),(some ((some 8),false))⟩,⟨(some 10),(.fldA 0 (.t 2)),(some ((some 8),false))⟩,⟨(some 11),(.load false 1 (.t 10)),(some ((some 8),false))⟩,⟨(some 12),(.bk .lenV [(.t 11)]),(some ((some 8),false))⟩,⟨(some 13),(.bin .geq (.t 9) (.t 12)),(some ((some 8),false))⟩,O 14 (.pick (.t 8) (.v bt) (.t 13))]) (.cond (.t 14) (.seq (.reg [O 15 (.load true 5 (.t 4)),⟨none,(.store 5 (.t 4) (.t 15)),none⟩,O 5 (.mov (.v bf))]) .ret) .skip)) (.seq (.reg [O 16 (.fldA 0 (.t 2)),O 17 (.load false 1 (.t 16)),O 18 (.mov (.t 1)),O 19 (.ixAS (.agg [.l,i6,i6,i6,i6]) 5 (.t 17) (.t 18)),O 20 (.load true 5 (.t 19)),⟨none,(.store 5 (.t 4) (.t 20)),none⟩]) (.seq (.reg [O 21 (.fldA 0 (.t 4)),O 22 (.load false 1 (.t 21)),O 23 (.call .l (.v (.fn 23 [] [])) [(.t 22)]),O 24 (.fldA 0 (.t 4)),⟨none,(.store 1 (.t 24) (.t 23)),none⟩]) (.seq (.reg [O 25 (.load true 5 (.t 4)),⟨none,(.store 5 (.t 4) (.t 25)),none⟩,O 5 (.mov (.v bt))]) .ret)))))⟩
def c12:AFn:=⟨44,[(.tmp 2)],(.seq (.reg [O 1 (.box E24 (.t 0)),O 2 (.mov (vz 0))]) (.seq (.block 0 (.seq (.reg [O 4 (.fldA 0 (.t 1)),O 5 (.load false 1 (.t 4)),O 6 (.bk .lenV [(.t 5)]),O 7 (.call .b (.v (.fn 24 [] [])) [(.t 6),(vz 1),(vz 4)]),O 8 (.un .not (.t 7)),O 3 (.mov (.t 8))]) (.cond (.t 3) (.seq (.reg [O 2 (.mov (vz 1))]) .ret) (.seq (.reg [O 10 (.fldA 0 (.t 1)),O 11 (.load false 1 (.t 10)),O 12 (.call .b (.v (.fn 25 [] [])) [(.t 11),(.v (.fn 26 [] []))]),O 9 (.mov (.t 12))]) (.cond (.t 9) (.seq (.reg [O 2 (.mov (vz 2))]) .ret) (.seq (.reg [O 14 (.call .b (.v (.fn 27 [] [])) [(.t 1)]),O 15 (.un .not (.t 14)),O 13 (.mov (.t 15))]) (.cond (.t 13) (.seq (.reg [O 2 (.mov (vz 3))]) .ret) (.seq (.reg [O 17 (.fldA 4 (.t 1)),O 18 (.load false 1 (.t 17)),O 19 (.call .b (.v (.fn 28 [] [])) [(.t 18),(vz 0),(vz 1024)]),O 20 (.un .not (.t 19)),O 16 (.mov (.t 20))]) (.cond (.t 16) (.seq (.reg [O 2 (.mov (vz 4))]) .ret) (.seq (.reg [O 22 (.fldA 5 (.t 1)),O 23 (.load false 1 (.t 22)),O 24 (.call .b (.v (.fn 28 [] [])) [(.t 23),(vz 1),(vz 65536)]),O 25 (.un .not (.t 24)),O 21 (.mov (.t 25))]) (.cond (.t 21) (.seq (.reg [O 2 (.mov (vz 5))]) .ret) (.seq (.reg [O 27 (.fldA 6 (.t 1)),O 28 (.load false 1 (.t 27)),O 29 (.call .b (.v (.fn 24 [] [])) [(.t 28),(vz 1),(vz 50)]),O 30 (.un .not (.t 29)),O 26 (.mov (.t 30))]) (.cond (.t 26) (.seq (.reg [O 2 (.mov (vz 6))]) .ret) (.seq (.reg [O 32 (.fldA 7 (.t 1)),O 33 (.load false 1 (.t 32)),O 34 (.call .b (.v (.fn 28 [] [])) [(.t 33),(vz 1),(vz 1073741824)]),O 35 (.un .not (.t 34)),O 31 (.mov (.t 35))]) (.cond (.t 31) (.seq (.reg [O 2 (.mov (vz 7))]) .ret) (.seq (.reg [O 37 (.fldA 8 (.t 1)),O 38 (.load false 1 (.t 37)),O 39 (.fldA 0 (.t 1)),O 40 (.load false 1 (.t 39)),O 41 (.bk .lenV [(.t 40)]),O 42 (.call .b (.v (.fn 24 [] [])) [(.t 38),(vz 0),(.t 41)]),O 43 (.un .not (.t 42)),O 36 (.mov (.t 43))]) (.cond (.t 36) (.seq (.reg [O 2 (.mov (vz 8))]) .ret) .skip))))))))))))))))) (.seq (.reg [O 2 (.mov (vz 0))]) .ret)))⟩
def c13:AFn:=⟨6,[(.tmp 2)],(.seq (.reg [O 1 (.box E24 (.t 0)),O 2 (.mov (.v bf))]) (.seq (.reg [O 3 (.load true 9 (.t 1)),O 4 (.call i6 (.v (.fn 12 [] [])) [(.t 3)]),O 5 (.bin .eql (.t 4) (vz 0)),O 2 (.mov (.t 5))]) .ret))⟩
def c14:AFn:=⟨12,[(.tmp 2)],(.seq (.reg [O 1 (.box E24 (.t 0)),O 2 (.mov (vz 0))]) (.seq (.seq (.reg [O 3 (.load true 9 (.t 1)),O 4 (.call .b (.v (.fn 13 [] [])) [(.t 3)]),O 5 (.un .not (.t 4))]) (.cond (.t 5) (.seq (.reg [O 2 (.mov (vz 0))]) .ret) .skip)) (.seq (.reg [O 6 (.fldA 1 (.t 1)),O 7 (.load false 1 (.t 6)),O 8 (.fldA 2 (.t 1)),O 9 (.load false 1 (.t 8)),O 10 (.bin .add (.t 7) (.t 9)),O 11 (.bin .add (.t 10) (vz 2)),O 2 (.mov (.t 11))]) .ret)))⟩
def c16:AFn:=⟨26,[(.tmp 2)],(.seq (.reg [O 1 (.box E30 (.t 0)),O 2 (.mov (.v bf))]) (.seq (.reg [O 3 (.fldA 0 (.t 1)),O 4 (.load false 1 (.t 3)),O 5 (.call .b (.v (.fn 30 [] [])) [(.t 4)]),O 6 (.mov (.t 5)),⟨(some 7),(.fldA 1 (.t 1)),(some ((some 6),true))⟩,⟨(some 8),(.load false 1 (.t 7)),(some ((some 6),true))⟩,⟨(some 9),(.call .b (.v (.fn 28 [] [])) [(.t 8),(vz 1),(vz 100)]),(some ((some 6),true))⟩,O 10 (.pick (.t 6) (.t 9) (.v bf)),O 11 (.mov (.t 10)),⟨(some 12),(.fldA 2 (.t 1)),(some ((some 11),true))⟩,⟨(some 13),(.load false 1 (.t 12)),(some ((some 11),true))⟩,⟨(some 14),(.call .b (.v (.fn 28 [] [])) [(.t 13),(vz 1),(vz 65536)]),(some ((some 11),true))⟩,O 15 (.pick (.t 11) (.t 14) (.v bf)),O 16 (.mov (.t 15)),⟨(some 17),(.fldA 3 (.t 1)),(some ((some 16),true))⟩,⟨(some 18),(.load false 1 (.t 17)),(some ((some 16),true))⟩,⟨(some 19),(.call .b (.v (.fn 24 [] [])) [(.t 18),(vz 1),(vz 1000000)]),(some ((some 16),true))⟩,O 20 (.pick (.t 16) (.t 19) (.v bf)),O 21 (.mov (.t 20)),⟨(some 22),(.fldA 4 (.t 1)),(some ((some 21),true))⟩,⟨(some 23),(.load false 1 (.t 22)),(some ((some 21),true))⟩,⟨(some 24),(.call .b (.v (.fn 28 [] [])) [(.t 23),(vz 0),(vz 1073741824)]),(some ((some 21),true))⟩,O 25 (.pick (.t 21) (.t 24) (.v bf)),O 2 (.mov (.t 25))]) .ret))⟩
def c17:AFn:=⟨26,[(.tmp 2)],(.seq (.reg [O 1 (.box E30 (.t 0)),O 2 (.mov (.v bf))]) (.seq (.reg [O 3 (.fldA 0 (.t 1)),O 4 (.load false 1 (.t 3)),O 5 (.call .b (.v (.fn 31 [] [])) [(.t 4)]),O 6 (.mov (.t 5)),⟨(some 7),(.fldA 1 (.t 1)),(some ((some 6),true))⟩,⟨(some 8),(.load false 1 (.t 7)),(some ((some 6),true))⟩,⟨(some 9),(.call .b (.v (.fn 22 [] [])) [(.t 8),(vz 1),(vz 100)]),(some ((some 6),true))⟩,O 10 (.pick (.t 6) (.t 9) (.v bf)),O 11 (.mov (.t 10)),⟨(some 12),(.fldA 2 (.t 1)),(some ((some 11),true))⟩,⟨(some 13),(.load false 1 (.t 12)),(some ((some 11),true))⟩,⟨(some 14),(.call .b (.v (.fn 22 [] [])) [(.t 13),(vz 1),(vz 65536)]),(some ((some 11),true))⟩,O 15 (.pick (.t 11) (.t 14) (.v bf)),O 16 (.mov (.t 15)),⟨(some 17),(.fldA 3 (.t 1)),(some ((some 16),true))⟩,⟨(some 18),(.load false 1 (.t 17)),(some ((some 16),true))⟩,⟨(some 19),(.call .b (.v (.fn 22 [] [])) [(.t 18),(vz 1),(vz 1000000)]),(some ((some 16),true))⟩,O 20 (.pick (.t 16) (.t 19) (.v bf)),O 21 (.mov (.t 20)),⟨(some 22),(.fldA 4 (.t 1)),(some ((some 21),true))⟩,⟨(some 23),(.load false 1 (.t 22)),(some ((some 21),true))⟩,⟨(some 24),(.call .b (.v (.fn 22 [] [])) [(.t 23),(vz 0),(vz 1073741824)]),(some ((some 21),true))⟩,O 25 (.pick (.t 21) (.t 24) (.v bf)),O 2 (.mov (.t 25))]) .ret))⟩
def c18:AFn:=⟨28,[(.cell true 9 2)],(.seq (.reg [O 1 (.box E24 (.t 0)),O 2 (.alloc E24)]) (.seq (.reg [O 4 (.fldA 0 (.t 1)),O 5 (.load false 1 (.t 4)),O 6 (.call .l (.v (.fn 32 [] [])) [(.t 5)]),O 7 (.fldA 0 (.t 1)),⟨none,(.store 1 (.t 7) (.t 6)),none⟩]) (.seq (.seq (.reg [O 8 (.fldA 0 (.t 1)),O 9 (.load false 1 (.t 8)),O 10 (.bk .lenV [(.t 9)]),O 11 (.mov (vz 0))]) (.block 0 (.loop (.seq (.reg [O 12 (.bin .lss (.t 11) (.t 10))]) (.seq (.cond (.t 12) .skip (.exit 0)) (.seq (.block 1 (.seq (.reg [O 13 (.mov (.t 11)),O 3 (.mov (.t 13))]) (.regD [((O 14 (.fldA 0 (.t 1))),[]),((O 15 (.load false 1 (.t 14))),[]),((O 16 (.mov (.t 3))),[]),((O 17 (.fldA 0 (.t 1))),[]),((O 18 (.load false 1 (.t 17))),[]),((O 19 (.mov (.t 3))),[]),((O 20 (.ixAS (.agg [.l,i6,i6,i6,i6]) 5 (.t 18) (.t 19))),[]),((O 21 (.fldA 0 (.t 20))),[]),((O 22 (.load false 1 (.t 21))),[]),((O 23 (.call .l (.v (.fn 23 [] [])) [(.t 22)])),[]),((O 24 (.ixAS (.agg [.l,i6,i6,i6,i6]) 5 (.t 15) (.t 16))),[]),((O 25 (.fldA 0 (.t 24))),[]),(⟨none,(.store 1 (.t 25) (.t 23)),none⟩,[])]))) (.reg [O 26 (.bin .add (.t 11) (vz 1)),O 11 (.mov (.t 26))]))))))) (.seq (.reg [O 27 (.load true 9 (.t 1)),⟨none,(.store 9 (.t 2) (.t 27)),none⟩]) .ret))))⟩
def c20:AFn:=⟨66,[(.tmp 4)],(.seq (.reg [O 2 (.box E24 (.t 0)),O 3 (.box E24 (.t 1)),O 4 (.mov (.v bf))]) (.seq (.reg [O 5 (.fldA 0 (.t 2)),O 6 (.load false 1 (.t 5)),O 7 (.fldA 0 (.t 3)),O 8 (.load false 1 (.t 7)),O 9 (.call .b (.v (.fn 33 [] [])) [(.t 6),(.t 8),(.v (.fn 34 [] []))]),O 10 (.mov (.t 9)),⟨(some 11),(.fldA 1 (.t 2)),(some ((some 10),true))⟩,⟨(some 12),(.load false 1 (.t 11)),(some ((some 10),true))⟩,⟨(some 13),(.fldA 1 (.t 3)),(some ((some 10),true))⟩,⟨(some 14),(.load false 1 (.t 13)),(some ((some 10),true))⟩,⟨(some 15),(.bin .eql (.t 12) (.t 14)),(some ((some 10),true))⟩,O 16 (.pick (.t 10) (.t 15) (.v bf)),O 17 (.mov (.t 16)),⟨(some 18),(.fldA 2 (.t 2)),(some ((some 17),true))⟩,⟨(some 19),(.load false 1 (.t 18)),(some ((some 17),true))⟩,⟨(some 20),(.fldA 2 (.t 3)),(some ((some 17),true))⟩,⟨(some 21),(.load false 1 (.t 20)),(some ((some 17),true))⟩,⟨(some 22),(.bin .eql (.t 19) (.t 21)),(some ((some 17),true))⟩,O 23 (.pick (.t 17) (.t 22) (.v bf)),O 24 (.mov (.t 23)),⟨(some 25),(.fldA 3 (.t 2)),(some ((some 24),true))⟩,⟨(some 26),(.load false 1 (.t 25)),(some ((some 24),true))⟩,⟨(some 27),(.fldA 3 (.t 3)),(some ((some 24),true))⟩,⟨(some 28),(.load false 1 (.t 27)),(some ((some 24),true))⟩,⟨(some 29),(.bin .eql (.t 26) (.t 28)),(some ((some 24),true))⟩,O 30 (.pick (.t 24) (.t 29) (.v bf)),O 31 (.mov (.t 30)),⟨(some 32),(.fldA 4 (.t 2)),(some ((some 31),true))⟩,⟨(some 33),(.load false 1 (.t 32)),(some ((some 31),true))⟩,⟨(some 34),(.fldA 4 (.t 3)),(some ((some 31),true))⟩,⟨(some 35),(.load false 1 (.t 34)),(some ((some 31),true))⟩,⟨(some 36),(.bin .eql (.t 33) (.t 35)),(some ((some 31),true))⟩,O 37 (.pick (.t 31) (.t 36) (.v bf)),O 38 (.mov (.t 37)),⟨(some 39),(.fldA 5 (.t 2)),(some ((some 38),true))⟩,⟨(some 40),(.load false 1 (.t 39)),(some ((some 38),true))⟩,⟨(some 41),(.fldA 5 (.t 3)),(some ((some 38),true))⟩,⟨(some 42),(.load false 1 (.t 41)),(some ((some 38),true))⟩,⟨(some 43),(.bin .eql (.t 40) (.t 42)),(some ((some 38),true))⟩,O 44 (.pick (.t 38) (.t 43) (.v bf)),O 45 (.mov (.t 44)),⟨(some 46),(.fldA 6 (.t 2)),(some ((some 45),true))⟩,⟨(some 47),(.load false 1 (.t 46)),(some ((some 45),true))⟩,⟨(some 48),(.fldA 6 (.t 3)),(some ((some 45),true))⟩,⟨(some 49),(.load false 1 (.t 48)),(some ((some 45),true))⟩,⟨(some 50),(.bin .eql (.t 47) (.t 49)),(some ((some 45),true))⟩,O 51 (.pick (.t 45) (.t 50) (.v bf)),O 52 (.mov (.t 51)),⟨(some 53),(.fldA 7 (.t 2)),(some ((some 52),true))⟩,⟨(some 54),(.load false 1 (.t 53)),(some ((some 52),true))⟩,⟨(some 55),(.fldA 7 (.t 3)),(some ((some 52),true))⟩,⟨(some 56),(.load false 1 (.t 55)),(some ((some 52),true))⟩,⟨(some 57),(.bin .eql (.t 54) (.t 56)),(some ((some 52),true))⟩,O 58 (.pick (.t 52) (.t 57) (.v bf)),O 59 (.mov (.t 58)),⟨(some 60),(.fldA 8 (.t 2)),(some ((some 59),true))⟩,⟨(some 61),(.load false 1 (.t 60)),(some ((some 59),true))⟩,⟨(some 62),(.fldA 8 (.t 3)),(some ((some 59),true))⟩,⟨(some 63),(.load false 1 (.t 62)),(some ((some 59),true))⟩,⟨(some 64),(.bin .eql (.t 61) (.t 63)),(some ((some 59),true))⟩,O 65 (.pick (.t 59) (.t 64) (.v bf)),O 4 (.mov (.t 65))]) .ret))⟩
def c21:AFn:=⟨22,[(.cell true 9 2)],(.seq (.reg [O 2 (.alloc E24)]) (.seq (.reg [O 4 (.mov (.t 0)),O 5 (.build [(.zsl true),(iz 0),(iz 0),(iz 0),(iz 0),(iz 0),(iz 0),(iz 0),(iz 0)] [(1,(1,(vz 2))),(2,(1,(vz 3))),(3,(1,(vz 4))),(4,(1,(vz 2))),(5,(1,(vz 50))),(6,(1,(vz 2))),(7,(1,(vz 10))),(8,(1,(.t 4)))]),O 3 (.alloc E24),⟨none,(.store 9 (.t 3) (.t 5)),none⟩]) (.seq (.seq (.reg [O 6 (.mov (.t 0)),O 7 (.mov (vz 0))]) (.block 0 (.loop (.seq (.reg [O 8 (.bin .lss (.t 7) (.t 6))]) (.seq (.cond (.t 8) .skip (.exit 0)) (.seq (.block 1 (.reg [O 9 (.fldA 0 (.t 3)),O 10 (.load false 1 (.t 9)),O 11 (.build [(iz 0),(iz 0)] [(0,(1,(vz (-1000)))),(1,(1,(vz (-1000))))]),O 12 (.build [(iz 0),(iz 0)] [(0,(1,(vz 1000))),(1,(1,(vz (-1000))))]),O 13 (.build [(iz 0),(iz 0)] [(0,(1,(vz 1000))),(1,(1,(vz 1000)))]),O 14 (.build [(iz 0),(iz 0)] [(0,(1,(vz (-1000)))),(1,(1,(vz 1000)))]),O 15 (.mkrow E39 4 [(0,(.t 11)),(1,(.t 12)),(2,(.t 13)),(3,(.t 14))]),O 16 (.build [(.zsl true),(iz 0),(iz 0),(iz 0),(iz 0)] [(0,(1,(.t 15))),(1,(1,(vz 1))),(2,(1,(vz 200))),(3,(1,(vz 5))),(4,(1,(vz 100)))]),O 17 (.mkrow E30 1 [(0,(.t 16))]),O 18 (.app E30 (.t 10) (.t 17)),O 19 (.fldA 0 (.t 3)),⟨none,(.store 1 (.t 19) (.t 18)),none⟩])) (.reg [O 20 (.bin .add (.t 7) (vz 1)),O 7 (.mov (.t 20))]))))))) (.seq (.reg [O 21 (.load true 9 (.t 3)),⟨none,(.store 9 (.t 2) (.t 21)),none⟩]) .ret))))⟩
def c22:AFn:=⟨15,[(.tmp 6)],(.seq (.reg [O 6 (.mov (.v bf))]) (.seq (.reg [O 7 (.mov (.t 0)),O 8 (.mov (.t 1)),O 9 (.bin .geq (.t 7) (.t 8)),O 10 (.mov (.t 9)),⟨(some 11),(.mov (.t 0)),(some ((some 10),true))⟩,⟨(some 12),(.mov (.t 2)),(some ((some 10),true))⟩,⟨(some 13),(.bin .leq (.t 11) (.t 12)),(some ((some 10),true))⟩,O 14 (.pick (.t 10) (.t 13) (.v bf)),O 6 (.mov (.t 14))]) .ret))⟩
def c23:AFn:=⟨8,[(.tmp 2)],(.seq (.reg [O 2 (.mov (.v (.zsl true)))]) (.seq (.seq (.reg [O 3 (.mov (.t 0)),O 4 (.eqv false 2 [] (.t 3) (.v (.zsl true)))]) (.cond (.t 4) (.seq (.reg [O 2 (.mov (.v (.zsl true)))]) .ret) .skip)) (.seq (.reg [O 5 (.mkrow E39 0 []),O 6 (.mov (.t 0)),O 7 (.app E39 (.t 5) (.t 6)),O 2 (.mov (.t 7))]) .ret)))⟩
def c24:AFn:=⟨15,[(.tmp 6)],(.seq (.reg [O 6 (.mov (.v bf))]) (.seq (.reg [O 7 (.mov (.t 0)),O 8 (.mov (.t 1)),O 9 (.bin .geq (.t 7) (.t 8)),O 10 (.mov (.t 9)),⟨(some 11),(.mov (.t 0)),(some ((some 10),true))⟩,⟨(some 12),(.mov (.t 2)),(some ((some 10),true))⟩,⟨(some 13),(.bin .leq (.t 11) (.t 12)),(some ((some 10),true))⟩,O 14 (.pick (.t 10) (.t 13) (.v bf)),O 6 (.mov (.t 14))]) .ret))⟩
def c25:AFn:=⟨9,[(.tmp 4)],(.seq (.reg [O 4 (.mov (.v bf))]) (.seq (.reg [O 5 (.mov (.t 0)),O 6 (.mov (.t 1)),O 7 (.call i6 (.v (.fn 35 [] [])) [(.t 5),(.t 6)]),O 8 (.bin .geq (.t 7) (vz 0)),O 4 (.mov (.t 8))]) .ret))⟩
def c26:AFn:=⟨6,[(.tmp 2)],(.seq (.reg [O 1 (.box E30 (.t 0)),O 2 (.mov (.v bf))]) (.seq (.reg [O 3 (.load true 5 (.t 1)),O 4 (.call .b (.v (.fn 16 [] [])) [(.t 3)]),O 5 (.un .not (.t 4)),O 2 (.mov (.t 5))]) .ret))⟩
def c27:AFn:=⟨33,[(.tmp 2)],(.seq (.reg [O 2 (.mov (.v bf))]) (.seq (.regD [((O 3 (.mov (.t 0))),[]),((O 4 (.nilck (.t 3))),[]),((O 5 (.fldA 1 (.t 4))),[]),((O 6 (.load false 1 (.t 5))),[]),((O 7 (.mov (.t 0))),[]),((O 8 (.nilck (.t 7))),[]),((O 9 (.fldA 2 (.t 8))),[]),((O 10 (.load false 1 (.t 9))),[]),((O 11 (.mov (.t 0))),[]),((O 12 (.nilck (.t 11))),[]),((O 13 (.fldA 3 (.t 12))),[]),((O 14 (.load false 1 (.t 13))),[]),((O 15 (.bk .min [(.t 6),(.t 10),(.t 14)])),[]),((O 16 (.call .b (.v (.fn 24 [] [])) [(.t 15),(vz 1),(vz 50)])),[1000000]),((O 17 (.mov (.t 16))),[]),(⟨(some 18),(.mov (.t 0)),(some ((some 17),true))⟩,[]),(⟨(some 19),(.nilck (.t 18)),(some ((some 17),true))⟩,[]),(⟨(some 20),(.fldA 1 (.t 19)),(some ((some 17),true))⟩,[]),(⟨(some 21),(.load false 1 (.t 20)),(some ((some 17),true))⟩,[]),(⟨(some 22),(.mov (.t 0)),(some ((some 17),true))⟩,[]),(⟨(some 23),(.nilck (.t 22)),(some ((some 17),true))⟩,[]),(⟨(some 24),(.fldA 2 (.t 23)),(some ((some 17),true))⟩,[]),(⟨(some 25),(.load false 1 (.t 24)),(some ((some 17),true))⟩,[]),(⟨(some 26),(.mov (.t 0)),(some ((some 17),true))⟩,[]),(⟨(some 27),(.nilck (.t 26)),(some ((some 17),true))⟩,[]),(⟨(some 28),(.fldA 3 (.t 27)),(some ((some 17),true))⟩,[]),(⟨(some 29),(.load false 1 (.t 28)),(some ((some 17),true))⟩,[]),(⟨(some 30),(.bk .max [(.t 21),(.t 25),(.t 29)]),(some ((some 17),true))⟩,[]),(⟨(some 31),(.call .b (.v (.fn 24 [] [])) [(.t 30),(vz 1),(vz 50)]),(some ((some 17),true))⟩,[1000000]),((O 32 (.pick (.t 17) (.t 31) (.v bf))),[]),((O 2 (.mov (.t 32))),[])]) .ret))⟩
def c28:AFn:=⟨15,[(.tmp 6)],(.seq (.reg [O 6 (.mov (.v bf))]) (.seq (.reg [O 7 (.mov (.t 0)),O 8 (.mov (.t 1)),O 9 (.bin .geq (.t 7) (.t 8)),O 10 (.mov (.t 9)),⟨(some 11),(.mov (.t 0)),(some ((some 10),true))⟩,⟨(some 12),(.mov (.t 2)),(some ((some 10),true))⟩,⟨(some 13),(.bin .leq (.t 11) (.t 12)),(some ((some 10),true))⟩,O 14 (.pick (.t 10) (.t 13) (.v bf)),O 6 (.mov (.t 14))]) .ret))⟩
def c30:AFn:=⟨10,[(.tmp 2)],(.seq (.reg [O 2 (.mov (.v bf))]) (.seq (.reg [O 3 (.mov (.t 0)),O 4 (.call .b (.v (.fn 36 [] [])) [(.t 3)]),O 5 (.mov (.t 4)),⟨(some 6),(.mov (.t 0)),(some ((some 5),true))⟩,⟨(some 7),(.call .b (.v (.fn 37 [] [])) [(.t 6),(.v (.fn 38 [] []))]),(some ((some 5),true))⟩,⟨(some 8),(.un .not (.t 7)),(some ((some 5),true))⟩,O 9 (.pick (.t 5) (.t 8) (.v bf)),O 2 (.mov (.t 9))]) .ret))⟩
def c31:AFn:=⟨47,[(.tmp 2)],(.seq (.reg [O 2 (.mov (.v bf))]) (.seq (.seq (.reg [O 3 (.mov (vz 0))]) (.block 0 (.loop (.seq (.seq (.reg [O 4 (.mov (.t 3)),O 5 (.mov (.t 0)),O 6 (.bk .lenV [(.t 5)]),O 7 (.bin .lss (.t 4) (.t 6)),O 8 (.mov (.t 7)),⟨(some 9),(.mov (.t 0)),(some ((some 8),true))⟩,⟨(some 10),(.bk .lenV [(.t 9)]),(some ((some 8),true))⟩,⟨(some 11),(.bin .leq (.t 10) (vz 8)),(some ((some 8),true))⟩,O 12 (.pick (.t 8) (.t 11) (.v bf))]) (.cond (.t 12) .skip (.exit 0))) (.seq (.block 1 (.seq (.reg [O 15 (.mov (.t 0)),O 16 (.mov (.t 3)),O 17 (.ixAS ag2 2 (.t 15) (.t 16)),O 18 (.fldA 0 (.t 17)),O 19 (.load false 1 (.t 18)),O 20 (.bin .lss (.t 19) (vz (-1073741824))),O 21 (.mov (.t 20)),⟨(some 22),(.mov (.t 0)),(some ((some 21),false))⟩,⟨(some 23),(.mov (.t 3)),(some ((some 21),false))⟩,⟨(some 24),(.ixAS ag2 2 (.t 22) (.t 23)),(some ((some 21),false))⟩,⟨(some 25),(.fldA 0 (.t 24)),(some ((some 21),false))⟩,⟨(some 26),(.load false 1 (.t 25)),(some ((some 21),false))⟩,⟨(some 27),(.bin .gtr (.t 26) (vz 1073741824)),(some ((some 21),false))⟩,O 28 (.pick (.t 21) (.v bt) (.t 27)),O 29 (.mov (.t 28)),⟨(some 30),(.mov (.t 0)),(some ((some 29),false))⟩,⟨(some 31),(.mov (.t 3)),(some ((some 29),false))⟩,⟨(some 32),(.ixAS ag2 2 (.t 30) (.t 31)),(some ((some 29),false))⟩,⟨(some 33),(.fldA 1 (.t 32)),(some ((some 29),false))⟩,⟨(some 34),(.load false 1 (.t 33)),(some ((some 29),false))⟩,⟨(some 35),(.bin .lss (.t 34) (vz (-1073741824))),(some ((some 29),false))⟩,O 36 (.pick (.t 29) (.v bt) (.t 35)),O 37 (.mov (.t 36)),⟨(some 38),(.mov (.t 0)),(some ((some 37),false))⟩,⟨(some 39),(.mov (.t 3)),(some ((some 37),false))⟩,⟨(some 40),(.ixAS ag2 2 (.t 38) (.t 39)),(some ((some 37),false))⟩,⟨(some 41),(.fldA 1 (.t 40)),(some ((some 37),false))⟩,⟨(some 42),(.load false 1 (.t 41)),(some ((some 37),false))⟩,⟨(some 43),(.bin .gtr (.t 42) (vz 1073741824)),(some ((some 37),false))⟩,O 44 (.pick (.t 37) (.v bt) (.t 43))]) (.cond (.t 44) (.seq (.reg [O 2 (.mov (.v bf))]) .ret) .skip))) (.reg [O 13 (.mov (.t 3)),O 14 (.bin .add (.t 13) (vz 1)),O 3 (.mov (.t 14))])))))) (.seq (.reg [O 45 (.mov (.t 0)),O 46 (.call .b (.v (.fn 39 [] [])) [(.t 45)]),O 2 (.mov (.t 46))]) .ret)))⟩
def c32:AFn:=⟨8,[(.tmp 2)],(.seq (.reg [O 2 (.mov (.v (.zsl true)))]) (.seq (.seq (.reg [O 3 (.mov (.t 0)),O 4 (.eqv false 2 [] (.t 3) (.v (.zsl true)))]) (.cond (.t 4) (.seq (.reg [O 2 (.mov (.v (.zsl true)))]) .ret) .skip)) (.seq (.reg [O 5 (.mkrow E30 0 []),O 6 (.mov (.t 0)),O 7 (.app E30 (.t 5) (.t 6)),O 2 (.mov (.t 7))]) .ret)))⟩
def c33:AFn:=⟨32,[(.tmp 6)],(.seq (.reg [O 6 (.mov (.v bf))]) (.seq (.seq (.reg [O 10 (.mov (.t 0)),O 11 (.bk .lenV [(.t 10)]),O 12 (.mov (.t 1)),O 13 (.bk .lenV [(.t 12)]),O 14 (.bin .neq (.t 11) (.t 13))]) (.cond (.t 14) (.seq (.reg [O 6 (.mov (.v bf))]) .ret) .skip)) (.seq (.seq (.reg [O 15 (.mov (.t 0)),O 16 (.bk .lenV [(.t 15)]),O 17 (.mov (vz 0))]) (.block 0 (.loop (.seq (.reg [O 18 (.bin .lss (.t 17) (.t 16))]) (.seq (.cond (.t 18) .skip (.exit 0)) (.seq (.block 1 (.seq (.reg [O 19 (.mov (.t 17)),O 20 (.ixAS (.agg [.l,i6,i6,i6,i6]) 5 (.t 15) (.t 17)),O 21 (.load true 5 (.t 20)),O 8 (.alloc E30),O 7 (.mov (.t 19)),⟨none,(.store 5 (.t 8) (.t 21)),none⟩]) (.seq (.reg [O 22 (.mov (.t 1)),O 23 (.mov (.t 7)),O 24 (.ixAS (.agg [.l,i6,i6,i6,i6]) 5 (.t 22) (.t 23)),O 25 (.load true 5 (.t 24)),O 9 (.alloc E30),⟨none,(.store 5 (.t 9) (.t 25)),none⟩]) (.seq (.reg [O 26 (.mov (.t 2)),O 27 (.load true 5 (.t 8)),O 28 (.load true 5 (.t 9)),O 29 (.call .b (.t 26) [(.t 27),(.t 28)]),O 30 (.un .not (.t 29))]) (.cond (.t 30) (.seq (.reg [O 6 (.mov (.v bf))]) .ret) .skip))))) (.reg [O 31 (.bin .add (.t 17) (vz 1)),O 17 (.mov (.t 31))]))))))) (.seq (.reg [O 6 (.mov (.v bt))]) .ret))))⟩
def c34:AFn:=⟨38,[(.tmp 4)],(.seq (.reg [O 2 (.box E30 (.t 0)),O 3 (.box E30 (.t 1)),O 4 (.mov (.v bf))]) (.seq (.reg [O 5 (.fldA 0 (.t 2)),O 6 (.load false 1 (.t 5)),O 7 (.fldA 0 (.t 3)),O 8 (.load false 1 (.t 7)),O 9 (.call .b (.v (.fn 40 [] [])) [(.t 6),(.t 8)]),O 10 (.mov (.t 9)),⟨(some 11),(.fldA 1 (.t 2)),(some ((some 10),true))⟩,⟨(some 12),(.load false 1 (.t 11)),(some ((some 10),true))⟩,⟨(some 13),(.fldA 1 (.t 3)),(some ((some 10),true))⟩,⟨(some 14),(.load false 1 (.t 13)),(some ((some 10),true))⟩,⟨(some 15),(.bin .eql (.t 12) (.t 14)),(some ((some 10),true))⟩,O 16 (.pick (.t 10) (.t 15) (.v bf)),O 17 (.mov (.t 16)),⟨(some 18),(.fldA 2 (.t 2)),(some ((some 17),true))⟩,⟨(some 19),(.load false 1 (.t 18)),(some ((some 17),true))⟩,⟨(some 20),(.fldA 2 (.t 3)),(some ((some 17),true))⟩,⟨(some 21),(.load false 1 (.t 20)),(some ((some 17),true))⟩,⟨(some 22),(.bin .eql (.t 19) (.t 21)),(some ((some 17),true))⟩,O 23 (.pick (.t 17) (.t 22) (.v bf)),O 24 (.mov (.t 23)),⟨(some 25),(.fldA 3 (.t 2)),(some ((some 24),true))⟩,⟨(some 26),(.load false 1 (.t 25)),(some ((some 24),true))⟩,⟨(some 27),(.fldA 3 (.t 3)),(some ((some 24),true))⟩,⟨(some 28),(.load false 1 (.t 27)),(some ((some 24),true))⟩,⟨(some 29),(.bin .eql (.t 26) (.t 28)),(some ((some 24),true))⟩,O 30 (.pick (.t 24) (.t 29) (.v bf)),O 31 (.mov (.t 30)),⟨(some 32),(.fldA 4 (.t 2)),(some ((some 31),true))⟩,⟨(some 33),(.load false 1 (.t 32)),(some ((some 31),true))⟩,⟨(some 34),(.fldA 4 (.t 3)),(some ((some 31),true))⟩,⟨(some 35),(.load false 1 (.t 34)),(some ((some 31),true))⟩,⟨(some 36),(.bin .eql (.t 33) (.t 35)),(some ((some 31),true))⟩,O 37 (.pick (.t 31) (.t 36) (.v bf)),O 4 (.mov (.t 37))]) .ret))⟩
def c35:AFn:=⟨19,[(.tmp 4)],(.seq (.reg [O 4 (.mov (vz 0))]) (.seq (.seq (.reg [O 6 (.mov (.t 0)),O 7 (.bk .lenV [(.t 6)]),O 8 (.mov (vz 0))]) (.block 0 (.loop (.seq (.reg [O 9 (.bin .lss (.t 8) (.t 7))]) (.seq (.cond (.t 9) .skip (.exit 0)) (.seq (.block 1 (.seq (.reg [O 10 (.mov (.t 8)),O 5 (.mov (.t 10))]) (.seq (.reg [O 11 (.mov (.t 1)),O 12 (.mov (.t 0)),O 13 (.mov (.t 5)),O 14 (.ixAS (.agg [.l,i6,i6,i6,i6]) 5 (.t 12) (.t 13)),O 15 (.load true 5 (.t 14)),O 16 (.call .b (.t 11) [(.t 15)])]) (.cond (.t 16) (.seq (.reg [O 17 (.mov (.t 5)),O 4 (.mov (.t 17))]) .ret) .skip)))) (.reg [O 18 (.bin .add (.t 8) (vz 1)),O 8 (.mov (.t 18))]))))))) (.seq (.reg [O 4 (.mov (vz (-1)))]) .ret)))⟩
def c36:AFn:=⟨44,[(.tmp 2)],(.seq (.reg [O 2 (.mov (.v bf))]) (.seq (.reg [O 6 (.mov (.t 0)),O 7 (.bk .lenV [(.t 6)]),O 3 (.mov (.t 7))]) (.seq (.seq (.reg [O 8 (.mov (.t 3)),O 9 (.bin .lss (.t 8) (vz 3)),O 10 (.mov (.t 9)),⟨(some 11),(.mov (.t 3)),(some ((some 10),false))⟩,⟨(some 12),(.bin .gtr (.t 11) (vz 8)),(some ((some 10),false))⟩,O 13 (.pick (.t 10) (.v bt) (.t 12)),O 14 (.mov (.t 13)),⟨(some 15),(.mov (.t 0)),(some ((some 14),false))⟩,⟨(some 16),(.call .b (.v (.fn 37 [] [])) [(.t 15),(.v (.fn 41 [] []))]),(some ((some 14),false))⟩,O 17 (.pick (.t 14) (.v bt) (.t 16))]) (.cond (.t 17) (.seq (.reg [O 2 (.mov (.v bf))]) .ret) .skip)) (.seq (.seq (.reg [O 18 (.mov (.t 3)),O 19 (.mov (vz 0))]) (.block 0 (.loop (.seq (.reg [O 20 (.bin .lss (.t 19) (.t 18))]) (.seq (.cond (.t 20) .skip (.exit 0)) (.seq (.block 1 (.seq (.reg [O 21 (.mov (.t 19)),O 4 (.mov (.t 21))]) (.seq (.reg [O 22 (.mov (.t 4)),O 23 (.mov (vz 0))]) (.block 2 (.loop (.seq (.reg [O 24 (.bin .lss (.t 23) (.t 22))]) (.seq (.cond (.t 24) .skip (.exit 2)) (.seq (.block 3 (.seq (.reg [O 25 (.mov (.t 23)),O 5 (.mov (.t 25))]) (.seq (.regD [((O 26 (.mov (.t 0))),[]),((O 27 (.mov (.t 4))),[]),((O 28 (.ixAS ag2 2 (.t 26) (.t 27))),[]),((O 29 (.load true 2 (.t 28))),[]),((O 30 (.mov (.t 0))),[]),((O 31 (.mov (.t 5))),[]),((O 32 (.ixAS ag2 2 (.t 30) (.t 31))),[]),((O 33 (.load true 2 (.t 32))),[]),((O 34 (.eqv false 4 i62 (.t 29) (.t 33))),[]),((O 35 (.mov (.t 34))),[]),(⟨(some 36),(.mov (.t 0)),(some ((some 35),false))⟩,[]),(⟨(some 37),(.mov (.t 5)),(some ((some 35),false))⟩,[]),(⟨(some 38),(.mov (.t 4)),(some ((some 35),false))⟩,[]),(⟨(some 39),(.call .b (.v (.fn 43 [] [])) [(.t 36),(.t 37),(.t 38)]),(some ((some 35),false))⟩,[1000000]),(⟨(some 40),(.un .not (.t 39)),(some ((some 35),false))⟩,[]),((O 41 (.pick (.t 35) (.v bt) (.t 40))),[])]) (.cond (.t 41) (.seq (.reg [O 2 (.mov (.v bf))]) .ret) .skip)))) (.reg [O 42 (.bin .add (.t 23) (vz 1)),O 23 (.mov (.t 42))]))))))))) (.reg [O 43 (.bin .add (.t 19) (vz 1)),O 19 (.mov (.t 43))]))))))) (.seq (.reg [O 2 (.mov (.v bt))]) .ret)))))⟩
def c37:AFn:=⟨9,[(.tmp 4)],(.seq (.reg [O 4 (.mov (.v bf))]) (.seq (.reg [O 5 (.mov (.t 0)),O 6 (.mov (.t 1)),O 7 (.call i6 (.v (.fn 44 [] [])) [(.t 5),(.t 6)]),O 8 (.bin .geq (.t 7) (vz 0)),O 4 (.mov (.t 8))]) .ret))⟩
def c38:AFn:=⟨15,[(.tmp 2)],(.seq (.reg [O 1 (.box E39 (.t 0)),O 2 (.mov (.v bf))]) (.seq (.reg [O 3 (.fldA 0 (.t 1)),O 4 (.load false 1 (.t 3)),O 5 (.fldA 0 (.t 1)),O 6 (.load false 1 (.t 5)),O 7 (.un .neg (.t 6)),O 8 (.fldA 1 (.t 1)),O 9 (.load false 1 (.t 8)),O 10 (.fldA 1 (.t 1)),O 11 (.load false 1 (.t 10)),O 12 (.un .neg (.t 11)),O 13 (.bk .max [(.t 4),(.t 7),(.t 9),(.t 12)]),O 14 (.bin .gtr (.t 13) (vz 1073741824)),O 2 (.mov (.t 14))]) .ret))⟩
def c39:AFn:=⟨100,[(.tmp 2)],(.seq (.reg [O 2 (.mov (.v bf))]) (.seq (.reg [O 11 (.mov (.t 0)),O 12 (.bk .lenV [(.t 11)]),O 3 (.mov (.t 12))]) (.seq (.seq (.reg [O 13 (.mov (.t 3)),O 14 (.bin .lss (.t 13) (vz 3)),O 15 (.mov (.t 14)),⟨(some 16),(.mov (.t 3)),(some ((some 15),false))⟩,⟨(some 17),(.bin .gtr (.t 16) (vz 8)),(some ((some 15),false))⟩,O 18 (.pick (.t 15) (.v bt) (.t 17))]) (.cond (.t 18) (.seq (.reg [O 2 (.mov (.v bf))]) .ret) .skip)) (.seq (.seq (.reg [O 4 (.mov (vz 0))]) (.block 0 (.loop (.seq (.seq (.reg [O 19 (.mov (.t 4)),O 20 (.mov (.t 3)),O 21 (.bin .lss (.t 19) (.t 20))]) (.cond (.t 21) .skip (.exit 0))) (.seq (.block 1 (.seq (.reg [O 24 (.mov (.t 0)),O 25 (.mov (.t 4)),O 26 (.ixAS ag2 2 (.t 24) (.t 25)),O 27 (.load true 2 (.t 26)),O 28 (.call .b (.v (.fn 45 [] [])) [(.t 27)]),O 29 (.un .not (.t 28))]) (.cond (.t 29) (.seq (.reg [O 2 (.mov (.v bf))]) .ret) .skip))) (.reg [O 22 (.mov (.t 4)),O 23 (.bin .add (.t 22) (vz 1)),O 4 (.mov (.t 23))])))))) (.seq (.seq (.reg [O 5 (.mov (vz 0))]) (.block 2 (.loop (.seq (.seq (.reg [O 30 (.mov (.t 5)),O 31 (.mov (.t 3)),O 32 (.bin .lss (.t 30) (.t 31))]) (.cond (.t 32) .skip (.exit 2))) (.seq (.block 3 (.seq (.reg [O 35 (.mov (.t 5)),O 36 (.bin .add (.t 35) (vz 1)),O 6 (.mov (.t 36))]) (.block 4 (.loop (.seq (.seq (.reg [O 37 (.mov (.t 6)),O 38 (.mov (.t 3)),O 39 (.bin .lss (.t 37) (.t 38))]) (.cond (.t 39) .skip (.exit 4))) (.seq (.block 5 (.seq (.regD [((O 42 (.mov (.t 0))),[]),((O 43 (.mov (.t 5))),[]),((O 44 (.ixAS ag2 2 (.t 42) (.t 43))),[]),((O 45 (.load true 2 (.t 44))),[]),((O 46 (.mov (.t 0))),[]),((O 47 (.mov (.t 5))),[]),((O 48 (.call ag2 (.v (.fn 46 [] [])) [(.t 46),(.t 47)])),[]),((O 49 (.mov (.t 0))),[]),((O 50 (.mov (.t 6))),[]),((O 51 (.ixAS ag2 2 (.t 49) (.t 50))),[]),((O 52 (.load true 2 (.t 51))),[]),((O 53 (.mov (.t 0))),[]),((O 54 (.mov (.t 6))),[]),((O 55 (.call ag2 (.v (.fn 46 [] [])) [(.t 53),(.t 54)])),[]),((O 7 (.alloc E39)),[]),((O 8 (.alloc E39)),[]),((O 9 (.alloc E39)),[]),((O 10 (.alloc E39)),[]),(⟨none,(.store 2 (.t 7) (.t 45)),none⟩,[10]),(⟨none,(.store 2 (.t 8) (.t 48)),none⟩,[10]),(⟨none,(.store 2 (.t 9) (.t 52)),none⟩,[]),(⟨none,(.store 2 (.t 10) (.t 55)),none⟩,[])]) (.block 6 (.seq (.reg [O 57 (.load true 2 (.t 7)),O 58 (.load true 2 (.t 9)),O 59 (.eqv false 4 i62 (.t 57) (.t 58)),O 56 (.mov (.t 59))]) (.cond (.t 56) (.seq (.reg [O 2 (.mov (.v bf))]) .ret) (.seq (.reg [O 61 (.mov (.t 6)),O 62 (.mov (.t 5)),O 63 (.bin .add (.t 62) (vz 1)),O 64 (.bin .eql (.t 61) (.t 63)),O 60 (.mov (.t 64))]) (.cond (.t 60) (.seq (.reg [O 65 (.load true 2 (.t 10)),O 66 (.load true 2 (.t 7)),O 67 (.load true 2 (.t 8)),O 68 (.call .b (.v (.fn 47 [] [])) [(.t 65),(.t 66),(.t 67)]),O 69 (.mov (.t 68)),⟨(some 70),(.load true 2 (.t 7)),(some ((some 69),false))⟩,⟨(some 71),(.load true 2 (.t 9)),(some ((some 69),false))⟩,⟨(some 72),(.load true 2 (.t 10)),(some ((some 69),false))⟩,⟨(some 73),(.call .b (.v (.fn 47 [] [])) [(.t 70),(.t 71),(.t 72)]),(some ((some 69),false))⟩,O 74 (.pick (.t 69) (.v bt) (.t 73))]) (.cond (.t 74) (.seq (.reg [O 2 (.mov (.v bf))]) .ret) .skip)) (.seq (.reg [O 76 (.mov (.t 5)),O 77 (.bin .eql (.t 76) (vz 0)),O 78 (.mov (.t 77)),⟨(some 79),(.mov (.t 6)),(some ((some 78),true))⟩,⟨(some 80),(.mov (.t 3)),(some ((some 78),true))⟩,⟨(some 81),(.bin .sub (.t 80) (vz 1)),(some ((some 78),true))⟩,⟨(some 82),(.bin .eql (.t 79) (.t 81)),(some ((some 78),true))⟩,O 83 (.pick (.t 78) (.t 82) (.v bf)),O 75 (.mov (.t 83))]) (.cond (.t 75) (.seq (.reg [O 84 (.load true 2 (.t 9)),O 85 (.load true 2 (.t 7)),O 86 (.load true 2 (.t 8)),O 87 (.call .b (.v (.fn 47 [] [])) [(.t 84),(.t 85),(.t 86)]),O 88 (.mov (.t 87)),⟨(some 89),(.load true 2 (.t 8)),(some ((some 88),false))⟩,⟨(some 90),(.load true 2 (.t 9)),(some ((some 88),false))⟩,⟨(some 91),(.load true 2 (.t 10)),(some ((some 88),false))⟩,⟨(some 92),(.call .b (.v (.fn 47 [] [])) [(.t 89),(.t 90),(.t 91)]),(some ((some 88),false))⟩,O 93 (.pick (.t 88) (.v bt) (.t 92))]) (.cond (.t 93) (.seq (.reg [O 2 (.mov (.v bf))]) .ret) .skip)) (.seq (.reg [O 95 (.load true 2 (.t 7)),O 96 (.load true 2 (.t 8)),O 97 (.load true 2 (.t 9)),O 98 (.load true 2 (.t 10)),O 99 (.call .b (.v (.fn 48 [] [])) [(.t 95),(.t 96),(.t 97),(.t 98)]),O 94 (.mov (.t 99))]) (.cond (.t 94) (.seq (.reg [O 2 (.mov (.v bf))]) .ret) .skip))))))))))) (.reg [O 40 (.mov (.t 6)),O 41 (.bin .add (.t 40) (vz 1)),O 6 (.mov (.t 41))]))))))) (.reg [O 33 (.mov (.t 5)),O 34 (.bin .add (.t 33) (vz 1)),O 5 (.mov (.t 34))])))))) (.seq (.reg [O 2 (.mov (.v bt))]) .ret))))))⟩
def c40:AFn:=⟨26,[(.tmp 4)],(.seq (.reg [O 4 (.mov (.v bf))]) (.seq (.seq (.reg [O 6 (.mov (.t 0)),O 7 (.bk .lenV [(.t 6)]),O 8 (.mov (.t 1)),O 9 (.bk .lenV [(.t 8)]),O 10 (.bin .neq (.t 7) (.t 9))]) (.cond (.t 10) (.seq (.reg [O 4 (.mov (.v bf))]) .ret) .skip)) (.seq (.seq (.reg [O 11 (.mov (.t 0)),O 12 (.bk .lenV [(.t 11)]),O 13 (.mov (vz 0))]) (.block 0 (.loop (.seq (.reg [O 14 (.bin .lss (.t 13) (.t 12))]) (.seq (.cond (.t 14) .skip (.exit 0)) (.seq (.block 1 (.seq (.reg [O 15 (.mov (.t 13)),O 5 (.mov (.t 15))]) (.seq (.regD [((O 16 (.mov (.t 0))),[]),((O 17 (.mov (.t 5))),[]),((O 18 (.ixAS ag2 2 (.t 16) (.t 17))),[]),((O 19 (.load true 2 (.t 18))),[]),((O 20 (.mov (.t 1))),[]),((O 21 (.mov (.t 5))),[]),((O 22 (.ixAS ag2 2 (.t 20) (.t 21))),[]),((O 23 (.load true 2 (.t 22))),[]),((O 24 (.eqv true 4 i62 (.t 19) (.t 23))),[])]) (.cond (.t 24) (.seq (.reg [O 4 (.mov (.v bf))]) .ret) .skip)))) (.reg [O 25 (.bin .add (.t 13) (vz 1)),O 13 (.mov (.t 25))]))))))) (.seq (.reg [O 4 (.mov (.v bt))]) .ret))))⟩
def c41:AFn:=⟨6,[(.tmp 2)],(.seq (.reg [O 1 (.box E39 (.t 0)),O 2 (.mov (.v bf))]) (.seq (.reg [O 3 (.load true 2 (.t 1)),O 4 (.call .b (.v (.fn 42 [] [])) [(.t 3)]),O 5 (.un .not (.t 4)),O 2 (.mov (.t 5))]) .ret))⟩
def c42:AFn:=⟨11,[(.tmp 2)],(.seq (.reg [O 1 (.box E39 (.t 0)),O 2 (.mov (.v bf))]) (.seq (.reg [O 3 (.fldA 0 (.t 1)),O 4 (.load false 1 (.t 3)),O 5 (.call .b (.v (.fn 49 [] [])) [(.t 4)]),O 6 (.mov (.t 5)),⟨(some 7),(.fldA 1 (.t 1)),(some ((some 6),true))⟩,⟨(some 8),(.load false 1 (.t 7)),(some ((some 6),true))⟩,⟨(some 9),(.call .b (.v (.fn 49 [] [])) [(.t 8)]),(some ((some 6),true))⟩,O 10 (.pick (.t 6) (.t 9) (.v bf)),O 2 (.mov (.t 10))]) .ret))⟩
def c43:AFn:=⟨70,[(.tmp 6)],(.seq (.reg [O 6 (.mov (.v bf))]) (.seq (.reg [O 12 (.mov (.t 0)),O 13 (.bk .lenV [(.t 12)]),O 7 (.mov (.t 13))]) (.seq (.reg [O 15 (.mov (.t 0)),O 16 (.mov (.t 1)),O 17 (.call (.tup [ag2,ag2]) (.v (.fn 50 [] [])) [(.t 15),(.t 16)]),O 14 (.mov (.t 17)),O 18 (.extr (.t 14) 0),O 19 (.extr (.t 14) 1),O 8 (.alloc E39),O 9 (.alloc E39),⟨none,(.store 2 (.t 8) (.t 18)),none⟩,⟨none,(.store 2 (.t 9) (.t 19)),none⟩]) (.seq (.reg [O 21 (.mov (.t 0)),O 22 (.mov (.t 2)),O 23 (.call (.tup [ag2,ag2]) (.v (.fn 50 [] [])) [(.t 21),(.t 22)]),O 20 (.mov (.t 23)),O 24 (.extr (.t 20) 0),O 25 (.extr (.t 20) 1),O 10 (.alloc E39),O 11 (.alloc E39),⟨none,(.store 2 (.t 10) (.t 24)),none⟩,⟨none,(.store 2 (.t 11) (.t 25)),none⟩]) (.seq (.block 0 (.seq (.reg [O 27 (.mov (.t 1)),O 28 (.bin .add (.t 27) (vz 1)),O 29 (.mov (.t 7)),O 30 (.bin .rem (.t 28) (.t 29)),O 31 (.mov (.t 2)),O 32 (.bin .eql (.t 30) (.t 31)),O 26 (.mov (.t 32))]) (.cond (.t 26) (.seq (.reg [O 33 (.load true 2 (.t 11)),O 34 (.load true 2 (.t 8)),O 35 (.load true 2 (.t 9)),O 36 (.call .b (.v (.fn 51 [] [])) [(.t 33),(.t 34),(.t 35)]),O 37 (.un .not (.t 36)),O 38 (.mov (.t 37)),⟨(some 39),(.load true 2 (.t 8)),(some ((some 38),true))⟩,⟨(some 40),(.load true 2 (.t 10)),(some ((some 38),true))⟩,⟨(some 41),(.load true 2 (.t 11)),(some ((some 38),true))⟩,⟨(some 42),(.call .b (.v (.fn 51 [] [])) [(.t 39),(.t 40),(.t 41)]),(some ((some 38),true))⟩,⟨(some 43),(.un .not (.t 42)),(some ((some 38),true))⟩,O 44 (.pick (.t 38) (.t 43) (.v bf)),O 6 (.mov (.t 44))]) .ret) (.seq (.reg [O 46 (.mov (.t 2)),O 47 (.bin .add (.t 46) (vz 1)),O 48 (.mov (.t 7)),O 49 (.bin .rem (.t 47) (.t 48)),O 50 (.mov (.t 1)),O 51 (.bin .eql (.t 49) (.t 50)),O 45 (.mov (.t 51))]) (.cond (.t 45) (.seq (.reg [O 52 (.load true 2 (.t 10)),O 53 (.load true 2 (.t 8)),O 54 (.load true 2 (.t 9)),O 55 (.call .b (.v (.fn 51 [] [])) [(.t 52),(.t 53),(.t 54)]),O 56 (.un .not (.t 55)),O 57 (.mov (.t 56)),⟨(some 58),(.load true 2 (.t 9)),(some ((some 57),true))⟩,⟨(some 59),(.load true 2 (.t 10)),(some ((some 57),true))⟩,⟨(some 60),(.load true 2 (.t 11)),(some ((some 57),true))⟩,⟨(some 61),(.call .b (.v (.fn 51 [] [])) [(.t 58),(.t 59),(.t 60)]),(some ((some 57),true))⟩,⟨(some 62),(.un .not (.t 61)),(some ((some 57),true))⟩,O 63 (.pick (.t 57) (.t 62) (.v bf)),O 6 (.mov (.t 63))]) .ret) .skip))))) (.seq (.reg [O 64 (.load true 2 (.t 8)),O 65 (.load true 2 (.t 9)),O 66 (.load true 2 (.t 10)),O 67 (.load true 2 (.t 11)),O 68 (.call .b (.v (.fn 52 [] [])) [(.t 64),(.t 65),(.t 66),(.t 67)]),O 69 (.un .not (.t 68)),O 6 (.mov (.t 69))]) .ret))))))⟩
def c44:AFn:=⟨19,[(.tmp 4)],(.seq (.reg [O 4 (.mov (vz 0))]) (.seq (.seq (.reg [O 6 (.mov (.t 0)),O 7 (.bk .lenV [(.t 6)]),O 8 (.mov (vz 0))]) (.block 0 (.loop (.seq (.reg [O 9 (.bin .lss (.t 8) (.t 7))]) (.seq (.cond (.t 9) .skip (.exit 0)) (.seq (.block 1 (.seq (.reg [O 10 (.mov (.t 8)),O 5 (.mov (.t 10))]) (.seq (.reg [O 11 (.mov (.t 1)),O 12 (.mov (.t 0)),O 13 (.mov (.t 5)),O 14 (.ixAS ag2 2 (.t 12) (.t 13)),O 15 (.load true 2 (.t 14)),O 16 (.call .b (.t 11) [(.t 15)])]) (.cond (.t 16) (.seq (.reg [O 17 (.mov (.t 5)),O 4 (.mov (.t 17))]) .ret) .skip)))) (.reg [O 18 (.bin .add (.t 8) (vz 1)),O 8 (.mov (.t 18))]))))))) (.seq (.reg [O 4 (.mov (vz (-1)))]) .ret)))⟩
def c45:AFn:=⟨21,[(.tmp 2)],(.seq (.reg [O 1 (.box E39 (.t 0)),O 2 (.mov (.v bf))]) (.seq (.reg [O 3 (.fldA 0 (.t 1)),O 4 (.load false 1 (.t 3)),O 5 (.bin .geq (.t 4) (vz (-1099511627776))),O 6 (.mov (.t 5)),⟨(some 7),(.fldA 0 (.t 1)),(some ((some 6),true))⟩,⟨(some 8),(.load false 1 (.t 7)),(some ((some 6),true))⟩,⟨(some 9),(.bin .leq (.t 8) (vz 1099511627776)),(some ((some 6),true))⟩,O 10 (.pick (.t 6) (.t 9) (.v bf)),O 11 (.mov (.t 10)),⟨(some 12),(.fldA 1 (.t 1)),(some ((some 11),true))⟩,⟨(some 13),(.load false 1 (.t 12)),(some ((some 11),true))⟩,⟨(some 14),(.bin .geq (.t 13) (vz (-1099511627776))),(some ((some 11),true))⟩,O 15 (.pick (.t 11) (.t 14) (.v bf)),O 16 (.mov (.t 15)),⟨(some 17),(.fldA 1 (.t 1)),(some ((some 16),true))⟩,⟨(some 18),(.load false 1 (.t 17)),(some ((some 16),true))⟩,⟨(some 19),(.bin .leq (.t 18) (vz 1099511627776)),(some ((some 16),true))⟩,O 20 (.pick (.t 16) (.t 19) (.v bf)),O 2 (.mov (.t 20))]) .ret))⟩
def c46:AFn:=⟨13,[(.cell true 2 4)],(.seq (.reg [O 4 (.alloc E39)]) (.seq (.reg [O 5 (.mov (.t 0)),O 6 (.mov (.t 1)),O 7 (.bin .add (.t 6) (vz 1)),O 8 (.mov (.t 0)),O 9 (.bk .lenV [(.t 8)]),O 10 (.bin .rem (.t 7) (.t 9)),O 11 (.ixAS ag2 2 (.t 5) (.t 10)),O 12 (.load true 2 (.t 11)),⟨none,(.store 2 (.t 4) (.t 12)),none⟩]) .ret))⟩
def c47:AFn:=⟨65,[(.tmp 6)],(.seq (.reg [O 3 (.box E39 (.t 0)),O 4 (.box E39 (.t 1)),O 5 (.box E39 (.t 2)),O 6 (.mov (.v bf))]) (.seq (.seq (.reg [O 7 (.load true 2 (.t 4)),O 8 (.call .b (.v (.fn 45 [] [])) [(.t 7)]),O 9 (.un .not (.t 8)),O 10 (.mov (.t 9)),⟨(some 11),(.load true 2 (.t 5)),(some ((some 10),false))⟩,⟨(some 12),(.call .b (.v (.fn 45 [] [])) [(.t 11)]),(some ((some 10),false))⟩,⟨(some 13),(.un .not (.t 12)),(some ((some 10),false))⟩,O 14 (.pick (.t 10) (.v bt) (.t 13)),O 15 (.mov (.t 14)),⟨(some 16),(.load true 2 (.t 3)),(some ((some 15),false))⟩,⟨(some 17),(.call .b (.v (.fn 45 [] [])) [(.t 16)]),(some ((some 15),false))⟩,⟨(some 18),(.un .not (.t 17)),(some ((some 15),false))⟩,O 19 (.pick (.t 15) (.v bt) (.t 18)),O 20 (.mov (.t 19)),⟨(some 21),(.load true 2 (.t 4)),(some ((some 20),false))⟩,⟨(some 22),(.load true 2 (.t 5)),(some ((some 20),false))⟩,⟨(some 23),(.load true 2 (.t 3)),(some ((some 20),false))⟩,⟨(some 24),(.call i6 (.v (.fn 53 [] [])) [(.t 21),(.t 22),(.t 23)]),(some ((some 20),false))⟩,⟨(some 25),(.bin .neq (.t 24) (vz 0)),(some ((some 20),false))⟩,O 26 (.pick (.t 20) (.v bt) (.t 25))]) (.cond (.t 26) (.seq (.reg [O 6 (.mov (.v bf))]) .ret) .skip)) (.seq (.reg [O 27 (.fldA 0 (.t 3)),O 28 (.load false 1 (.t 27)),O 29 (.fldA 0 (.t 4)),O 30 (.load false 1 (.t 29)),O 31 (.fldA 0 (.t 5)),O 32 (.load false 1 (.t 31)),O 33 (.bk .min [(.t 30),(.t 32)]),O 34 (.bin .geq (.t 28) (.t 33)),O 35 (.mov (.t 34)),⟨(some 36),(.fldA 0 (.t 3)),(some ((some 35),true))⟩,⟨(some 37),(.load false 1 (.t 36)),(some ((some 35),true))⟩,⟨(some 38),(.fldA 0 (.t 4)),(some ((some 35),true))⟩,⟨(some 39),(.load false 1 (.t 38)),(some ((some 35),true))⟩,⟨(some 40),(.fldA 0 (.t 5)),(some ((some 35),true))⟩,⟨(some 41),(.load false 1 (.t 40)),(some ((some 35),true))⟩,⟨(some 42),(.bk .max [(.t 39),(.t 41)]),(some ((some 35),true))⟩,⟨(some 43),(.bin .leq (.t 37) (.t 42)),(some ((some 35),true))⟩,O 44 (.pick (.t 35) (.t 43) (.v bf)),O 45 (.mov (.t 44)),⟨(some 46),(.fldA 1 (.t 3)),(some ((some 45),true))⟩,⟨(some 47),(.load false 1 (.t 46)),(some ((some 45),true))⟩,⟨(some 48),(.fldA 1 (.t 4)),(some ((some 45),true))⟩,⟨(some 49),(.load false 1 (.t 48)),(some ((some 45),true))⟩,⟨(some 50),(.fldA 1 (.t 5)),(some ((some 45),true))⟩,⟨(some 51),(.load false 1 (.t 50)),(some ((some 45),true))⟩,⟨(some 52),(.bk .min [(.t 49),(.t 51)]),(some ((some 45),true))⟩,⟨(some 53),(.bin .geq (.t 47) (.t 52)),(some ((some 45),true))⟩,O 54 (.pick (.t 45) (.t 53) (.v bf)),O 55 (.mov (.t 54)),⟨(some 56),(.fldA 1 (.t 3)),(some ((some 55),true))⟩,⟨(some 57),(.load false 1 (.t 56)),(some ((some 55),true))⟩,⟨(some 58),(.fldA 1 (.t 4)),(some ((some 55),true))⟩,⟨(some 59),(.load false 1 (.t 58)),(some ((some 55),true))⟩,⟨(some 60),(.fldA 1 (.t 5)),(some ((some 55),true))⟩,⟨(some 61),(.load false 1 (.t 60)),(some ((some 55),true))⟩,⟨(some 62),(.bk .max [(.t 59),(.t 61)]),(some ((some 55),true))⟩,⟨(some 63),(.bin .leq (.t 57) (.t 62)),(some ((some 55),true))⟩,O 64 (.pick (.t 55) (.t 63) (.v bf)),O 6 (.mov (.t 64))]) .ret)))⟩
def c48:AFn:=⟨71,[(.tmp 8)],(.seq (.reg [O 4 (.box E39 (.t 0)),O 5 (.box E39 (.t 1)),O 6 (.box E39 (.t 2)),O 7 (.box E39 (.t 3)),O 8 (.mov (.v bf))]) (.seq (.seq (.reg [O 9 (.load true 2 (.t 4)),O 10 (.call .b (.v (.fn 45 [] [])) [(.t 9)]),O 11 (.un .not (.t 10)),O 12 (.mov (.t 11)),⟨(some 13),(.load true 2 (.t 5)),(some ((some 12),false))⟩,⟨(some 14),(.call .b (.v (.fn 45 [] [])) [(.t 13)]),(some ((some 12),false))⟩,⟨(some 15),(.un .not (.t 14)),(some ((some 12),false))⟩,O 16 (.pick (.t 12) (.v bt) (.t 15)),O 17 (.mov (.t 16)),⟨(some 18),(.load true 2 (.t 6)),(some ((some 17),false))⟩,⟨(some 19),(.call .b (.v (.fn 45 [] [])) [(.t 18)]),(some ((some 17),false))⟩,⟨(some 20),(.un .not (.t 19)),(some ((some 17),false))⟩,O 21 (.pick (.t 17) (.v bt) (.t 20)),O 22 (.mov (.t 21)),⟨(some 23),(.load true 2 (.t 7)),(some ((some 22),false))⟩,⟨(some 24),(.call .b (.v (.fn 45 [] [])) [(.t 23)]),(some ((some 22),false))⟩,⟨(some 25),(.un .not (.t 24)),(some ((some 22),false))⟩,O 26 (.pick (.t 22) (.v bt) (.t 25))]) (.cond (.t 26) (.seq (.reg [O 8 (.mov (.v bf))]) .ret) .skip)) (.seq (.seq (.reg [O 27 (.load true 2 (.t 4)),O 28 (.load true 2 (.t 6)),O 29 (.load true 2 (.t 7)),O 30 (.call .b (.v (.fn 47 [] [])) [(.t 27),(.t 28),(.t 29)]),O 31 (.mov (.t 30)),⟨(some 32),(.load true 2 (.t 5)),(some ((some 31),false))⟩,⟨(some 33),(.load true 2 (.t 6)),(some ((some 31),false))⟩,⟨(some 34),(.load true 2 (.t 7)),(some ((some 31),false))⟩,⟨(some 35),(.call .b (.v (.fn 47 [] [])) [(.t 32),(.t 33),(.t 34)]),(some ((some 31),false))⟩,O 36 (.pick (.t 31) (.v bt) (.t 35)),O 37 (.mov (.t 36)),⟨(some 38),(.load true 2 (.t 6)),(some ((some 37),false))⟩,⟨(some 39),(.load true 2 (.t 4)),(some ((some 37),false))⟩,⟨(some 40),(.load true 2 (.t 5)),(some ((some 37),false))⟩,⟨(some 41),(.call .b (.v (.fn 47 [] [])) [(.t 38),(.t 39),(.t 40)]),(some ((some 37),false))⟩,O 42 (.pick (.t 37) (.v bt) (.t 41)),O 43 (.mov (.t 42)),⟨(some 44),(.load true 2 (.t 7)),(some ((some 43),false))⟩,⟨(some 45),(.load true 2 (.t 4)),(some ((some 43),false))⟩,⟨(some 46),(.load true 2 (.t 5)),(some ((some 43),false))⟩,⟨(some 47),(.call .b (.v (.fn 47 [] [])) [(.t 44),(.t 45),(.t 46)]),(some ((some 43),false))⟩,O 48 (.pick (.t 43) (.v bt) (.t 47))]) (.cond (.t 48) (.seq (.reg [O 8 (.mov (.v bt))]) .ret) .skip)) (.seq (.regD [((O 49 (.load true 2 (.t 4))),[]),((O 50 (.load true 2 (.t 5))),[]),((O 51 (.load true 2 (.t 6))),[]),((O 52 (.call i6 (.v (.fn 53 [] [])) [(.t 49),(.t 50),(.t 51)])),[]),((O 53 (.load true 2 (.t 4))),[]),((O 54 (.load true 2 (.t 5))),[]),((O 55 (.load true 2 (.t 7))),[]),((O 56 (.call i6 (.v (.fn 53 [] [])) [(.t 53),(.t 54),(.t 55)])),[1000000]),((O 57 (.bin .mul (.t 52) (.t 56))),[]),((O 58 (.bin .lss (.t 57) (vz 0))),[]),((O 59 (.mov (.t 58))),[]),(⟨(some 60),(.load true 2 (.t 6)),(some ((some 59),true))⟩,[]),(⟨(some 61),(.load true 2 (.t 7)),(some ((some 59),true))⟩,[]),(⟨(some 62),(.load true 2 (.t 4)),(some ((some 59),true))⟩,[]),(⟨(some 63),(.call i6 (.v (.fn 53 [] [])) [(.t 60),(.t 61),(.t 62)]),(some ((some 59),true))⟩,[]),(⟨(some 64),(.load true 2 (.t 6)),(some ((some 59),true))⟩,[]),(⟨(some 65),(.load true 2 (.t 7)),(some ((some 59),true))⟩,[]),(⟨(some 66),(.load true 2 (.t 5)),(some ((some 59),true))⟩,[]),(⟨(some 67),(.call i6 (.v (.fn 53 [] [])) [(.t 64),(.t 65),(.t 66)]),(some ((some 59),true))⟩,[1000000]),(⟨(some 68),(.bin .mul (.t 63) (.t 67)),(some ((some 59),true))⟩,[]),(⟨(some 69),(.bin .lss (.t 68) (vz 0)),(some ((some 59),true))⟩,[]),((O 70 (.pick (.t 59) (.t 69) (.v bf))),[]),((O 8 (.mov (.t 70))),[])]) .ret))))⟩
def c49:AFn:=⟨9,[(.tmp 2)],(.seq (.reg [O 2 (.mov (.v bf))]) (.seq (.reg [O 3 (.mov (.t 0)),O 4 (.bin .geq (.t 3) (vz (-1099511627776))),O 5 (.mov (.t 4)),⟨(some 6),(.mov (.t 0)),(some ((some 5),true))⟩,⟨(some 7),(.bin .leq (.t 6) (vz 1099511627776)),(some ((some 5),true))⟩,O 8 (.pick (.t 5) (.t 7) (.v bf)),O 2 (.mov (.t 8))]) .ret))⟩
def c50:AFn:=⟨18,[(.cell true 2 4),(.cell true 2 5)],(.seq (.reg [O 4 (.alloc E39),O 5 (.alloc E39)]) (.seq (.regD [((O 6 (.mov (.t 0))),[]),((O 7 (.mov (.t 1))),[]),((O 8 (.ixAS ag2 2 (.t 6) (.t 7))),[]),((O 9 (.load true 2 (.t 8))),[]),((O 10 (.mov (.t 0))),[]),((O 11 (.mov (.t 1))),[]),((O 12 (.bin .add (.t 11) (vz 1))),[]),((O 13 (.mov (.t 0))),[]),((O 14 (.bk .lenV [(.t 13)])),[]),((O 15 (.bin .rem (.t 12) (.t 14))),[]),((O 16 (.ixAS ag2 2 (.t 10) (.t 15))),[]),((O 17 (.load true 2 (.t 16))),[]),(⟨none,(.store 2 (.t 4) (.t 9)),none⟩,[11]),(⟨none,(.store 2 (.t 5) (.t 17)),none⟩,[])]) .ret))⟩
def c51:AFn:=⟨37,[(.tmp 6)],(.seq (.reg [O 3 (.box E39 (.t 0)),O 4 (.box E39 (.t 1)),O 5 (.box E39 (.t 2)),O 6 (.mov (.v bf))]) (.seq (.reg [O 7 (.load true 2 (.t 3)),O 8 (.load true 2 (.t 4)),O 9 (.load true 2 (.t 5)),O 10 (.mkrow E39 3 [(0,(.t 7)),(1,(.t 8)),(2,(.t 9))]),O 11 (.call .b (.v (.fn 54 [] [])) [(.t 10)]),O 12 (.mov (.t 11)),⟨(some 13),(.load true 2 (.t 4)),(some ((some 12),true))⟩,⟨(some 14),(.load true 2 (.t 5)),(some ((some 12),true))⟩,⟨(some 15),(.load true 2 (.t 3)),(some ((some 12),true))⟩,⟨(some 16),(.call i6 (.v (.fn 55 [] [])) [(.t 13),(.t 14),(.t 15)]),(some ((some 12),true))⟩,⟨(some 17),(.bin .eql (.t 16) (vz 0)),(some ((some 12),true))⟩,O 18 (.pick (.t 12) (.t 17) (.v bf)),O 19 (.mov (.t 18)),⟨(some 20),(.fldA 0 (.t 3)),(some ((some 19),true))⟩,⟨(some 21),(.load false 1 (.t 20)),(some ((some 19),true))⟩,⟨(some 22),(.fldA 0 (.t 4)),(some ((some 19),true))⟩,⟨(some 23),(.load false 1 (.t 22)),(some ((some 19),true))⟩,⟨(some 24),(.fldA 0 (.t 5)),(some ((some 19),true))⟩,⟨(some 25),(.load false 1 (.t 24)),(some ((some 19),true))⟩,⟨(some 26),(.call .b (.v (.fn 56 [] [])) [(.t 21),(.t 23),(.t 25)]),(some ((some 19),true))⟩,O 27 (.pick (.t 19) (.t 26) (.v bf)),O 28 (.mov (.t 27)),⟨(some 29),(.fldA 1 (.t 3)),(some ((some 28),true))⟩,⟨(some 30),(.load false 1 (.t 29)),(some ((some 28),true))⟩,⟨(some 31),(.fldA 1 (.t 4)),(some ((some 28),true))⟩,⟨(some 32),(.load false 1 (.t 31)),(some ((some 28),true))⟩,⟨(some 33),(.fldA 1 (.t 5)),(some ((some 28),true))⟩,⟨(some 34),(.load false 1 (.t 33)),(some ((some 28),true))⟩,⟨(some 35),(.call .b (.v (.fn 56 [] [])) [(.t 30),(.t 32),(.t 34)]),(some ((some 28),true))⟩,O 36 (.pick (.t 28) (.t 35) (.v bf)),O 6 (.mov (.t 36))]) .ret))⟩
def c52:AFn:=⟨56,[(.tmp 8)],(.seq (.reg [O 4 (.box E39 (.t 0)),O 5 (.box E39 (.t 1)),O 6 (.box E39 (.t 2)),O 7 (.box E39 (.t 3)),O 8 (.mov (.v bf))]) (.seq (.block 0 (.seq (.reg [O 10 (.load true 2 (.t 4)),O 11 (.load true 2 (.t 5)),O 12 (.load true 2 (.t 6)),O 13 (.load true 2 (.t 7)),O 14 (.mkrow E39 4 [(0,(.t 10)),(1,(.t 11)),(2,(.t 12)),(3,(.t 13))]),O 15 (.call .b (.v (.fn 54 [] [])) [(.t 14)]),O 16 (.un .not (.t 15)),O 9 (.mov (.t 16))]) (.cond (.t 9) (.seq (.reg [O 8 (.mov (.v bf))]) .ret) (.seq (.seq (.reg [O 18 (.load true 2 (.t 4)),O 19 (.load true 2 (.t 6)),O 20 (.load true 2 (.t 7)),O 21 (.call .b (.v (.fn 51 [] [])) [(.t 18),(.t 19),(.t 20)]),O 17 (.mov (.t 21))]) (.cond (.t 17) .skip (.seq (.reg [O 22 (.load true 2 (.t 5)),O 23 (.load true 2 (.t 6)),O 24 (.load true 2 (.t 7)),O 25 (.call .b (.v (.fn 51 [] [])) [(.t 22),(.t 23),(.t 24)]),O 17 (.mov (.t 25))]) (.cond (.t 17) .skip (.seq (.reg [O 26 (.load true 2 (.t 6)),O 27 (.load true 2 (.t 4)),O 28 (.load true 2 (.t 5)),O 29 (.call .b (.v (.fn 51 [] [])) [(.t 26),(.t 27),(.t 28)]),O 17 (.mov (.t 29))]) (.cond (.t 17) .skip (.reg [O 30 (.load true 2 (.t 7)),O 31 (.load true 2 (.t 4)),O 32 (.load true 2 (.t 5)),O 33 (.call .b (.v (.fn 51 [] [])) [(.t 30),(.t 31),(.t 32)]),O 17 (.mov (.t 33))]))))))) (.cond (.t 17) (.seq (.reg [O 8 (.mov (.v bt))]) .ret) .skip))))) (.seq (.regD [((O 34 (.load true 2 (.t 4))),[]),((O 35 (.load true 2 (.t 5))),[]),((O 36 (.load true 2 (.t 6))),[]),((O 37 (.call i6 (.v (.fn 55 [] [])) [(.t 34),(.t 35),(.t 36)])),[]),((O 38 (.load true 2 (.t 4))),[]),((O 39 (.load true 2 (.t 5))),[]),((O 40 (.load true 2 (.t 7))),[]),((O 41 (.call i6 (.v (.fn 55 [] [])) [(.t 38),(.t 39),(.t 40)])),[1000000]),((O 42 (.bin .mul (.t 37) (.t 41))),[]),((O 43 (.bin .lss (.t 42) (vz 0))),[]),((O 44 (.mov (.t 43))),[]),(⟨(some 45),(.load true 2 (.t 6)),(some ((some 44),true))⟩,[]),(⟨(some 46),(.load true 2 (.t 7)),(some ((some 44),true))⟩,[]),(⟨(some 47),(.load true 2 (.t 4)),(some ((some 44),true))⟩,[]),(⟨(some 48),(.call i6 (.v (.fn 55 [] [])) [(.t 45),(.t 46),(.t 47)]),(some ((some 44),true))⟩,[]),(⟨(some 49),(.load true 2 (.t 6)),(some ((some 44),true))⟩,[]),(⟨(some 50),(.load true 2 (.t 7)),(some ((some 44),true))⟩,[]),(⟨(some 51),(.load true 2 (.t 5)),(some ((some 44),true))⟩,[]),(⟨(some 52),(.call i6 (.v (.fn 55 [] [])) [(.t 49),(.t 50),(.t 51)]),(some ((some 44),true))⟩,[1000000]),(⟨(some 53),(.bin .mul (.t 48) (.t 52)),(some ((some 44),true))⟩,[]),(⟨(some 54),(.bin .lss (.t 53) (vz 0)),(some ((some 44),true))⟩,[]),((O 55 (.pick (.t 44) (.t 54) (.v bf))),[]),((O 8 (.mov (.t 55))),[])]) .ret)))⟩
def c53:AFn:=⟨43,[(.tmp 6)],(.seq (.reg [O 3 (.box E39 (.t 0)),O 4 (.box E39 (.t 1)),O 5 (.box E39 (.t 2)),O 6 (.mov (vz 0))]) (.seq (.seq (.reg [O 7 (.load true 2 (.t 3)),O 8 (.call .b (.v (.fn 45 [] [])) [(.t 7)]),O 9 (.un .not (.t 8)),O 10 (.mov (.t 9)),⟨(some 11),(.load true 2 (.t 4)),(some ((some 10),false))⟩,⟨(some 12),(.call .b (.v (.fn 45 [] [])) [(.t 11)]),(some ((some 10),false))⟩,⟨(some 13),(.un .not (.t 12)),(some ((some 10),false))⟩,O 14 (.pick (.t 10) (.v bt) (.t 13)),O 15 (.mov (.t 14)),⟨(some 16),(.load true 2 (.t 5)),(some ((some 15),false))⟩,⟨(some 17),(.call .b (.v (.fn 45 [] [])) [(.t 16)]),(some ((some 15),false))⟩,⟨(some 18),(.un .not (.t 17)),(some ((some 15),false))⟩,O 19 (.pick (.t 15) (.v bt) (.t 18))]) (.cond (.t 19) (.seq (.reg [O 6 (.mov (vz 0))]) .ret) .skip)) (.seq (.regD [((O 20 (.fldA 0 (.t 4))),[]),((O 21 (.load false 1 (.t 20))),[]),((O 22 (.fldA 0 (.t 3))),[]),((O 23 (.load false 1 (.t 22))),[]),((O 24 (.bin .sub (.t 21) (.t 23))),[]),((O 25 (.fldA 1 (.t 5))),[]),((O 26 (.load false 1 (.t 25))),[]),((O 27 (.fldA 1 (.t 3))),[]),((O 28 (.load false 1 (.t 27))),[]),((O 29 (.bin .sub (.t 26) (.t 28))),[]),((O 30 (.call (.agg [i6,(.i .u64)]) (.v (.fn 58 [] [])) [(.t 24),(.t 29)])),[]),((O 31 (.fldA 1 (.t 4))),[]),((O 32 (.load false 1 (.t 31))),[]),((O 33 (.fldA 1 (.t 3))),[]),((O 34 (.load false 1 (.t 33))),[]),((O 35 (.bin .sub (.t 32) (.t 34))),[]),((O 36 (.fldA 0 (.t 5))),[]),((O 37 (.load false 1 (.t 36))),[]),((O 38 (.fldA 0 (.t 3))),[]),((O 39 (.load false 1 (.t 38))),[]),((O 40 (.bin .sub (.t 37) (.t 39))),[]),((O 41 (.call (.agg [i6,(.i .u64)]) (.v (.fn 58 [] [])) [(.t 35),(.t 40)])),[1000000]),((O 42 (.call i6 (.v (.fn 57 [] [])) [(.t 30),(.t 41)])),[1000000]),((O 6 (.mov (.t 42))),[])]) .ret)))⟩
def c54:AFn:=⟨6,[(.tmp 2)],(.seq (.reg [O 2 (.mov (.v bf))]) (.seq (.reg [O 3 (.mov (.t 0)),O 4 (.call .b (.v (.fn 37 [] [])) [(.t 3),(.v (.fn 59 [] []))]),O 5 (.un .not (.t 4)),O 2 (.mov (.t 5))]) .ret))⟩
def c55:AFn:=⟨36,[(.tmp 6)],(.seq (.reg [O 3 (.box E39 (.t 0)),O 4 (.box E39 (.t 1)),O 5 (.box E39 (.t 2)),O 6 (.mov (vz 0))]) (.seq (.seq (.reg [O 7 (.load true 2 (.t 3)),O 8 (.load true 2 (.t 4)),O 9 (.load true 2 (.t 5)),O 10 (.mkrow E39 3 [(0,(.t 7)),(1,(.t 8)),(2,(.t 9))]),O 11 (.call .b (.v (.fn 54 [] [])) [(.t 10)]),O 12 (.un .not (.t 11))]) (.cond (.t 12) (.seq (.reg [O 6 (.mov (vz 0))]) .ret) .skip)) (.seq (.regD [((O 13 (.fldA 0 (.t 4))),[]),((O 14 (.load false 1 (.t 13))),[]),((O 15 (.fldA 0 (.t 3))),[]),((O 16 (.load false 1 (.t 15))),[]),((O 17 (.bin .sub (.t 14) (.t 16))),[]),((O 18 (.fldA 1 (.t 5))),[]),((O 19 (.load false 1 (.t 18))),[]),((O 20 (.fldA 1 (.t 3))),[]),((O 21 (.load false 1 (.t 20))),[]),((O 22 (.bin .sub (.t 19) (.t 21))),[]),((O 23 (.call (.agg [i6,(.i .u64)]) (.v (.fn 60 [] [])) [(.t 17),(.t 22)])),[]),((O 24 (.fldA 1 (.t 4))),[]),((O 25 (.load false 1 (.t 24))),[]),((O 26 (.fldA 1 (.t 3))),[]),((O 27 (.load false 1 (.t 26))),[]),((O 28 (.bin .sub (.t 25) (.t 27))),[]),((O 29 (.fldA 0 (.t 5))),[]),((O 30 (.load false 1 (.t 29))),[]),((O 31 (.fldA 0 (.t 3))),[]),((O 32 (.load false 1 (.t 31))),[]),((O 33 (.bin .sub (.t 30) (.t 32))),[]),((O 34 (.call (.agg [i6,(.i .u64)]) (.v (.fn 60 [] [])) [(.t 28),(.t 33)])),[1000000]),((O 35 (.call i6 (.v (.fn 61 [] [])) [(.t 23),(.t 34)])),[1000000]),((O 6 (.mov (.t 35))),[])]) .ret)))⟩
def c56:AFn:=⟨19,[(.tmp 6)],(.seq (.reg [O 6 (.mov (.v bf))]) (.seq (.reg [O 7 (.mov (.t 1)),O 8 (.mov (.t 2)),O 9 (.bk .min [(.t 7),(.t 8)]),O 10 (.mov (.t 0)),O 11 (.bin .leq (.t 9) (.t 10)),O 12 (.mov (.t 11)),⟨(some 13),(.mov (.t 0)),(some ((some 12),true))⟩,⟨(some 14),(.mov (.t 1)),(some ((some 12),true))⟩,⟨(some 15),(.mov (.t 2)),(some ((some 12),true))⟩,⟨(some 16),(.bk .max [(.t 14),(.t 15)]),(some ((some 12),true))⟩,⟨(some 17),(.bin .leq (.t 13) (.t 16)),(some ((some 12),true))⟩,O 18 (.pick (.t 12) (.t 17) (.v bf)),O 6 (.mov (.t 18))]) .ret))⟩
def c57:AFn:=⟨29,[(.tmp 4)],(.seq (.reg [O 2 (.box E70 (.t 0)),O 3 (.box E70 (.t 1)),O 4 (.mov (vz 0))]) (.seq (.block 0 (.seq (.reg [O 6 (.fldA 0 (.t 2)),O 7 (.load false 1 (.t 6)),O 8 (.fldA 0 (.t 3)),O 9 (.load false 1 (.t 8)),O 10 (.bin .lss (.t 7) (.t 9)),O 11 (.mov (.t 10)),⟨(some 12),(.fldA 0 (.t 2)),(some ((some 11),false))⟩,⟨(some 13),(.load false 1 (.t 12)),(some ((some 11),false))⟩,⟨(some 14),(.fldA 0 (.t 3)),(some ((some 11),false))⟩,⟨(some 15),(.load false 1 (.t 14)),(some ((some 11),false))⟩,⟨(some 16),(.bin .eql (.t 13) (.t 15)),(some ((some 11),false))⟩,⟨(some 17),(.mov (.t 16)),(some ((some 11),false))⟩,⟨(some 18),(.fldA 1 (.t 2)),(some ((some 17),true))⟩,⟨(some 19),(.load false 1 (.t 18)),(some ((some 17),true))⟩,⟨(some 20),(.fldA 1 (.t 3)),(some ((some 17),true))⟩,⟨(some 21),(.load false 1 (.t 20)),(some ((some 17),true))⟩,⟨(some 22),(.bin .lss (.t 19) (.t 21)),(some ((some 17),true))⟩,⟨(some 23),(.pick (.t 17) (.t 22) (.v bf)),(some ((some 11),false))⟩,O 24 (.pick (.t 11) (.v bt) (.t 23)),O 5 (.mov (.t 24))]) (.cond (.t 5) (.seq (.reg [O 4 (.mov (vz (-1)))]) .ret) (.seq (.reg [O 26 (.load true 2 (.t 2)),O 27 (.load true 2 (.t 3)),O 28 (.eqv false 4 [i6,(.i .u64)] (.t 26) (.t 27)),O 25 (.mov (.t 28))]) (.cond (.t 25) (.seq (.reg [O 4 (.mov (vz 0))]) .ret) .skip))))) (.seq (.reg [O 4 (.mov (vz 1))]) .ret)))⟩
def c58:AFn:=⟨36,[(.cell true 2 4)],(.seq (.reg [O 4 (.alloc E70)]) (.seq (.reg [O 9 (.mov (.t 0)),O 10 (.call (.agg [i6,(.i .u64)]) (.v (.fn 62 [] [])) [(.t 9)]),O 5 (.alloc E70),⟨none,(.store 2 (.t 5) (.t 10)),none⟩]) (.seq (.reg [O 11 (.build [(iz 0),(.int .u64 0)] []),O 6 (.alloc E70),⟨none,(.store 2 (.t 6) (.t 11)),none⟩]) (.seq (.reg [O 12 (.mov (.t 1)),O 13 (.conv .u64 (.t 12)),O 7 (.mov (.t 13))]) (.seq (.seq (.reg [O 8 (.mov (vz 0))]) (.block 0 (.loop (.seq (.seq (.reg [O 14 (.mov (.t 8)),O 15 (.bin .lss (.t 14) (vz 64))]) (.cond (.t 15) .skip (.exit 0))) (.seq (.block 1 (.seq (.seq (.reg [O 18 (.mov (.t 7)),O 19 (.mov (.t 8)),O 20 (.bin .shr (.t 18) (.t 19)),O 21 (.bin .and (.t 20) (.v (.int .u64 1))),O 22 (.bin .eql (.t 21) (.v (.int .u64 1)))]) (.cond (.t 22) (.reg [O 23 (.load true 2 (.t 6)),O 24 (.load true 2 (.t 5)),O 25 (.call (.agg [i6,(.i .u64)]) (.v (.fn 63 [] [])) [(.t 23),(.t 24)]),⟨none,(.store 2 (.t 6) (.t 25)),none⟩]) .skip)) (.reg [O 26 (.load true 2 (.t 5)),O 27 (.load true 2 (.t 5)),O 28 (.call (.agg [i6,(.i .u64)]) (.v (.fn 63 [] [])) [(.t 26),(.t 27)]),⟨none,(.store 2 (.t 5) (.t 28)),none⟩]))) (.reg [O 16 (.mov (.t 8)),O 17 (.bin .add (.t 16) (vz 1)),O 8 (.mov (.t 17))])))))) (.seq (.seq (.reg [O 29 (.mov (.t 1)),O 30 (.bin .lss (.t 29) (vz 0))]) (.cond (.t 30) (.regD [((O 31 (.load true 2 (.t 6))),[]),((O 32 (.load true 2 (.t 5))),[]),((O 33 (.call (.agg [i6,(.i .u64)]) (.v (.fn 64 [] [])) [(.t 32)])),[]),((O 34 (.call (.agg [i6,(.i .u64)]) (.v (.fn 63 [] [])) [(.t 31),(.t 33)])),[1000000]),(⟨none,(.store 2 (.t 6) (.t 34)),none⟩,[])]) .skip)) (.seq (.reg [O 35 (.load true 2 (.t 6)),⟨none,(.store 2 (.t 4) (.t 35)),none⟩]) .ret)))))))⟩
def c59:AFn:=⟨6,[(.tmp 2)],(.seq (.reg [O 1 (.box E39 (.t 0)),O 2 (.mov (.v bf))]) (.seq (.reg [O 3 (.load true 2 (.t 1)),O 4 (.call .b (.v (.fn 42 [] [])) [(.t 3)]),O 5 (.un .not (.t 4)),O 2 (.mov (.t 5))]) .ret))⟩
def c60:AFn:=⟨31,[(.cell true 2 4)],(.seq (.reg [O 4 (.alloc E72)]) (.seq (.reg [O 8 (.mov (.t 0)),O 9 (.conv .u64 (.t 8)),O 10 (.mov (.t 1)),O 11 (.conv .u64 (.t 10)),O 12 (.call (.tup [(.i .u64),(.i .u64)]) (.v (.fn 65 [] [])) [(.t 9),(.t 11)]),O 7 (.mov (.t 12)),O 13 (.extr (.t 7) 0),O 14 (.extr (.t 7) 1),O 5 (.mov (.t 13)),O 6 (.mov (.t 14))]) (.seq (.seq (.reg [O 15 (.mov (.t 0)),O 16 (.bin .lss (.t 15) (vz 0))]) (.cond (.t 16) (.reg [O 17 (.mov (.t 5)),O 18 (.mov (.t 1)),O 19 (.conv .u64 (.t 18)),O 20 (.bin .sub (.t 17) (.t 19)),O 5 (.mov (.t 20))]) .skip)) (.seq (.seq (.reg [O 21 (.mov (.t 1)),O 22 (.bin .lss (.t 21) (vz 0))]) (.cond (.t 22) (.reg [O 23 (.mov (.t 5)),O 24 (.mov (.t 0)),O 25 (.conv .u64 (.t 24)),O 26 (.bin .sub (.t 23) (.t 25)),O 5 (.mov (.t 26))]) .skip)) (.seq (.reg [O 27 (.mov (.t 5)),O 28 (.conv .i64 (.t 27)),O 29 (.mov (.t 6)),O 30 (.build [(iz 0),(.int .u64 0)] [(0,(1,(.t 28))),(1,(1,(.t 29)))]),⟨none,(.store 2 (.t 4) (.t 30)),none⟩]) .ret)))))⟩
def c61:AFn:=⟨17,[(.tmp 4)],(.seq (.reg [O 2 (.box E72 (.t 0)),O 3 (.box E72 (.t 1)),O 4 (.mov (vz 0))]) (.seq (.regD [((O 5 (.fldA 0 (.t 2))),[]),((O 6 (.load false 1 (.t 5))),[]),((O 7 (.fldA 0 (.t 3))),[]),((O 8 (.load false 1 (.t 7))),[]),((O 9 (.call i6 (.v (.fn 67 [] [])) [(.t 6),(.t 8)])),[]),((O 10 (.fldA 1 (.t 2))),[]),((O 11 (.load false 1 (.t 10))),[]),((O 12 (.fldA 1 (.t 3))),[]),((O 13 (.load false 1 (.t 12))),[]),((O 14 (.call i6 (.v (.fn 68 [] [])) [(.t 11),(.t 13)])),[1000000]),((O 15 (.mkrow E3 2 [(0,(.t 9)),(1,(.t 14))])),[]),((O 16 (.call i6 (.v (.fn 66 [] [])) [(.t 15)])),[1000000]),((O 4 (.mov (.t 16))),[])]) .ret))⟩
def c62:AFn:=⟨11,[(.cell true 2 2)],(.seq (.reg [O 2 (.alloc E70)]) (.seq (.seq (.reg [O 3 (.mov (.t 0)),O 4 (.bin .lss (.t 3) (vz 0))]) (.cond (.t 4) (.seq (.reg [O 5 (.mov (.t 0)),O 6 (.conv .u64 (.t 5)),O 7 (.build [(iz 0),(.int .u64 0)] [(0,(1,(vz (-1)))),(1,(1,(.t 6)))]),⟨none,(.store 2 (.t 2) (.t 7)),none⟩]) .ret) .skip)) (.seq (.reg [O 8 (.mov (.t 0)),O 9 (.conv .u64 (.t 8)),O 10 (.build [(iz 0),(.int .u64 0)] [(0,(1,(vz 0))),(1,(1,(.t 9)))]),⟨none,(.store 2 (.t 2) (.t 10)),none⟩]) .ret)))⟩
def c63:AFn:=⟨39,[(.cell true 2 4)],(.seq (.reg [O 2 (.box E70 (.t 0)),O 3 (.box E70 (.t 1)),O 4 (.alloc E70)]) (.seq (.regD [((O 11 (.load true 2 (.t 2))),[]),((O 12 (.call .l (.v (.fn 69 [] [])) [(.t 11)])),[]),((O 13 (.load true 2 (.t 3))),[]),((O 14 (.call .l (.v (.fn 69 [] [])) [(.t 13)])),[1000000]),((O 5 (.mov (.t 12))),[]),((O 6 (.mov (.t 14))),[])]) (.seq (.reg [O 7 (.mov (.v (.zsl true)))]) (.seq (.reg [O 8 (.mov (vz 0))]) (.seq (.seq (.reg [O 9 (.mov (vz 0))]) (.block 0 (.loop (.seq (.seq (.reg [O 15 (.mov (.t 9)),O 16 (.bin .lss (.t 15) (vz 128))]) (.cond (.t 16) .skip (.exit 0))) (.seq (.block 1 (.seq (.regD [((O 19 (.mov (.t 5))),[]),((O 20 (.mov (.t 9))),[]),((O 21 (.ixAS i6 1 (.t 19) (.t 20))),[]),((O 22 (.load false 1 (.t 21))),[]),((O 23 (.mov (.t 6))),[]),((O 24 (.mov (.t 9))),[]),((O 25 (.ixAS i6 1 (.t 23) (.t 24))),[]),((O 26 (.load false 1 (.t 25))),[]),((O 27 (.bin .add (.t 22) (.t 26))),[]),((O 28 (.mov (.t 8))),[]),((O 29 (.bin .add (.t 27) (.t 28))),[]),((O 10 (.mov (.t 29))),[])]) (.seq (.reg [O 30 (.mov (.t 7)),O 31 (.mov (.t 10)),O 32 (.bin .rem (.t 31) (vz 2)),O 33 (.mkrow E3 1 [(0,(.t 32))]),O 34 (.app E3 (.t 30) (.t 33)),O 7 (.mov (.t 34))]) (.reg [O 35 (.mov (.t 10)),O 36 (.bin .quo (.t 35) (vz 2)),O 8 (.mov (.t 36))])))) (.reg [O 17 (.mov (.t 9)),O 18 (.bin .add (.t 17) (vz 1)),O 9 (.mov (.t 18))])))))) (.seq (.reg [O 37 (.mov (.t 7)),O 38 (.call (.agg [i6,(.i .u64)]) (.v (.fn 70 [] [])) [(.t 37)]),⟨none,(.store 2 (.t 4) (.t 38)),none⟩]) .ret))))))⟩
def c64:AFn:=⟨12,[(.cell true 2 2)],(.seq (.reg [O 1 (.box E70 (.t 0)),O 2 (.alloc E70)]) (.seq (.reg [O 3 (.fldA 0 (.t 1)),O 4 (.load false 1 (.t 3)),O 5 (.un .xor (.t 4)),O 6 (.fldA 1 (.t 1)),O 7 (.load false 1 (.t 6)),O 8 (.un .xor (.t 7)),O 9 (.build [(iz 0),(.int .u64 0)] [(0,(1,(.t 5))),(1,(1,(.t 8)))]),O 10 (.build [(iz 0),(.int .u64 0)] [(0,(1,(vz 0))),(1,(1,(.v (.int .u64 1))))]),O 11 (.call (.agg [i6,(.i .u64)]) (.v (.fn 63 [] [])) [(.t 9),(.t 10)]),⟨none,(.store 2 (.t 2) (.t 11)),none⟩]) .ret))⟩
def c65:AFn:=⟨51,[(.tmp 4),(.tmp 5)],(.seq (.reg [O 4 (.mov (.v (.int .u64 0))),O 5 (.mov (.v (.int .u64 0)))]) (.seq (.reg [O 14 (.mov (.t 0)),O 15 (.bin .and (.t 14) (.v (.int .u64 4294967295))),O 6 (.mov (.t 15))]) (.seq (.reg [O 16 (.mov (.t 0)),O 17 (.bin .shr (.t 16) (.v (.int .u64 32))),O 7 (.mov (.t 17))]) (.seq (.reg [O 18 (.mov (.t 1)),O 19 (.bin .and (.t 18) (.v (.int .u64 4294967295))),O 8 (.mov (.t 19))]) (.seq (.reg [O 20 (.mov (.t 1)),O 21 (.bin .shr (.t 20) (.v (.int .u64 32))),O 9 (.mov (.t 21))]) (.seq (.reg [O 22 (.mov (.t 6)),O 23 (.mov (.t 8)),O 24 (.bin .mul (.t 22) (.t 23)),O 10 (.mov (.t 24))]) (.seq (.reg [O 25 (.mov (.t 7)),O 26 (.mov (.t 8)),O 27 (.bin .mul (.t 25) (.t 26)),O 28 (.mov (.t 10)),O 29 (.bin .shr (.t 28) (.v (.int .u64 32))),O 30 (.bin .add (.t 27) (.t 29)),O 11 (.mov (.t 30))]) (.seq (.reg [O 31 (.mov (.t 11)),O 32 (.bin .and (.t 31) (.v (.int .u64 4294967295))),O 12 (.mov (.t 32))]) (.seq (.reg [O 33 (.mov (.t 11)),O 34 (.bin .shr (.t 33) (.v (.int .u64 32))),O 13 (.mov (.t 34))]) (.seq (.reg [O 35 (.mov (.t 12)),O 36 (.mov (.t 6)),O 37 (.mov (.t 9)),O 38 (.bin .mul (.t 36) (.t 37)),O 39 (.bin .add (.t 35) (.t 38)),O 12 (.mov (.t 39))]) (.seq (.reg [O 40 (.mov (.t 7)),O 41 (.mov (.t 9)),O 42 (.bin .mul (.t 40) (.t 41)),O 43 (.mov (.t 13)),O 44 (.bin .add (.t 42) (.t 43)),O 45 (.mov (.t 12)),O 46 (.bin .shr (.t 45) (.v (.int .u64 32))),O 47 (.bin .add (.t 44) (.t 46)),O 4 (.mov (.t 47))]) (.seq (.reg [O 48 (.mov (.t 0)),O 49 (.mov (.t 1)),O 50 (.bin .mul (.t 48) (.t 49)),O 5 (.mov (.t 50))]) .ret))))))))))))⟩
def c66:AFn:=⟨18,[(.tmp 2)],(.seq (.reg [O 2 (.mov (vz 0))]) (.seq (.reg [O 3 (.mov (vz 0))]) (.seq (.seq (.reg [O 6 (.mov (.t 0)),O 7 (.bk .lenV [(.t 6)]),O 8 (.mov (vz 0))]) (.block 0 (.loop (.seq (.reg [O 9 (.bin .lss (.t 8) (.t 7))]) (.seq (.cond (.t 9) .skip (.exit 0)) (.seq (.block 1 (.seq (.reg [O 10 (.ixAS i6 1 (.t 6) (.t 8)),O 11 (.load false 1 (.t 10)),O 5 (.mov (.t 11))]) (.seq (.reg [O 12 (.mov (.t 5)),O 13 (.mov (.t 3)),O 14 (.bin .neq (.t 12) (.t 13))]) (.cond (.t 14) (.seq (.reg [O 15 (.mov (.t 5)),O 2 (.mov (.t 15))]) .ret) .skip)))) (.reg [O 16 (.bin .add (.t 8) (vz 1)),O 8 (.mov (.t 16))]))))))) (.seq (.reg [O 17 (.mov (.t 3)),O 2 (.mov (.t 17))]) .ret))))⟩
def c67:AFn:=⟨20,[(.tmp 4)],(.seq (.reg [O 4 (.mov (vz 0))]) (.seq (.reg [O 7 (.mov (.t 0)),O 8 (.call .b (.v (.fn 71 [] [])) [(.t 7)]),O 5 (.mov (.t 8))]) (.seq (.reg [O 9 (.mov (.t 1)),O 10 (.call .b (.v (.fn 71 [] [])) [(.t 9)]),O 6 (.mov (.t 10))]) (.seq (.seq (.reg [O 11 (.mov (.t 5))]) (.cond (.t 11) (.seq (.seq (.reg [O 12 (.mov (.t 6))]) (.cond (.t 12) (.seq (.reg [O 4 (.mov (vz 0))]) .ret) .skip)) (.seq (.reg [O 4 (.mov (vz (-1)))]) .ret)) .skip)) (.seq (.seq (.reg [O 13 (.mov (.t 6))]) (.cond (.t 13) (.seq (.reg [O 4 (.mov (vz 1))]) .ret) .skip)) (.seq (.seq (.reg [O 14 (.mov (.t 0)),O 15 (.mov (.t 1)),O 16 (.bin .lss (.t 14) (.t 15))]) (.cond (.t 16) (.seq (.reg [O 4 (.mov (vz (-1)))]) .ret) .skip)) (.seq (.seq (.reg [O 17 (.mov (.t 0)),O 18 (.mov (.t 1)),O 19 (.bin .gtr (.t 17) (.t 18))]) (.cond (.t 19) (.seq (.reg [O 4 (.mov (vz 1))]) .ret) .skip)) (.seq (.reg [O 4 (.mov (vz 0))]) .ret))))))))⟩
def c68:AFn:=⟨20,[(.tmp 4)],(.seq (.reg [O 4 (.mov (vz 0))]) (.seq (.reg [O 7 (.mov (.t 0)),O 8 (.call .b (.v (.fn 72 [] [])) [(.t 7)]),O 5 (.mov (.t 8))]) (.seq (.reg [O 9 (.mov (.t 1)),O 10 (.call .b (.v (.fn 72 [] [])) [(.t 9)]),O 6 (.mov (.t 10))]) (.seq (.seq (.reg [O 11 (.mov (.t 5))]) (.cond (.t 11) (.seq (.seq (.reg [O 12 (.mov (.t 6))]) (.cond (.t 12) (.seq (.reg [O 4 (.mov (vz 0))]) .ret) .skip)) (.seq (.reg [O 4 (.mov (vz (-1)))]) .ret)) .skip)) (.seq (.seq (.reg [O 13 (.mov (.t 6))]) (.cond (.t 13) (.seq (.reg [O 4 (.mov (vz 1))]) .ret) .skip)) (.seq (.seq (.reg [O 14 (.mov (.t 0)),O 15 (.mov (.t 1)),O 16 (.bin .lss (.t 14) (.t 15))]) (.cond (.t 16) (.seq (.reg [O 4 (.mov (vz (-1)))]) .ret) .skip)) (.seq (.seq (.reg [O 17 (.mov (.t 0)),O 18 (.mov (.t 1)),O 19 (.bin .gtr (.t 17) (.t 18))]) (.cond (.t 19) (.seq (.reg [O 4 (.mov (vz 1))]) .ret) .skip)) (.seq (.reg [O 4 (.mov (vz 0))]) .ret))))))))⟩
def c69:AFn:=⟨34,[(.tmp 2)],(.seq (.reg [O 1 (.box E70 (.t 0)),O 2 (.mov (.v (.zsl true)))]) (.seq (.reg [O 3 (.mov (.v (.zsl true)))]) (.seq (.seq (.reg [O 4 (.mov (vz 0))]) (.block 0 (.loop (.seq (.seq (.reg [O 6 (.mov (.t 4)),O 7 (.bin .lss (.t 6) (vz 64))]) (.cond (.t 7) .skip (.exit 0))) (.seq (.block 1 (.reg [O 10 (.mov (.t 3)),O 11 (.fldA 1 (.t 1)),O 12 (.load false 1 (.t 11)),O 13 (.mov (.t 4)),O 14 (.bin .shr (.t 12) (.t 13)),O 15 (.bin .and (.t 14) (.v (.int .u64 1))),O 16 (.conv .i64 (.t 15)),O 17 (.mkrow E3 1 [(0,(.t 16))]),O 18 (.app E3 (.t 10) (.t 17)),O 3 (.mov (.t 18))])) (.reg [O 8 (.mov (.t 4)),O 9 (.bin .add (.t 8) (vz 1)),O 4 (.mov (.t 9))])))))) (.seq (.seq (.reg [O 5 (.mov (vz 0))]) (.block 2 (.loop (.seq (.seq (.reg [O 19 (.mov (.t 5)),O 20 (.bin .lss (.t 19) (vz 64))]) (.cond (.t 20) .skip (.exit 2))) (.seq (.block 3 (.reg [O 23 (.mov (.t 3)),O 24 (.fldA 0 (.t 1)),O 25 (.load false 1 (.t 24)),O 26 (.conv .u64 (.t 25)),O 27 (.mov (.t 5)),O 28 (.bin .shr (.t 26) (.t 27)),O 29 (.bin .and (.t 28) (.v (.int .u64 1))),O 30 (.conv .i64 (.t 29)),O 31 (.mkrow E3 1 [(0,(.t 30))]),O 32 (.app E3 (.t 23) (.t 31)),O 3 (.mov (.t 32))])) (.reg [O 21 (.mov (.t 5)),O 22 (.bin .add (.t 21) (vz 1)),O 5 (.mov (.t 22))])))))) (.seq (.reg [O 33 (.mov (.t 3)),O 2 (.mov (.t 33))]) .ret)))))⟩
def c70:AFn:=⟨36,[(.cell true 2 2)],(.seq (.reg [O 2 (.alloc E70)]) (.seq (.reg [O 6 (.build [(iz 0),(.int .u64 0)] []),O 3 (.alloc E70),⟨none,(.store 2 (.t 3) (.t 6)),none⟩]) (.seq (.reg [O 4 (.mov (.v (.int .u64 0)))]) (.seq (.seq (.reg [O 5 (.mov (vz 0))]) (.block 0 (.loop (.seq (.seq (.reg [O 7 (.mov (.t 5)),O 8 (.bin .lss (.t 7) (vz 64))]) (.cond (.t 8) .skip (.exit 0))) (.seq (.block 1 (.seq (.seq (.reg [O 11 (.mov (.t 0)),O 12 (.mov (.t 5)),O 13 (.ixAS i6 1 (.t 11) (.t 12)),O 14 (.load false 1 (.t 13)),O 15 (.bin .eql (.t 14) (vz 1))]) (.cond (.t 15) (.regD [((O 16 (.fldA 1 (.t 3))),[]),((O 17 (.load false 1 (.t 16))),[]),((O 18 (.mov (.t 5))),[]),((O 19 (.bin .shl (.v (.int .u64 1)) (.t 18))),[]),((O 20 (.bin .or (.t 17) (.t 19))),[]),((O 21 (.fldA 1 (.t 3))),[]),(⟨none,(.store 1 (.t 21) (.t 20)),none⟩,[])]) .skip)) (.seq (.reg [O 22 (.mov (.t 0)),O 23 (.mov (.t 5)),O 24 (.bin .add (vz 64) (.t 23)),O 25 (.ixAS i6 1 (.t 22) (.t 24)),O 26 (.load false 1 (.t 25)),O 27 (.bin .eql (.t 26) (vz 1))]) (.cond (.t 27) (.reg [O 28 (.mov (.t 4)),O 29 (.mov (.t 5)),O 30 (.bin .shl (.v (.int .u64 1)) (.t 29)),O 31 (.bin .or (.t 28) (.t 30)),O 4 (.mov (.t 31))]) .skip)))) (.reg [O 9 (.mov (.t 5)),O 10 (.bin .add (.t 9) (vz 1)),O 5 (.mov (.t 10))])))))) (.seq (.reg [O 32 (.mov (.t 4)),O 33 (.conv .i64 (.t 32)),O 34 (.fldA 0 (.t 3)),⟨none,(.store 1 (.t 34) (.t 33)),none⟩]) (.seq (.reg [O 35 (.load true 2 (.t 3)),⟨none,(.store 2 (.t 2) (.t 35)),none⟩]) .ret))))))⟩
def c71:AFn:=⟨6,[(.tmp 2)],(.seq (.reg [O 2 (.mov (.v bf))]) (.seq (.reg [O 3 (.mov (.t 0)),O 4 (.mov (.t 0)),O 5 (.bin .neq (.t 3) (.t 4)),O 2 (.mov (.t 5))]) .ret))⟩
def c72:AFn:=⟨6,[(.tmp 2)],(.seq (.reg [O 2 (.mov (.v bf))]) (.seq (.reg [O 3 (.mov (.t 0)),O 4 (.mov (.t 0)),O 5 (.bin .neq (.t 3) (.t 4)),O 2 (.mov (.t 5))]) .ret))⟩
def h7:List (Nat × Sh):=hof [((.agg [.l,i6,i6,i6,i6,i6,i6,i6,i6]),[0,15,20,32,45,46,64,65,104,108]),(i6,[1,21,27,28,30,5,33,44,49,53,68,71,73,77,80,10,83,84,88,89,94,97,98,11,102,105,109,110]),(.b,[4,12,13,14,16,17,18,19,22,23,24,36,7,37,38,39,41,42,43,50,54,72,103,106,107,111,112]),(.l,[26,48,52,56,58,61,62,67,70,76,82,85,87,90,91,96,101]),((.tup [(.agg [.l,i6,i6,i6,i6]),.b]),[34,31]),((.agg [.l,i6,i6,i6,i6]),[35,40,60]),((.i .u64),[74,78,79])]
def h8:List (Nat × Sh):=hof [(.b,[0,13,3,18,5,27,33,34,37,38,39,42,43,44,47,48,49,52,53,54,56,57,58,59,60,61,62,63,64,65,68,69,70,73,74,75,76,79,80,81,84,85]),((.agg [.l,i6,i6,i6,i6,i6,i6,i6,i6]),[8,10,15,19,20,22,23,32,35,40,45,50,66,67,71,72,77,82]),((.tup [(.agg [.l,i6,i6,i6,i6]),.b]),[11,9,16,14]),((.agg [.l,i6,i6,i6,i6]),[12,17,55]),(.l,[25,29]),(i6,[26,36,41,46,51,78,83])]
def h9:List (Nat × Sh):=hof [((.agg [.l,i6,i6,i6,i6,i6,i6,i6,i6]),[0]),(.b,[2,8,18,22]),(i6,[3,4,7,13,17,9,10,21]),(.l,[6,12,16,20])]
def h10:List (Nat × Sh):=hof [((.agg [.l,i6,i6,i6,i6,i6,i6,i6,i6]),[0]),(i6,[2,6,11,3,14,17,23,19,20,30,35,41,47,52,57,62,67,70]),(.l,[5,10,16,22,69]),(.b,[7,8,12,13,18,26,27,31,32,33,36,37,38,39,42,43,44,28,48,49,45,53,54,50,58,59,55,63,64,60,71,72,65]),((.agg [.l,i6,i6,i6,i6]),[25])]
def h11:List (Nat × Sh):=hof [((.agg [.l,i6,i6,i6,i6,i6,i6,i6,i6]),[0]),(i6,[1,6,9,12,18]),(.b,[5,7,8,13,14]),(.l,[11,17,22,23]),((.agg [.l,i6,i6,i6,i6]),[15,20,25])]
def h12:List (Nat × Sh):=hof [((.agg [.l,i6,i6,i6,i6,i6,i6,i6,i6]),[0]),(i6,[2,6,18,23,28,33,38,41]),(.l,[5,11,40]),(.b,[7,8,3,12,9,14,15,13,19,20,16,24,25,21,29,30,26,34,35,31,42,43,36])]
def h13:List (Nat × Sh):=hof [((.agg [.l,i6,i6,i6,i6,i6,i6,i6,i6]),[0,3]),(.b,[2,5]),(i6,[4])]
def h14:List (Nat × Sh):=hof [((.agg [.l,i6,i6,i6,i6,i6,i6,i6,i6]),[0,3]),(i6,[2,7,9,10,11]),(.b,[4,5])]
def h16:List (Nat × Sh):=hof [((.agg [.l,i6,i6,i6,i6]),[0]),(.b,[2,5,6,9,10,11,14,15,16,19,20,21,24,25]),(.l,[4]),(i6,[8,13,18,23])]
def h17:List (Nat × Sh):=hof [((.agg [.l,i6,i6,i6,i6]),[0]),(.b,[2,5,6,9,10,11,14,15,16,19,20,21,24,25]),(.l,[4]),(i6,[8,13,18,23])]
def h18:List (Nat × Sh):=hof [((.agg [.l,i6,i6,i6,i6,i6,i6,i6,i6]),[0,27]),(.l,[5,6,9,15,18,22,23]),(i6,[10,11,13,3,16,19,26])]
def h20:List (Nat × Sh):=hof [((.agg [.l,i6,i6,i6,i6,i6,i6,i6,i6]),[0,1]),(.b,[4,9,10,15,16,17,22,23,24,29,30,31,36,37,38,43,44,45,50,51,52,57,58,59,64,65]),(.l,[6,8]),(i6,[12,14,19,21,26,28,33,35,40,42,47,49,54,56,61,63])]
def h21:List (Nat × Sh):=hof [(i6,[0,4,6,7,20]),((.agg [.l,i6,i6,i6,i6,i6,i6,i6,i6]),[5,21]),(.b,[8]),(.l,[10,15,17,18]),(ag2,[11,12,13,14]),((.agg [.l,i6,i6,i6,i6]),[16])]
def h22:List (Nat × Sh):=hof [(i6,[0,1,2,7,8,11,12]),(.b,[6,9,10,13,14])]
def h23:List (Nat × Sh):=hof [(.l,[0,2,3,5,6,7]),(.b,[4])]
def h24:List (Nat × Sh):=hof [(i6,[0,1,2,7,8,11,12]),(.b,[6,9,10,13,14])]
def h25:List (Nat × Sh):=hof [(.l,[0,5]),(.b,[4,8]),(i6,[7])]
def h26:List (Nat × Sh):=hof [((.agg [.l,i6,i6,i6,i6]),[0,3]),(.b,[2,4,5])]
def h27:List (Nat × Sh):=hof [(.b,[2,16,17,31,32]),(i6,[6,10,14,15,21,25,29,30])]
def h28:List (Nat × Sh):=hof [(i6,[0,1,2,7,8,11,12]),(.b,[6,9,10,13,14])]
def h30:List (Nat × Sh):=hof [(.l,[0,3,6]),(.b,[2,4,5,7,8,9])]
def h31:List (Nat × Sh):=hof [(.l,[0,5,9,15,22,30,38,45]),(.b,[2,7,8,11,12,20,21,27,28,29,35,36,37,43,44,46]),(i6,[3,4,6,10,16,19,23,26,31,34,39,42,13,14])]
def h32:List (Nat × Sh):=hof [(.l,[0,2,3,5,6,7]),(.b,[4])]
def h33:List (Nat × Sh):=hof [(.l,[0,1,10,12,15,22]),(.b,[6,14,29,30]),(i6,[11,13,16,17,19,7,23,31]),((.agg [.l,i6,i6,i6,i6]),[21,25,27,28])]
def h34:List (Nat × Sh):=hof [((.agg [.l,i6,i6,i6,i6]),[0,1]),(.b,[4,9,10,15,16,17,22,23,24,29,30,31,36,37]),(.l,[6,8]),(i6,[12,14,19,21,26,28,33,35])]
def h35:List (Nat × Sh):=hof [(.l,[0,6,12]),(i6,[4,7,8,10,5,13,17,18]),((.agg [.l,i6,i6,i6,i6]),[15]),(.b,[16])]
def h36:List (Nat × Sh):=hof [(.l,[0,6,15,26,30,36]),(.b,[2,9,10,12,13,14,16,17,20,24,34,35,39,40,41]),(i6,[7,3,8,11,18,19,21,4,22,23,25,5,27,31,37,38,42,43]),(ag2,[29,33])]
def h37:List (Nat × Sh):=hof [(.l,[0,5]),(.b,[4,8]),(i6,[7])]
def h38:List (Nat × Sh):=hof [(ag2,[0]),(.b,[2,14]),(i6,[4,6,7,9,11,12,13])]
def h39:List (Nat × Sh):=hof [(.l,[0,11,24,42,46,49,53]),(.b,[2,14,15,17,18,21,28,29,32,39,59,56,64,60,68,69,73,74,77,78,82,83,75,87,88,92,93,99,94]),(i6,[12,3,13,16,4,19,20,25,22,23,5,30,31,35,36,6,37,38,43,47,50,54,61,62,63,76,79,80,81,40,41,33,34]),(ag2,[27,45,48,52,55,57,58,65,66,67,70,71,72,84,85,86,89,90,91,95,96,97,98])]
def h40:List (Nat × Sh):=hof [(.l,[0,1,6,8,11,16,20]),(.b,[4,10,24]),(i6,[7,9,12,13,15,5,17,21,25]),(ag2,[19,23])]
def h41:List (Nat × Sh):=hof [(ag2,[0,3]),(.b,[2,4,5])]
def h42:List (Nat × Sh):=hof [(ag2,[0]),(.b,[2,5,6,9,10]),(i6,[4,8])]
def h43:List (Nat × Sh):=hof [(.l,[0,12,15,21]),(i6,[1,2,13,7,16,22,27,28,29,30,31,46,47,48,49,50]),(.b,[6,32,26,36,37,38,42,43,44,51,45,55,56,57,61,62,63,68,69]),((.tup [ag2,ag2]),[17,14,23,20]),(ag2,[18,19,24,25,33,34,35,39,40,41,52,53,54,58,59,60,64,65,66,67])]
def h44:List (Nat × Sh):=hof [(.l,[0,6,12]),(i6,[4,7,8,10,5,13,17,18]),(ag2,[15]),(.b,[16])]
def h45:List (Nat × Sh):=hof [(ag2,[0]),(.b,[2,5,6,9,10,11,14,15,16,19,20]),(i6,[4,8,13,18])]
def h46:List (Nat × Sh):=hof [(.l,[0,5,8]),(i6,[1,6,7,9,10]),(ag2,[12])]
def h47:List (Nat × Sh):=hof [(ag2,[0,1,2,7,11,16,21,22,23]),(.b,[6,8,9,10,12,13,14,15,17,18,19,20,25,26,34,35,43,44,45,53,54,55,63,64]),(i6,[24,28,30,32,33,37,39,41,42,47,49,51,52,57,59,61,62])]
def h48:List (Nat × Sh):=hof [(ag2,[0,1,2,3,9,13,18,23,27,28,29,32,33,34,38,39,40,44,45,46,49,50,51,53,54,55,60,61,62,64,65,66]),(.b,[8,10,11,12,14,15,16,17,19,20,21,22,24,25,26,30,31,35,36,37,41,42,43,47,48,58,59,69,70]),(i6,[52,56,57,63,67,68])]
def h49:List (Nat × Sh):=hof [(i6,[0,3,6]),(.b,[2,4,5,7,8])]
def h50:List (Nat × Sh):=hof [(.l,[0,6,10,13]),(i6,[1,7,11,12,14,15]),(ag2,[9,17])]
def h51:List (Nat × Sh):=hof [(ag2,[0,1,2,7,8,9,13,14,15]),(.b,[6,11,12,17,18,19,26,27,28,35,36]),(.l,[10]),(i6,[16,21,23,25,30,32,34])]
def h52:List (Nat × Sh):=hof [(ag2,[0,1,2,3,10,11,12,13,18,19,20,22,23,24,26,27,28,30,31,32,34,35,36,38,39,40,45,46,47,49,50,51]),(.b,[8,15,16,9,21,17,25,29,33,43,44,54,55]),(.l,[14]),(i6,[37,41,42,48,52,53])]
def h53:List (Nat × Sh):=hof [(ag2,[0,1,2,7,11,16]),(i6,[6,21,23,24,26,28,29,32,34,35,37,39,40,42]),(.b,[8,9,10,12,13,14,15,17,18,19]),((.agg [i6,(.i .u64)]),[30,41])]
def h54:List (Nat × Sh):=hof [(.l,[0,3]),(.b,[2,4,5])]
def h55:List (Nat × Sh):=hof [(ag2,[0,1,2,7,8,9]),(i6,[6,14,16,17,19,21,22,25,27,28,30,32,33,35]),(.l,[10]),(.b,[11,12]),((.agg [i6,(.i .u64)]),[23,34])]
def h56:List (Nat × Sh):=hof [(i6,[0,1,2,7,8,9,10,13,14,15,16]),(.b,[6,11,12,17,18])]
def h57:List (Nat × Sh):=hof [((.agg [i6,(.i .u64)]),[0,1,26,27]),(i6,[4,7,9,13,15]),(.b,[10,11,16,17,22,23,24,5,28,25]),((.i .u64),[19,21])]
def h58:List (Nat × Sh):=hof [(i6,[0,1,9,12,8,14,19,16,17,29]),((.agg [i6,(.i .u64)]),[10,11,23,24,25,26,27,28,31,32,33,34,35]),((.i .u64),[13,7,18,20,21]),(.b,[15,22,30])]
def h59:List (Nat × Sh):=hof [(ag2,[0,3]),(.b,[2,4,5])]
def h60:List (Nat × Sh):=hof [(i6,[0,1,8,10,15,18,21,24,28]),((.i .u64),[9,11,13,14,5,6,17,19,20,23,25,26,27,29]),((.tup [(.i .u64),(.i .u64)]),[12,7]),(.b,[16,22]),((.agg [i6,(.i .u64)]),[30])]
def h61:List (Nat × Sh):=hof [((.agg [i6,(.i .u64)]),[0,1]),(i6,[4,6,8,9,14,16]),((.i .u64),[11,13]),(.l,[15])]
def h62:List (Nat × Sh):=hof [(i6,[0,3,5,8]),(.b,[4]),((.i .u64),[6,9]),((.agg [i6,(.i .u64)]),[7,10])]
def h63:List (Nat × Sh):=hof [((.agg [i6,(.i .u64)]),[0,1,11,13,38]),(.l,[12,14,5,6,7,19,23,30,33,34,37]),(i6,[8,9,15,20,22,24,26,27,28,29,10,31,32,35,36,17,18]),(.b,[16])]
def h64:List (Nat × Sh):=hof [((.agg [i6,(.i .u64)]),[0,9,10,11]),(i6,[4,5]),((.i .u64),[7,8])]
def h65:List (Nat × Sh):=hof [((.i .u64),[0,1,4,5,14,15,6,16,17,7,18,19,8,20,21,9,22,23,24,10,25,26,27,28,29,30,11,31,32,12,33,34,13,35,36,37,38,39,40,41,42,43,44,45,46,47,48,49,50])]
def h66:List (Nat × Sh):=hof [(.l,[0,6]),(i6,[2,3,7,8,11,5,12,13,15,16,17]),(.b,[14])]
def h67:List (Nat × Sh):=hof [(i6,[0,1,4,7,9,14,15,17,18]),(.b,[8,5,10,6,11,12,13,16,19])]
def h68:List (Nat × Sh):=hof [((.i .u64),[0,1,7,9,14,15,17,18]),(i6,[4]),(.b,[8,5,10,6,11,12,13,16,19])]
def h69:List (Nat × Sh):=hof [((.agg [i6,(.i .u64)]),[0]),(.l,[2,3,10,17,18,23,31,32,33]),(i6,[4,6,13,16,8,9,5,19,25,27,30,21,22]),(.b,[7,20]),((.i .u64),[12,14,15,26,28,29])]
def h70:List (Nat × Sh):=hof [(.l,[0,11,22]),((.agg [i6,(.i .u64)]),[6,35]),((.i .u64),[4,17,19,20,28,30,31,32]),(i6,[5,7,12,14,18,23,24,26,29,9,10,33]),(.b,[8,15,27])]
def h71:List (Nat × Sh):=hof [(i6,[0,3,4]),(.b,[2,5])]
def h72:List (Nat × Sh):=hof [((.i .u64),[0,3,4]),(.b,[2,5])]
def inlF (g:FuncId):Bool:=[23,32,18].contains g
theorem c7_ok:cFnQ Try.prog true 7=some c7:=by kernel_rfl
theorem c8_ok:cFnQ Try.prog false 8=some c8:=by kernel_rfl
theorem c9_ok:cFnQ Try.prog false 9=some c9:=by kernel_rfl
theorem c10_ok:cFnQ Try.prog false 10=some c10:=by kernel_rfl
theorem c11_ok:cFnQ Try.prog false 11=some c11:=by kernel_rfl
theorem c12_ok:cFnQ Try.prog false 12=some c12:=by kernel_rfl
theorem c13_ok:cFnQ Try.prog false 13=some c13:=by kernel_rfl
theorem c14_ok:cFnQ Try.prog false 14=some c14:=by kernel_rfl
theorem c16_ok:cFnQ Try.prog false 16=some c16:=by kernel_rfl
theorem c17_ok:cFnQ Try.prog false 17=some c17:=by kernel_rfl
theorem c18_ok:cFnQ Try.prog false 18=some c18:=by kernel_rfl
theorem c20_ok:cFnQ Try.prog false 20=some c20:=by kernel_rfl
theorem c21_ok:cFnQ Try.prog false 21=some c21:=by kernel_rfl
theorem c22_ok:cFnQ Try.prog false 22=some c22:=by kernel_rfl
theorem c23_ok:cFnQ Try.prog false 23=some c23:=by kernel_rfl
theorem c24_ok:cFnQ Try.prog false 24=some c24:=by kernel_rfl
theorem c25_ok:cFnQ Try.prog false 25=some c25:=by kernel_rfl
theorem c26_ok:cFnQ Try.prog false 26=some c26:=by kernel_rfl
theorem c27_ok:cFnQ Try.prog false 27=some c27:=by kernel_rfl
theorem c28_ok:cFnQ Try.prog false 28=some c28:=by kernel_rfl
theorem c30_ok:cFnQ Try.prog false 30=some c30:=by kernel_rfl
theorem c31_ok:cFnQ Try.prog false 31=some c31:=by kernel_rfl
theorem c32_ok:cFnQ Try.prog false 32=some c32:=by kernel_rfl
theorem c33_ok:cFnQ Try.prog false 33=some c33:=by kernel_rfl
theorem c34_ok:cFnQ Try.prog false 34=some c34:=by kernel_rfl
theorem c35_ok:cFnQ Try.prog false 35=some c35:=by kernel_rfl
theorem c36_ok:cFnQ Try.prog false 36=some c36:=by kernel_rfl
theorem c37_ok:cFnQ Try.prog false 37=some c37:=by kernel_rfl
theorem c38_ok:cFnQ Try.prog false 38=some c38:=by kernel_rfl
theorem c39_ok:cFnQ Try.prog false 39=some c39:=by kernel_rfl
theorem c40_ok:cFnQ Try.prog false 40=some c40:=by kernel_rfl
theorem c41_ok:cFnQ Try.prog false 41=some c41:=by kernel_rfl
theorem c42_ok:cFnQ Try.prog false 42=some c42:=by kernel_rfl
theorem c43_ok:cFnQ Try.prog false 43=some c43:=by kernel_rfl
theorem c44_ok:cFnQ Try.prog false 44=some c44:=by kernel_rfl
theorem c45_ok:cFnQ Try.prog false 45=some c45:=by kernel_rfl
theorem c46_ok:cFnQ Try.prog false 46=some c46:=by kernel_rfl
theorem c47_ok:cFnQ Try.prog false 47=some c47:=by kernel_rfl
theorem c48_ok:cFnQ Try.prog false 48=some c48:=by kernel_rfl
theorem c49_ok:cFnQ Try.prog false 49=some c49:=by kernel_rfl
theorem c50_ok:cFnQ Try.prog false 50=some c50:=by kernel_rfl
theorem c51_ok:cFnQ Try.prog false 51=some c51:=by kernel_rfl
theorem c52_ok:cFnQ Try.prog false 52=some c52:=by kernel_rfl
theorem c53_ok:cFnQ Try.prog false 53=some c53:=by kernel_rfl
theorem c54_ok:cFnQ Try.prog false 54=some c54:=by kernel_rfl
theorem c55_ok:cFnQ Try.prog false 55=some c55:=by kernel_rfl
theorem c56_ok:cFnQ Try.prog false 56=some c56:=by kernel_rfl
theorem c57_ok:cFnQ Try.prog false 57=some c57:=by kernel_rfl
theorem c58_ok:cFnQ Try.prog false 58=some c58:=by kernel_rfl
theorem c59_ok:cFnQ Try.prog false 59=some c59:=by kernel_rfl
theorem c60_ok:cFnQ Try.prog false 60=some c60:=by kernel_rfl
theorem c61_ok:cFnQ Try.prog false 61=some c61:=by kernel_rfl
theorem c62_ok:cFnQ Try.prog false 62=some c62:=by kernel_rfl
theorem c63_ok:cFnQ Try.prog false 63=some c63:=by kernel_rfl
theorem c64_ok:cFnQ Try.prog false 64=some c64:=by kernel_rfl
theorem c65_ok:cFnQ Try.prog false 65=some c65:=by kernel_rfl
theorem c66_ok:cFnQ Try.prog false 66=some c66:=by kernel_rfl
theorem c67_ok:cFnQ Try.prog false 67=some c67:=by kernel_rfl
theorem c68_ok:cFnQ Try.prog false 68=some c68:=by kernel_rfl
theorem c69_ok:cFnQ Try.prog false 69=some c69:=by kernel_rfl
theorem c70_ok:cFnQ Try.prog false 70=some c70:=by kernel_rfl
theorem c71_ok:cFnQ Try.prog false 71=some c71:=by kernel_rfl
theorem c72_ok:cFnQ Try.prog false 72=some c72:=by kernel_rfl
end Go.Proofs.Ytffiilnmfmkpmaa.AE

namespace Go.Proofs.Ytffiilnmfmkpmaa.AE
set_option linter.unusedVariables false
set_option linter.unusedSimpArgs false
set_option linter.constructorNameAsVariable false
open Go Go.RowKit

inductive RB where
 | no
 | virt
 | res
 | real (b es cap:Nat)

abbrev Rho:=Nat→RB

def own (ρ:Rho) (b:Nat):Prop:=∃ id es cap,ρ id=.real b es cap

inductive FRep (w:World) (bad:Nat→Prop):AV→Value→Prop where
 | int (k:IntKind) (n:Int):FRep w bad (.int k n) (.int k n)
 | bool (b:Bool):FRep w bad (.bool b) (.bool b)
 | str (s:List UInt8):FRep w bad (.str s) (.string ⟨s.toArray⟩)
 | nilp:FRep w bad .nilp (.pointer none)
 | znil:FRep w bad (.zsl true) (.slice none 0 0)
 | zsl (a:Option Addr):FRep w bad (.zsl false) (.slice a 0 0)
 | lst0 (a:Option Addr) (c:Nat) (h:a=none→c=0):FRep w bad (.lst []) (.slice a 0 c)
 | emp (a:Addr) (c:Nat):FRep w bad .emp (.slice (some a) 0 c)
 | lst (l:List AV) (b o es c:Nat) (vs:Nat→Nat→Value) (hn:l.length≤c) (he:0 < es) (hb:¬ bad b) (hl:b < w.heap.size)
    (hs:∀ (i:Nat) (x:AV),l[i]?=some x→x.cells.length=es)
    (hc:∀ (i:Nat) (x:AV) (j:Nat) (c:AV),l[i]?=some x→x.cells[j]?=some c→w.cell? ⟨b,o+(i * es+j),none⟩=some (vs i j))
    (hr:∀ (i:Nat) (x:AV) (j:Nat) (c:AV),l[i]?=some x→x.cells[j]?=some c→FRep w bad c (vs i j)):FRep w bad (.lst l) (.slice (some ⟨b,o,none⟩) l.length c)
 | fptr (v:AV) (b o j:Nat) (vs:Nat→Value) (hb:¬ bad b) (hl:b < w.heap.size)
    (hc:∀ (k:Nat) (c:AV),v.cells[k]?=some c→w.cell? ⟨b,o+k,none⟩=some (vs k))
    (hr:∀ (k:Nat) (c:AV),v.cells[k]?=some c→FRep w bad c (vs k)):FRep w bad (.fptr v j) (.pointer (some ⟨b,o+j,none⟩))
 | agg (cs:List AV) (vs:List Value) (hl:cs.length=vs.length) (h:∀ (i:Nat) (c:AV) (v:Value),cs[i]?=some c→vs[i]?=some v→FRep w bad c v):FRep w bad (.agg cs) (.agg vs.toArray)
 | tup (cs:List AV) (vs:List Value) (hl:cs.length=vs.length) (h:∀ (i:Nat) (c:AV) (v:Value),cs[i]?=some c→vs[i]?=some v→FRep w bad c v):FRep w bad (.tup cs) (.tuple vs.toArray)
 | fn (g:FuncId) (a b:List AV) (va vb:List Value) (hla:a.length=va.length) (hlb:b.length=vb.length)
    (ha:∀ (i:Nat) (c:AV) (v:Value),a[i]?=some c→va[i]?=some v→FRep w bad c v) (hb:∀ (i:Nat) (c:AV) (v:Value),b[i]?=some c→vb[i]?=some v→FRep w bad c v):FRep w bad (.fn g a b) (.func (.func g) va.toArray vb.toArray)
 | nilf:FRep w bad .nilf .nilFunc
 | undef (v:Value):FRep w bad .undef v

inductive Rep (w:World) (bad:Nat→Prop) (D:Nat→Prop) (ρ:Rho):AV→Value→Prop where
 | frz {v:AV} {c:Value} (h:FRep w (fun b=>bad b ∨ own ρ b) v c):Rep w bad D ρ v c
 | ptr {id i j b es cap:Nat} (h:ρ id=.real b es cap):Rep w bad D ρ (.ptr id i j) (.pointer (some ⟨b,i * es+j,none⟩))
 | ptrD {id i j:Nat} (b o:Nat) (h:D id):Rep w bad D ρ (.ptr id i j) (.pointer (some ⟨b,o,none⟩))
 | slc {id o n b es cap c:Nat} (h:ρ id=.real b es cap) (hc:o+c≤cap) (hn:n≤c):Rep w bad D ρ (.slc id o n) (.slice (some ⟨b,o * es,none⟩) n c)
 | slcV {id:Nat} (a:Option Addr) (h:ρ id=.virt):Rep w bad D ρ (.slc id 0 0) (.slice a 0 0)
 | slk {id o n b es cap:Nat} (h:ρ id=.real b es cap) (hc:o+n≤cap):Rep w bad D ρ (.slk id o n) (.slice (some ⟨b,o * es,none⟩) n n)
 | slkD {id o n:Nat} (a:Option Addr) (h:D id) (ha:n ≠ 0→a ≠ none):Rep w bad D ρ (.slk id o n) (.slice a n n)
 | slcD {id o n:Nat} (a:Option Addr) (c:Nat) (h:D id) (hn:n≤c) (ha:n ≠ 0→a ≠ none):Rep w bad D ρ (.slc id o n) (.slice a n c)
 | agg (cs:List AV) (vs:List Value) (hl:cs.length=vs.length) (h:∀ (i:Nat) (c:AV) (v:Value),cs[i]?=some c→vs[i]?=some v→Rep w bad D ρ c v):Rep w bad D ρ (.agg cs) (.agg vs.toArray)
 | tup (cs:List AV) (vs:List Value) (hl:cs.length=vs.length) (h:∀ (i:Nat) (c:AV) (v:Value),cs[i]?=some c→vs[i]?=some v→Rep w bad D ρ c v):Rep w bad D ρ (.tup cs) (.tuple vs.toArray)
 | fn (g:FuncId) (a b:List AV) (va vb:List Value) (hla:a.length=va.length) (hlb:b.length=vb.length)
    (ha:∀ (i:Nat) (c:AV) (v:Value),a[i]?=some c→va[i]?=some v→Rep w bad D ρ c v) (hb:∀ (i:Nat) (c:AV) (v:Value),b[i]?=some c→vb[i]?=some v→Rep w bad D ρ c v):Rep w bad D ρ (.fn g a b) (.func (.func g) va.toArray vb.toArray)

def Unfz (fz:Nat × Nat) (n:Nat):Prop:=(∀ j,j < n→¬ (fz.1≤j∧j < fz.2))∧fz.1≤fz.2
theorem unfz0 (n:Nat):Unfz (0,0) n:=⟨fun j hj=>by simp,Nat.le_refl _⟩
structure BlkRel (w:World) (bad D:Nat→Prop) (ρ:Rho) (B:Nat) (k:Blk) (b es cap:Nat):Prop where
 hes:k.e.es=es
 pos:0 < es
 low:B≤b
 len:k.els.length≤cap
 ok:∀ (i:Nat) (el:AV),k.els[i]?=some el→elOk k.e el=true
 mem:∃ cur fz,w.heap[b]?=some (.cells cur k.e.tid fz)∧cur.size=cap * es∧Unfz fz cur.size ∧
  ∀ (i:Nat) (el:AV) (j:Nat) (c:AV),k.els[i]?=some el→el.cells[j]?=some c→∃ v,cur[i * es+j]?=some v∧Rep w bad D ρ c v

structure HRel (w:World) (bad:Nat→Prop) (ρ:Rho) (B:Nat) (H:Heap):Prop where
 real:∀ id b es cap,ρ id=.real b es cap→∃ k,H[id]?=some (some k)∧BlkRel w bad (fun i=>H[i]?=some none) ρ B k b es cap
 virt:∀ id,ρ id=.virt→∃ k,H[id]?=some (some k)∧k.els=[]
 inj:∀ id id' b es cap es' cap',ρ id=.real b es cap→ρ id'=.real b es' cap'→id=id'
 res:∀ id,ρ id=.res→∃ k:Blk,H[id]?=some (some k)∧k.e.es ≠ 0

structure Grow (ρ:Rho) (w w':World):Prop where
 os:w'.os=w.os
 tape:w'.tape=w.tape
 output:w'.output=w.output
 size:w.heap.size≤w'.heap.size
 block:∀ b,b < w.heap.size→¬ own ρ b→w'.heap[b]?=w.heap[b]?

theorem Grow.refl (ρ:Rho) (w:World):Grow ρ w w:=⟨rfl,rfl,rfl,Nat.le_refl _,fun _ _ _=>rfl⟩

structure RLe (w:World) (ρ ρ':Rho):Prop where
 keep:∀ b,own ρ' b→own ρ b ∨ w.heap.size≤b

theorem Grow.trans {ρ ρ':Rho} {w w' w'':World} (h:Grow ρ w w') (r:RLe w ρ ρ') (k:Grow ρ' w' w''):Grow ρ w w'' :=
 ⟨k.os.trans h.os,k.tape.trans h.tape,k.output.trans h.output,Nat.le_trans h.size k.size,fun b hb ho=>(k.block b (Nat.lt_of_lt_of_le hb h.size) (fun hh=>(r.keep b hh).elim ho (fun x=>by omega))).trans (h.block b hb ho)⟩
theorem RLe.refl (w:World) (ρ:Rho):RLe w ρ ρ:=⟨fun _ h=>.inl h⟩
theorem RLe.trans {w w':World} {ρ ρ' ρ'':Rho} (h:RLe w ρ ρ') (hs:w.heap.size≤w'.heap.size) (k:RLe w' ρ' ρ''):RLe w ρ ρ'' :=
 ⟨fun b hb=>(k.keep b hb).elim (fun x=>h.keep b x) (fun x=>.inr (by omega))⟩

theorem cell_of_heap {w w':World} {b o:Nat} (h:w'.heap[b]?=w.heap[b]?):w'.cell? ⟨b,o,none⟩=w.cell? ⟨b,o,none⟩:=by simp [World.cell?,h]

theorem FRep.mono {w w':World} {bad bad':Nat→Prop} {v:AV} {c:Value} (h:FRep w bad v c) (hs:w.heap.size≤w'.heap.size) (hw:∀ b,b < w.heap.size→¬ bad b→w'.heap[b]?=w.heap[b]?)
 (hb:∀ b,b < w.heap.size→bad' b→bad b):FRep w' bad' v c:=by
 induction h with
 | int k n=>exact .int k n
 | bool b=>exact .bool b
 | str s=>exact .str s
 | nilp=>exact .nilp
 | znil=>exact .znil
 | zsl a=>exact .zsl a
 | lst0 a c h=>exact .lst0 a c h
 | emp a c=>exact .emp a c
 | lst l b o es c vs hn he hb' hl hs' hc hr ih =>
   exact .lst l b o es c vs hn he (fun h=>hb' (hb b hl h)) (Nat.lt_of_lt_of_le hl hs) hs' (fun i x j c hx hj=>(cell_of_heap (hw b hl hb')).trans (hc i x j c hx hj)) (fun i x j c hx hj=>ih i x j c hx hj)
 | fptr v b o j vs hb' hl hc hr ih =>
   exact .fptr v b o j vs (fun h=>hb' (hb b hl h)) (Nat.lt_of_lt_of_le hl hs) (fun k c hk=>(cell_of_heap (hw b hl hb')).trans (hc k c hk)) (fun k c hk=>ih k c hk)
 | agg cs vs hl h ih=>exact .agg cs vs hl fun i c v hc hv=>ih i c v hc hv
 | tup cs vs hl h ih=>exact .tup cs vs hl fun i c v hc hv=>ih i c v hc hv
 | fn g a b va vb hla hlb ha hb iha ihb=>exact .fn g a b va vb hla hlb (fun i c v hc hv=>iha i c v hc hv) (fun i c v hc hv=>ihb i c v hc hv)
 | nilf=>exact .nilf
 | undef v=>exact .undef v

structure Step (w w':World) (D D':Nat→Prop) (ρ ρ':Rho):Prop where
 grow:Grow ρ w w'
 rle:RLe w ρ ρ'
 dead:∀ id,D id→D' id
 keep:∀ id,ρ id ≠ .no→ρ' id=ρ id ∨ D' id

theorem Step.refl (w:World) (D:Nat→Prop) (ρ:Rho):Step w w D D ρ ρ:=⟨.refl _ _,.refl _ _,fun _ h=>h,fun _ _=>.inl rfl⟩
theorem Step.trans {w w' w'':World} {D D' D'':Nat→Prop} {ρ ρ' ρ'':Rho} (h:Step w w' D D' ρ ρ') (k:Step w' w'' D' D'' ρ' ρ''):Step w w'' D D'' ρ ρ'' :=
 ⟨h.grow.trans h.rle k.grow,h.rle.trans h.grow.size k.rle,fun id hd=>k.dead id (h.dead id hd),fun id hn=>(h.keep id hn).elim (fun e=>(k.keep id (e ▸ hn)).imp (fun x=>x.trans e) (fun x=>x)) (fun d=>.inr (k.dead id d))⟩

theorem Rep.step {w w':World} {bad D D':Nat→Prop} {ρ ρ':Rho} (s:Step w w' D D' ρ ρ') {v:AV} {c:Value} (h:Rep w bad D ρ v c):Rep w' bad D' ρ' v c:=by
 induction h with
 | frz h=>exact .frz (h.mono s.grow.size (fun b hb hn=>s.grow.block b hb (fun ho=>hn (.inr ho))) (fun b hb hx=>hx.imp (fun x=>x) (fun ho=>(s.rle.keep b ho).elim (fun x=>x) (fun x=>by omega))))
 | ptr h =>
   rename_i id i j b es cap
   rcases s.keep id (by simp [h]) with e | d
   ·exact .ptr (e.trans h)
   ·exact .ptrD _ _ d
 | ptrD b o h=>exact .ptrD b o (s.dead _ h)
 | slc h hc hn =>
   rename_i id o n b es cap c
   rcases s.keep id (by simp [h]) with e | d
   ·exact .slc (e.trans h) hc hn
   ·exact .slcD _ _ d hn (fun _=>by simp)
 | slk h hc =>
   rename_i id o n b es cap
   rcases s.keep id (by simp [h]) with e | d
   ·exact .slk (e.trans h) hc
   ·exact .slkD _ d (fun _=>by simp)
 | slkD a h ha=>exact .slkD a (s.dead _ h) ha
 | slcV a h =>
   rename_i id
   rcases s.keep id (by simp [h]) with e | d
   ·exact .slcV a (e.trans h)
   ·exact .slcD _ _ d (Nat.le_refl _) (fun h=>absurd rfl h)
 | slcD a c h hn ha=>exact .slcD a c (s.dead _ h) hn ha
 | agg cs vs hl h ih=>exact .agg cs vs hl fun i c v hc hv=>ih i c v hc hv
 | tup cs vs hl h ih=>exact .tup cs vs hl fun i c v hc hv=>ih i c v hc hv
 | fn g a b va vb hla hlb ha hb iha ihb=>exact .fn g a b va vb hla hlb (fun i c v hc hv=>iha i c v hc hv) (fun i c v hc hv=>ihb i c v hc hv)

/-! ### Constants -/
theorem optAll_spec {α β:Type} {f:α→Option β}:∀ {l:List α} {m:List β},optAll f l=some m→m.length=l.length∧∀ (i:Nat) (a:α),l[i]?=some a→∃ b,m[i]?=some b∧f a=some b
 | [],m,h=>by simp [optAll] at h; subst h; simp
 | a::l,m,h=>by
   simp only [optAll] at h
   cases hf:f a with
   | none=>simp [hf] at h
   | some b =>
     cases hl:optAll f l with
     | none=>simp [hf,hl] at h
     | some m' =>
       simp [hf,hl] at h
       subst h
       obtain ⟨h1,h2⟩:=optAll_spec hl
       refine ⟨by simp [h1],fun i x hx=>?_⟩
       cases i with
       | zero=>simp at hx; subst hx; exact ⟨b,rfl,hf⟩
       | succ i=>exact h2 i x (by simpa using hx)

theorem cvS_rep {w:World} {bad:Nat→Prop} {v:Value} {x:AV} (h:cvS v=some x):FRep w bad x v∧isSc x=true∧v.oneCell'=true:=by
 unfold cvS at h
 split at h <;> first | (obtain rfl:=Option.some.inj h) | (cases h; done)
 ·exact ⟨.int _ _,rfl,rfl⟩
 ·exact ⟨.bool _,rfl,rfl⟩
 ·refine ⟨?_,rfl,rfl⟩
  rename_i s
  have:(⟨s.data.toList.toArray⟩:ByteArray)=s:=by simp
  conv=>rhs; rw [← this]
  exact .str _
 ·exact ⟨.nilp,rfl,rfl⟩
 ·exact ⟨.znil,rfl,rfl⟩
 ·exact ⟨.nilf,rfl,rfl⟩
 ·exact ⟨.fn _ [] [] [] [] rfl rfl (by simp) (by simp),rfl,rfl⟩

theorem cv_rep {w:World} {bad:Nat→Prop} {v:Value} {x:AV} (h:cv v=some x):FRep w bad x v:=by
 unfold cv at h
 split at h
 ·rename_i cs
  cases hm:optAll cvS cs with
  | none=>simp [hm] at h
  | some l =>
    simp [hm] at h
    subst h
    obtain ⟨h1,h2⟩:=optAll_spec hm
    refine .agg l cs h1 fun i c v hc hv=>?_
    obtain ⟨b,hb,he⟩:=h2 i v hv
    rw [hb] at hc
    cases hc
    exact (cvS_rep he).1
 ·exact (cvS_rep h).1

theorem FRep.cells {w:World} {bad:Nat→Prop} {x:AV} {v:Value} (h:FRep w bad x v) (hu:(∃ cs,x=.agg cs) ∨ isSc x=true) :
 x.cells.length=v.cells.size∧∀ (i:Nat) (c:AV) (u:Value),x.cells[i]?=some c→v.cells[i]?=some u→FRep w bad c u:=by
 cases h with
 | agg cs vs hl h=>exact ⟨by simpa [AV.cells,Value.cells] using hl,fun i c u hc hv=>h i c u (by simpa [AV.cells] using hc) (by simpa [Value.cells] using hv)⟩
 | tup cs vs hl h=>simp [isSc] at hu
 | undef v=>simp [isSc] at hu
 | _ =>
   refine ⟨rfl,fun i c u hc hv=>?_⟩
   cases i with
   | zero =>
     simp only [AV.cells,List.getElem?_cons_zero,Option.some.injEq] at hc
     simp only [Value.cells,List.getElem?_toArray,List.getElem?_cons_zero,Option.some.injEq] at hv
     subst hc; subst hv
     first | exact .int _ _ | exact .bool _ | exact .str _ | exact .nilp | exact .znil | exact .zsl _ | exact .emp _ _ | (constructor <;> assumption) | exact .nilf
   | succ i=>simp [AV.cells] at hc
end Go.Proofs.Ytffiilnmfmkpmaa.AE

namespace Go.Proofs.Ytffiilnmfmkpmaa.AE
set_option linter.unusedVariables false
set_option linter.unusedSimpArgs false
set_option linter.constructorNameAsVariable false
open Go Go.RowKit

section
variable {P:Program} {w:World} {bad D:Nat→Prop} {ρ:Rho}

theorem rep_int {k:IntKind} {n:Int} {v:Value} (h:Rep w bad D ρ (.int k n) v):v=.int k n:=by
 cases h with
 | frz h=>cases h; rfl
theorem rep_bool {b:Bool} {v:Value} (h:Rep w bad D ρ (.bool b) v):v=.bool b:=by
 cases h with
 | frz h=>cases h; rfl
theorem rep_str {s:List UInt8} {v:Value} (h:Rep w bad D ρ (.str s) v):v=.string ⟨s.toArray⟩:=by
 cases h with
 | frz h=>cases h; rfl
theorem rep_nilp {v:Value} (h:Rep w bad D ρ .nilp v):v=.pointer none:=by
 cases h with
 | frz h=>cases h; rfl
theorem rep_nilf {v:Value} (h:Rep w bad D ρ .nilf v):v=.nilFunc:=by
 cases h with
 | frz h=>cases h; rfl
theorem rep_agg {cs:List AV} {v:Value} (h:Rep w bad D ρ (.agg cs) v):∃ vs:List Value,v=.agg vs.toArray∧cs.length=vs.length∧∀ (i:Nat) (c:AV) (u:Value),cs[i]?=some c→vs[i]?=some u→Rep w bad D ρ c u:=by
 cases h with
 | frz h=>cases h with
   | agg cs vs hl h=>exact ⟨vs,rfl,hl,fun i c u hc hu=>.frz (h i c u hc hu)⟩
 | agg cs vs hl h=>exact ⟨vs,rfl,hl,h⟩
theorem rep_tup {cs:List AV} {v:Value} (h:Rep w bad D ρ (.tup cs) v):∃ vs:List Value,v=.tuple vs.toArray∧cs.length=vs.length∧∀ (i:Nat) (c:AV) (u:Value),cs[i]?=some c→vs[i]?=some u→Rep w bad D ρ c u:=by
 cases h with
 | frz h=>cases h with
   | tup cs vs hl h=>exact ⟨vs,rfl,hl,fun i c u hc hu=>.frz (h i c u hc hu)⟩
 | tup cs vs hl h=>exact ⟨vs,rfl,hl,h⟩
theorem rep_fn {g:FuncId} {a b:List AV} {v:Value} (h:Rep w bad D ρ (.fn g a b) v):∃ va vb:List Value,v=.func (.func g) va.toArray vb.toArray∧a.length=va.length∧b.length=vb.length ∧
 (∀ (i:Nat) (c:AV) (u:Value),a[i]?=some c→va[i]?=some u→Rep w bad D ρ c u)∧(∀ (i:Nat) (c:AV) (u:Value),b[i]?=some c→vb[i]?=some u→Rep w bad D ρ c u):=by
 cases h with
 | frz h=>cases h with
   | fn g a b va vb hla hlb ha hb=>exact ⟨va,vb,rfl,hla,hlb,fun i c u hc hu=>.frz (ha i c u hc hu),fun i c u hc hu=>.frz (hb i c u hc hu)⟩
 | fn g a b va vb hla hlb ha hb=>exact ⟨va,vb,rfl,hla,hlb,ha,hb⟩

theorem rep_one {x:AV} {v:Value} (h:Rep w bad D ρ x v) (hx:isSc x=true):v.oneCell'=true∧v.cells=#[v]:=by
 cases h with
 | frz h=>cases h <;> first | exact ⟨rfl,rfl⟩ | (simp [isSc] at hx; done)
 | _=>first | exact ⟨rfl,rfl⟩ | (simp [isSc] at hx; done)

theorem rep_cells {x:AV} {v:Value} (h:Rep w bad D ρ x v) (hx:isSc x=true ∨ ∃ cs,x=.agg cs) :
 x.cells.length=v.cells.size∧∀ (i:Nat) (c:AV) (u:Value),x.cells[i]?=some c→v.cells[i]?=some u→Rep w bad D ρ c u:=by
 rcases hx with hx | ⟨cs,rfl⟩
 ·have e:x.cells=[x]:=by cases x <;> first | rfl | (simp [isSc] at hx; done)
  obtain ⟨_,e2⟩:=rep_one h hx
  rw [e,e2]
  refine ⟨rfl,fun i c u hc hu=>?_⟩
  cases i with
  | zero=>simp at hc hu; subst hc; subst hu; exact h
  | succ i=>simp at hc
 ·obtain ⟨vs,rfl,hl,hp⟩:=rep_agg h
  exact ⟨by simpa [AV.cells,Value.cells] using hl,fun i c u hc hu=>hp i c u (by simpa [AV.cells] using hc) (by simpa [Value.cells] using hu)⟩

theorem run_ag {t:TypeId} {ag:Bool} (h:agB P t=some ag):(isAgg t).run P w=.ok ag w:=by
 unfold agB at h
 unfold isAgg
 cases hu:P.underlying t with
 | none=>simp [hu] at h
 | some d =>
   simp only [Sem.run_bind,run_underlying hu,Result.andThen_ok]
   rw [hu] at h
   cases d <;> simp_all
theorem run_size {t:TypeId} {i:TypeInfo} (h:P.info? t=some i):(sizeOf t).run P w=.ok i.size w:=by simp [sizeOf,typeInfo,h]

theorem run_part {t:TypeId} {i:TypeInfo} {ag:Bool} (hi:P.info? t=some i) (ha:agB P t=some ag) (cs:Array Value) (off:Nat) :
 (part t cs off).run P w=if ag then .ok (.agg (cs.extract off (off+i.size))) w else match cs[off]? with
   | some v=>.ok v w
   | none => .halt (.stuck "part: no such cell") w := by
 unfold part
 simp only [Sem.run_bind,run_ag ha,Result.andThen_ok]
 cases ag with
 | true=>simp [run_size hi]
 | false=>simp only [Bool.false_eq_true,if_false]; cases cs[off]? <;> simp

theorem sub_rep {ag:Bool} {n j:Nat} {cs:List AV} {vs:List Value} {x:AV} (h:sub ag n j (.agg cs)=some x) (hl:cs.length=vs.length)
 (hp:∀ (i:Nat) (c:AV) (u:Value),cs[i]?=some c→vs[i]?=some u→Rep w bad D ρ c u) :
 ∃ v,(if ag then some (Value.agg (vs.toArray.extract j (j+n))) else vs[j]?)=some v∧Rep w bad D ρ x v:=by
 unfold sub at h
 cases ag with
 | true =>
   simp only [if_true] at h ⊢
   split at h
   ·rename_i hle
    obtain rfl:=Option.some.inj h
    refine ⟨_,rfl,?_⟩
    have e:vs.toArray.extract j (j+n)=((vs.drop j).take n).toArray:=by
     apply Array.ext'
     simp
    rw [e]
    refine .agg _ _ (by simp [hl]) fun i c u hc hu=>?_
    have hi:i < n:=by
     have:=(List.getElem?_eq_some_iff.mp hc).1
     simp at this; omega
    rw [List.getElem?_take_of_lt hi,List.getElem?_drop] at hc hu
    exact hp _ c u hc hu
   ·cases h
 | false =>
   simp only [Bool.false_eq_true,if_false] at h ⊢
   have hj:=(List.getElem?_eq_some_iff.mp h).1
   refine ⟨vs[j]'(by omega),List.getElem?_eq_getElem _,hp j x _ h (List.getElem?_eq_getElem _)⟩

theorem load_rep {t:TypeId} {i:TypeInfo} {ag:Bool} {j:Nat} {el x:AV} {b o:Nat} (hi:P.info? t=some i) (ha:agB P t=some ag) (h:sub ag i.size j el=some x)
 (hm:∀ (k:Nat) (c:AV),el.cells[k]?=some c→∃ v,w.cell? ⟨b,o+k,none⟩=some v∧Rep w bad D ρ c v) :
 ∃ v,(Instr.loadAt t (.pointer (some ⟨b,o+j,none⟩))).run P w=.ok v w∧Rep w bad D ρ x v:=by
 have hall:∀ (k:Nat),k < el.cells.length→∃ v,w.cell? ⟨b,o+k,none⟩=some v∧∀ c,el.cells[k]?=some c→Rep w bad D ρ c v:=by
  intro k hk
  obtain ⟨v,hv,hr⟩:=hm k _ (List.getElem?_eq_getElem hk)
  refine ⟨v,hv,fun c hc=>?_⟩
  rw [List.getElem?_eq_getElem hk] at hc
  cases hc; exact hr
 cases ag with
 | true =>
   obtain ⟨cs,rfl⟩:∃ cs,el=.agg cs:=by
    cases el <;> first | (simp [sub] at h; done) | exact ⟨_,rfl⟩
   simp only [sub,if_true] at h
   split at h
   ·rename_i hle
    obtain rfl:=Option.some.inj h
    simp only [AV.cells] at hall hm
    have hcell:∀ k,k < i.size→∃ v,w.cell? (Addr.add ⟨b,o+j,none⟩ k)=some v:=by
     intro k hk
     obtain ⟨v,hv,_⟩:=hall (j+k) (by omega)
     exact ⟨v,by rw [Addr.add_lit,Nat.add_assoc]; exact hv⟩
    let f:Nat→Value:=fun k=>(w.cell? (Addr.add ⟨b,o+j,none⟩ k)).getD undef
    have hf:∀ k,k < i.size→w.cell? (Addr.add ⟨b,o+j,none⟩ k)=some (f k):=by
     intro k hk
     obtain ⟨v,hv⟩:=hcell k hk
     simp only [f,hv,Option.getD_some]
    refine ⟨.agg ((List.range i.size).map f).toArray,?_,?_⟩
    ·simp only [Instr.loadAt,Instr.sureAddr,Sem.run_bind,Sem.run_pure,Result.andThen_ok,loadVar,run_ag ha,if_true,run_size hi,run_loadCells w _ _ f hf]
    ·refine .agg _ _ (by simp; omega) fun k c u hc hu=>?_
     have hk:k < i.size:=by
      have:=(List.getElem?_eq_some_iff.mp hc).1
      simp at this; omega
     rw [List.getElem?_take_of_lt hk,List.getElem?_drop] at hc
     obtain ⟨v,hv,hr⟩:=hm _ c hc
     simp [List.getElem?_range hk] at hu
     subst hu
     have:=hf k hk
     rw [Addr.add_lit,Nat.add_assoc,hv] at this
     cases this
     exact hr
   ·cases h
 | false =>
   have hx:el.cells[j]?=some x:=by
    cases el <;> simp [sub] at h <;> first | (simpa [AV.cells] using h) | (cases j <;> simp_all [AV.cells])
   obtain ⟨v,hv,hr⟩:=hm j x hx
   refine ⟨v,?_,hr⟩
   simp only [Instr.loadAt,Instr.sureAddr,Sem.run_bind,Sem.run_pure,Result.andThen_ok,loadVar,run_ag ha,Bool.false_eq_true,if_false,run_load,hv]

theorem elOk_sc {e:ETy} {x:AV} (h:elOk e x=true):(isSc x=true ∨ ∃ cs,x=.agg cs)∧x.cells.length=e.es∧(∀ c ∈ x.cells,isSc c=true):=by
 simp only [elOk,Bool.and_eq_true,beq_iff_eq,List.all_eq_true] at h
 refine ⟨?_,h.1,h.2⟩
 by_cases hx:∃ cs,x=.agg cs
 ·exact .inr hx
 ·left
  have e:x.cells=[x]:=by cases x <;> first | rfl | exact absurd ⟨_,rfl⟩ hx
  exact h.2 x (by rw [e]; simp)

theorem aLoad_rep {H H':Heap} {B:Nat} {t:TypeId} {i:TypeInfo} {ag:Bool} {p x:AV} {v:Value} (hi:P.info? t=some i) (ha:agB P t=some ag) (h:aLoad H ag i.size p=some x)
 (hR:HRel w bad ρ B H') (hD:∀ id,D id ↔ H'[id]?=some none) (hsame:∀ id u q,p=.ptr id u q→∀ b,hget H id=some b→ρ id ≠ .no→hget H' id=some b) (hdd:∀ id,D id→hget H id=none) (hv:Rep w bad D ρ p v) :
 ∃ u,(Instr.loadAt t v).run P w=.ok u w∧Rep w bad D ρ x u:=by
 have eD:D=fun id=>H'[id]?=some none:=funext fun id=>propext (hD id)
 cases p with
 | ptr id u q =>
   simp only [aLoad] at h
   have hs:=hsame id u q rfl
   cases hk:hget H id with
   | none=>simp [hk] at h
   | some k =>
     simp only [hk] at h
     have hk':ρ id ≠ .no→H'[id]?=some (some k):=by
      intro hn
      have hs:=hs k hk hn
      unfold hget at hs
      cases hq:H'[id]? with
      | none=>simp [hq] at hs
      | some y=>cases y with
        | none=>simp [hq] at hs
        | some y=>simp [hq] at hs; rw [hs]
     cases he:k.els[u]? with
     | none=>simp [he] at h
     | some el =>
       simp only [he] at h
       cases hv with
       | frz hv=>cases hv
       | ptrD b o hd=>rw [hdd _ hd] at hk; cases hk
       | ptr hρ =>
         rename_i b es cap
         obtain ⟨k2,hk2,hb⟩:=hR.real id b es cap hρ
         rw [hk' (by simp [hρ])] at hk2; cases hk2
         obtain ⟨cur,fz,hm1,hm2,hm3,hm4⟩:=hb.mem
         refine load_rep (bad:=bad) (D:=D) (ρ:=ρ) (o:=u * es) hi ha h fun c y hy=>?_
         obtain ⟨z,hz1,hz2⟩:=hm4 u el c y he hy
         refine ⟨z,?_,eD ▸ hz2⟩
         simp only [World.cell?,hm1]
         simpa using hz1
 | fptr y q =>
   simp only [aLoad] at h
   cases hv with
   | frz hv =>
     cases hv with
     | fptr _ b o _ vs hb hl hc hr =>
       exact load_rep hi ha h fun k c hk=>⟨vs k,hc k c hk,.frz (hr k c hk)⟩
 | _=>simp [aLoad] at h

theorem eqGuard_off (op:BinOp) (t:TypeId) (x y:Operand) (a b:Value) (h1:a ≠ .nilIface) (h2:∀ cs,a ≠ .agg cs):eqGuard op t x y a b=pure ():=by
 cases a <;> first | exact absurd rfl h1 | exact absurd rfl (h2 _) | (cases op <;> rfl)

theorem aBin_run {op:BinOp} {t:TypeId} {x y:Operand} {a b:AV} {va vb:Value} {r:AV} (h:aBin op a b=some r) (ha:Rep w bad D ρ a va) (hb:Rep w bad D ρ b vb) :
 ∃ v,(do eqGuard op t x y va vb; binOp op t va vb:Sem Value).run P w=.ok v w∧Rep w bad D ρ r v:=by
 cases a <;> cases b <;> (try (simp [aBin] at h; done))
 ·rename_i k n k' m
  obtain rfl:=rep_int ha
  obtain rfl:=rep_int hb
  rw [eqGuard_off _ _ _ _ _ _ (by simp) (by simp)]
  simp only [aBin] at h
  cases op
  case shl =>
   simp only [] at h
   split at h
   ·cases h
   ·rename_i hm
    obtain rfl:=Option.some.inj h
    exact ⟨_,by simp [binOp,Op.shift,hm],.frz (.int _ _)⟩
  case shr =>
   simp only [] at h
   split at h
   ·cases h
   ·rename_i hm
    obtain rfl:=Option.some.inj h
    exact ⟨_,by simp [binOp,Op.shift,hm],.frz (.int _ _)⟩
  case quo =>
   simp only [] at h
   split at h
   ·rename_i hk
    subst hk
    split at h
    ·cases h
    ·rename_i hm
     obtain rfl:=Option.some.inj h
     exact ⟨_,by simp [binOp,Op.intDiv,hm],.frz (.int _ _)⟩
   ·cases h
  case rem =>
   simp only [] at h
   split at h
   ·rename_i hk
    subst hk
    split at h
    ·cases h
    ·rename_i hm
     obtain rfl:=Option.some.inj h
     exact ⟨_,by simp [binOp,Op.intDiv,hm],.frz (.int _ _)⟩
   ·cases h
  all_goals
   simp only [] at h
   split at h
   ·rename_i hk
    subst hk
    obtain rfl:=Option.some.inj h
    refine ⟨_,?_,by first | exact .frz (.int _ _) | exact .frz (.bool _)⟩
    simp only [binOp_add,binOp_sub,binOp_mul,binOp_and,binOp_or,binOp_xor,binOp_andNot,binOp_eql,binOp_neq,binOp_lss,binOp_leq,binOp_gtr,binOp_geq,Op.intArith,intBits_and,intBits_or,intBits_xor,intBits_andNot,pure_bind,Sem.run_pure]
   ·cases h
 ·rename_i s u
  obtain rfl:=rep_str ha
  obtain rfl:=rep_str hb
  rw [eqGuard_off _ _ _ _ _ _ (by simp) (by simp)]
  have hl:∀ z:List UInt8,(⟨z.toArray⟩:ByteArray).toList=z:=fun z=>by simp [ByteArray.toList_eq]
  have hz:∀ z:List UInt8,(⟨z.toArray⟩:ByteArray).size=z.length:=fun z=>by simp [ByteArray.size]
  cases op <;> simp only [aBin] at h <;> first | (cases h; done) | skip
  case add =>
   split at h
   ·rename_i hle
    obtain rfl:=Option.some.inj h
    refine ⟨.string ⟨(s ++ u).toArray⟩,?_,.frz (.str _)⟩
    have hn:¬ (((⟨s.toArray⟩:ByteArray).size+(⟨u.toArray⟩:ByteArray).size:Nat):Int) > IntKind.i64.max:=by rw [hz,hz]; simp [IntKind.max,IntKind.signed,IntKind.bits]; omega
    simp only [binOp,Op.stringOp,Sem.run_bind,Sem.run_pure,Result.andThen_ok,if_neg hn]
    congr 2
   ·cases h
  all_goals
   obtain rfl:=Option.some.inj h
   refine ⟨_,?_,.frz (.bool _)⟩
   simp [binOp,Op.stringOp,hl]

theorem aUn_run {op:UnOp} {a:AV} {va:Value} {r:AV} (h:aUn op a=some r) (ha:Rep w bad D ρ a va):∃ v,(Op.unary op va).run P w=.ok v w∧Rep w bad D ρ r v:=by
 cases a <;> (try (simp [aUn] at h; done))
 ·obtain rfl:=rep_int ha
  cases op <;> simp only [aUn] at h <;> first | (cases h; done) | skip
  ·obtain rfl:=Option.some.inj h
   exact ⟨_,by simp [Op.unary,Op.intArith],.frz (.int _ _)⟩
  ·obtain rfl:=Option.some.inj h
   exact ⟨_,by simp [Op.unary,Op.intBits,bits],.frz (.int _ _)⟩
 ·obtain rfl:=rep_bool ha
  cases op <;> simp only [aUn] at h <;> first | (cases h; done) | skip
  obtain rfl:=Option.some.inj h
  exact ⟨_,by simp [Op.unary],.frz (.bool _)⟩
end
end Go.Proofs.Ytffiilnmfmkpmaa.AE

namespace Go.Proofs.Ytffiilnmfmkpmaa.AE
set_option linter.unusedVariables false
set_option linter.unusedSimpArgs false
set_option linter.constructorNameAsVariable false
open Go Go.RowKit

def isPure:IOp→Bool
 | .box .. | .alloc .. | .mkrow .. | .store .. | .s2b .. | .mkslice .. | .call .. | .app .. | .eqv ..=>false
 | _=>true

theorem agree_of {H:Heap} {id:Nat} {b:Blk} (h:hget H id=some b):H[id]?=some (some b):=by
 unfold hget at h
 split at h
 ·cases h; assumption
 ·cases h
theorem hget_of {H:Heap} {id:Nat} {b:Blk} (h:H[id]?=some (some b)):hget H id=some b:=by simp [hget,h]

section
variable {P:Program} {w:World} {bad D:Nat→Prop} {ρ:Rho} {a:Act} {ev:Opd→AV} {o:Oper}

def OpsOk (w:World) (bad D:Nat→Prop) (ρ:Rho) (a:Act) (ev:Opd→AV) (xs:List Operand):Prop :=
 ∀ x ∈ xs,∀ y,cOpd x=some y→Rep w bad D ρ (ev y) (a.eval x)

theorem opt_some {α β:Type} {o:Option α} {f:α→β} {b:β} (h:o.map f=some b):∃ a,o=some a∧f a=b:=by
 cases o with
 | none=>simp at h
 | some a=>exact ⟨a,rfl,by simpa using h⟩

theorem getD_some {cs:List Value} {i:Nat} (h:i < cs.length):cs[i]?=some (cs.getD i undef):=by
 rw [List.getD_eq_getElem?_getD,List.getElem?_eq_getElem h]; rfl

theorem opds_rep {xs:List Operand} {ys:List Opd} (h:cOpds xs=some ys) (hO:OpsOk w bad D ρ a ev xs) :
 (ys.map ev).length=(xs.map a.eval).length∧∀ (i:Nat) (c:AV) (u:Value),(ys.map ev)[i]?=some c→(xs.map a.eval)[i]?=some u→Rep w bad D ρ c u:=by
 obtain ⟨h1,h2⟩:=optAll_spec h
 refine ⟨by simp [h1],fun i c u hc hu=>?_⟩
 rw [List.getElem?_map] at hc hu
 obtain ⟨x,hx,rfl⟩:=Option.map_eq_some_iff.mp hu
 obtain ⟨y,hy,he⟩:=h2 i x hx
 rw [hy] at hc
 simp at hc
 subst hc
 exact hO x (List.mem_of_getElem? hx) y he

def OptRep (w:World) (bad D:Nat→Prop) (ρ:Rho) (x:Option AV) (v:Option Value):Prop:=(x=none∧v=none) ∨ ∃ y u,x=some y∧v=some u∧Rep w bad D ρ y u

theorem optOpd_rep {x:Option Operand} {y:Option Opd} {xs:List Operand} (h:cOptOpd x=some y) (hO:OpsOk w bad D ρ a ev xs) (hx:∀ z,x=some z→z ∈ xs):OptRep w bad D ρ (y.map ev) (x.map a.eval):=by
 cases x with
 | none=>simp [cOptOpd] at h; subst h; exact .inl ⟨rfl,rfl⟩
 | some z =>
   simp only [cOptOpd] at h
   cases hz:cOpd z with
   | none=>simp [hz] at h
   | some z' =>
     simp [hz] at h
     subst h
     exact .inr ⟨_,_,rfl,rfl,hO z (hx z rfl) z' hz⟩

theorem bound_run {x:Option AV} {v:Option Value} {d top n:Nat} (h:bound x d top=some n) (hv:OptRep w bad D ρ x v) :
 (x=none∧v=none∧n=d) ∨ (∃ k i,v=some (.int k i)∧0≤i∧i≤(top:Int)∧n=i.toNat∧x.isSome=true):=by
 rcases hv with ⟨rfl,rfl⟩ | ⟨y,u,rfl,rfl,hr⟩
 ·simp [bound] at h; exact .inl ⟨rfl,rfl,h.symm⟩
 ·right
  simp only [bound] at h
  cases y <;> simp [aInt] at h
  rename_i k i
  obtain rfl:=rep_int hr
  exact ⟨k,i,rfl,h.1.1,h.1.2,h.2.symm,rfl⟩

theorem sliceBounds_run {isSlice:Bool} {n cap l h m:Nat} {lo hi mx:Option AV} {lo' hi' mx':Option Value} (hm:bound mx n n=some m) (hh:bound hi n m=some h) (hl:bound lo 0 h=some l) (hc:n≤cap)
 (rl:OptRep w bad D ρ lo lo') (rh:OptRep w bad D ρ hi hi') (rm:OptRep w bad D ρ mx mx') (hx:mx.isSome=true→hi.isSome=true) :
 (Instr.sliceBounds isSlice n cap lo' hi' mx').run P w=.ok (l,h,if mx.isSome then m else cap) w∧l≤h∧h≤m∧m≤n:=by
 have q1:=bound_run hm rm
 have q2:=bound_run hh rh
 have q3:=bound_run hl rl
 rcases q1 with ⟨rfl,rfl,rfl⟩ | ⟨k1,i1,rfl,a1,b1,rfl,c1⟩ <;> rcases q2 with ⟨rfl,rfl,rfl⟩ | ⟨k2,i2,rfl,a2,b2,rfl,c2⟩ <;> rcases q3 with ⟨rfl,rfl,rfl⟩ | ⟨k3,i3,rfl,a3,b3,rfl,c3⟩
 all_goals (try (simp at hx; simp [c1] at hx; done))
 all_goals
  simp only [Instr.sliceBounds,Instr.sliceBound,asIntOf,Sem.run_bind,Sem.run_pure,Result.andThen_ok]
 case inl.inl.inl=>exact ⟨rfl,by omega,by omega,by omega⟩
 case inl.inl.inr=>rw [if_pos ⟨a3,b3⟩]; exact ⟨rfl,by omega,by omega,by omega⟩
 case inl.inr.inl=>rw [if_pos ⟨a2,by omega⟩]; exact ⟨rfl,by omega,by omega,by omega⟩
 case inl.inr.inr =>
  rw [if_pos ⟨a2,by omega⟩]
  simp only [Sem.run_pure,Result.andThen_ok]
  rw [if_pos ⟨a3,b3⟩]; exact ⟨rfl,by omega,by omega,by omega⟩
 case inr.inr.inl =>
  rw [if_pos ⟨a1,by omega⟩]
  simp only [Sem.run_pure,Result.andThen_ok]
  rw [if_pos ⟨a2,b2⟩]
  exact ⟨by simp [c1],by omega,by omega,by omega⟩
 case inr.inr.inr =>
  rw [if_pos ⟨a1,by omega⟩]
  simp only [Sem.run_pure,Result.andThen_ok]
  rw [if_pos ⟨a2,b2⟩]
  simp only [Sem.run_pure,Result.andThen_ok]
  rw [if_pos ⟨a3,b3⟩]
  exact ⟨by simp [c1],by omega,by omega,by omega⟩
 all_goals (exfalso; simp_all)

theorem lenOf_rep {H H':Heap} {x:AV} {n:Nat} {v:Value} (h:lenOf H x=some n) (hD:∀ id,D id ↔ H'[id]?=some none)
 (hsh:∀ id b,hget H id=some b→∃ b',hget H' id=some b'∧b'.els.length=b.els.length) (hv:Rep w bad D ρ x v) :
 ∃ ad c,v=.slice ad n c∧n≤c∧((∃ b,x=.zsl b∧c=0) ∨ (∃ l,x=.lst l∧n=l.length) ∨ ((∃ id q,x=.slc id q n) ∨ ∃ id q,x=.slk id q n) ∨ (x=.emp∧n=0))∧(ad=none→c=0):=by
 cases x <;> simp [lenOf] at h
 ·subst h
  cases hv with
  | frz hv=>cases hv with
    | znil=>exact ⟨_,_,rfl,Nat.le_refl _,.inl ⟨_,rfl,rfl⟩,fun _=>rfl⟩
    | zsl a=>exact ⟨_,_,rfl,Nat.le_refl _,.inl ⟨_,rfl,rfl⟩,fun _=>rfl⟩
 ·rename_i id q m
  cases hg:hget H id with
  | none=>simp [hg] at h
  | some b =>
    simp [hg] at h
    subst h
    obtain ⟨b',hb',_⟩:=hsh id b hg
    cases hv with
    | frz hv=>cases hv
    | slc hρ hc hn=>exact ⟨_,_,rfl,hn,.inr (.inr (.inl (.inl ⟨_,_,rfl⟩))),fun h=>by cases h⟩
    | slcV ad hρ=>exact ⟨_,_,rfl,Nat.le_refl _,.inr (.inr (.inl (.inl ⟨_,_,rfl⟩))),fun _=>rfl⟩
    | slcD ad c hd=>rw [hD,agree_of hb'] at hd; cases hd
 ·subst h
  cases hv with
  | frz hv=>cases hv with
    | lst0 a c h=>exact ⟨_,_,rfl,Nat.zero_le _,.inr (.inl ⟨_,rfl,rfl⟩),h⟩
    | lst l b o es c vs hn he hb hl hs hc hr=>exact ⟨_,_,rfl,hn,.inr (.inl ⟨_,rfl,rfl⟩),fun h=>by cases h⟩
 ·subst h
  cases hv with
  | frz hv=>cases hv with
    | emp a c=>exact ⟨_,_,rfl,Nat.zero_le _,.inr (.inr (.inr ⟨rfl,rfl⟩)),fun h=>by cases h⟩
 ·rename_i id q m
  cases hg:hget H id with
  | none=>simp [hg] at h
  | some b =>
    simp [hg] at h
    subst h
    obtain ⟨b',hb',_⟩:=hsh id b hg
    cases hv with
    | frz hv=>cases hv
    | slk hρ hc=>exact ⟨_,_,rfl,Nat.le_refl _,.inr (.inr (.inl (.inr ⟨_,_,rfl⟩))),fun h=>by cases h⟩
    | slkD ad hd=>rw [hD,agree_of hb'] at hd; cases hd

theorem shift_rep {x y:AV} {d:Nat} {v:Value} (h:aShift d x=some y) (hv:Rep w bad D ρ x v):∃ b o,v=.pointer (some ⟨b,o,none⟩)∧Rep w bad D ρ y (.pointer (some ⟨b,o+d,none⟩)):=by
 cases x <;> simp [aShift] at h
 ·subst h
  cases hv with
  | frz hv=>cases hv
  | ptr hρ=>exact ⟨_,_,rfl,by rw [Nat.add_assoc]; exact .ptr hρ⟩
  | ptrD b o hd=>exact ⟨_,_,rfl,.ptrD _ _ hd⟩
 ·subst h
  cases hv with
  | frz hv=>cases hv with
    | fptr y b o j vs hb hl hc hr=>exact ⟨_,_,rfl,by rw [Nat.add_assoc]; exact .frz (.fptr _ _ _ _ _ hb hl hc hr)⟩

theorem opd_rep {x:Operand} {y:Opd} {xs:List Operand} (h:cOpd x=some y) (hO:OpsOk w bad D ρ a ev xs) (hx:x ∈ xs):Rep w bad D ρ (ev y) (a.eval x):=hO x hx y h

theorem min_run:∀ (l:List AV) (vs:List Value) (k:IntKind) (x:Int) (r:AV),l.length=vs.length→(∀ (i:Nat) (c:AV) (u:Value),l[i]?=some c→vs[i]?=some u→Rep w bad D ρ c u) →
 l.foldl minStep (some (.int k x))=some r→∃ v,(vs.foldlM Builtin.min2 (.int k x):Sem Value).run P w=.ok v w∧Rep w bad D ρ r v
 | [],vs,k,x,r,hl,_,h=>by
   cases vs with
   | nil=>simp at h; subst h; exact ⟨_,rfl,.frz (.int _ _)⟩
   | cons v vs=>simp at hl
 | c::l,vs,k,x,r,hl,hp,h=>by
   cases vs with
   | nil=>simp at hl
   | cons u vs =>
     have h0:=hp 0 c u rfl rfl
     simp only [List.foldl_cons] at h
     have hn:∀ l:List AV,l.foldl minStep none=none:=fun l=>by induction l with
      | nil=>rfl
      | cons b l ih=>exact ih
     cases c <;> (try (simp only [minStep,hn] at h; cases h; done))
     rename_i k' y
     obtain rfl:=rep_int h0
     simp only [minStep] at h
     split at h
     ·rename_i hk
      subst hk
      obtain ⟨v,h1,h2⟩:=min_run l vs k _ r (by simpa using hl) (fun i c u hc hu=>hp (i+1) c u (by simpa using hc) (by simpa using hu)) h
      exact ⟨v,by simp only [List.foldlM_cons,Builtin.min2,Sem.run_bind,Sem.run_pure,Result.andThen_ok]; exact h1,h2⟩
     ·simp only [hn] at h; cases h

theorem max_run:∀ (l:List AV) (vs:List Value) (k:IntKind) (x:Int) (r:AV),l.length=vs.length→(∀ (i:Nat) (c:AV) (u:Value),l[i]?=some c→vs[i]?=some u→Rep w bad D ρ c u) →
 l.foldl maxStep (some (.int k x))=some r→∃ v,(vs.foldlM Builtin.max2 (.int k x):Sem Value).run P w=.ok v w∧Rep w bad D ρ r v
 | [],vs,k,x,r,hl,_,h=>by
   cases vs with
   | nil=>simp at h; subst h; exact ⟨_,rfl,.frz (.int _ _)⟩
   | cons v vs=>simp at hl
 | c::l,vs,k,x,r,hl,hp,h=>by
   cases vs with
   | nil=>simp at hl
   | cons u vs =>
     have h0:=hp 0 c u rfl rfl
     simp only [List.foldl_cons] at h
     have hn:∀ l:List AV,l.foldl maxStep none=none:=fun l=>by induction l with
      | nil=>rfl
      | cons b l ih=>exact ih
     cases c <;> (try (simp only [maxStep,hn] at h; cases h; done))
     rename_i k' y
     obtain rfl:=rep_int h0
     simp only [maxStep] at h
     split at h
     ·rename_i hk
      subst hk
      obtain ⟨v,h1,h2⟩:=max_run l vs k _ r (by simpa using hl) (fun i c u hc hu=>hp (i+1) c u (by simpa using hc) (by simpa using hu)) h
      exact ⟨v,by simp only [List.foldlM_cons,Builtin.max2,Sem.run_bind,Sem.run_pure,Result.andThen_ok]; exact h1,h2⟩
     ·simp only [hn] at h; cases h

theorem zip_fold (off:Nat):∀ (l:List Value) (k:Nat) (cs:Array Value),off+k+l.length≤cs.size →
 ((l.zipIdx k).foldl (fun (cs:Array Value) (x:Value × Nat)=>cs.setIfInBounds (off+x.2) x.1) cs).toList=cs.toList.take (off+k) ++ l ++ cs.toList.drop (off+k+l.length)
 | [],k,cs,_=>by simp
 | v::l,k,cs,h=>by
   simp only [List.zipIdx_cons,List.foldl_cons]
   rw [zip_fold off l (k+1) _ (by simp at h ⊢; omega)]
   simp at h
   apply List.ext_getElem?
   intro i
   simp only [Array.toList_setIfInBounds,List.getElem?_append,List.length_append,List.length_take,List.length_set,List.getElem?_take,List.getElem?_drop,List.getElem?_set,Array.length_toList,List.length_cons,List.getElem?_cons]
   repeat' split
   all_goals (try rfl)
   all_goals (try omega)
   all_goals (try (congr 1; omega))
   all_goals (first | (simp_all; done) | (exfalso; omega) | skip)

theorem fill_run (place:Nat→Option (Nat × Nat)):∀ (ps:List (Nat × Nat × AV)) (qs:List (Nat × Value)) (cs:List AV) (vs:List Value) (cs':List AV),ps.length=qs.length→cs.length=vs.length →
 (∀ (i:Nat) (c:AV) (u:Value),cs[i]?=some c→vs[i]?=some u→Rep w bad D ρ c u) →
 (∀ (i:Nat) (p:Nat × Nat × AV) (q:Nat × Value),ps[i]?=some p→qs[i]?=some q→place q.1=some (p.1,p.2.1)∧Rep w bad D ρ p.2.2 q.2)→fillP cs ps=some cs' →
 ∃ vs':List Value,Instr.fill place vs.toArray qs=some vs'.toArray∧cs'.length=vs'.length∧cs'.length=cs.length∧∀ (i:Nat) (c:AV) (u:Value),cs'[i]?=some c→vs'[i]?=some u→Rep w bad D ρ c u
 | [],qs,cs,vs,cs',hl,hn,hp,_,h=>by
   cases qs with
   | nil=>simp [fillP] at h; subst h; exact ⟨vs,rfl,hn,rfl,hp⟩
   | cons q qs=>simp at hl
 | (off,n,x)::ps,qs,cs,vs,cs',hl,hn,hp,hq,h=>by
   cases qs with
   | nil=>simp at hl
   | cons q qs =>
     obtain ⟨h1,h2⟩:=hq 0 _ _ rfl rfl
     simp only [fillP] at h
     split at h
     ·rename_i hx
      obtain ⟨hx,hsc⟩:=hx
      split at h
      ·rename_i hle
       have hxx:isSc x=true ∨ ∃ c,x=.agg c:=by
        cases x <;> simp_all [AV.cells,isSc]
       obtain ⟨e1,e2⟩:=rep_cells h2 hxx
       obtain ⟨i0,u⟩:=q
       simp only at h1 h2 e1 e2
       have hz:(u.cells.zipIdx.foldl (fun (cs:Array Value) (x:Value × Nat)=>cs.setIfInBounds (off+x.2) x.1) vs.toArray)=(vs.take off ++ u.cells.toList ++ vs.drop (off+n)).toArray:=by
        obtain ⟨ul⟩:Nonempty (∃ l:List Value,u.cells=l.toArray):=⟨⟨u.cells.toList,by simp⟩⟩
        obtain ⟨ul,hul⟩:=ul
        have hlen:ul.length=n:=by rw [hul] at e1; simp at e1; omega
        have z:=zip_fold off ul 0 vs.toArray (by simp; omega)
        rw [hul]
        apply Array.ext'
        have e3:ul.toArray.zipIdx=(ul.zipIdx 0).toArray:=by simp
        rw [e3,List.foldl_toArray]
        simpa [hlen] using z
       obtain ⟨vs',f1,f2,f3,f4⟩:=fill_run place ps qs (cs.take off ++ x.cells ++ cs.drop (off+n)) (vs.take off ++ u.cells.toList ++ vs.drop (off+n)) cs' (by simpa using hl) (by simp [hn]; omega)
        (by
          intro i c z hc hz'
          by_cases h1:i < off
          ·rw [List.append_assoc,List.getElem?_append_left (by simp; omega),List.getElem?_take_of_lt h1] at hc hz'
           exact hp i c z hc hz'
          ·by_cases h3:i < off+n
           ·rw [List.append_assoc,List.getElem?_append_right (by simp; omega),List.getElem?_append_left (by simp; omega)] at hc
            rw [List.append_assoc,List.getElem?_append_right (by simp; omega),List.getElem?_append_left (by simp; omega)] at hz'
            have q1:min off cs.length=off:=by omega
            have q2:min off vs.length=off:=by omega
            simp only [List.length_take,q1,q2] at hc hz'
            exact e2 (i - off) c z hc (by simpa using hz')
           ·rw [List.getElem?_append_right (by simp; omega)] at hc hz'
            simp only [List.length_append,List.length_take,List.getElem?_drop,Array.length_toList] at hc hz'
            have q1:off+n+(i - (min off cs.length+x.cells.length))=i:=by omega
            have q2:off+n+(i - (min off vs.length+u.cells.size))=i:=by omega
            rw [q1] at hc; rw [q2] at hz'
            exact hp i c z hc hz') (fun i p q hp hq'=>hq (i+1) p q (by simpa using hp) (by simpa using hq')) h
       refine ⟨vs',?_,f2,by rw [f3]; simp; omega,f4⟩
       unfold Instr.fill
       simp only [h1]
       rw [if_neg (by simp; omega)]
       exact (congrArg (fun z=>Instr.fill place z qs) hz).trans f1
      ·cases h
     ·cases h
end
end Go.Proofs.Ytffiilnmfmkpmaa.AE

namespace Go.Proofs.Ytffiilnmfmkpmaa.AE
set_option linter.unusedVariables false
set_option linter.unusedSimpArgs false
set_option linter.constructorNameAsVariable false
open Go Go.RowKit

section
variable {P:Program} {w:World} {bad D:Nat→Prop} {ρ:Rho} {a:Act} {ev:Opd→AV} {o:Oper}

def Says (P:Program) (w:World) (bad D:Nat→Prop) (ρ:Rho) (a:Act) (o:Oper) (v:AV):Prop :=
 ∃ cv,(execOp a.eval o).run P w=.ok (.value cv) w∧Rep w bad D ρ v cv

theorem says_mov {x:Operand} {y:Opd} (ho:o.op=.move x ∨ o.op=.assign x) (hx:cOpd x=some y) (hO:OpsOk w bad D ρ a ev o.op.operands.toList):Says P w bad D ρ a o (ev y):=by
 rcases ho with ho | ho
 all_goals exact ⟨a.eval x,by simp [execOp,ho],hO x (by simp [ho,Op.operands]) y hx⟩

theorem says_pick {c x y:Operand} {c' x' y':Opd} {t:Bool} (ho:o.op=.pick c x y) (hc:cOpd c=some c') (hx:cOpd x=some x') (hy:cOpd y=some y') (ht:ev c'=.bool t) (hO:OpsOk w bad D ρ a ev o.op.operands.toList) :
 Says P w bad D ρ a o (bif t then ev x' else ev y'):=by
 have h1:=hO c (by simp [ho,Op.operands]) c' hc
 have h2:=hO x (by simp [ho,Op.operands]) x' hx
 have h3:=hO y (by simp [ho,Op.operands]) y' hy
 rw [ht] at h1
 have e:=rep_bool h1
 cases t with
 | true=>exact ⟨a.eval x,by simp [execOp,ho,e,asBool],h2⟩
 | false=>exact ⟨a.eval y,by simp [execOp,ho,e,asBool],h3⟩

theorem says_bin {op:BinOp} {t u:TypeId} {x y:Operand} {x' y':Opd} {v:AV} (ho:o.op=.binOp op t x y u) (hx:cOpd x=some x') (hy:cOpd y=some y') (hv:aBin op (ev x') (ev y')=some v) (hO:OpsOk w bad D ρ a ev o.op.operands.toList) :
 Says P w bad D ρ a o v:=by
 have h2:=hO x (by simp [ho,Op.operands]) x' hx
 have h3:=hO y (by simp [ho,Op.operands]) y' hy
 obtain ⟨r,hr,hp⟩:=aBin_run (P:=P) (t:=t) (x:=x) (y:=y) hv h2 h3
 exact ⟨r,by simp only [execOp,ho,Sem.run_bind] at hr ⊢; simp only [hr,Result.andThen_ok,Sem.run_pure],hp⟩

theorem says_un {op:UnOp} {t:TypeId} {x:Operand} {x':Opd} {v:AV} (ho:o.op=.unOp op t x) (hx:cOpd x=some x') (hv:aUn op (ev x')=some v) (hO:OpsOk w bad D ρ a ev o.op.operands.toList):Says P w bad D ρ a o v:=by
 have h2:=hO x (by simp [ho,Op.operands]) x' hx
 obtain ⟨r,hr,hp⟩:=aUn_run (P:=P) hv h2
 exact ⟨r,by simp [execOp,ho,hr],hp⟩

theorem says_load {H H':Heap} {B:Nat} {t:TypeId} {i:TypeInfo} {ag:Bool} {x:Operand} {x':Opd} {v:AV} (ho:o.op=.load t x) (hi:P.info? t=some i) (ha:agB P t=some ag) (hx:cOpd x=some x')
 (hv:aLoad H ag i.size (ev x')=some v) (hR:HRel w bad ρ B H') (hD:∀ id,D id ↔ H'[id]?=some none) (hsame:∀ id u q,ev x'=.ptr id u q→∀ b,hget H id=some b→ρ id ≠ .no→hget H' id=some b) (hdd:∀ id,D id→hget H id=none)
 (hO:OpsOk w bad D ρ a ev o.op.operands.toList):Says P w bad D ρ a o v:=by
 have h2:=hO x (by simp [ho,Op.operands]) x' hx
 obtain ⟨u,hu,hp⟩:=aLoad_rep hi ha hv hR hD hsame hdd h2
 exact ⟨u,by simp [execOp,ho,hu],hp⟩

theorem says_nilck {x:Operand} {x':Opd} {v:AV} (ho:o.op=.nilCheck x) (hx:cOpd x=some x')
 (hv:(∃ id i j,ev x'=.ptr id i j) ∨ (∃ y j,ev x'=.fptr y j) ∨ (∃ g p q,ev x'=.fn g p q)) (he:v=ev x') (hO:OpsOk w bad D ρ a ev o.op.operands.toList):Says P w bad D ρ a o v:=by
 have h2:=hO x (by simp [ho,Op.operands]) x' hx
 subst he
 refine ⟨a.eval x,?_,h2⟩
 have hX:∃ V,a.eval x=V:=⟨_,rfl⟩
 obtain ⟨V,hX⟩:=hX
 rw [hX] at h2
 rcases hv with ⟨id,i,j,e⟩ | ⟨y,j,e⟩ | ⟨g,p,q,e⟩
 ·rw [e] at h2
  obtain ⟨b,o',h3⟩:∃ b o,V=.pointer (some ⟨b,o,none⟩):=by
   cases h2 with
   | frz h=>cases h
   | ptr h=>exact ⟨_,_,rfl⟩
   | ptrD b o h=>exact ⟨_,_,rfl⟩
  simp [execOp,ho,hX,h3]
 ·rw [e] at h2
  obtain ⟨b,o',h3⟩:∃ b o,V=.pointer (some ⟨b,o,none⟩):=by
   cases h2 with
   | frz h=>cases h with
     | fptr=>exact ⟨_,_,rfl⟩
  simp [execOp,ho,hX,h3]
 ·rw [e] at h2
  obtain ⟨va,vb,h3,_⟩:=rep_fn h2
  simp [execOp,ho,hX,h3]

theorem says_conv {s d:TypeId} {ds:TypeDesc} {k k0:IntKind} {n:Int} {x:Operand} {x':Opd} (ho:o.op=.convert s d x) (hs:P.underlying s=some ds) (hd:P.underlying d=some (.int k)) (hx:cOpd x=some x') (hv:ev x'=.int k0 n)
 (hO:OpsOk w bad D ρ a ev o.op.operands.toList):Says P w bad D ρ a o (.int k (k.wrap n)):=by
 have h2:=hO x (by simp [ho,Op.operands]) x' hx
 rw [hv] at h2
 have e:=rep_int h2
 exact ⟨.int k (k.wrap n),by simp [execOp,ho,e,convert,run_underlying hs,run_underlying hd,Conv.intToInt],.frz (.int _ _)⟩

theorem says_cid {s d:TypeId} {l:List UInt8} {x:Operand} {x':Opd} (ho:o.op=.convert s d x) (hs:P.underlying s=some .string) (hd:P.underlying d=some .string) (hx:cOpd x=some x') (hv:ev x'=.str l)
 (hO:OpsOk w bad D ρ a ev o.op.operands.toList):Says P w bad D ρ a o (.str l):=by
 have h2:=hO x (by simp [ho,Op.operands]) x' hx
 rw [hv] at h2
 have e:=rep_str h2
 exact ⟨_,by simp [execOp,ho,e,convert,run_underlying hs,run_underlying hd],.frz (.str _)⟩

theorem says_mkfn {g:FuncId} {p q:Array Operand} {p' q':List Opd} (ho:o.op=.makeFunc (.func g) p q) (hp:cOpds p.toList=some p') (hq:cOpds q.toList=some q') (hO:OpsOk w bad D ρ a ev o.op.operands.toList) :
 Says P w bad D ρ a o (.fn g (p'.map ev) (q'.map ev)):=by
 obtain ⟨h1,h2⟩:=opds_rep hp (fun x hx y hy=>hO x (by simp [ho,Op.operands] at hx ⊢; exact .inl hx) y hy)
 obtain ⟨h3,h4⟩:=opds_rep hq (fun x hx y hy=>hO x (by simp [ho,Op.operands] at hx ⊢; exact .inr hx) y hy)
 refine ⟨.func (.func g) (p.toList.map a.eval).toArray (q.toList.map a.eval).toArray,?_,.fn g _ _ _ _ h1 h3 h2 h4⟩
 have e1:∀ p:Array Operand,p.map a.eval=(p.toList.map a.eval).toArray:=fun p=>by simp [← Array.toList_map]
 simp only [execOp,ho,Instr.makeFunc,Sem.run_bind,Sem.run_pure,Result.andThen_ok,e1]

theorem says_extr {x:Operand} {x':Opd} {i:Nat} {vs:List AV} {v:AV} (ho:o.op=.extract x i) (hx:cOpd x=some x') (hv:ev x'=.tup vs) (hi:vs[i]?=some v) (hO:OpsOk w bad D ρ a ev o.op.operands.toList):Says P w bad D ρ a o v:=by
 have h2:=hO x (by simp [ho,Op.operands]) x' hx
 rw [hv] at h2
 obtain ⟨us,e,hl,hp⟩:=rep_tup h2
 have hlt:=(List.getElem?_eq_some_iff.mp hi).1
 have hu:us[i]?=some (us[i]'(by omega)):=List.getElem?_eq_getElem _
 refine ⟨us[i]'(by omega),?_,hp i v _ hi hu⟩
 simp only [execOp,ho,e,Instr.extract,List.getElem?_toArray,hu,Sem.run_bind,Sem.run_pure,Result.andThen_ok]

theorem says_fld {s:TypeId} {fs:Array Field} {fd:Field} {f:Nat} {i:TypeInfo} {ag:Bool} {x:Operand} {x':Opd} {cs:List AV} {v:AV} (ho:o.op=.field s x f) (hs:P.underlying s=some (.struct fs)) (hf:fs[f]?=some fd)
 (hi:P.info? fd.type=some i) (ha:agB P fd.type=some ag) (hx:cOpd x=some x') (hv:ev x'=.agg cs) (hsub:sub ag i.size fd.offset (.agg cs)=some v) (hO:OpsOk w bad D ρ a ev o.op.operands.toList):Says P w bad D ρ a o v:=by
 have h2:=hO x (by simp [ho,Op.operands]) x' hx
 rw [hv] at h2
 obtain ⟨us,e,hl,hp⟩:=rep_agg h2
 obtain ⟨r,hr,hrep⟩:=sub_rep hsub hl hp
 refine ⟨r,?_,hrep⟩
 simp only [execOp,ho,e,Instr.field,Sem.run_bind,run_underlying hs,Result.andThen_ok,hf,asAgg,Sem.run_pure,run_part hi ha]
 cases ag with
 | true=>simp at hr ⊢; exact hr
 | false=>simp at hr ⊢; simp [hr]

theorem says_fldA {s:TypeId} {fs:Array Field} {fd:Field} {f:Nat} {i:TypeInfo} {x:Operand} {x':Opd} {v:AV} (ho:o.op=.fieldAddr s x f) (hs:P.underlying s=some (.struct fs)) (hf:fs[f]?=some fd)
 (hi:P.info? fd.type=some i) (hz:0 < i.size) (hx:cOpd x=some x') (hv:aShift fd.offset (ev x')=some v) (hO:OpsOk w bad D ρ a ev o.op.operands.toList):Says P w bad D ρ a o v:=by
 have h2:=hO x (by simp [ho,Op.operands]) x' hx
 obtain ⟨b,q,e,hrep⟩:=shift_rep hv h2
 refine ⟨_,?_,hrep⟩
 have hne:¬ i.size=0:=by omega
 simp [execOp,ho,e,Instr.fieldAt,run_underlying hs,hf,Instr.sureAddr,fieldPlace,run_size hi,hne,Addr.add_lit]

theorem says_ixAA {t et:TypeId} {n:Nat} {i:TypeInfo} {x y:Operand} {x' y':Opd} {k:IntKind} {q:Int} {v:AV} (ho:o.op=.indexAddr t x y) (hs:P.underlying t=some (.array n et)) (hi:P.info? et=some i) (hx:cOpd x=some x') (hy:cOpd y=some y')
 (hq:ev y'=.int k q) (hb:0≤q∧q < (n:Int)) (hv:aShift (q.toNat * i.size) (ev x')=some v) (hO:OpsOk w bad D ρ a ev o.op.operands.toList):Says P w bad D ρ a o v:=by
 have h2:=hO x (by simp [ho,Op.operands]) x' hx
 have h3:=hO y (by simp [ho,Op.operands]) y' hy
 rw [hq] at h3
 have e3:=rep_int h3
 obtain ⟨b,u,e,hrep⟩:=shift_rep hv h2
 refine ⟨_,?_,hrep⟩
 simp [execOp,ho,e,e3,Instr.indexAt,asIntOf,run_underlying hs,Instr.sureAddr,hb,run_size hi,Addr.add_lit]

theorem says_ixS {t:TypeId} {x y:Operand} {x' y':Opd} {k:IntKind} {q:Int} {s:List UInt8} {c:UInt8} (ho:o.op=.index t x y) (hs:P.underlying t=some .string) (hx:cOpd x=some x') (hy:cOpd y=some y')
 (hq:ev y'=.int k q) (hv:ev x'=.str s) (h0:0≤q) (hc:s[q.toNat]?=some c) (hO:OpsOk w bad D ρ a ev o.op.operands.toList):Says P w bad D ρ a o (.int .u8 c.toNat):=by
 have h2:=hO x (by simp [ho,Op.operands]) x' hx
 have h3:=hO y (by simp [ho,Op.operands]) y' hy
 rw [hq] at h3
 rw [hv] at h2
 have e3:=rep_int h3
 have e2:=rep_str h2
 refine ⟨.int .u8 c.toNat,?_,.frz (.int _ _)⟩
 have hg:(⟨s.toArray⟩:ByteArray)[q.toNat]?=some c:=by
  obtain ⟨hlt,he⟩:=List.getElem?_eq_some_iff.mp hc
  have:q.toNat < (⟨s.toArray⟩:ByteArray).size:=by simpa [ByteArray.size] using hlt
  rw [getElem?_pos (⟨s.toArray⟩:ByteArray) q.toNat this]
  simp only [Option.some.injEq]
  exact he
 simp [execOp,ho,e2,e3,Instr.index,asIntOf,run_underlying hs,h0,hg]

theorem says_ixA {t et:TypeId} {n:Nat} {i:TypeInfo} {ag:Bool} {x y:Operand} {x' y':Opd} {k:IntKind} {q:Int} {cs:List AV} {v:AV} (ho:o.op=.index t x y) (hs:P.underlying t=some (.array n et)) (hi:P.info? et=some i) (ha:agB P et=some ag)
 (hx:cOpd x=some x') (hy:cOpd y=some y') (hq:ev y'=.int k q) (hv:ev x'=.agg cs) (hb:0≤q∧q < (n:Int)) (hsub:sub ag i.size (q.toNat * i.size) (.agg cs)=some v) (hO:OpsOk w bad D ρ a ev o.op.operands.toList):Says P w bad D ρ a o v:=by
 have h2:=hO x (by simp [ho,Op.operands]) x' hx
 have h3:=hO y (by simp [ho,Op.operands]) y' hy
 rw [hq] at h3
 rw [hv] at h2
 have e3:=rep_int h3
 obtain ⟨us,e,hl,hp⟩:=rep_agg h2
 obtain ⟨r,hr,hrep⟩:=sub_rep hsub hl hp
 refine ⟨r,?_,hrep⟩
 simp only [execOp,ho,e,e3,Instr.index,asIntOf,Sem.run_bind,Sem.run_pure,run_underlying hs,Result.andThen_ok,if_pos hb,run_size hi,run_part hi ha]
 cases ag with
 | true=>simp at hr ⊢; exact hr
 | false=>simp at hr ⊢; simp [hr]

theorem says_ixAS {H H':Heap} {B:Nat} {t et:TypeId} {i:TypeInfo} {x y:Operand} {x' y':Opd} {k:IntKind} {q:Int} {v:AV} (ho:o.op=.indexAddr t x y) (hs:P.underlying t=some (.slice et)) (hi:P.info? et=some i)
 (hx:cOpd x=some x') (hy:cOpd y=some y') (hq:ev y'=.int k q) (hv:aIx H i.size (ev x') q=some v) (hR:HRel w bad ρ B H') (hD:∀ id,D id ↔ H'[id]?=some none)
 (hsh:∀ id b,hget H id=some b→∃ b',hget H' id=some b'∧b'.els.length=b.els.length) (hse:∀ id b,hget H id=some b→∃ b',hget H' id=some b'∧b'.e=b.e)
 (hO:OpsOk w bad D ρ a ev o.op.operands.toList):Says P w bad D ρ a o v:=by
 have h2:=hO x (by simp [ho,Op.operands]) x' hx
 have h3:=hO y (by simp [ho,Op.operands]) y' hy
 rw [hq] at h3
 have e3:=rep_int h3
 generalize hX:ev x'=X at *
 cases X <;> simp only [aIx] at hv <;> (try (cases hv; done))
 ·rename_i id u n
  cases hg:hget H id with
  | none=>simp [hg] at hv
  | some b =>
    simp only [hg] at hv
    split at hv
    ·rename_i hb
     obtain ⟨hb0,hb1,hb2⟩:=hb
     obtain rfl:=Option.some.inj hv
     obtain ⟨b9,hb9,hbe⟩:=hse id b hg
     obtain ⟨b',hb',hbl⟩:=hsh id b hg
     generalize hV:a.eval x=V at *
     cases h2 with
     | frz h=>cases h
     | slcD ad c hd=>rw [hD,agree_of hb'] at hd; cases hd
     | slcV ad hρ=>omega
     | slc hρ hc hn =>
       rename_i b2 es cap c
       have he:es=i.size:=by
        obtain ⟨k9,hk9,hbr⟩:=hR.real _ _ _ _ hρ
        rw [agree_of hb9] at hk9
        cases hk9
        rw [← hbr.hes,hbe,hb2]
       subst he
       refine ⟨_,?_,.ptr hρ⟩
       have:(q.toNat < n):=by omega
       simp [execOp,ho,hV,e3,Instr.indexAt,asIntOf,run_underlying hs,hb0,hb1,run_size hi,Addr.add_lit,Nat.add_mul]
    ·cases hv
 ·rename_i l
  split at hv
  ·rename_i h0
   cases hl:l[q.toNat]? with
   | none=>simp [hl] at hv
   | some z =>
     simp only [hl] at hv
     split at hv
     case isFalse=>cases hv
     rename_i h8
     obtain rfl:=Option.some.inj hv
     have hlt:=(List.getElem?_eq_some_iff.mp hl).1
     generalize hV:a.eval x=V at *
     cases h2 with
     | frz h=>cases h with
       | lst0=>simp at hl
       | lst _ b u es c vs hn he hb hlw hs2 hc hr =>
         have h9:=hs2 _ _ hl
         have hes2:es=i.size:=by omega
         subst hes2
         refine ⟨.pointer (some ⟨b,u+q.toNat * i.size+0,none⟩),?_,.frz (.fptr z b (u+q.toNat * i.size) 0 (fun k=>vs q.toNat k) hb hlw (fun k y hk=>?_) (fun k y hk=>hr _ _ _ _ hl hk))⟩
         ·have h7:q < (l.length:Int):=by omega
          simp [execOp,ho,hV,e3,Instr.indexAt,asIntOf,run_underlying hs,h0,h7,run_size hi,Addr.add_lit]
         ·have:=hc _ _ k y hl hk
          rw [Nat.add_assoc]; exact this
  ·cases hv

theorem fill_says {ps:List (Nat × Operand)} {zs cs:List AV} {zvs:List Value} {l:List (Nat × Nat × Opd)} (place:Nat→Option (Nat × Nat)) (hl:l.length=ps.length)
 (hpl:∀ (i:Nat) p q,ps[i]?=some p→l[i]?=some q→place p.1=some (q.1,q.2.1)∧cOpd p.2=some q.2.2) (hzl:zs.length=zvs.length) (hzp:∀ (i:Nat) (c:AV) (u:Value),zs[i]?=some c→zvs[i]?=some u→Rep w bad D ρ c u)
 (hev:∀ q ∈ ps,∀ y,cOpd q.2=some y→Rep w bad D ρ (ev y) (a.eval q.2)) (hf:fillP zs (l.map fun p=>(p.1,p.2.1,ev p.2.2))=some cs) :
 ∃ vs':List Value,Instr.fill place zvs.toArray (ps.map fun p=>(p.1,a.eval p.2))=some vs'.toArray∧Rep w bad D ρ (.agg cs) (.agg vs'.toArray):=by
 obtain ⟨vs',f1,f2,f3,f4⟩:=fill_run place _ (ps.map fun p=>(p.1,a.eval p.2)) zs zvs cs (by simp [hl]) hzl hzp (by
  intro i p q hp hq
  rw [List.getElem?_map] at hp hq
  obtain ⟨p',hp',rfl⟩:=Option.map_eq_some_iff.mp hp
  obtain ⟨q',hq',rfl⟩:=Option.map_eq_some_iff.mp hq
  obtain ⟨h1,h2⟩:=hpl i q' p' hq' hp'
  exact ⟨h1,hev q' (List.mem_of_getElem? hq') _ h2⟩) hf
 exact ⟨vs',f1,.agg _ _ f2 f4⟩

theorem says_build {t:TypeId} {ps:Array (Nat × Operand)} {zs cs:List AV} {l:List (Nat × Nat × Opd)} (ho:o.op=.build t ps) (hc:cBuild P t ps.toList=some (.build zs l))
 (hf:fillP zs (l.map fun p=>(p.1,p.2.1,ev p.2.2))=some cs) (hO:OpsOk w bad D ρ a ev o.op.operands.toList):Says P w bad D ρ a o (.agg cs):=by
 unfold cBuild at hc
 split at hc <;> (try (cases hc; done))
 rename_i i hi
 split at hc <;> (try (cases hc; done))
 rename_i z hz
 split at hc <;> (try (cases hc; done))
 rename_i zs' hzs
 have hzero:(zeroValue t).run P w=.ok z w:=by simp [zeroValue,typeInfo,hi,hz]
 obtain ⟨zvs,hze,hzl,hzp⟩:=rep_agg (D:=D) (ρ:=ρ) (.frz (cv_rep (w:=w) (bad:=fun b=>bad b ∨ own ρ b) hzs))
 have hev:∀ q ∈ ps.toList,∀ y,cOpd q.2=some y→Rep w bad D ρ (ev y) (a.eval q.2):=fun q hq y hy=>hO q.2 (by simp only [ho,Op.operands]; simp; exact ⟨q.1,by simpa using hq⟩) y hy
 have hmap:(ps.map fun p=>(p.1,a.eval p.2)).toList=ps.toList.map fun p=>(p.1,a.eval p.2):=by simp
 split at hc <;> (try (cases hc; done))
 ·rename_i fs hfs
  split at hc <;> (try (cases hc; done))
  rename_i pl hpl
  split at hc <;> (try (cases hc; done))
  rename_i l' hl'
  obtain ⟨rfl,rfl⟩:zs'=zs∧l'=l:=by simpa using hc
  obtain ⟨o1,o2⟩:=optAll_spec hl'
  obtain ⟨vs',f1,f2⟩:=fill_says (w:=w) (bad:=bad) (D:=D) (ρ:=ρ) (a:=a) (ev:=ev) (fun k=>pl.toArray[k]?) o1 (by
   intro i p q hp hq
   obtain ⟨b,hb,he⟩:=o2 i p hp
   rw [hb] at hq; cases hq
   split at he
   ·rename_i h1 h2
    cases he
    exact ⟨by simpa using h1,h2⟩
   ·cases he) hzl hzp hev hf
  refine ⟨.agg vs'.toArray,?_,f2⟩
  subst hze
  have hcells:(Value.agg zvs.toArray).cells=zvs.toArray:=rfl
  have f1':Instr.fill (fun x=>pl[x]?) zvs.toArray (List.map (fun p=>(p.fst,a.eval p.snd)) ps.toList)=some vs'.toArray:=by simpa using f1
  simp [execOp,ho,Instr.build,run_underlying hfs,hzero,Array.mapM_eq_mapM_toList,run_places w _ _ hpl,hcells,f1']
 ·rename_i n e hfs
  split at hc <;> (try (cases hc; done))
  rename_i ie hie
  split at hc <;> (try (cases hc; done))
  rename_i l' hl'
  obtain ⟨rfl,rfl⟩:zs'=zs∧l'=l:=by simpa using hc
  obtain ⟨o1,o2⟩:=optAll_spec hl'
  obtain ⟨vs',f1,f2⟩:=fill_says (w:=w) (bad:=bad) (D:=D) (ρ:=ρ) (a:=a) (ev:=ev) (fun k=>some (k * ie.size,ie.size)) o1 (by
   intro i p q hp hq
   obtain ⟨b,hb,he⟩:=o2 i p hp
   rw [hb] at hq; cases hq
   split at he
   ·rename_i h2
    cases he
    exact ⟨rfl,h2⟩
   ·cases he) hzl hzp hev hf
  refine ⟨.agg vs'.toArray,?_,f2⟩
  subst hze
  have hcells:(Value.agg zvs.toArray).cells=zvs.toArray:=rfl
  simp only [execOp,ho,Instr.build,Sem.run_bind,hzero,run_underlying hfs,Result.andThen_ok,run_size hie,hmap,hcells,f1,Sem.run_pure]

theorem says_subS {t:TypeId} {x:Operand} {lo hi:Option Operand} {x':Opd} {lo' hi':Option Opd} {v:AV} (ho:o.op=.slice t x lo hi none) (hs:P.underlying t=some .string) (hx:cOpd x=some x') (hlo:cOptOpd lo=some lo') (hhi:cOptOpd hi=some hi')
 (hv:aSubS (ev x') (lo'.map ev) (hi'.map ev)=some v) (hO:OpsOk w bad D ρ a ev o.op.operands.toList):Says P w bad D ρ a o v:=by
 have h2:=hO x (by simp [ho,Op.operands]) x' hx
 have rlo:=optOpd_rep hlo hO (fun z hz=>by subst hz; simp [ho,Op.operands])
 have rhi:=optOpd_rep hhi hO (fun z hz=>by subst hz; simp [ho,Op.operands])
 generalize hX:ev x'=X at *
 cases X <;> simp only [aSubS] at hv <;> (try (cases hv; done))
 rename_i s
 have e2:=rep_str h2
 have hsz:(⟨s.toArray⟩:ByteArray).size=s.length:=by simp [ByteArray.size]
 cases hh:bound (hi'.map ev) s.length s.length with
 | none=>simp [hh] at hv
 | some h =>
   simp only [hh] at hv
   cases hl:bound (lo'.map ev) 0 h with
   | none=>simp [hl] at hv
   | some l =>
     simp only [hl] at hv
     obtain rfl:=Option.some.inj hv
     obtain ⟨hb,hb1,hb2,hb3⟩:=sliceBounds_run (P:=P) (w:=w) (isSlice:=false) (cap:=s.length) (m:=s.length) (mx:=none) (mx':=none) (by rfl) hh hl (Nat.le_refl _) rlo rhi (.inl ⟨rfl,rfl⟩) (by simp)
     refine ⟨.string ⟨((s.take h).drop l).toArray⟩,?_,.frz (.str _)⟩
     have hex:(⟨s.toArray⟩:ByteArray).extract l h=⟨((s.take h).drop l).toArray⟩:=by
      apply ByteArray.ext
      simp [ByteArray.data_extract,List.drop_take]
     simp only [execOp,ho,e2,Instr.sliceAt,Sem.run_bind,run_underlying hs,Result.andThen_ok,Instr.slice,Option.map_none,Option.isSome_none,hsz,hb,Bool.false_eq_true,if_false,Sem.run_pure,hex]

theorem says_lenS {t:TypeId} {c:Call} {x:Operand} {x':Opd} {s:List UInt8} (ho:o.op=.call c) (hcc:c.callee=.builtin .len) (hca:c.args.toList=[x]) (hct:c.argTypes.toList=[t]) (hs:P.underlying t=some .string)
 (hx:cOpd x=some x') (hv:ev x'=.str s) (hO:OpsOk w bad D ρ a ev o.op.operands.toList):Says P w bad D ρ a o (.int .i64 s.length):=by
 obtain ⟨cal,args,tys⟩:=c
 obtain ⟨args⟩:=args
 obtain ⟨tys⟩:=tys
 simp only at hcc hca hct
 subst hcc; subst hca; subst hct
 have h2:=hO x (by simp [ho,Op.operands,Call.operands]) x' hx
 rw [hv] at h2
 have e2:=rep_str h2
 have hsz:(⟨s.toArray⟩:ByteArray).size=s.length:=by simp [ByteArray.size]
 exact ⟨.int .i64 s.length,by simp [execOp,ho,resolve,invoke,builtin,Builtin.len_,run_underlying hs,e2,goInt,hsz],.frz (.int _ _)⟩

theorem says_lenV {H H':Heap} {t e:TypeId} {c:Call} {x:Operand} {x':Opd} {n:Nat} (ho:o.op=.call c) (hcc:c.callee=.builtin .len) (hca:c.args.toList=[x]) (hct:c.argTypes.toList=[t]) (hs:P.underlying t=some (.slice e))
 (hx:cOpd x=some x') (hv:lenOf H (ev x')=some n) (hD:∀ id,D id ↔ H'[id]?=some none)
 (hsh:∀ id b,hget H id=some b→∃ b',hget H' id=some b'∧b'.els.length=b.els.length)
 (hO:OpsOk w bad D ρ a ev o.op.operands.toList):Says P w bad D ρ a o (.int .i64 n):=by
 obtain ⟨cal,args,tys⟩:=c
 obtain ⟨args⟩:=args
 obtain ⟨tys⟩:=tys
 simp only at hcc hca hct
 subst hcc; subst hca; subst hct
 have h2:=hO x (by simp [ho,Op.operands,Call.operands]) x' hx
 obtain ⟨ad,c,e2,_⟩:=lenOf_rep hv hD hsh h2
 exact ⟨.int .i64 n,by simp [execOp,ho,resolve,invoke,builtin,Builtin.len_,run_underlying hs,e2,goInt],.frz (.int _ _)⟩

theorem says_min {c:Call} {ys:List Opd} {v:AV} (ho:o.op=.call c) (hcc:c.callee=.builtin .min) (hx:cOpds c.args.toList=some ys) (hv:aMin (ys.map ev)=some v) (hO:OpsOk w bad D ρ a ev o.op.operands.toList):Says P w bad D ρ a o v:=by
 obtain ⟨cal,args,tys⟩:=c
 simp only at hcc hx
 subst hcc
 obtain ⟨h1,h2⟩:=opds_rep hx (fun x hx y hy=>hO x (by simpa [ho,Op.operands,Call.operands] using hx) y hy)
 have hmap:args.map a.eval=(args.toList.map a.eval).toArray:=by simp [← Array.toList_map]
 generalize ys.map ev=l at *
 generalize args.toList.map a.eval=us at *
 cases l with
 | nil=>simp [aMin] at hv
 | cons x l =>
   cases us with
   | nil=>simp at h1
   | cons u us =>
     cases x <;> simp only [aMin] at hv <;> (try (cases hv; done))
     rename_i k n
     have e0:=rep_int (h2 0 _ u rfl rfl)
     obtain ⟨r,hr,hp⟩:=min_run (P:=P) l us k n v (by simpa using h1) (fun i c u hc hu=>h2 (i+1) c u (by simpa using hc) (by simpa using hu)) hv
     refine ⟨r,?_,hp⟩
     subst e0
     simp only [execOp,ho,resolve,invoke,builtin,Builtin.min_,hmap,Sem.run_bind,Sem.run_pure,Result.andThen_ok,hr]

theorem says_max {c:Call} {ys:List Opd} {v:AV} (ho:o.op=.call c) (hcc:c.callee=.builtin .max) (hx:cOpds c.args.toList=some ys) (hv:aMax (ys.map ev)=some v) (hO:OpsOk w bad D ρ a ev o.op.operands.toList):Says P w bad D ρ a o v:=by
 obtain ⟨cal,args,tys⟩:=c
 simp only at hcc hx
 subst hcc
 obtain ⟨h1,h2⟩:=opds_rep hx (fun x hx y hy=>hO x (by simpa [ho,Op.operands,Call.operands] using hx) y hy)
 have hmap:args.map a.eval=(args.toList.map a.eval).toArray:=by simp [← Array.toList_map]
 generalize ys.map ev=l at *
 generalize args.toList.map a.eval=us at *
 cases l with
 | nil=>simp [aMax] at hv
 | cons x l =>
   cases us with
   | nil=>simp at h1
   | cons u us =>
     cases x <;> simp only [aMax] at hv <;> (try (cases hv; done))
     rename_i k n
     have e0:=rep_int (h2 0 _ u rfl rfl)
     obtain ⟨r,hr,hp⟩:=max_run (P:=P) l us k n v (by simpa using h1) (fun i c u hc hu=>h2 (i+1) c u (by simpa using hc) (by simpa using hu)) hv
     refine ⟨r,?_,hp⟩
     subst e0
     simp only [execOp,ho,resolve,invoke,builtin,Builtin.max_,hmap,Sem.run_bind,Sem.run_pure,Result.andThen_ok,hr]

theorem frz_drop {l:List AV} {b o' es c:Nat} {vs:Nat→Nat→Value} {bad':Nat→Prop} (h1 h2 c':Nat) (he:0 < es) (hb:¬ bad' b) (hl:b < w.heap.size) (hn:h2≤l.length) (hle:h1≤h2) (hcc:h2 - h1≤c')
 (hs:∀ (i:Nat) (x:AV),l[i]?=some x→x.cells.length=es)
 (hc:∀ (i:Nat) (x:AV) (j:Nat) (c:AV),l[i]?=some x→x.cells[j]?=some c→w.cell? ⟨b,o'+(i * es+j),none⟩=some (vs i j))
 (hr:∀ (i:Nat) (x:AV) (j:Nat) (c:AV),l[i]?=some x→x.cells[j]?=some c→FRep w bad' c (vs i j)) :
 FRep w bad' (.lst ((l.take h2).drop h1)) (.slice (some ⟨b,o'+h1 * es,none⟩) (h2 - h1) c'):=by
 have hlen:((l.take h2).drop h1).length=h2 - h1:=by simp; omega
 have key:∀ (i:Nat) (x:AV),((l.take h2).drop h1)[i]?=some x→l[h1+i]?=some x:=by
  intro i x hx
  have hi:i < h2 - h1:=by have:=(List.getElem?_eq_some_iff.mp hx).1; omega
  rw [List.getElem?_drop,List.getElem?_take_of_lt (by omega)] at hx
  exact hx
 rw [← hlen]
 refine .lst _ b (o'+h1 * es) es c' (fun i j=>vs (h1+i) j) (by omega) he hb hl (fun i x hx=>hs _ x (key i x hx)) (fun i x j c hx hj=>?_) (fun i x j c hx hj=>hr _ x j c (key i x hx) hj)
 have:=hc _ x j c (key i x hx) hj
 rw [show o'+h1 * es+(i * es+j)=o'+((h1+i) * es+j) by rw [Nat.add_mul]; omega]
 exact this

theorem says_subV {H H':Heap} {B:Nat} {t e:TypeId} {ie:TypeInfo} {x:Operand} {lo hi mx:Option Operand} {x':Opd} {lo' hi' mx':Option Opd} {v:AV} (ho:o.op=.slice t x lo hi mx) (hs:P.underlying t=some (.slice e)) (hie:P.info? e=some ie)
 (hx:cOpd x=some x') (hlo:cOptOpd lo=some lo') (hhi:cOptOpd hi=some hi') (hmx:cOptOpd mx=some mx') (hmh:(mx.isSome && hi.isNone)=false)
 (hv:aSubV H ie.size (ev x') (lo'.map ev) (hi'.map ev) (mx'.map ev)=some v) (hR:HRel w bad ρ B H') (hD:∀ id,D id ↔ H'[id]?=some none)
 (hsh:∀ id b,hget H id=some b→∃ b',hget H' id=some b'∧b'.els.length=b.els.length) (hse:∀ id b,hget H id=some b→∃ b',hget H' id=some b'∧b'.e=b.e)
 (hO:OpsOk w bad D ρ a ev o.op.operands.toList):Says P w bad D ρ a o v:=by
 have h2:=hO x (by simp [ho,Op.operands]) x' hx
 have rlo:=optOpd_rep hlo hO (fun z hz=>by subst hz; simp [ho,Op.operands])
 have rhi:=optOpd_rep hhi hO (fun z hz=>by subst hz; simp [ho,Op.operands])
 have rmx:=optOpd_rep hmx hO (fun z hz=>by subst hz; simp [ho,Op.operands])
 have hmh':(mx'.map ev).isSome=true→(hi'.map ev).isSome=true:=by
  cases mx <;> cases hi <;> simp [cOptOpd] at hmx hhi hmh ⊢
  ·subst hmx; simp
  ·subst hmx; simp
  ·rename_i p q
   cases hq:cOpd q <;> simp [hq] at hhi
   subst hhi; simp
 unfold aSubV at hv
 split at hv <;> (try (cases hv; done))
 rename_i n hn
 split at hv <;> (try (cases hv; done))
 rename_i m hm
 split at hv <;> (try (cases hv; done))
 rename_i h hh
 split at hv <;> (try (cases hv; done))
 rename_i l hl
 obtain ⟨ad,c,e2,hnc,hkind,hnil⟩:=lenOf_rep hn hD hsh h2
 obtain ⟨hb,hb1,hb2,hb3⟩:=sliceBounds_run (P:=P) (w:=w) (isSlice:=true) (cap:=c) hm hh hl hnc rlo rhi rmx hmh'
 have hrun:(execOp a.eval o).run P w=.ok (.value (.slice (if (if (mx'.map ev).isSome=true then m else c)=l then ad else ad.map (·.add (l * ie.size))) (h - l) ((if (mx'.map ev).isSome=true then m else c) - l))) w:=by
  simp only [execOp,ho,e2,Instr.sliceAt,Sem.run_bind,run_underlying hs,Result.andThen_ok,Instr.slice,hb,run_size hie,Sem.run_pure]
 refine ⟨_,hrun,?_⟩
 rw [e2] at h2
 generalize ev x'=X at *
 cases X <;> simp only at hv <;> (try (cases hv; done))
 ·rename_i b
  obtain rfl:=Option.some.inj hv
  have hn0:n=0:=by simpa [lenOf] using hn.symm
  subst hn0
  have q1:h=0:=by omega
  have q2:l=0:=by omega
  subst q1; subst q2
  have hm0:m=0:=by omega
  subst hm0
  cases h2 with
  | frz h2=>cases h2 with
    | znil=>simp; exact .frz .znil
    | zsl a=>simp; exact .frz (.zsl _)
 ·rename_i id q nn
  have hnn:nn=n:=by
   simp only [lenOf] at hn
   cases hg:hget H id with
   | none=>simp [hg] at hn
   | some b=>simpa [hg] using hn
  subst hnn
  split at hv
  ·rename_i hcond
   obtain rfl:=Option.some.inj hv
   simp only [Bool.and_eq_true,beq_iff_eq] at hcond
   have q1:h=0:=by omega
   have q2:l=0:=by omega
   have q3:=hcond.2
   subst q1; subst q2; subst q3
   simp [hcond.1]
   exact .frz (.zsl _)
  ·rename_i hcond
   split at hv
   ·rename_i heq
    obtain rfl:=Option.some.inj hv
    subst heq
    simp
    refine .frz (.lst0 _ _ fun hz=>?_)
    cases ad with
    | none=>have:=hnil rfl; split <;> omega
    | some ad =>
      exfalso; revert hz; repeat' split
      all_goals simp
   ·rename_i hne
    split at hv <;> (try (cases hv; done))
    rename_i b hg
    split at hv <;> (try (cases hv; done))
    rename_i hbe
    split at hv
    ·rename_i hms
     split at hv <;> (try (cases hv; done))
     rename_i hmh2
     obtain rfl:=Option.some.inj hv
     subst hmh2
     simp only [hms,if_true]
     have hlt:l < m:=by omega
     have hne':¬ m=l:=by omega
     rw [if_neg hne']
     obtain ⟨b',hb',hble⟩:=hse id b hg
     cases h2 with
     | frz h=>cases h
     | slcD ad c hd=>rw [hD,agree_of hb'] at hd; cases hd
     | slcV ad hρ=>omega
     | slc hρ hc hn2 =>
       rename_i b2 es cap
       have he:es=ie.size:=by
        obtain ⟨k9,hk9,hbr⟩:=hR.real _ _ _ _ hρ
        rw [agree_of hb'] at hk9
        cases hk9
        rw [← hbr.hes,hble,hbe]
       subst he
       simp only [Option.map_some,Addr.add_lit,← Nat.add_mul]
       exact .slk hρ (by omega)
    ·rename_i hms
     obtain rfl:=Option.some.inj hv
     simp only [hms,Bool.false_eq_true,if_false]
     have hlt:l < h:=by omega
     have hne':¬ c=l:=by omega
     rw [if_neg hne']
     obtain ⟨b',hb',hble⟩:=hse id b hg
     cases h2 with
     | frz h=>cases h
     | slcD ad c hd=>rw [hD,agree_of hb'] at hd; cases hd
     | slcV ad hρ=>omega
     | slc hρ hc hn2 =>
       rename_i b2 es cap
       have he:es=ie.size:=by
        obtain ⟨k9,hk9,hbr⟩:=hR.real _ _ _ _ hρ
        rw [agree_of hb'] at hk9
        cases hk9
        rw [← hbr.hes,hble,hbe]
       subst he
       simp only [Option.map_some,Addr.add_lit,← Nat.add_mul]
       exact .slc hρ (by omega) (by omega)
 ·rename_i al
  have hnl:n=al.length:=by simpa [lenOf] using hn.symm
  subst hnl
  split at hv
  ·rename_i hcond
   obtain rfl:=Option.some.inj hv
   simp only [Bool.and_eq_true,beq_iff_eq] at hcond
   have q1:h=0:=by omega
   have q2:l=0:=by omega
   have q3:=hcond.2
   subst q1; subst q2; subst q3
   simp [hcond.1]
   exact .frz (.zsl _)
  ·rename_i hcond
   split at hv <;> (try (cases hv; done))
   rename_i hall
   obtain rfl:=Option.some.inj hv
   by_cases heq:l=h
   ·subst heq
    have:(al.take l).drop l=[]:=by simp
    rw [this,Nat.sub_self]
    refine .frz (.lst0 _ _ fun hz=>?_)
    cases ad with
    | none=>have:=hnil rfl; split <;> omega
    | some ad =>
      exfalso; revert hz; repeat' split
      all_goals simp
   ·have hne':¬ (if (mx'.map ev).isSome=true then m else c)=l:=by split <;> omega
    rw [if_neg hne']
    cases h2 with
    | frz h2=>cases h2 with
      | lst0=>simp at hb3 hb2 hb1; omega
      | lst _ b u es c vs hn he hb hlw hs2 hc hr =>
        have hpos:0 < al.length:=by omega
        have e0:al[0]?=some al[0]:=List.getElem?_eq_getElem hpos
        have he2:es=ie.size:=by
         rw [← hs2 0 _ e0]
         exact by simpa using (List.all_eq_true.mp hall) _ (List.mem_of_getElem? e0)
        subst he2
        simp only [Option.map_some,Addr.add_lit]
        exact .frz (frz_drop (vs:=vs) (c:=c) l h _ he hb hlw (by omega) (by omega) (by split <;> omega) hs2 hc hr)
 ·have hn0:n=0:=by simpa [lenOf] using hn.symm
  subst hn0
  split at hv <;> (try (cases hv; done))
  rename_i hcond
  obtain rfl:=Option.some.inj hv
  simp only [Bool.and_eq_true,beq_iff_eq] at hcond
  have q1:h=0:=by omega
  have q2:l=0:=by omega
  have q3:=hcond.2
  subst q1; subst q2; subst q3
  simp [hcond.1]
  exact .frz (.zsl _)
end
end Go.Proofs.Ytffiilnmfmkpmaa.AE

namespace Go.Proofs.Ytffiilnmfmkpmaa.AE
set_option linter.unusedVariables false
set_option linter.unusedSimpArgs false
set_option linter.constructorNameAsVariable false
open Go Go.RowKit

section
variable {P:Program} {w:World} {bad D:Nat→Prop} {ρ:Rho} {a:Act} {ev:Opd→AV} {o:Oper}

theorem cells_sc {x:AV} (h:∀ (j:Nat) (c:AV),x.cells[j]?=some c→isSc c=true):isSc x=true ∨ ∃ cs,x=.agg cs:=by
 by_cases hx:∃ cs,x=.agg cs
 ·exact .inr hx
 ·left
  have:x.cells[0]?=some x:=by cases x <;> first | rfl | exact absurd ⟨_,rfl⟩ hx
  exact h 0 x this

def RowAt (w:World) (bad D:Nat→Prop) (ρ:Rho) (l:List AV) (b o es:Nat):Prop :=
 0 < es∧(∀ (i:Nat) (x:AV),l[i]?=some x→x.cells.length=es) ∧
 ∀ (i:Nat) (x:AV) (j:Nat) (c:AV),l[i]?=some x→x.cells[j]?=some c→∃ u,w.cell? ⟨b,o+(i * es+j),none⟩=some u∧Rep w bad D ρ c u

theorem elsOf_rep {H H':Heap} {B:Nat} {X:AV} {l:List AV} {v:Value} (h:elsOf H X=some l) (hX:∀ s,X ≠ .str s) (hR:HRel w bad ρ B H') (hD:∀ id,D id ↔ H'[id]?=some none) (hsame:∀ id u q,X=.slc id u q→∀ b,hget H id=some b→ρ id ≠ .no→hget H' id=some b) (hdd:∀ id,D id→hget H id=none)
 (hv:Rep w bad D ρ X v):∃ ad c,v=.slice ad l.length c∧l.length≤c∧(l=[] ∨ ∃ b q es,ad=some ⟨b,q,none⟩∧RowAt w bad D ρ l b q es):=by
 have eD:D=fun id=>H'[id]?=some none:=funext fun id=>propext (hD id)
 cases X <;> simp only [elsOf] at h <;> (try (cases h; done))
 ·exact absurd rfl (hX _)
 ·obtain rfl:=Option.some.inj h
  cases hv with
  | frz hv=>cases hv with
    | znil=>exact ⟨_,_,rfl,Nat.le_refl _,.inl rfl⟩
    | zsl a=>exact ⟨_,_,rfl,Nat.le_refl _,.inl rfl⟩
 ·rename_i id q n
  have hs:=hsame id q n rfl
  cases hg:hget H id with
  | none=>simp [hg] at h
  | some k =>
    simp only [hg] at h
    split at h <;> (try (cases h; done))
    rename_i hle
    obtain rfl:=Option.some.inj h
    have hs:=hs k hg
    have hlen:((k.els.drop q).take n).length=n:=by simp; omega
    rw [hlen]
    cases hv with
    | frz h=>cases h
    | slcD ad c hd=>rw [hdd _ hd] at hg; cases hg
    | slcV ad hρ=>exact ⟨_,_,rfl,Nat.le_refl _,.inl (by simp)⟩
    | slc hρ hc hn =>
      rename_i b es cap c
      obtain ⟨k2,hk2,hb⟩:=hR.real _ b es cap hρ
      rw [agree_of (hs (by simp [hρ]))] at hk2; cases hk2
      obtain ⟨cur,fz,hm1,hm2,hm3,hm4⟩:=hb.mem
      refine ⟨_,_,rfl,hn,.inr ⟨b,q * es,es,rfl,hb.pos,fun i x hx=>?_,fun i x j c hx hj=>?_⟩⟩
      ·have hi:i < n:=by have:=(List.getElem?_eq_some_iff.mp hx).1; omega
       rw [List.getElem?_take_of_lt hi,List.getElem?_drop] at hx
       rw [(elOk_sc (hb.ok _ x hx)).2.1,hb.hes]
      ·have hi:i < n:=by have:=(List.getElem?_eq_some_iff.mp hx).1; omega
       rw [List.getElem?_take_of_lt hi,List.getElem?_drop] at hx
       obtain ⟨u,hu,hr⟩:=hm4 _ x j c hx hj
       refine ⟨u,?_,eD ▸ hr⟩
       rw [show q * es+(i * es+j)=(q+i) * es+j by rw [Nat.add_mul]; omega]
       simp only [World.cell?,hm1]
       simpa using hu
 ·obtain rfl:=Option.some.inj h
  cases hv with
  | frz hv=>cases hv with
    | lst0 a c h=>exact ⟨_,_,rfl,Nat.zero_le _,.inl rfl⟩
    | lst _ b q es c vs hn he hb hl hs hc hr=>exact ⟨_,_,rfl,hn,.inr ⟨b,q,es,rfl,he,hs,fun i x j c hx hj=>⟨_,hc i x j c hx hj,.frz (hr i x j c hx hj)⟩⟩⟩
 ·obtain rfl:=Option.some.inj h
  cases hv with
  | frz hv=>cases hv with
    | emp a c=>exact ⟨_,_,rfl,Nat.zero_le _,.inl rfl⟩

theorem b2sL_spec:∀ {l:List AV} {s:List UInt8},b2sL l=some s→∃ ns:List Int,l=ns.map (AV.int .u8)∧s=ns.map fun n=>UInt8.ofNat n.toNat
 | [],s,h=>by simp [b2sL] at h; subst h; exact ⟨[],rfl,rfl⟩
 | x::l,s,h=>by
   unfold b2sL at h
   split at h <;> (try (cases h; done))
   ·rename_i heq; cases heq
   ·rename_i n l' heq
    cases heq
    cases hl:b2sL l with
    | none=>simp [hl] at h
    | some s' =>
      simp [hl] at h
      subst h
      obtain ⟨ns,rfl,rfl⟩:=b2sL_spec hl
      exact ⟨n::ns,rfl,rfl⟩

theorem push_fold:∀ (ns:List Int) (s:ByteArray),(ns.foldl (fun r n=>r.push (UInt8.ofNat n.toNat)) s)=⟨(s.data.toList ++ ns.map fun n=>UInt8.ofNat n.toNat).toArray⟩
 | [],s=>by simp
 | n::ns,s=>by
   rw [List.foldl_cons,push_fold ns]
   apply ByteArray.ext
   simp [ByteArray.push]

theorem says_b2s {H H':Heap} {B:Nat} {s d e:TypeId} {x:Operand} {x':Opd} {l:List AV} {z:List UInt8} (ho:o.op=.convert s d x) (hs:P.underlying s=some (.slice e)) (he:P.underlying e=some (.int .u8)) (hd:P.underlying d=some .string) (hx:cOpd x=some x')
 (hl:elsOf H (ev x')=some l) (hX:∀ s,ev x' ≠ .str s) (hz:b2sL l=some z) (hR:HRel w bad ρ B H') (hD:∀ id,D id ↔ H'[id]?=some none) (hsame:∀ id u q,ev x'=.slc id u q→∀ b,hget H id=some b→ρ id ≠ .no→hget H' id=some b) (hdd:∀ id,D id→hget H id=none)
 (hO:OpsOk w bad D ρ a ev o.op.operands.toList):Says P w bad D ρ a o (.str z):=by
 have h2:=hO x (by simp [ho,Op.operands]) x' hx
 obtain ⟨ad,c,e2,hn,hrow⟩:=elsOf_rep hl hX hR hD hsame hdd h2
 obtain ⟨ns,rfl,rfl⟩:=b2sL_spec hz
 refine ⟨_,?_,.frz (.str _)⟩
 simp only [execOp,ho,e2,Sem.run_bind,run_convert_bytes_string w s d e ad _ c hs he hd]
 have key:(Conv.bytesToString (.slice ad (ns.map (AV.int .u8)).length c)).run P w=.ok (.string ⟨(ns.map fun n=>UInt8.ofNat n.toNat).toArray⟩) w:=by
  rcases hrow with hnil | ⟨b,q,es,rfl,hpos,hes,hc⟩
  ·have:ns=[]:=by simpa using hnil
   subst this
   cases ad with
   | none=>simp [Conv.bytesToString]; rfl
   | some ad =>
     rw [run_bytesToString w ad _ c [] (by simp [loadCells,loadCellsFrom])]
     rfl
  ·rw [run_bytesToString w ⟨b,q,none⟩ _ c ns ?_]
   ·rw [push_fold]; simp
   ·have:=run_loadCells_list (P:=P) w ⟨b,q,none⟩ (ns.map (Value.int .u8)) (by
     intro j u hu
     have hj:j < ns.length:=by have:=(List.getElem?_eq_some_iff.mp hu).1; simpa using this
     have hx:(ns.map (AV.int .u8))[j]?=some (.int .u8 ns[j]):=by simp [hj]
     have h1:=hes j _ hx
     have h1':es=1:=by simpa [AV.cells] using h1.symm
     subst h1'
     obtain ⟨u',hu',hr⟩:=hc j _ 0 (.int .u8 ns[j]) hx rfl
     have:=rep_int hr
     subst this
     simp [hj] at hu
     subst hu
     rw [Addr.add_lit]
     simpa using hu')
    simpa using this
 simp only [key,Result.andThen_ok,Sem.run_pure]

def Makes (P:Program) (w:World) (bad D:Nat→Prop) (ρ:Rho) (a:Act) (o:Oper) (v:AV) (id:Nat) (k:Blk):Prop :=
 ∃ cv w' cur fz cap,(execOp a.eval o).run P w=.ok (.value cv) w'∧w'.os=w.os∧w'.tape=w.tape∧w'.output=w.output∧(w'.heap.size=w.heap.size+1∧(∀ j,j < w.heap.size→w'.heap[j]?=w.heap[j]?)∧w'.heap[w.heap.size]?=some (.cells cur k.e.tid fz)) ∧
   0 < k.e.es∧cur.size=cap * k.e.es∧Unfz fz cur.size∧k.els.length≤cap∧(∀ (i:Nat) (el:AV),k.els[i]?=some el→elOk k.e el=true) ∧
   (∀ (i:Nat) (el:AV) (j:Nat) (c:AV),k.els[i]?=some el→el.cells[j]?=some c→∃ u,cur[i * k.e.es+j]?=some u∧Rep w bad D ρ c u) ∧
   ((v=.ptr id 0 0∧cv=.pointer (some ⟨w.heap.size,0,none⟩)) ∨ ∃ n c,v=.slc id 0 n∧n≤c∧c≤cap∧cv=.slice (some ⟨w.heap.size,0,none⟩) n c)

theorem alloc3 (w:World) (cur:Array Value) {t u:TypeId} (h:u=t):(w.alloc (.cells cur t)).heap.size=w.heap.size+1∧(∀ j,j < w.heap.size→(w.alloc (.cells cur t)).heap[j]?=w.heap[j]?)∧(w.alloc (.cells cur t)).heap[w.heap.size]?=some (.cells cur u (0,0)):=by
 subst h
 refine ⟨by simp,fun j hj=>Below.heap_alloc w _ j hj,heap_alloc_new w _⟩

theorem cETy_spec {t:TypeId} {e:ETy} (h:cETy P t=some e):∃ i z,P.info? t=some i∧agB P t=some e.ag∧i.zero=some z∧cv z=some e.zero∧e.tid=t∧e.es=i.size∧e.bytes=i.bytes∧elOk e e.zero=true∧0 < e.es:=by
 unfold cETy at h
 split at h <;> (try (cases h; done))
 rename_i i ag hi ha
 split at h <;> (try (cases h; done))
 rename_i z hz
 split at h <;> (try (cases h; done))
 rename_i v hv
 split at h <;> (try (cases h; done))
 rename_i hok
 cases h
 exact ⟨i,z,hi,ha,hz,hv,rfl,rfl,rfl,hok.1,hok.2⟩

theorem elOk_rep {e:ETy} {x:AV} {v:Value} (h:elOk e x=true) (hv:Rep w bad D ρ x v):v.cells.size=e.es∧∀ (j:Nat) (c:AV),x.cells[j]?=some c→∃ u,v.cells[j]?=some u∧Rep w bad D ρ c u:=by
 obtain ⟨h1,h2,h3⟩:=elOk_sc h
 obtain ⟨e1,e2⟩:=rep_cells hv h1
 refine ⟨by omega,fun j c hj=>?_⟩
 have hlt:j < v.cells.size:=by have:=(List.getElem?_eq_some_iff.mp hj).1; omega
 exact ⟨_,Array.getElem?_eq_getElem hlt,e2 j c _ hj (Array.getElem?_eq_getElem hlt)⟩

theorem makes_one {e:ETy} {t:TypeId} {x:AV} {v:Value} (id:Nat) (he:cETy P t=some e) (hok:elOk e x=true) (hv:Rep w bad D ρ x v)
 (hrun:(execOp a.eval o).run P w=.ok (.value (.pointer (some ⟨w.heap.size,0,none⟩))) (w.alloc (.cells v.cells t))):Makes P w bad D ρ a o (.ptr id 0 0) id ⟨e,[x]⟩:=by
 obtain ⟨i,z,hi,ha,hz,hzv,ht,hes,hby,hzo,hpos⟩:=cETy_spec he
 obtain ⟨h1,h2⟩:=elOk_rep hok hv
 refine ⟨_,_,v.cells,(0,0),1,hrun,rfl,rfl,rfl,alloc3 _ _ ht,hpos,by simpa using h1,unfz0 _,by simp,?_,?_,.inl ⟨rfl,rfl⟩⟩
 ·intro i el hel
  cases i with
  | zero=>simp at hel; subst hel; exact hok
  | succ i=>simp at hel
 ·intro i el j c hel hj
  cases i with
  | zero=>simp at hel; subst hel; simpa using h2 j c hj
  | succ i=>simp at hel

theorem makes_box {e:ETy} {t:TypeId} {x:Operand} {x':Opd} (id:Nat) (ho:o.op=.box t x) (he:cETy P t=some e) (hx:cOpd x=some x') (hok:elOk e (ev x')=true) (hO:OpsOk w bad D ρ a ev o.op.operands.toList) :
 Makes P w bad D ρ a o (.ptr id 0 0) id ⟨e,[ev x']⟩:=by
 have h2:=hO x (by simp [ho,Op.operands]) x' hx
 refine makes_one id he hok h2 ?_
 simp [execOp,ho,Instr.box,newVar,newRow]

theorem makes_alloc {e:ETy} {t:TypeId} (id:Nat) (ho:o.op=.alloc t) (he:cETy P t=some e):Makes P w bad D ρ a o (.ptr id 0 0) id ⟨e,[e.zero]⟩:=by
 obtain ⟨i,z,hi,ha,hz,hzv,ht,hes,hby,hzo,hpos⟩:=cETy_spec he
 refine makes_one id he hzo (.frz (cv_rep hzv)) ?_
 simp [execOp,ho,Instr.alloc,newVar,newRow,zeroValue,typeInfo,hi,hz]

theorem zero_cells {z:Array Value} {es n i j:Nat} (hz:z.size=es) (hi:i < n) (hj:j < es):((Array.range (n * es)).map fun k=>z[k % z.size]!)[i * es+j]?=z[j]?:=by
 have h1:i * es+j < n * es:=by
  have:=Nat.mul_le_mul_right es hi
  rw [Nat.succ_mul] at this
  omega
 have h2:(i * es+j) % es=j:=by rw [Nat.add_comm,Nat.add_mul_mod_self_right]; exact Nat.mod_eq_of_lt hj
 have h3:j < z.size:=by omega
 simp [h1,hz,h2]
 rw [getElem!_pos z j h3,Array.getElem?_eq_getElem h3]

theorem makes_row {e:ETy} {t:TypeId} {n:Nat} (id:Nat) (he:cETy P t=some e) {z:Value} {i:TypeInfo} (hi:P.info? t=some i) (hz:i.zero=some z)
 (hrun:(execOp a.eval o).run P w=.ok (.value (.slice (some ⟨w.heap.size,0,none⟩) n n)) (w.alloc (.cells ((Array.range (n * i.size)).map fun k=>z.cells[k % z.cells.size]!) t))) :
 Makes P w bad D ρ a o (.slc id 0 n) id ⟨e,List.replicate n e.zero⟩:=by
 obtain ⟨i',z',hi',ha,hz',hzv,ht,hes,hby,hzo,hpos⟩:=cETy_spec he
 rw [hi] at hi'; cases hi'
 rw [hz] at hz'; cases hz'
 obtain ⟨h1,h2⟩:=elOk_rep hzo (.frz (cv_rep (w:=w) (bad:=fun b=>bad b ∨ own ρ b) hzv):Rep w bad D ρ e.zero z)
 refine ⟨_,_,_,(0,0),n,hrun,rfl,rfl,rfl,alloc3 _ _ ht,hpos,by simp [hes],unfz0 _,by simp,?_,?_,.inr ⟨n,n,rfl,Nat.le_refl _,Nat.le_refl _,rfl⟩⟩
 ·intro k el hel
  simp only [List.getElem?_replicate] at hel
  split at hel <;> simp at hel
  subst hel; exact hzo
 ·intro k el j c hel hj
  simp only [List.getElem?_replicate] at hel
  split at hel
  ·rename_i hk
   simp at hel
   subst hel
   obtain ⟨u,hu,hr⟩:=h2 j c hj
   refine ⟨u,?_,hr⟩
   have hjl:j < e.es:=by have:=(List.getElem?_eq_some_iff.mp hj).1; have:=(elOk_sc hzo).2.1; omega
   simp only
   rw [hes] at hjl ⊢
   rw [zero_cells (by omega) hk hjl]
   exact hu
  ·cases hel

theorem makes_mkslice {e:ETy} {t et:TypeId} {x y:Operand} {x' y':Opd} {n:Int} (id:Nat) (ho:o.op=.makeSlice t x y) (hs:P.underlying t=some (.slice et)) (he:cETy P et=some e) (hx:cOpd x=some x') (hy:cOpd y=some y')
 (hn:aInt (ev x')=some n) (hm:aInt (ev y')=some n) (h0:0≤n) (hb:n * e.bytes≤140737488355328) (hl:n≤9223372036854775807) (hO:OpsOk w bad D ρ a ev o.op.operands.toList) :
 Makes P w bad D ρ a o (.slc id 0 n.toNat) id ⟨e,List.replicate n.toNat e.zero⟩:=by
 obtain ⟨i,z,hi,ha,hz,hzv,ht,hes,hby,hzo,hpos⟩:=cETy_spec he
 have h2:=hO x (by simp [ho,Op.operands]) x' hx
 have h3:=hO y (by simp [ho,Op.operands]) y' hy
 refine makes_row id he hi hz ?_
 have e2:∃ k,a.eval x=.int k n:=by
  generalize ev x'=X at *
  cases X <;> simp [aInt] at hn
  subst hn
  exact ⟨_,rep_int h2⟩
 have e3:∃ k,a.eval y=.int k n:=by
  generalize ev y'=X at *
  cases X <;> simp [aInt] at hm
  subst hm
  exact ⟨_,rep_int h3⟩
 obtain ⟨k1,e2⟩:=e2
 obtain ⟨k2,e3⟩:=e3
 have hw:IntKind.i64.wrap n=n:=by rw [IntKind.wrap_i64]; omega
 rw [hby] at hb
 have hsz:0 < i.size:=by omega
 simp only [execOp,ho,Instr.makeSlice,e2,e3,Sem.run_bind,run_underlying hs,Result.andThen_ok,asInt,asIntOf,Sem.run_pure,typeInfo,run_program,hi,hw]
 have c1:¬ ((decide (n < 0) || decide ((i.bytes:Int) * n > 2 ^ 48)) || decide (n < 0) || decide (n > n))=true:=by
  have:(i.bytes:Int) * n≤140737488355328:=by rw [Int.mul_comm]; exact hb
  simp
  omega
 rw [if_neg c1]
 simp only [Sem.run_bind,run_askRoom,Result.andThen_ok,run_size hi]
 by_cases hz0:n.toNat * i.size=0
 ·rw [if_pos hz0]
  have hr:∀ f:Nat→Value,Array.map f (Array.range (n.toNat * i.size))=#[]:=fun f=>by rw [hz0]; apply Array.ext'; simp
  simp [newRow,hr]
 ·rw [if_neg hz0]
  simp [newRow,zeroValue,typeInfo,hi,hz]

theorem fillR_run {e:ETy} (hes:0 < e.es):∀ (ps:List (Nat × AV)) (qs:List (Nat × Value)) (els els':List AV) (vs:List Value),ps.length=qs.length→vs.length=els.length * e.es →
 (∀ (i:Nat) (el:AV),els[i]?=some el→elOk e el=true) →
 (∀ (i:Nat) (el:AV) (j:Nat) (c:AV),els[i]?=some el→el.cells[j]?=some c→∃ u,vs[i * e.es+j]?=some u∧Rep w bad D ρ c u) →
 (∀ (i:Nat) (p:Nat × AV) (q:Nat × Value),ps[i]?=some p→qs[i]?=some q→q.1=p.1∧Rep w bad D ρ p.2 q.2)→fillR e els ps=some els' →
 ∃ vs':List Value,Instr.fill (fun i=>some (i * e.es,e.es)) vs.toArray qs=some vs'.toArray∧els'.length=els.length∧vs'.length=els'.length * e.es ∧
   (∀ (i:Nat) (el:AV),els'[i]?=some el→elOk e el=true) ∧
   (∀ (i:Nat) (el:AV) (j:Nat) (c:AV),els'[i]?=some el→el.cells[j]?=some c→∃ u,vs'[i * e.es+j]?=some u∧Rep w bad D ρ c u)
 | [],qs,els,els',vs,hl,hv,hok,hp,_,h=>by
   cases qs with
   | nil=>simp [fillR] at h; subst h; exact ⟨vs,rfl,rfl,hv,hok,hp⟩
   | cons q qs=>simp at hl
 | (k,x)::ps,qs,els,els',vs,hl,hv,hok,hp,hq,h=>by
   cases qs with
   | nil=>simp at hl
   | cons q qs =>
     obtain ⟨h1,h2⟩:=hq 0 _ _ rfl rfl
     obtain ⟨i0,u⟩:=q
     simp only at h1 h2
     subst h1
     simp only [fillR] at h
     split at h <;> (try (cases h; done))
     rename_i hx
     split at h <;> (try (cases h; done))
     rename_i hlt
     obtain ⟨e1,e2⟩:=elOk_rep hx h2
     have hb:i0 * e.es+e.es≤els.length * e.es:=by
      have:=Nat.mul_le_mul_right e.es hlt
      rwa [Nat.succ_mul] at this
     have hz:(u.cells.zipIdx.foldl (fun (cs:Array Value) (x:Value × Nat)=>cs.setIfInBounds (i0 * e.es+x.2) x.1) vs.toArray)=(vs.take (i0 * e.es) ++ u.cells.toList ++ vs.drop (i0 * e.es+e.es)).toArray:=by
      obtain ⟨ul,hul⟩:∃ l:List Value,u.cells=l.toArray:=⟨u.cells.toList,by simp⟩
      have hlen:ul.length=e.es:=by rw [hul] at e1; simpa using e1
      have z:=zip_fold (i0 * e.es) ul 0 vs.toArray (by simp; omega)
      rw [hul]
      apply Array.ext'
      have e3:ul.toArray.zipIdx=(ul.zipIdx 0).toArray:=by simp
      rw [e3,List.foldl_toArray]
      simpa [hlen] using z
     have hlen':(vs.take (i0 * e.es) ++ u.cells.toList ++ vs.drop (i0 * e.es+e.es)).length=(els.set i0 x).length * e.es:=by
      simp; omega
     obtain ⟨vs',f1,f2,f3,f4,f5⟩:=fillR_run hes ps qs (els.set i0 x) els' _ (by simpa using hl) hlen' (by
      intro i el hel
      by_cases hii:i0=i
      ·subst hii
       rw [List.getElem?_set_self hlt] at hel
       cases hel; exact hx
      ·rw [List.getElem?_set_ne hii] at hel
       exact hok i el hel) (by
      intro i el j c hel hj
      by_cases hne:i0=i
      ·subst hne
       rw [List.getElem?_set_self hlt] at hel
       cases hel
       obtain ⟨y,hy,hr⟩:=e2 j c hj
       refine ⟨y,?_,hr⟩
       have hjl:j < u.cells.size:=(Array.getElem?_eq_some_iff.mp hy).1
       rw [List.append_assoc,List.getElem?_append_right (by simp; omega),List.getElem?_append_left (by simp; omega)]
       have:i0 * e.es+j - (vs.take (i0 * e.es)).length=j:=by simp; omega
       rw [this]
       simpa using hy
      ·rw [List.getElem?_set_ne hne] at hel
       obtain ⟨y,hy,hr⟩:=hp i el j c hel hj
       refine ⟨y,?_,hr⟩
       have hjl:j < e.es:=by have h9:=(List.getElem?_eq_some_iff.mp hj).1; have:=(elOk_sc (hok i el hel)).2.1; omega
       rcases Nat.lt_or_gt_of_ne hne with hlt' | hgt'
       ·have h8:i0 * e.es+e.es≤i * e.es:=by
         have:=Nat.mul_le_mul_right e.es hlt'
         rwa [Nat.succ_mul] at this
        rw [List.getElem?_append_right (by simp; omega)]
        simp only [List.length_append,List.length_take,Array.length_toList,List.getElem?_drop]
        have:i0 * e.es+e.es+(i * e.es+j - (min (i0 * e.es) vs.length+u.cells.size))=i * e.es+j:=by omega
        rw [this]; exact hy
       ·have h8:i * e.es+e.es≤i0 * e.es:=by
         have:=Nat.mul_le_mul_right e.es hgt'
         rwa [Nat.succ_mul] at this
        rw [List.append_assoc,List.getElem?_append_left (by simp; omega),List.getElem?_take_of_lt (by omega)]
        exact hy) (fun i p q hp hq'=>hq (i+1) p q (by simpa using hp) (by simpa using hq')) h
     refine ⟨vs',?_,by rw [f2]; simp,f3,f4,f5⟩
     unfold Instr.fill
     simp only
     rw [if_neg (by simp; omega)]
     exact (congrArg (fun z=>Instr.fill _ z qs) hz).trans f1

theorem makes_mkrow {e:ETy} {t et:TypeId} {n:Nat} {ps:Array (Nat × Operand)} {l:List (Nat × Opd)} {els:List AV} (id:Nat) (ho:o.op=.buildSlice t n ps) (hs:P.underlying t=some (.slice et)) (he:cETy P et=some e) (hl:cParts ps.toList=some l)
 (hn:n * e.es≤16777216) (hf:fillR e (List.replicate n e.zero) (l.map fun p=>(p.1,ev p.2))=some els) (hO:OpsOk w bad D ρ a ev o.op.operands.toList):Makes P w bad D ρ a o (.slc id 0 n) id ⟨e,els⟩:=by
 obtain ⟨i,z,hi,ha,hz,hzv,ht,hes,hby,hzo,hpos⟩:=cETy_spec he
 obtain ⟨o1,o2⟩:=optAll_spec hl
 obtain ⟨z1,z2⟩:=elOk_rep hzo (.frz (cv_rep (w:=w) (bad:=fun b=>bad b ∨ own ρ b) hzv):Rep w bad D ρ e.zero z)
 have hev:∀ q ∈ ps.toList,∀ y,cOpd q.2=some y→Rep w bad D ρ (ev y) (a.eval q.2):=fun q hq y hy=>hO q.2 (by simp only [ho,Op.operands]; simp; exact ⟨q.1,by simpa using hq⟩) y hy
 have hmap:(ps.map fun p=>(p.1,a.eval p.2)).toList=ps.toList.map fun p=>(p.1,a.eval p.2):=by simp
 obtain ⟨vs',f1,f2,f3,f4,f5⟩:=fillR_run (w:=w) (bad:=bad) (D:=D) (ρ:=ρ) hpos (l.map fun p=>(p.1,ev p.2)) (ps.toList.map fun p=>(p.1,a.eval p.2)) (List.replicate n e.zero) els
  ((Array.range (n * e.es)).map fun k=>z.cells[k % z.cells.size]!).toList (by simp [o1]) (by simp) (fun i el hel=>by
    simp only [List.getElem?_replicate] at hel
    split at hel <;> simp at hel
    subst hel; exact hzo) (fun k el j c hel hj=>by
    simp only [List.getElem?_replicate] at hel
    split at hel
    ·rename_i hk
     simp at hel
     subst hel
     obtain ⟨u,hu,hr⟩:=z2 j c hj
     refine ⟨u,?_,hr⟩
     have hjl:j < e.es:=by have:=(List.getElem?_eq_some_iff.mp hj).1; have:=(elOk_sc hzo).2.1; omega
     rw [Array.getElem?_toList,zero_cells z1 hk hjl]
     exact hu
    ·cases hel) (fun k p q hp hq=>by
    rw [List.getElem?_map] at hp hq
    obtain ⟨p',hp',rfl⟩:=Option.map_eq_some_iff.mp hp
    obtain ⟨q',hq',rfl⟩:=Option.map_eq_some_iff.mp hq
    obtain ⟨b,hb,hbe⟩:=o2 k q' hq'
    rw [hb] at hp'; cases hp'
    split at hbe
    ·rename_i y hy
     cases hbe
     exact ⟨rfl,hev q' (List.mem_of_getElem? hq') _ hy⟩
    ·cases hbe) hf
 have f2':els.length=n:=by simpa using f2
 rw [Array.toArray_toList] at f1
 refine ⟨.slice (some ⟨w.heap.size,0,none⟩) n n,w.alloc (.cells vs'.toArray et),vs'.toArray,(0,0),n,?_,rfl,rfl,rfl,alloc3 _ _ ht,hpos,by simp only [List.size_toArray,f3,f2'],unfz0 _,by simp only [f2']; exact Nat.le_refl _,f4,
  fun i el j c hel hj=>by simpa using f5 i el j c hel hj,.inr ⟨n,n,rfl,Nat.le_refl _,Nat.le_refl _,rfl⟩⟩
 have hbig:¬ (n * i.size > 2 ^ 24):=by rw [← hes]; omega
 simp only [execOp,ho,Instr.buildSlice,Sem.run_bind,run_underlying hs,Result.andThen_ok,run_size hi,if_neg hbig,Sem.run_pure,hmap]
 rw [hes] at f1
 have hzr:(zeroValue et).run P w=.ok z w:=by simp [zeroValue,typeInfo,hi,hz]
 by_cases hz0:n * i.size=0
 ·rw [if_pos hz0]
  have hr:∀ f:Nat→Value,Array.map f (Array.range (n * i.size))=#[]:=fun f=>by rw [hz0]; apply Array.ext'; simp
  rw [hr] at f1
  simp only [Sem.run_pure,Result.andThen_ok,hr,f1]
  simp [newRow]
 ·rw [if_neg hz0]
  simp only [Sem.run_bind,hzr,Result.andThen_ok,Sem.run_pure,f1]
  simp [newRow]

theorem makes_s2b {e:ETy} {s d et:TypeId} {ds:TypeDesc} {x:Operand} {x':Opd} {l:List UInt8} (id:Nat) (ho:o.op=.convert s d x) (hs:P.underlying s=some ds) (hd:P.underlying d=some (.slice et)) (hu:P.underlying et=some (.int .u8))
 (he:cETy P et=some e) (he1:e.es=1) (hx:cOpd x=some x') (hv:ev x'=.str l) (hO:OpsOk w bad D ρ a ev o.op.operands.toList):Makes P w bad D ρ a o (.slc id 0 l.length) id ⟨e,bytesAV l⟩:=by
 obtain ⟨i,z,hi,ha,hz,hzv,ht,hes,hby,hzo,hpos⟩:=cETy_spec he
 subst ht
 have h2:=hO x (by simp [ho,Op.operands]) x' hx
 rw [hv] at h2
 have e2:=rep_str h2
 have hrun:=Lib.run_convert_string_bytes (P:=P) w s d e.tid ⟨l.toArray⟩ hs hd hu
 have hsz:(⟨l.toArray⟩:ByteArray).size=l.length:=by simp [ByteArray.size]
 have hge:=grownCap_ge w (⟨l.toArray⟩:ByteArray).size 0 e.tid
 have hcur:(Lib.bytesCells w e.tid ⟨l.toArray⟩).size=grownCap w (⟨l.toArray⟩:ByteArray).size 0 e.tid:=by
  simp only [Lib.bytesCells,Array.size_append,Array.size_map,Array.size_replicate]
  have h8:l.toArray.size=l.length:=by simp
  rw [hsz] at hge ⊢
  omega
 rw [hsz] at hge hcur
 refine ⟨.slice (some ⟨w.heap.size,0,none⟩) l.length (grownCap w l.length 0 e.tid),Lib.bytesWorld w e.tid ⟨l.toArray⟩,Lib.bytesCells w e.tid ⟨l.toArray⟩,_,grownCap w l.length 0 e.tid,?_,rfl,rfl,rfl,
  ⟨Lib.bytesWorld_size _ _ _,fun j hj=>Lib.bytesWorld_at_old _ _ _ j hj,Lib.bytesWorld_at_new w _ _⟩,hpos,by rw [he1,hcur,Nat.mul_one],⟨fun j hj=>by simp; omega,by simp⟩,by simpa [bytesAV] using hge,?_,?_,
  .inr ⟨l.length,_,rfl,hge,Nat.le_refl _,rfl⟩⟩
 ·rw [hsz] at hrun
  simp only [execOp,ho,e2,Sem.run_bind,hrun,Result.andThen_ok,Sem.run_pure]
 ·intro k el hel
  simp only [bytesAV,List.getElem?_map] at hel
  obtain ⟨b,hb,rfl⟩:=Option.map_eq_some_iff.mp hel
  simp [elOk,AV.cells,isSc,he1]
 ·intro k el j c hel hj
  simp only [bytesAV,List.getElem?_map] at hel
  obtain ⟨b,hb,rfl⟩:=Option.map_eq_some_iff.mp hel
  cases j with
  | succ j=>simp [AV.cells] at hj
  | zero =>
    simp [AV.cells] at hj
    subst hj
    have hk:=(List.getElem?_eq_some_iff.mp hb).1
    refine ⟨.int .u8 b.toNat,?_,.frz (.int _ _)⟩
    simp only [he1,Nat.mul_one,Nat.add_zero,Lib.bytesCells]
    rw [Array.getElem?_append_left (by simpa using hk)]
    simp [hb]
end
end Go.Proofs.Ytffiilnmfmkpmaa.AE

namespace Go.Proofs.Ytffiilnmfmkpmaa.AE
set_option linter.unusedVariables false
set_option linter.unusedSimpArgs false
set_option linter.constructorNameAsVariable false
open Go Go.RowKit

abbrev dead (H:Heap):Nat→Prop:=fun id=>H[id]?=some none

section
variable {P:Program} {w w':World} {bad D D':Nat→Prop} {ρ ρ':Rho} {a:Act} {ev:Opd→AV} {o:Oper} {B:Nat}

theorem BlkRel.step {k:Blk} {b es cap:Nat} (s:Step w w' D D' ρ ρ') (h:BlkRel w bad D ρ B k b es cap) (hm:w'.heap[b]?=w.heap[b]?):BlkRel w' bad D' ρ' B k b es cap:=by
 obtain ⟨cur,fz,h1,h2,h3,h4⟩:=h.mem
 exact ⟨h.hes,h.pos,h.low,h.len,h.ok,cur,fz,hm.trans h1,h2,h3,fun i el j c hel hj=>let ⟨v,hv,hr⟩:=h4 i el j c hel hj; ⟨v,hv,hr.step s⟩⟩

theorem own_lt {H:Heap} (hR:HRel w bad ρ B H) {b:Nat} (h:own ρ b):b < w.heap.size∧B≤b:=by
 obtain ⟨id,es,cap,h⟩:=h
 obtain ⟨k,hk,hb⟩:=hR.real id b es cap h
 obtain ⟨cur,fz,h1,_⟩:=hb.mem
 exact ⟨(Array.getElem?_eq_some_iff.mp h1).1,hb.low⟩

theorem alloc_upd {H H':Heap} {id:Nat} {k:Blk} {cur:Array Value} {fz:Nat × Nat} {cap:Nat} (hR:HRel w bad ρ B H) (hB:B≤w.heap.size) (hρ:ρ id=.no) (hnew:H'[id]?=some (some k)) (hold:∀ i:Nat,i ≠ id→ρ i ≠ .no→H'[i]?=H[i]?)
 (hdead:∀ i:Nat,H[i]?=some none→H'[i]?=some none) (hos:w'.os=w.os) (htape:w'.tape=w.tape) (hout:w'.output=w.output) (hsz:w'.heap.size=w.heap.size+1) (hkeep:∀ j,j < w.heap.size→w'.heap[j]?=w.heap[j]?)
 (hcell:w'.heap[w.heap.size]?=some (.cells cur k.e.tid fz)) (hpos:0 < k.e.es) (hcs:cur.size=cap * k.e.es) (hfz:Unfz fz cur.size) (hlen:k.els.length≤cap)
 (hok:∀ (i:Nat) (el:AV),k.els[i]?=some el→elOk k.e el=true)
 (hcells:∀ (i:Nat) (el:AV) (j:Nat) (c:AV),k.els[i]?=some el→el.cells[j]?=some c→∃ u,cur[i * k.e.es+j]?=some u∧Rep w bad (dead H) ρ c u) :
 ∃ ρ',ρ'=(fun i=>if i=id then RB.real w.heap.size k.e.es cap else ρ i)∧Step w w' (dead H) (dead H') ρ ρ'∧HRel w' bad ρ' B H':=by
 refine ⟨_,rfl,?_⟩
 have hst:Step w w' (dead H) (dead H') ρ (fun i=>if i=id then RB.real w.heap.size k.e.es cap else ρ i):=by
  refine ⟨⟨hos,htape,hout,by omega,fun b hb _=>hkeep b hb⟩,⟨fun b hb=>?_⟩,hdead,fun i hi=>.inl ?_⟩
  ·obtain ⟨i,es,cp,h⟩:=hb
   by_cases hi:i=id
   ·simp [hi] at h; right; omega
   ·simp [hi] at h; exact .inl ⟨i,es,cp,h⟩
  ·have:i ≠ id:=fun e=>hi (e ▸ hρ)
   simp [this]
 refine ⟨hst,?_,?_,?_,fun i h=>?_⟩
 rotate_right
 ·by_cases hi:i=id
  ·simp [hi] at h
  ·simp [hi] at h
   obtain ⟨k',hk',he⟩:=hR.res i h
   exact ⟨k',(hold i hi (by simp [h])).trans hk',he⟩
 ·intro i b es cp h
  by_cases hi:i=id
  ·simp [hi] at h
   obtain ⟨rfl,rfl,rfl⟩:=h
   subst hi
   exact ⟨k,hnew,rfl,hpos,hB,hlen,hok,cur,fz,hcell,hcs,hfz,fun i el j c hel hj=>let ⟨u,hu,hr⟩:=hcells i el j c hel hj; ⟨u,hu,hr.step hst⟩⟩
  ·simp [hi] at h
   obtain ⟨k',hk',hb⟩:=hR.real i b es cp h
   exact ⟨k',(hold i hi (by simp [h])).trans hk',hb.step hst (hkeep b (own_lt hR ⟨i,es,cp,h⟩).1)⟩
 ·intro i h
  by_cases hi:i=id
  ·simp [hi] at h
  ·simp [hi] at h
   obtain ⟨k',hk',he⟩:=hR.virt i h
   exact ⟨k',(hold i hi (by simp [h])).trans hk',he⟩
 ·intro i i' b es cp es' cp' h h'
  by_cases hi:i=id <;> by_cases hi':i'=id
  ·rw [hi,hi']
  ·simp [hi] at h; simp [hi'] at h'
   have:=(own_lt hR ⟨i',es',cp',h'⟩).1
   omega
  ·simp [hi] at h; simp [hi'] at h'
   have:=(own_lt hR ⟨i,es,cp,h⟩).1
   omega
  ·simp [hi] at h; simp [hi'] at h'
   exact hR.inj i i' b es cp es' cp' h h'

theorem storeCells_run (b t:Nat) (fz:Nat × Nat):∀ (vs:List Value) (o i:Nat) (cur:Array Value) (w:World),w.heap[b]?=some (.cells cur t fz)→o+i+vs.length≤cur.size→(∀ j,j < cur.size→¬ (fz.1≤j∧j < fz.2))→(∀ v ∈ vs,v.oneCell'=true) →
 ∃ w' cur',(storeCells ⟨b,o,none⟩ vs i).run P w=.ok () w'∧w'.os=w.os∧w'.tape=w.tape∧w'.output=w.output∧w'.heap.size=w.heap.size∧(∀ j,j ≠ b→w'.heap[j]?=w.heap[j]?)∧w'.heap[b]?=some (.cells cur' t fz)∧cur'.size=cur.size ∧
   ∀ k,cur'[k]?=if o+i≤k∧k < o+i+vs.length then vs[k - (o+i)]? else cur[k]?
 | [],o,i,cur,w,hb,_,_,_=>⟨w,cur,rfl,rfl,rfl,rfl,rfl,fun _ _=>rfl,hb,rfl,fun k=>by rw [if_neg (by simp)]⟩
 | v::vs,o,i,cur,w,hb,hle,hfz,h1=>by
   simp only [List.length_cons] at hle
   have hcell:w.cell? ⟨b,o+i,none⟩=some cur[o+i]:=by simp [World.cell?,hb]
   have hfr:w.frozen? ⟨b,o+i,none⟩=false:=by
    have:=hfz (o+i) (by omega)
    simp only [World.frozen?,hb]
    simpa using this
   have hst:(store (Addr.add ⟨b,o,none⟩ i) v).run P w=.ok () (w.setCell ⟨b,o+i,none⟩ v):=by
    rw [Addr.add_lit,run_store P w _ v _ (h1 v (by simp)),hcell]
    simp [hfr]
   have hb2:(w.setCell ⟨b,o+i,none⟩ v).heap[b]?=some (.cells (cur.setIfInBounds (o+i) v) t fz):=by
    simp only [World.setCell,Array.getElem?_modify,if_true,hb,Option.map_some]
    simp
   obtain ⟨w',cur',r1,r2,r3,r4,r5,r6,r7,r8,r9⟩:=storeCells_run b t fz vs o (i+1) (cur.setIfInBounds (o+i) v) (w.setCell ⟨b,o+i,none⟩ v) hb2 (by simp; omega) (by simpa using hfz) (fun u hu=>h1 u (by simp [hu]))
   refine ⟨w',cur',?_,r2,r3,r4,by rw [r5]; simp,fun j hj=>(r6 j hj).trans (Below.heap_setCell _ _ _ _ hj),r7,by simpa using r8,fun k=>?_⟩
   ·simp only [storeCells,Sem.run_bind,hst,Result.andThen_ok]
    exact r1
   ·rw [r9 k]
    simp only [List.length_cons]
    by_cases hk:k=o+i
    ·subst hk
     rw [if_neg (by omega),if_pos (by omega)]
     rw [Array.getElem?_setIfInBounds_self_of_lt (by omega)]
     simp
    ·by_cases hk2:o+(i+1)≤k∧k < o+(i+1)+vs.length
     ·rw [if_pos hk2,if_pos (by omega)]
      rw [show k - (o+i)=(k - (o+(i+1)))+1 by omega]
      simp
     ·rw [if_neg hk2,if_neg (by omega)]
      rw [Array.getElem?_setIfInBounds_ne (by omega)]

theorem store_run {H H' Hn:Heap} {t:TypeId} {i:TypeInfo} {p x:AV} {vp vx:Value} (hi:P.info? t=some i) (hz:0 < i.size) (h:aStore H i.size x p=some Hn) (hR:HRel w bad ρ B H') (hsame:∀ id u q,p=.ptr id u q→∀ b,hget H id=some b→ρ id ≠ .no→hget H' id=some b) (hdd:∀ id,dead H' id→hget H id=none)
 (hp:Rep w bad (dead H') ρ p vp) (hx:Rep w bad (dead H') ρ x vx) :
 ∃ id k w',H'[id]?=some (some k)∧hget H id=some k∧(∃ k',Hn=H.set id (some k')∧k'.e=k.e∧k'.els.length=k.els.length∧∀ G:Heap,G=H'.set id (some k')→Step w w' (dead H') (dead G) ρ ρ∧HRel w' bad ρ B G)∧(∃ u q,p=.ptr id u q) ∧
   (Instr.storeAt t vp vx).run P w=.ok () w':=by
 cases p <;> simp only [aStore] at h <;> (try (cases h; done))
 rename_i id u q
 have hs:=hsame id u q rfl
 cases hg:hget H id with
 | none=>simp [hg] at h
 | some k =>
   simp only [hg] at h
   have hs:=hs k hg
   cases he:k.els[u]? with
   | none=>simp [he] at h
   | some el =>
     simp only [he] at h
     cases hps:putSub i.size q x el with
     | none=>simp [hps] at h
     | some el' =>
       simp only [hps] at h
       obtain rfl:=Option.some.inj h
       cases hp with
       | frz h=>cases h
       | ptrD b o hd=>rw [hdd _ hd] at hg; cases hg
       | ptr hρ =>
         rename_i b es cap
         have hk':=agree_of (hs (by simp [hρ]))
         obtain ⟨k2,hk2,hb⟩:=hR.real id b es cap hρ
         rw [hk'] at hk2; cases hk2
         obtain ⟨cur,fz,m1,m2,m3,m4⟩:=hb.mem
         have hok:=elOk_sc (hb.ok u el he)
         have hult:u < k.els.length:=(List.getElem?_eq_some_iff.mp he).1
         have hel:q+i.size≤el.cells.length∧x.cells.length=i.size∧(∀ c ∈ x.cells,isSc c=true)∧el'.cells=el.cells.take q ++ x.cells ++ el.cells.drop (q+i.size):=by
          unfold putSub at hps
          split at hps
          ·split at hps <;> (try (cases hps; done))
           rename_i hcnd
           obtain rfl:=Option.some.inj hps
           exact ⟨hcnd.1,hcnd.2.1,by simpa using hcnd.2.2,rfl⟩
          ·rename_i hna
           split at hps <;> (try (cases hps; done))
           rename_i hcnd
           obtain rfl:=Option.some.inj hps
           obtain ⟨rfl,h1,hsc⟩:=hcnd
           have ex:x.cells=[x]:=by cases x <;> first | rfl | (simp [isSc] at hsc; done)
           have ee:el.cells=[el]:=by cases el <;> first | rfl | exact absurd rfl (hna _)
           rw [ex,ee,h1]
           exact ⟨by simp,rfl,by simpa using hsc,by simp⟩
         obtain ⟨hq,hxl,hxs,hel'⟩:=hel
         have hes:el.cells.length=es:=by rw [hok.2.1,hb.hes]
         have hxsc:isSc x=true ∨ ∃ cs,x=.agg cs:=cells_sc (fun j c hj=>hxs c (List.mem_of_getElem? hj))
         obtain ⟨v1,v2⟩:=rep_cells hx hxsc
         have hone:∀ v ∈ vx.cells.toList,v.oneCell'=true:=by
          intro v hv
          obtain ⟨j,hj⟩:=List.getElem?_of_mem hv
          have hjl:j < x.cells.length:=by have:=(List.getElem?_eq_some_iff.mp hj).1; simp at this; omega
          exact (rep_one (v2 j _ v (List.getElem?_eq_getElem hjl) (by simpa using hj)) (hxs _ (List.getElem_mem hjl))).1
         have hbound:u * es+es≤cap * es:=by
          have:=Nat.mul_le_mul_right es (Nat.lt_of_lt_of_le hult hb.len)
          rwa [Nat.succ_mul] at this
         obtain ⟨w',cur',r1,r2,r3,r4,r5,r6,r7,r8,r9⟩:=storeCells_run (P:=P) b k.e.tid fz vx.cells.toList (u * es+q) 0 cur w m1 (by simp; omega) m3.1 hone
         refine ⟨id,k,w',hk',hg,⟨{ k with els:=k.els.set u el' },rfl,rfl,by simp,fun G hG=>?_⟩,⟨u,q,rfl⟩,?_⟩
         ·subst hG
          have hdd:dead (H'.set id (some { k with els:=k.els.set u el' }))=dead H':=by
           funext j
           apply propext
           simp only [dead,List.getElem?_set]
           split
           ·rename_i hj; subst hj
            split
            ·simp [hk']
            ·rename_i hlt; simp at hlt; simp [List.getElem?_eq_none hlt]
           ·rfl
          have hst:Step w w' (dead H') (dead (H'.set id (some { k with els:=k.els.set u el' }))) ρ ρ:=by
           rw [hdd]
           exact ⟨⟨r2,r3,r4,Nat.le_of_eq r5.symm,fun b' _ hn=>r6 b' (fun e=>hn (e ▸ ⟨id,es,cap,hρ⟩))⟩,RLe.refl _ _,fun _ h=>h,fun _ _=>.inl rfl⟩
          refine ⟨hst,?_,?_,hR.inj,fun id' h'=>by
           obtain ⟨k3,hk3,he3⟩:=hR.res id' h'
           have hid:id ≠ id':=fun e=>by subst e; rw [hρ] at h'; cases h'
           exact ⟨k3,by rw [List.getElem?_set_ne hid]; exact hk3,he3⟩⟩
          ·intro id' b' es' cap' h'
           by_cases hid:id=id'
           ·subst hid
            rw [hρ] at h'; cases h'
            have hlt:id < H'.length:=(List.getElem?_eq_some_iff.mp hk').1
            refine ⟨{ k with els:=k.els.set u el' },by rw [List.getElem?_set_self hlt],hb.hes,hb.pos,hb.low,by simpa using hb.len,?_,cur',fz,r7,by rw [r8,m2],by rw [r8]; exact m3,?_⟩
            ·intro j y hy
             by_cases hju:u=j
             ·subst hju
              rw [List.getElem?_set_self hult] at hy; cases hy
              simp only [elOk,hel',Bool.and_eq_true,beq_iff_eq,List.all_eq_true,List.length_append,List.length_take,List.length_drop]
              refine ⟨by rw [hb.hes]; omega,fun c hc=>?_⟩
              simp only [List.mem_append] at hc
              rcases hc with (hc | hc) | hc
              ·exact hok.2.2 c (List.mem_of_mem_take hc)
              ·exact hxs c hc
              ·exact hok.2.2 c (List.mem_of_mem_drop hc)
             ·rw [List.getElem?_set_ne hju] at hy
              exact hb.ok j y hy
            ·intro j y l c hy hl
             have hll:l < es:=by
              by_cases hju:u=j
              ·subst hju
               rw [List.getElem?_set_self hult] at hy; cases hy
               have:=(List.getElem?_eq_some_iff.mp hl).1
               rw [hel'] at this
               simp at this; omega
              ·rw [List.getElem?_set_ne hju] at hy
               have h9:=(List.getElem?_eq_some_iff.mp hl).1
               have:=(elOk_sc (hb.ok j y hy)).2.1
               rw [hb.hes] at this; omega
             by_cases hju:u=j
             ·subst hju
              rw [List.getElem?_set_self hult] at hy; cases hy
              rw [r9,hel'] at *
              by_cases hin:q≤l∧l < q+i.size
              ·rw [if_pos (by simp; omega)]
               rw [List.append_assoc,List.getElem?_append_right (by simp; omega),List.getElem?_append_left (by simp; omega)] at hl
               have e1:l - (el.cells.take q).length=l - q:=by simp; omega
               rw [e1] at hl
               have e2:u * es+l - (u * es+q+0)=l - q:=by omega
               rw [e2]
               have hlt:l - q < vx.cells.size:=by omega
               refine ⟨vx.cells[l - q],by simp [hlt],?_⟩
               exact (v2 _ c _ hl (Array.getElem?_eq_getElem hlt)).step hst
              ·rw [if_neg (by simp; omega)]
               have hl2:el.cells[l]?=some c:=by
                by_cases hl3:l < q
                ·rwa [List.append_assoc,List.getElem?_append_left (by simp; omega),List.getElem?_take_of_lt hl3] at hl
                ·rw [List.getElem?_append_right (by simp; omega)] at hl
                 simp only [List.length_append,List.length_take,List.getElem?_drop] at hl
                 have e1:q+i.size+(l - (min q el.cells.length+x.cells.length))=l:=by omega
                 rwa [e1] at hl
               obtain ⟨z,hz1,hz2⟩:=m4 u el l c he hl2
               exact ⟨z,hz1,hz2.step hst⟩
             ·rw [List.getElem?_set_ne hju] at hy
              obtain ⟨z,hz1,hz2⟩:=m4 j y l c hy hl
              refine ⟨z,?_,hz2.step hst⟩
              rw [r9,if_neg]
              ·exact hz1
              ·intro hh
               simp at hh
               rcases Nat.lt_or_gt_of_ne hju with h9 | h9
               ·have:=Nat.mul_le_mul_right es h9
                rw [Nat.succ_mul] at this; omega
               ·have:=Nat.mul_le_mul_right es h9
                rw [Nat.succ_mul] at this; omega
           ·obtain ⟨k3,hk3,hb3⟩:=hR.real id' b' es' cap' h'
            refine ⟨k3,by rw [List.getElem?_set_ne hid]; exact hk3,hb3.step hst (r6 b' (fun e=>hid ?_))⟩
            subst e
            exact hR.inj id id' _ _ _ _ _ hρ h'
          ·intro id' h'
           obtain ⟨k3,hk3,he3⟩:=hR.virt id' h'
           have hid:id ≠ id':=fun e=>by subst e; rw [hρ] at h'; cases h'
           exact ⟨k3,by rw [List.getElem?_set_ne hid]; exact hk3,he3⟩
         ·simp only [Instr.storeAt,Instr.sureAddr,Sem.run_bind,Sem.run_pure,Result.andThen_ok,storeVar,run_size hi]
          rw [if_neg (by omega)]
          exact r1
end
end Go.Proofs.Ytffiilnmfmkpmaa.AE
