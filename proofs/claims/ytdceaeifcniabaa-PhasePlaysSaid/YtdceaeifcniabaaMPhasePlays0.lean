/- The texts that the law PhasePlays needs, part 0. No conditions. -/
import Derived.WalkKit
import Derived.ProofKit
import Derived.Below
import Derived.Lib.ConvBytes
import Derived.ChangeKeysEq
import Derived.LoopN
namespace Go.Proofs.Ytdceaeifcniabaa.AE
set_option linter.unusedVariables false
set_option linter.unusedSimpArgs false
set_option linter.constructorNameAsVariable false
open Go

inductive AV where
 | int (k:IntKind) (n:Int)
 | bool (b:Bool)
 | str (s:List UInt8)
 | nilp
 | zsl (nil:Bool)
 | ptr (id i j:Nat)
 | slc (id o n:Nat)
 | lst (l:List AV)
 | fptr (v:AV) (j:Nat)
 | agg (cs:List AV)
 | tup (vs:List AV)
 | fn (g:FuncId) (first caps:List AV)
 | nilf
 | undef
 | emp
 | slk (id o n:Nat)
 deriving Inhabited

def AV.cells:AV→List AV
 | .agg cs=>cs
 | v=>[v]

structure ETy where
 tid:TypeId
 es:Nat
 ag:Bool
 bytes:Nat
 zero:AV
 deriving Inhabited

def isSc:AV→Bool
 | .agg _ | .tup _ | .undef=>false
 | _=>true

structure Blk where
 e:ETy
 els:List AV
 deriving Inhabited

abbrev Heap:=List (Option Blk)

inductive Sh where
 | i (k:IntKind)
 | b
 | s
 | l
 | agg (l:List Sh)
 | tup (l:List Sh)
 | any
 | lo
 | z
 deriving Inhabited

inductive Opd where
 | t (n:Nat)
 | v (v:AV)
 deriving Inhabited

inductive BK where
 | lenS | lenV | min | max
 deriving Inhabited

inductive IOp where
 | mov (x:Opd)
 | pick (c a b:Opd)
 | box (e:ETy) (x:Opd)
 | alloc (e:ETy)
 | build (z:List AV) (parts:List (Nat × Nat × Opd))
 | mkrow (e:ETy) (n:Nat) (parts:List (Nat × Opd))
 | load (ag:Bool) (n:Nat) (a:Opd)
 | store (n:Nat) (a v:Opd)
 | nilck (x:Opd)
 | bin (op:BinOp) (x y:Opd)
 | eqv (neg:Bool) (k:Nat) (sh:List Sh) (x y:Opd)
 | un (op:UnOp) (x:Opd)
 | conv (k:IntKind) (x:Opd)
 | cid (x:Opd)
 | s2b (e:ETy) (x:Opd)
 | b2s (x:Opd)
 | mark (x:Opd)
 | mkfn (g:FuncId) (first caps:List Opd)
 | mkslice (e:ETy) (n c:Opd)
 | subS (x:Opd) (lo hi:Option Opd)
 | subV (es:Nat) (x:Opd) (lo hi mx:Option Opd)
 | fldA (off:Nat) (x:Opd)
 | fld (ag:Bool) (n off:Nat) (x:Opd)
 | ixAS (sh:Sh) (es:Nat) (x i:Opd)
 | ixAA (len es:Nat) (x i:Opd)
 | ixS (x i:Opd)
 | ixA (ag:Bool) (len es:Nat) (x i:Opd)
 | extr (x:Opd) (i:Nat)
 | call (sh:Sh) (f:Opd) (args:List Opd)
 | bk (b:BK) (args:List Opd)
 | app (e:ETy) (s x:Opd)
 deriving Inhabited

structure IOper where
 dst:Option Nat
 op:IOp
 guard:Option (Option Nat × Bool)
 deriving Inhabited

structure SOp where
 op:IOper
 slot:Option Nat
 chk:List Nat
 kp:List Nat
 deriving Inhabited

inductive IC where
 | skip
 | reg (ops:List IOper)
 | regD (ops:List (IOper × List Nat))
 | regS (ops:List SOp)
 | seq (a b:IC)
 | cond (c:Opd) (a b:IC)
 | block (id:Nat) (a:IC)
 | loop (a:IC)
 | exit (id:Nat)
 | ret
 deriving Inhabited

inductive RV where
 | tmp (t:Nat)
 | cell (ag:Bool) (n:Nat) (t:Nat)
 deriving Inhabited

structure AFn where
 ntmps:Nat
 results:List RV
 body:IC
 deriving Inhabited

def hget (H:Heap) (id:Nat):Option Blk:=match H[id]? with
 | some (some b)=>some b
 | _=>none

def DEPTH:Nat:=12

def snap:Nat→Heap→AV→AV
 | 0,_,_=>.undef
 | k+1,H,v =>
   match v with
   | .int a b=>.int a b
   | .bool b=>.bool b
   | .str s=>.str s
   | .nilp=>.nilp
   | .zsl _=>.lst []
   | .ptr id i j=>if k=0 then .undef else match hget H id with
     | some b=>match b.els[i]? with
       | some el=>.fptr (snap k H el) j
       | none=>.undef
     | none=>.undef
   | .slc id o n=>if k=0 then .undef else match hget H id with
     | some b=>if o+n≤b.els.length then .lst (((b.els.drop o).take n).map (snap k H)) else .undef
     | none=>.undef
   | .lst l=>.lst l
   | .fptr v j=>.fptr v j
   | .agg cs=>.agg (cs.map (snap k H))
   | .tup cs=>.tup (cs.map (snap k H))
   | .fn g a b=>.fn g (a.map (snap k H)) (b.map (snap k H))
   | .nilf=>.nilf
   | .undef=>.undef
   | .emp=>.emp
   | .slk id o n=>if k=0 then .undef else match hget H id with
     | some b=>if o+n≤b.els.length then .lst (((b.els.drop o).take n).map (snap k H)) else .undef
     | none=>.undef

def noId:Nat→AV→Bool
 | 0,_=>false
 | k+1,v =>
   match v with
   | .ptr .. | .slc .. | .slk ..=>false
   | .agg cs | .tup cs=>cs.all (noId k)
   | .fn _ a b=>a.all (noId k) && b.all (noId k)
   | _=>true

def noMem:Nat→AV→Bool
 | 0,_=>false
 | k+1,v =>
   match v with
   | .ptr .. | .slc .. | .slk .. | .fptr ..=>false
   | .lst l=>l.isEmpty
   | .zsl b=>b
   | .agg cs | .tup cs=>cs.all (noMem k)
   | .fn _ a b=>a.all (noMem k) && b.all (noMem k)
   | _=>true

def wrapB (k:IntKind) (n:Int):AV:=.int k (k.wrap n)

def aBin (op:BinOp):AV→AV→Option AV
 | .int k a,.int k' b =>
   match op with
   | .shl=>if b < 0 then none else some (.int k (k.wrap (a * 2 ^ min b.toNat k.bits)))
   | .shr=>if b < 0 then none else some (.int k (a.fdiv (2 ^ min b.toNat k.bits)))
   | _=>if k=k' then
     match op with
     | .add=>some (.int k (k.wrap (a+b)))
     | .sub=>some (.int k (k.wrap (a - b)))
     | .mul=>some (.int k (k.wrap (a * b)))
     | .quo=>if b=0 then none else some (.int k (k.wrap (a.tdiv b)))
     | .rem=>if b=0 then none else some (.int k (a.tmod b))
     | .and | .or | .xor | .andNot=>some (.int k (bits op k a b))
     | .eql=>some (.bool (a == b))
     | .neq=>some (.bool (a != b))
     | .lss=>some (.bool (decide (a < b)))
     | .leq=>some (.bool (decide (a≤b)))
     | .gtr=>some (.bool (decide (a > b)))
     | .geq=>some (.bool (decide (a ≥ b)))
     | _=>none
     else none
 | .str a,.str b =>
   match op with
   | .add=>if (a.length+b.length)≤9223372036854775807 then some (.str (a ++ b)) else none
   | .eql=>some (.bool (a == b))
   | .neq=>some (.bool (!(a == b)))
   | _=>none
 | _,_=>none

def eqL:List Sh→List AV→List AV→Option Bool
 | [],[],[]=>some true
 | .i _::sh,.int k a::l,.int k' b::m=>if k=k' then match eqL sh l m with
    | some r=>some (a == b && r)
    | none=>none
   else none
 | .b::sh,.bool a::l,.bool b::m=>match eqL sh l m with
   | some r=>some (a == b && r)
   | none=>none
 | .s::sh,.str a::l,.str b::m=>match eqL sh l m with
   | some r=>some (a == b && r)
   | none=>none
 | _,_,_=>none
def eqB:AV→AV→Option Bool
 | .bool a,.bool b=>some (a == b)
 | _,_=>none
def eqP:AV→AV→Option Bool
 | .nilp,.nilp=>some true
 | .nilp,.ptr ..=>some false
 | .ptr ..,.nilp=>some false
 | .nilp,.fptr ..=>some false
 | .fptr ..,.nilp=>some false
 | _,_=>none
def eqS:AV→AV→Option Bool
 | .zsl true,.zsl true=>some true
 | .slc _ _ (_+1),.zsl true=>some false
 | .lst (_::_),.zsl true=>some false
 | .emp,.zsl true=>some false
 | _,_=>none
def eqF:AV→AV→Option Bool
 | .nilf,.nilf=>some true
 | .nilf,.fn ..=>some false
 | .fn ..,.nilf=>some false
 | _,_=>none
def eqA (sh:List Sh):AV→AV→Option Bool
 | .agg a,.agg b=>eqL sh a b
 | _,_=>none
def eqV (k:Nat) (sh:List Sh) (x y:AV):Option Bool :=
 match k with
 | 0=>eqB x y
 | 1=>eqP x y
 | 2=>eqS x y
 | 3=>eqF x y
 | 4=>eqA sh x y
 | _=>none

def sub (ag:Bool) (n j:Nat):AV→Option AV
 | .agg cs=>if ag then (if j+n≤cs.length then some (.agg ((cs.drop j).take n)) else none) else cs[j]?
 | v=>if ag then none else match j with
   | 0=>some v
   | _=>none
def putSub (n j:Nat) (x:AV):AV→Option AV
 | .agg cs=>if j+n≤cs.length∧x.cells.length=n∧x.cells.all isSc then some (.agg (cs.take j ++ x.cells ++ cs.drop (j+n))) else none
 | _=>if j=0∧n=1∧isSc x then some x else none

def aLoad (H:Heap) (ag:Bool) (n:Nat):AV→Option AV
 | .ptr id i j=>match hget H id with
   | some b=>match b.els[i]? with
     | some el=>sub ag n j el
     | none=>none
   | none=>none
 | .fptr v j=>sub ag n j v
 | _=>none

def aStore (H:Heap) (n:Nat) (x:AV):AV→Option Heap
 | .ptr id i j=>match hget H id with
   | some b=>match b.els[i]? with
     | some el=>match putSub n j x el with
       | some el'=>some (H.set id (some { b with els:=b.els.set i el' }))
       | none=>none
     | none=>none
   | none=>none
 | _=>none

def bytesAV (s:List UInt8):List AV:=s.map fun b=>.int .u8 b.toNat

def elsOf (H:Heap):AV→Option (List AV)
 | .zsl _=>some []
 | .lst l=>some l
 | .slc id o n=>match hget H id with
   | some b=>if o+n≤b.els.length then some ((b.els.drop o).take n) else none
   | none=>none
 | .str s=>some (bytesAV s)
 | .emp=>some []
 | _=>none

def lenOf (H:Heap):AV→Option Nat
 | .zsl _=>some 0
 | .lst l=>some l.length
 | .slc id _ n=>match hget H id with
   | some _=>some n
   | none=>none
 | .emp=>some 0
 | .slk id _ n=>match hget H id with
   | some _=>some n
   | none=>none
 | _=>none

def aInt:AV→Option Int
 | .int _ n=>some n
 | _=>none
def aInt64:AV→Option Int
 | .int .i64 n=>some n
 | _=>none

def bound (x:Option AV) (d:Nat) (top:Nat):Option Nat :=
 match x with
 | none=>some d
 | some v=>match aInt v with
   | some i=>if 0≤i∧i≤(top:Int) then some i.toNat else none
   | none=>none

def aSubS (x:AV) (lo hi:Option AV):Option AV :=
 match x with
 | .str s=>match bound hi s.length s.length with
   | some h=>match bound lo 0 h with
     | some l=>some (.str ((s.take h).drop l))
     | none=>none
   | none=>none
 | _=>none

def aSubV (H:Heap) (es:Nat) (x:AV) (lo hi mx:Option AV):Option AV :=
 match lenOf H x with
 | none=>none
 | some n =>
   match bound mx n n with
   | none=>none
   | some m=>match bound hi n m with
     | none=>none
     | some h=>match bound lo 0 h with
       | none=>none
       | some l =>
         match x with
          | .zsl b=>some (.zsl b)
          | .lst a=>if mx.isSome && m == 0 then some (.zsl false) else if a.all (fun x=>x.cells.length == es) then some (.lst ((a.take h).drop l)) else none
          | .slc id o _=>if mx.isSome && m == 0 then some (.zsl false) else if l=h then some (.lst []) else match hget H id with
            | some b=>if b.e.es=es then (if mx.isSome then (if m=h then some (.slk id (o+l) (h - l)) else none) else some (.slc id (o+l) (h - l))) else none
            | none=>none
          | .emp=>if mx.isSome && m == 0 then some (.zsl false) else none
          | _=>none

def aIx (H:Heap) (es:Nat) (x:AV) (i:Int):Option AV :=
 match x with
 | .lst l=>if 0≤i then match l[i.toNat]? with
    | some v=>if v.cells.length=es then some (.fptr v 0) else none
    | none=>none
   else none
 | .slc id o n=>match hget H id with
   | some b=>if 0≤i∧i < (n:Int)∧b.e.es=es then some (.ptr id (o+i.toNat) 0) else none
   | none=>none
 | _=>none

def aShift (d:Nat):AV→Option AV
 | .ptr id i j=>some (.ptr id i (j+d))
 | .fptr v j=>some (.fptr v (j+d))
 | _=>none

def aUn (op:UnOp):AV→Option AV
 | .int k n=>match op with
   | .neg=>some (.int k (k.wrap (0 - n)))
   | .xor=>some (.int k (bits .xor k (if k.signed then -1 else k.max) n))
   | _=>none
 | .bool b=>match op with
   | .not=>some (.bool (!b))
   | _=>none
 | _=>none

def minStep:Option AV→AV→Option AV
 | some (.int k x),.int k' y=>if k=k' then some (.int k (if y < x then y else x)) else none
 | _,_=>none
def maxStep:Option AV→AV→Option AV
 | some (.int k x),.int k' y=>if k=k' then some (.int k (if y > x then y else x)) else none
 | _,_=>none
def aMin:List AV→Option AV
 | .int k x::l=>l.foldl minStep (some (.int k x))
 | _=>none
def aMax:List AV→Option AV
 | .int k x::l=>l.foldl maxStep (some (.int k x))
 | _=>none

def fillP (cs:List AV):List (Nat × Nat × AV)→Option (List AV)
 | []=>some cs
 | (off,n,v)::l=>if v.cells.length=n∧v.cells.all isSc then (if off+n≤cs.length then fillP (cs.take off ++ v.cells ++ cs.drop (off+n)) l else none) else none

def elOk (e:ETy) (x:AV):Bool:=x.cells.length == e.es && x.cells.all isSc

def fillR (e:ETy) (els:List AV):List (Nat × AV)→Option (List AV)
 | []=>some els
 | (i,v)::l=>if elOk e v then (if i < els.length then fillR e (els.set i v) l else none) else none

def b2sL:List AV→Option (List UInt8)
 | []=>some []
 | .int .u8 n::l=>match b2sL l with
   | some s=>some (UInt8.ofNat n.toNat::s)
   | none=>none
 | _::_=>none

def aApp (H:Heap) (e:ETy) (xs:List AV):AV→Option (AV × Heap)
 | .zsl _=>if xs.length * e.bytes≤140737488355328∧xs.length≤9223372036854775807∧xs.all (elOk e) then some (.slc H.length 0 xs.length,H ++ [some ⟨e,xs⟩]) else none
 | .slc id 0 n=>match hget H id with
   | some b=>if b.els.length=n∧(n+xs.length) * e.bytes≤140737488355328∧n+xs.length≤9223372036854775807∧b.e.tid=e.tid∧b.e.es=e.es∧xs.all (elOk e) then
      some (.slc H.length 0 (n+xs.length),H.set id none ++ [some ⟨e,b.els ++ xs⟩]) else none
   | none=>none
 | .slk id o n=>match hget H id with
   | some b=>match xs.isEmpty with
     | true=>some (.slk id o n,H)
     | false=>if o+n≤b.els.length∧(n+xs.length) * e.bytes≤140737488355328∧n+xs.length≤9223372036854775807∧b.e.tid=e.tid∧b.e.es=e.es∧xs.all (elOk e) then
       some (.slc H.length 0 (n+xs.length),H ++ [some ⟨e,(b.els.drop o).take n ++ xs⟩]) else none
   | none=>none
 | _=>none

abbrev CallF:=FuncId→List AV→Heap→Option (AV × Heap)

def aop (call:CallF) (ev:Opd→AV) (H:Heap):IOp→Option (AV × Heap)
 | .mov x=>some (ev x,H)
 | .pick c a b=>match ev c with
   | .bool t=>some (bif t then ev a else ev b,H)
   | _=>none
 | .box e x=>if elOk e (ev x) then some (.ptr H.length 0 0,H ++ [some ⟨e,[ev x]⟩]) else none
 | .alloc e=>some (.ptr H.length 0 0,H ++ [some ⟨e,[e.zero]⟩])
 | .build z ps=>match fillP z (ps.map fun p=>(p.1,p.2.1,ev p.2.2)) with
   | some cs=>some (.agg cs,H)
   | none=>none
 | .mkrow e n ps=>match fillR e (List.replicate n e.zero) (ps.map fun p=>(p.1,ev p.2)) with
   | some els=>some (.slc H.length 0 n,H ++ [some ⟨e,els⟩])
   | none=>none
 | .load ag n a=>match aLoad H ag n (ev a) with
   | some v=>some (v,H)
   | none=>none
 | .store n a v=>match aStore H n (ev v) (ev a) with
   | some H'=>some (.undef,H')
   | none=>none
 | .nilck x=>match ev x with
   | .ptr id i j=>some (.ptr id i j,H)
   | .fptr v j=>some (.fptr v j,H)
   | .fn g a b=>some (.fn g a b,H)
   | _=>none
 | .bin op x y=>match aBin op (ev x) (ev y) with
   | some v=>some (v,H)
   | none=>none
 | .eqv neg k sh x y=>match eqV k sh (ev x) (ev y) with
   | some b=>some (.bool (xor neg b),H)
   | none=>none
 | .un op x=>match aUn op (ev x) with
   | some v=>some (v,H)
   | none=>none
 | .conv k x=>match ev x with
   | .int _ n=>some (.int k (k.wrap n),H)
   | _=>none
 | .cid x=>match ev x with
   | .str s=>some (.str s,H)
   | _=>none
 | .s2b e x=>match ev x with
   | .str s=>some (.slc H.length 0 s.length,H ++ [some ⟨e,bytesAV s⟩])
   | _=>none
 | .mark x=>match ev x with
   | .slc id q n=>match hget H id with
     | some b=>match b.els with
       | []=>none
       | _::_=>some (.slc id q n,H)
     | none=>none
   | _=>none
 | .b2s x=>match ev x with
   | .str _=>none
   | x=>match elsOf H x with
     | some l=>match b2sL l with
       | some s=>some (.str s,H)
       | none=>none
     | none=>none
 | .mkfn g a b=>some (.fn g (a.map ev) (b.map ev),H)
 | .mkslice e n c=>match aInt (ev n),aInt (ev c) with
   | some n,some c=>if 0≤n∧n=c∧n * e.bytes≤140737488355328∧n≤9223372036854775807 then some (.slc H.length 0 n.toNat,H ++ [some ⟨e,List.replicate n.toNat e.zero⟩]) else none
   | _,_=>none
 | .subS x lo hi=>match aSubS (ev x) (lo.map ev) (hi.map ev) with
   | some v=>some (v,H)
   | none=>none
 | .subV es x lo hi mx=>match aSubV H es (ev x) (lo.map ev) (hi.map ev) (mx.map ev) with
   | some v=>some (v,H)
   | none=>none
 | .fldA off x=>match aShift off (ev x) with
   | some v=>some (v,H)
   | none=>none
 | .fld ag n off x=>match ev x with
   | .agg cs=>match sub ag n off (.agg cs) with
     | some v=>some (v,H)
     | none=>none
   | _=>none
 | .ixAS _ es x i=>match aInt (ev i) with
   | some i=>match aIx H es (ev x) i with
     | some v=>some (v,H)
     | none=>none
   | none=>none
 | .ixAA len es x i=>match aInt (ev i) with
   | some i=>if 0≤i∧i < (len:Int) then match aShift (i.toNat * es) (ev x) with
      | some v=>some (v,H)
      | none=>none
     else none
   | none=>none
 | .ixS x i=>match ev x,aInt (ev i) with
   | .str s,some i=>if 0≤i then match s[i.toNat]? with
      | some b=>some (.int .u8 b.toNat,H)
      | none=>none
     else none
   | _,_=>none
 | .ixA ag len es x i=>match ev x,aInt (ev i) with
   | .agg cs,some i=>if 0≤i∧i < (len:Int) then match sub ag es (i.toNat * es) (.agg cs) with
      | some v=>some (v,H)
      | none=>none
     else none
   | _,_=>none
 | .extr x i=>match ev x with
   | .tup vs=>match vs[i]? with
     | some v=>some (v,H)
     | none=>none
   | _=>none
 | .call _ f args=>match ev f with
   | .fn g a b=>call g (a ++ args.map ev ++ b) H
   | _=>none
 | .bk .lenS args=>match args with
   | [x]=>match ev x with
     | .str s=>some (.int .i64 s.length,H)
     | _=>none
   | _=>none
 | .bk .lenV args=>match args with
   | [x]=>match lenOf H (ev x) with
     | some n=>some (.int .i64 n,H)
     | none=>none
   | _=>none
 | .bk .min args=>match aMin (args.map ev) with
   | some v=>some (v,H)
   | none=>none
 | .bk .max args=>match aMax (args.map ev) with
   | some v=>some (v,H)
   | none=>none
 | .app e s x=>match elsOf H (ev x) with
   | some xs=>aApp H e xs (ev s)
   | none=>none

structure St where
 env:List AV
 H:Heap
 deriving Inhabited

def evO (env:List AV):Opd→AV
 | .t n=>env.getD n .undef
 | .v v=>v

def put (env:List AV) (d:Option Nat) (v:AV):List AV :=
 match d with
 | some d=>env.set d v
 | none=>env

def want (env:List AV):Option (Option Nat × Bool)→Option Bool
 | none=>some true
 | some (some t,b)=>match env.getD t .undef with
   | .bool c=>some (c == b)
   | .tup []=>some false
   | _=>none
 | some (none,_)=>some false

def runOps (call:CallF):List IOper→St→Option St
 | [],s=>some s
 | o::l,s=>match want s.env o.guard with
   | some true=>match aop call (evO s.env) s.H o.op with
     | some (v,H)=>runOps call l ⟨put s.env o.dst v,H⟩
     | none=>none
   | some false=>runOps call l ⟨put s.env o.dst (.tup []),s.H⟩
   | none=>none

def touch (ev:Opd→AV) (H:Heap):IOp→List Nat
 | .load _ _ a | .store _ a _=>match ev a with
   | .ptr id _ _=>[id]
   | _=>[]
 | .b2s x=>match ev x with
   | .slc id _ _=>[id]
   | _=>[]
 | .call _ f args=>match ev f with
   | .fn _ p q=>if (p ++ args.map ev ++ q).all (noId DEPTH) then [] else List.range H.length
   | _=>[]
 | _=>[]

def FULLID:Nat:=1000000
def isFull (chk:List Nat):Bool:=chk.contains FULLID

def runOpsD (call callP:CallF):List (IOper × List Nat)→Nat→List (Nat × Nat)→St→Option St
 | [],_,_,s=>some s
 | (o,chk)::l,i,log,s=>match want s.env o.guard with
   | some true =>
     let tc:=touch (evO s.env) s.H o.op
     if log.all (fun p=>!(chk.contains p.1) || !(tc.contains p.2)) then
      match aop (bif isFull chk then call else callP) (evO s.env) s.H o.op with
      | some (v,H)=>runOpsD call callP l (i+1) (log ++ tc.map fun id=>(i,id)) ⟨put s.env o.dst v,H⟩
      | none=>none
     else none
   | some false=>runOpsD call callP l (i+1) log ⟨put s.env o.dst (.tup []),s.H⟩
   | none=>none

/-! Regions where calls may do anything -/
mutual
def eqAV:AV→AV→Bool
 | .int k n,.int k' n'=>decide (k=k') && decide (n=n')
 | .bool b,.bool b'=>decide (b=b')
 | .str s,.str s'=>decide (s=s')
 | .nilp,.nilp=>true
 | .zsl b,.zsl b'=>decide (b=b')
 | .ptr i j k,.ptr i' j' k'=>decide (i=i') && decide (j=j') && decide (k=k')
 | .slc i j k,.slc i' j' k'=>decide (i=i') && decide (j=j') && decide (k=k')
 | .slk i j k,.slk i' j' k'=>decide (i=i') && decide (j=j') && decide (k=k')
 | .lst l,.lst l'=>eqAVs l l'
 | .fptr v j,.fptr v' j'=>eqAV v v' && decide (j=j')
 | .agg l,.agg l'=>eqAVs l l'
 | .tup l,.tup l'=>eqAVs l l'
 | .fn g a b,.fn g' a' b'=>decide (g=g') && eqAVs a a' && eqAVs b b'
 | .nilf,.nilf=>true
 | .undef,.undef=>true
 | .emp,.emp=>true
 | _,_=>false
def eqAVs:List AV→List AV→Bool
 | [],[]=>true
 | a::l,b::m=>eqAV a b && eqAVs l m
 | _,_=>false
end
def eqBlk (a b:Blk):Bool:=decide (a.e.tid=b.e.tid) && decide (a.e.es=b.e.es) && decide (a.e.ag=b.e.ag) && decide (a.e.bytes=b.e.bytes) && eqAV a.e.zero b.e.zero && eqAVs a.els b.els
def keepB (H H':Heap) (id:Nat):Bool:=match H[id]?,H'[id]? with
 | some (some a),some (some b)=>eqBlk a b
 | some none,some none=>true
 | none,none=>true
 | _,_=>false
def idsOf:AV→List Nat
 | .ptr id _ _=>[id]
 | .slc id _ _=>[id]
 | .slk id _ _=>[id]
 | _=>[]
def keepL (H H':Heap) (l:List AV):Bool:=l.all fun v=>(idsOf v).all fun id=>keepB H H' id

def lightOp:IOp→Bool
 | .box .. | .alloc _ | .mkrow .. | .s2b .. | .mkslice .. | .store .. | .app .. | .call ..=>false
 | _=>true
def mkOp:IOp→Bool
 | .box .. | .alloc _ | .mkrow ..=>true
 | _=>false
def allocOp:IOp→Bool
 | .alloc _=>true
 | _=>false
def stApp:IOp→Bool
 | .store .. | .app ..=>true
 | _=>false
def namesOf (ev:Opd→AV):IOp→List AV
 | .load _ _ a=>[ev a]
 | .b2s x=>[ev x]
 | .mark x=>[ev x]
 | .subV _ x _ _ _=>[ev x]
 | .ixAS _ _ x _=>[ev x]
 | .bk .lenV args=>args.map ev
 | .app _ s x=>[ev s,ev x]
 | .store _ a _=>[ev a]
 | _=>[]
def hasNames:IOp→Bool
 | .load .. | .b2s _ | .mark _ | .subV .. | .ixAS .. | .bk .lenV _ | .app .. | .store ..=>true
 | _=>false
def chgS (o:SOp):Bool:=!lightOp o.op.op && !(o.slot.isSome && allocOp o.op.op)

def rjunk:Blk:=⟨⟨0,1,false,0,.undef⟩,[.undef]⟩
def preH:List SOp→Heap
 | []=>[]
 | o::l=>match o.slot with
   | none=>preH l
   | some _=>(match o.op.op with
     | .alloc e=>some ⟨e,[e.zero]⟩
     | _=>some rjunk)::preH l
def makeAt (ev:Opd→AV) (id:Nat):IOp→Option (AV × Blk)
 | .box e x=>match elOk e (ev x) with
   | true=>some (.ptr id 0 0,⟨e,[ev x]⟩)
   | false=>none
 | .mkrow e n ps=>match fillR e (List.replicate n e.zero) (ps.map fun p=>(p.1,ev p.2)) with
   | some els=>some (.slc id 0 n,⟨e,els⟩)
   | none=>none
 | _=>none
def stepS (call:CallF) (base:Nat) (o:SOp) (s:St):Option (AV × Heap):=match o.slot with
 | none=>aop call (evO s.env) s.H o.op.op
 | some j=>match allocOp o.op.op with
   | true=>some (.ptr (base+j) 0 0,s.H)
   | false=>match makeAt (evO s.env) (base+j) o.op.op with
     | some (v,k)=>some (v,s.H.set (base+j) (some k))
     | none=>none
structure LogE where
 idx:Nat
 nm:List AV
 chg:Option (Heap × Heap)
def logC (e:LogE) (o:SOp) (ev:Opd→AV) (H H':Heap):Bool :=
 (match e.chg with
   | some (A,B)=>keepL A B (namesOf ev o.op.op)
   | none=>true) && (match chgS o with
   | true=>keepL H H' e.nm
   | false=>true)
def entS (i:Nat) (o:SOp) (ev:Opd→AV) (H H':Heap):LogE:=⟨i,namesOf ev o.op.op,match chgS o with
 | true=>some (H,H')
 | false=>none⟩
def runOpsS (call:CallF) (base:Nat):List SOp→Nat→List LogE→St→Option St
 | [],_,_,s=>some s
 | o::l,i,log,s=>match want s.env o.op.guard with
   | some true=>match stepS call base o s with
     | some (v,H')=>match (log.all fun e=>!(o.chk.contains e.idx) || logC e o (evO s.env) s.H H') && o.kp.all fun j=>keepB s.H H' (base+j) with
       | true=>runOpsS call base l (i+1) (entS i o (evO s.env) s.H H'::log) ⟨put s.env o.op.dst v,H'⟩
       | false=>none
     | none=>none
   | some false=>runOpsS call base l (i+1) log ⟨put s.env o.op.dst (.tup []),s.H⟩
   | none=>none

inductive Ex where
 | normal
 | exit (id:Nat)
 | ret
 deriving Inhabited,DecidableEq

def iter (g:St→Option (Ex × St)):Nat→St→Option (Ex × St)
 | 0,_=>none
 | n+1,s=>match g s with
   | some (.normal,s')=>iter g n s'
   | r=>r

def exec (call callP:CallF) (fu:Nat):IC→St→Option (Ex × St)
 | .skip,s=>some (.normal,s)
 | .regD ops,s=>match runOpsD call callP ops 0 [] s with
   | some s'=>some (.normal,s')
   | none=>none
 | .regS ops,s=>match runOpsS call s.H.length ops 0 [] ⟨s.env,s.H ++ preH ops⟩ with
   | some s'=>some (.normal,s')
   | none=>none
 | .reg ops,s=>match runOps call ops s with
   | some s'=>some (.normal,s')
   | none=>none
 | .seq a b,s=>match exec call callP fu a s with
   | some (.normal,s')=>exec call callP fu b s'
   | r=>r
 | .cond c a b,s=>match evO s.env c with
   | .bool t=>bif t then exec call callP fu a s else exec call callP fu b s
   | _=>none
 | .block id a,s=>match exec call callP fu a s with
   | some (.exit i,s')=>if i=id then some (.normal,s') else some (.exit i,s')
   | r=>r
 | .loop a,s=>iter (exec call callP fu a) fu s
 | .exit id,s=>some (.exit id,s)
 | .ret,s=>some (.ret,s)

def resOf (s:St):RV→Option AV
 | .tmp t=>some (s.env.getD t .undef)
 | .cell ag n t=>aLoad s.H ag n (s.env.getD t .undef)

def resAll (s:St):List RV→Option (List AV)
 | []=>some []
 | r::l=>match resOf s r with
   | some v=>match resAll s l with
     | some vs=>some (v::vs)
     | none=>none
   | none=>none

def packRes:List AV→AV
 | [v]=>v
 | vs=>.tup vs

def runFn (call callP:CallF) (fu:Nat) (fn:AFn) (args:List AV) (H:Heap):Option (AV × Heap) :=
 match exec call callP fu fn.body ⟨args ++ List.replicate (fn.ntmps - args.length) (.tup []),H⟩ with
 | some (.normal,s) | some (.ret,s)=>match resAll s fn.results with
   | some vs=>some (packRes vs,s.H)
   | none=>none
 | _=>none

structure Mod where
 code:FuncId→Nat→Option AFn
 inl:FuncId→Bool
 ext:FuncId→Option (List AV→Option AV)
 fu:Nat
 cl:FuncId→Bool:=fun _=>false
 fr:FuncId→Bool:=fun _=>false


def pureCall (pc:FuncId→List AV→Option AV):CallF:=fun g args H =>
 if args.all (noId DEPTH) then match pc g args with
  | some v=>some (v,H)
  | none=>none
 else match pc g (args.map (snap DEPTH H)) with
  | some v=>if noMem DEPTH v then some (v,H) else none
  | none=>none

def extCall (e:List AV→Option AV):CallF:=fun _ args H=>match e args with
 | some v=>some (v,H)
 | none=>none

def clr:AV→Option AV
 | .lst l=>some (.bool l.isEmpty)
 | .zsl _=>some (.bool true)
 | .slc ..=>some (.bool false)
 | _=>none
def emptyQ (pc:FuncId→List AV→Option AV) (g:FuncId):Option AV:=match pc g [.zsl true],pc g [.emp] with
 | some (.lst []),some (.lst [])=>some (.lst [])
 | _,_=>none
def emptyR (M:Mod) (pc:FuncId→List AV→Option AV) (g:FuncId) (args:List AV):Option AV:=match M.cl g with
 | true=>match args with
   | [x]=>match clr x with
     | some (.bool true)=>emptyQ pc g
     | _=>none
   | _=>none
 | false=>none
def emptyCall (M:Mod) (pc:FuncId→List AV→Option AV):CallF:=fun g args H=>match emptyR M pc g args with
 | some v=>some (v,H)
 | none=>none

def callZ (M:Mod) (pc:FuncId→List AV→Option AV):CallF:=fun g args H =>
 match M.ext g with
 | some e=>extCall e g args H
 | none=>if M.inl g then (match emptyR M pc g args with
   | some v=>some (v,H)
   | none=>pureCall pc g args H) else pureCall pc g args H

def junk:Blk:=⟨⟨0,0,false,0,.undef⟩,[.undef]⟩
def padH:Nat→Heap
 | 0=>[]
 | n+1=>some junk::padH n
def padOk:Nat→Heap→Bool
 | 0,_=>true
 | n+1,some b::l=>Nat.beq b.e.es 0 && !b.els.isEmpty && padOk n l
 | _+1,_=>false
def freshRun (rf:List AV→Heap→Option (AV × Heap)) (args:List AV) (H:Heap):Option (AV × Heap) :=
 match rf args (padH H.length) with
 | some (v,H1)=>match padOk H.length H1 with
   | true=>some (v,H ++ H1.drop H.length)
   | false=>none
 | none=>none

def callB (M:Mod) (pc:FuncId→List AV→Option AV):Nat→Bool→CallF
 | 0,_=>callZ M pc
 | n+1,b=>fun g args H =>
   match M.ext g with
   | some e=>extCall e g args H
   | none=>if M.inl g then (match emptyR M pc g args with
     | some v=>some (v,H)
     | none=>match b with
       | true=>match M.code g args.length with
         | some fn=>runFn (callB M pc n true) (callB M pc n false) M.fu fn args H
         | none=>none
       | false=>match M.fr g && args.all (noId DEPTH) with
         | true=>match M.code g args.length with
           | some fn=>freshRun (runFn (callB M pc n true) (callB M pc n false) M.fu fn) args H
           | none=>none
         | false=>pureCall pc g args H) else pureCall pc g args H

def IDEPTH:Nat:=12

def pcall (M:Mod):Nat→FuncId→List AV→Option AV
 | 0=>fun _ _=>none
 | d+1=>fun g args=>match M.code g args.length with
   | none=>none
   | some fn=>match runFn (callB M (pcall M d) IDEPTH true) (callB M (pcall M d) IDEPTH false) M.fu fn args [] with
     | some (v,H')=>some (snap DEPTH H' v)
     | none=>none

/-! Short names -/
abbrev tz:AV:=.tup []
abbrev bt:AV:=.bool true
abbrev bf:AV:=.bool false
abbrev bz (b:Bool):AV:=.bool b
abbrev iz (n:Int):AV:=.int .i64 n
abbrev i6:Sh:=.i .i64
abbrev i62:List Sh:=[i6,i6]
abbrev ag2:Sh:=.agg i62
abbrev O (n:Nat) (op:IOp):IOper:=⟨some n,op,none⟩
abbrev vz (n:Int):Opd:=.v (iz n)
def hof:List (Sh × List Nat)→List (Nat × Sh)
 | []=>[]
 | (s,l)::r=>(l.map fun n=>(n,s)) ++ hof r
end Go.Proofs.Ytdceaeifcniabaa.AE

namespace Go.Proofs.Ytdceaeifcniabaa.AE
set_option linter.unusedVariables false
set_option linter.unusedSimpArgs false
set_option linter.constructorNameAsVariable false
open Go

def optAll {α β:Type} (f:α→Option β):List α→Option (List β)
 | []=>some []
 | a::l=>match f a with
   | some b=>match optAll f l with
     | some m=>some (b::m)
     | none=>none
   | none=>none

def cvS:Value→Option AV
 | .int k n=>some (.int k n)
 | .bool b=>some (.bool b)
 | .string s=>some (.str s.data.toList)
 | .pointer none=>some .nilp
 | .slice none 0 0=>some (.zsl true)
 | .nilFunc=>some .nilf
 | .func (.func g) ⟨[]⟩ ⟨[]⟩=>some (.fn g [] [])
 | _=>none
def cv:Value→Option AV
 | .agg ⟨cs⟩=>match optAll cvS cs with
   | some l=>some (.agg l)
   | none=>none
 | v=>cvS v

def cOpd:Operand→Option Opd
 | .tmp t=>some (.t t)
 | .const v=>match cv v with
   | some x=>some (.v x)
   | none=>none
 | .func g=>some (.v (.fn g [] []))
 | .global _=>none

section
variable (P:Program)

def agB (t:TypeId):Option Bool:=match P.underlying t with
 | some (.struct _) | some (.array _ _)=>some true
 | some _=>some false
 | none=>none

def cETy (t:TypeId):Option ETy :=
 match P.info? t,agB P t with
 | some i,some ag=>match i.zero with
   | some z=>match cv z with
     | some v=>if elOk ⟨t,i.size,ag,i.bytes,v⟩ v∧0 < i.size then some ⟨t,i.size,ag,i.bytes,v⟩ else none
     | none=>none
   | none=>none
 | _,_=>none

def cField (s:TypeId) (f:Nat):Option (Nat × Nat × TypeId) :=
 match P.underlying s with
 | some (.struct fs)=>match fs[f]? with
   | some fd=>match P.info? fd.type with
     | some i=>if 0 < i.size then some (fd.offset,i.size,fd.type) else none
     | none=>none
   | none=>none
 | _=>none

def cSh:Nat→TypeId→Sh
 | 0,_=>.any
 | d+1,t=>match P.underlying t with
   | some (.int k)=>.i k
   | some .bool=>.b
   | some .string=>.s
   | some (.slice _)=>.l
   | some (.struct fs)=>.agg (fs.toList.flatMap fun f=>match cSh d f.type with
     | .agg l=>l
     | x=>[x])
   | some (.array n e)=>.agg ((List.replicate n (match cSh d e with
     | .agg l=>l
     | x=>[x])).flatten)
   | some (.tuple ts)=>.tup (ts.toList.map (cSh d))
   | _=>.any

def cParts (ps:List (Nat × Operand)):Option (List (Nat × Opd)) :=
 optAll (fun p=>match cOpd p.2 with | some x=>some (p.1,x) | none=>none) ps

def cBuild (t:TypeId) (ps:List (Nat × Operand)):Option IOp :=
 match P.info? t with
 | some i=>match i.zero with
   | some z=>match cv z with
     | some (.agg zs)=>match P.underlying t with
       | some (.struct fs)=>match fs.toList.mapM (fun f=>(P.info? f.type).map fun i=>(f.offset,i.size)) with
         | some pl=>match optAll (fun p=>match pl[p.1]?,cOpd p.2 with | some (off,n),some x=>some (off,n,x) | _,_=>none) ps with
           | some l=>some (.build zs l)
           | none=>none
         | none=>none
       | some (.array _ e)=>match P.info? e with
         | some ie=>match optAll (fun p=>match cOpd p.2 with | some x=>some (p.1 * ie.size,ie.size,x) | none=>none) ps with
           | some l=>some (.build zs l)
           | none=>none
         | none=>none
       | _=>none
     | _=>none
   | none=>none
 | none=>none

def cOpds (xs:List Operand):Option (List Opd):=optAll cOpd xs

def cOptOpd:Option Operand→Option (Option Opd)
 | none=>some none
 | some x=>match cOpd x with
   | some y=>some (some y)
   | none=>none

def cCall (t:TypeId) (c:Call):Option IOp :=
 match c.callee with
 | .value f=>match cOpd f,cOpds c.args.toList with
   | some f,some as_=>some (.call (cSh P 8 t) f as_)
   | _,_=>none
 | .builtin .len=>match c.args.toList,c.argTypes.toList with
   | [x],[t]=>match P.underlying t,cOpd x with
     | some .string,some x=>some (.bk .lenS [x])
     | some (.slice _),some x=>some (.bk .lenV [x])
     | some (.array n _),some _=>some (.mov (.v (.int .i64 n)))
     | _,_=>none
   | _,_=>none
 | .builtin .min=>match cOpds c.args.toList with
   | some as_=>some (.bk .min as_)
   | none=>none
 | .builtin .max=>match cOpds c.args.toList with
   | some as_=>some (.bk .max as_)
   | none=>none
 | .builtin .append=>match c.args.toList,c.argTypes.toList with
   | [s,x],[t,u]=>match P.underlying t,P.underlying u,cOpd s,cOpd x with
     | some (.slice e),some d,some s,some x=>match d with
       | .slice _ | .string=>match cETy P e with
         | some e=>some (.app e s x)
         | none=>none
       | _=>none
     | _,_,_,_=>none
   | _,_=>none
 | _=>none

def eqFs (g:TypeId→Option (List Sh)):List Field→Nat→Option (List Sh)
 | [],_=>some []
 | f :: fs, off => if f.name ≠ "_" ∧ f.offset = off then match g f.type with
     | some l=>match eqFs g fs (off+l.length) with
       | some m=>some (l ++ m)
       | none=>none
     | none=>none
   else none
def eqSh:Nat→TypeId→Option (List Sh)
 | 0,_=>none
 | d+1,t=>match P.underlying t with
   | some (.struct fs)=>if P.stoodInHeld t then none else match eqFs (eqSh d) fs.toList 0 with
     | some l=>if P.cellsOf t=l.length then some l else none
     | none=>none
   | some (.array n e)=>match eqSh d e with
     | some l=>if P.cellsOf t=n * l.length∧P.cellsOf e=l.length then some ((List.replicate n l).flatten) else none
     | none=>none
   | some (.int k)=>if P.cellsOf t=1 then some [.i k] else none
   | some .bool=>if P.cellsOf t=1 then some [.b] else none
   | some .string=>if P.cellsOf t=1 then some [.s] else none
   | _=>none
def eqKind (t:TypeId):Option (Nat × List Sh):=match P.underlying t with
 | some .bool=>some (0,[])
 | some (.pointer _)=>some (1,[])
 | some (.slice _)=>some (2,[])
 | some (.func _ _ _)=>some (3,[])
 | some (.struct _) | some (.array _ _)=>if P.eqGuardType P.depth t then none else match eqSh P 5 t with
   | some l=>some (4,l)
   | none=>none
 | _=>none

def bytesT (t:TypeId):Bool:=match P.underlying t with
 | some (.slice e)=>match P.underlying e with
   | some (.int .u8)=>true
   | _=>false
 | _=>false
theorem bytesT_spec {t:TypeId} (h:bytesT P t=true):∃ e,P.underlying t=some (.slice e)∧P.underlying e=some (.int .u8):=by
 unfold bytesT at h
 split at h <;> (try (cases h; done))
 rename_i e h1
 split at h <;> (try (cases h; done))
 rename_i h2
 exact ⟨e,h1,h2⟩
def cOp (ty:TypeId) (o:Op):Option IOp :=
 match o with
 | .move x | .assign x=>(cOpd x).map .mov
 | .pick c a b=>match cOpd c,cOpd a,cOpd b with
   | some c,some a,some b=>some (.pick c a b)
   | _,_,_=>none
 | .alloc t=>(cETy P t).map .alloc
 | .box t x=>match cETy P t,cOpd x with
   | some e,some x=>some (.box e x)
   | _,_=>none
 | .build t ps=>cBuild P t ps.toList
 | .buildSlice t n ps=>match P.underlying t with
   | some (.slice e)=>match cETy P e,cParts ps.toList with
     | some e,some l=>if n * e.es≤16777216 then some (.mkrow e n l) else none
     | _,_=>none
   | _=>none
 | .load t a=>match P.info? t,agB P t,cOpd a with
   | some i,some ag,some a=>some (.load ag i.size a)
   | _,_,_=>none
 | .store t a v=>match P.info? t,cOpd a,cOpd v with
   | some i,some a,some v=>if 0 < i.size then some (.store i.size a v) else none
   | _,_,_=>none
 | .nilCheck x=>(cOpd x).map .nilck
 | .binOp op t x y _=>match P.underlying t,cOpd x,cOpd y with
   | some d,some x,some y=>match op with
     | .eql=>match d with
       | .int _ | .string=>some (.bin .eql x y)
       | _=>match eqKind P t with
         | some (k,sh)=>some (.eqv false k sh x y)
         | none=>none
     | .neq=>match d with
       | .int _ | .string=>some (.bin .neq x y)
       | _=>match eqKind P t with
         | some (k,sh)=>some (.eqv true k sh x y)
         | none=>none
     | op=>some (.bin op x y)
   | _,_,_=>none
 | .unOp op _ x=>(cOpd x).map (.un op)
 | .convert s d x=>if s=d∧bytesT P s=true then (cOpd x).map .mark else match P.underlying s,P.underlying d,cOpd x with
   | some (.int _),some (.int k),some x=>some (.conv k x)
   | some .string,some .string,some x=>some (.cid x)
   | some .string,some (.slice e),some x=>match P.underlying e,cETy P e with
     | some (.int .u8),some e=>if e.es=1 then some (.s2b e x) else none
     | _,_=>none
   | some (.slice e),some .string,some x=>match P.underlying e with
     | some (.int .u8)=>some (.b2s x)
     | _=>none
   | _,_,_=>none
 | .makeFunc (.func g) first caps=>match cOpds first.toList,cOpds caps.toList with
   | some a,some b=>some (.mkfn g a b)
   | _,_=>none
 | .makeSlice t n c=>match P.underlying t with
   | some (.slice e)=>match cETy P e,cOpd n,cOpd c with
     | some e,some n,some c=>some (.mkslice e n c)
     | _,_,_=>none
   | _=>none
 | .slice t x lo hi mx=>match P.underlying t,cOpd x,cOptOpd lo,cOptOpd hi,cOptOpd mx with
   | some .string,some x,some lo,some hi,some none=>some (.subS x lo hi)
   | some (.slice e),some x,some lo,some hi,some mx=>match P.info? e with
     | some ie=>if mx.isSome && hi.isNone then none else some (.subV ie.size x lo hi mx)
     | none=>none
   | _,_,_,_,_=>none
 | .fieldAddr s x f=>match cField P s f,cOpd x with
   | some (off,_,_),some x=>some (.fldA off x)
   | _,_=>none
 | .field s x f=>match cField P s f,cOpd x with
   | some (off,n,t),some x=>match agB P t with
     | some ag=>some (.fld ag n off x)
     | none=>none
   | _,_=>none
 | .indexAddr t x i=>match P.underlying t,cOpd x,cOpd i with
   | some (.slice e),some x,some i=>match P.info? e with
     | some ie=>if 0 < ie.size then some (.ixAS (cSh P 8 e) ie.size x i) else none
     | none=>none
   | some (.array n e),some x,some i=>match P.info? e with
     | some ie=>some (.ixAA n ie.size x i)
     | none=>none
   | _,_,_=>none
 | .index t x i=>match P.underlying t,cOpd x,cOpd i with
   | some .string,some x,some i=>some (.ixS x i)
   | some (.array n e),some x,some i=>match P.info? e,agB P e with
     | some ie,some ag=>some (.ixA ag n ie.size x i)
     | _,_=>none
   | _,_,_=>none
 | .extract x i=>match cOpd x with
   | some x=>some (.extr x i)
   | none=>none
 | .call c=>cCall P ty c
 | _=>none

def cOper (ops:List Oper) (o:Oper):Option IOper :=
 match cOp P o.type o.op with
 | some op=>some ⟨o.dst,op,match o.guard with
   | none=>none
   | some (j,b)=>some ((ops[j]?).bind (·.dst),b)⟩
 | none=>none

def predsOf:List Oper→List Nat→List Nat
 | [],acc=>acc
 | o::l,acc=>predsOf l (acc ++ [o.after.toList.foldl (fun m e=>if Region.binds .any e then m ||| 2 ^ e.on ||| acc.getD e.on 0 else m) 0])

def storeOp:IOp→Bool
 | .store ..=>true
 | _=>false
def fullOp:IOp→Bool
 | .app .. | .mark _=>true
 | _=>false
def readOp:IOp→Bool
 | .load .. | .b2s .. | .call ..=>true
 | _=>false

def pairOk (ops:Array Oper) (o p:Oper) (a b:IOp):Bool :=
 o.apart ops p && !(storeOp a && storeOp b) && !fullOp a && !fullOp b

def meets (a b:IOp):Bool:=(storeOp a && readOp b) || (readOp a && storeOp b)

def drawOk (ops:Array Oper) (ios:List IOper) (ps:List Nat):Bool :=
 decide (ops.size≤FULLID) && (List.range ops.size).all fun j=>(List.range j).all fun i =>
  (ps.getD j 0).testBit i || (match ops[i]?,ops[j]?,ios[i]?,ios[j]? with
    | some o,some p,some a,some b=>pairOk ops o p a.op b.op
    | _,_,_,_=>false)

def isCall:IOp→Bool
 | .call ..=>true
 | _=>false
def fullAt (n:Nat) (ps:List Nat) (j:Nat) (b:IOp):Bool :=
 isCall b && (List.range n).all fun i=>i == j || (if i < j then (ps.getD j 0).testBit i else (ps.getD i 0).testBit j)

def chkOf (ios:List IOper) (ps:List Nat) (j:Nat) (b:IOper):List Nat :=
 ((List.range j).filter fun i=>!(ps.getD j 0).testBit i && (match ios[i]? with
   | some a=>meets a.op b.op
   | none=>true)) ++ if fullAt ios.length ps j b.op then [FULLID] else []

def edgesOk (ops:Array Oper):Bool :=
 ops.toList.zipIdx.all fun p=>p.1.after.toList.all fun e=>!Region.binds .any e || decide (e.on < p.2)

/-! Regions where calls may do anything -/
def noOrd (ps:List Nat) (i j:Nat):Bool:=i != j && !(if i < j then (ps.getD j 0).testBit i else (ps.getD i 0).testBit j)
def floatAt (ios:List IOper) (ps:List Nat) (j:Nat):Bool:=match ios[j]? with
 | some b=>mkOp b.op && (List.range ios.length).any fun i=>noOrd ps i j && (match ios[i]? with
   | some a=>!lightOp a.op
   | none=>false)
 | none=>false
def slotAt (ios:List IOper) (ps:List Nat) (j:Nat):Option Nat:=if floatAt ios ps j then some ((List.range j).filter (floatAt ios ps)).length else none
def meetsS (a b:SOp):Bool:=(chgS a && hasNames b.op.op) || (hasNames a.op.op && chgS b)
def sopsOf (ios:List IOper) (ps:List Nat):List SOp :=
 let l:=ios.zipIdx.map fun p=>(⟨p.1,slotAt ios ps p.2,[],[]⟩:SOp)
 l.zipIdx.map fun p=>{ p.1 with
  chk:=(List.range p.2).filter fun i=>noOrd ps i p.2 && (match l[i]? with
   | some a=>meetsS a p.1
   | none=>false)
  kp:=if chgS p.1 && p.1.slot.isNone then l.zipIdx.filterMap fun q=>if (ps.getD p.2 0).testBit q.2 then none else q.1.slot else [] }
def slotsOk:List SOp→Nat→Bool
 | [],_=>true
 | o::l,c=>match o.slot with
   | none=>slotsOk l c
   | some s=>s == c && o.op.guard.isNone && (match o.op.op with
     | .alloc e=>e.es != 0
     | .box e _=>e.bytes != 0
     | .mkrow e _ _=>e.bytes != 0
     | _=>false) && slotsOk l (c+1)
def pairS (ops:Array Oper) (o p:Oper) (a b:SOp) (i:Nat):Bool :=
 o.apart ops p && (lightOp a.op.op || lightOp b.op.op || (a.slot.isSome && b.slot.isSome) || (a.slot.isSome && (stApp b.op.op || allocOp a.op.op)) || (b.slot.isSome && (stApp a.op.op || allocOp b.op.op))) && (!meetsS a b || b.chk.contains i)
def transOk (ps:List Nat) (n:Nat):Bool:=(List.range n).all fun j=>(List.range j).all fun h=>!(ps.getD j 0).testBit h || (ps.getD h 0 &&& ps.getD j 0) == ps.getD h 0
def drawSOk (ops:Array Oper) (l:List SOp) (ps:List Nat):Bool :=
 transOk ps ops.size && slotsOk l 0 && ((List.range ops.size).all fun j=>(List.range j).all fun i =>
  (ps.getD j 0).testBit i || (match ops[i]?,ops[j]?,l[i]?,l[j]? with
    | some o,some p,some a,some b=>pairS ops o p a b i
    | _,_,_,_=>false)) && ((List.range ops.size).all fun j=>(List.range ops.size).all fun i=>match l[i]?,l[j]? with
    | some a,some b=>(ps.getD j 0).testBit i || !(chgS b && b.slot.isNone) || (match a.slot with
      | some s=>b.kp.contains s
      | none=>true)
    | _,_=>false)

def cCode (sq:Bool):Code→Option IC
 | .skip=>some .skip
 | .region _ ops draw=>match optAll (cOper P ops.toList) ops.toList with
   | some l =>
     if draw then
      let ps:=predsOf ops.toList []
      if sq && drawSOk ops (sopsOf l ps) ps && edgesOk ops && Region.noSelect ops && P.follows .mixedOrders then some (.regS (sopsOf l ps)) else
      if drawOk ops l ps && edgesOk ops && Region.noSelect ops && P.follows .mixedOrders then some (.regD (l.zipIdx.map fun p=>(p.1,chkOf l ps p.2 p.1))) else none
     else some (.reg l)
   | none=>none
 | .seq a b=>match cCode sq a,cCode sq b with
   | some a,some b=>some (.seq a b)
   | _,_=>none
 | .cond c a b=>match cOpd c,cCode sq a,cCode sq b with
   | some c,some a,some b=>some (.cond c a b)
   | _,_,_=>none
 | .block id a=>match cCode sq a with
   | some a=>some (.block id a)
   | none=>none
 | .loop a=>match cCode sq a with
   | some a=>some (.loop a)
   | none=>none
 | .exit id=>some (.exit id)
 | .ret=>some .ret
 | _=>none

def cRV:ResultVar→Option RV
 | .tmp t=>some (.tmp t)
 | .cell a t=>match P.info? t,agB P t with
   | some i,some ag=>some (.cell ag i.size a)
   | _,_=>none

def cFnQ (sq:Bool) (g:FuncId):Option AFn :=
 match P.funcs[g]? with
 | none=>none
 | some fn=>match fn.body with
   | none=>none
   | some c => if fn.name == "runtime.NumGoroutine" then none else match cCode P sq c, optAll (cRV P) fn.results.toList with
     | some b,some rs=>some ⟨fn.ntmps,rs,b⟩
     | _,_=>none

def cFn (g:FuncId):Option AFn:=cFnQ P false g
end
end Go.Proofs.Ytdceaeifcniabaa.AE

namespace Go.Proofs.Ytdceaeifcniabaa.AE
set_option linter.unusedVariables false
set_option linter.unusedSimpArgs false
set_option linter.constructorNameAsVariable false
open Go Go.RowKit

inductive RB where
 | no
 | virt
 | res
 | real (b es cap:Nat)

abbrev Rho:=Nat→RB

def own (ρ:Rho) (b:Nat):Prop:=∃ id es cap,ρ id=.real b es cap

inductive FRep (w:World) (bad:Nat→Prop):AV→Value→Prop where
 | int (k:IntKind) (n:Int):FRep w bad (.int k n) (.int k n)
 | bool (b:Bool):FRep w bad (.bool b) (.bool b)
 | str (s:List UInt8):FRep w bad (.str s) (.string ⟨s.toArray⟩)
 | nilp:FRep w bad .nilp (.pointer none)
 | znil:FRep w bad (.zsl true) (.slice none 0 0)
 | zsl (a:Option Addr):FRep w bad (.zsl false) (.slice a 0 0)
 | lst0 (a:Option Addr) (c:Nat) (h:a=none→c=0):FRep w bad (.lst []) (.slice a 0 c)
 | emp (a:Addr) (c:Nat):FRep w bad .emp (.slice (some a) 0 c)
 | lst (l:List AV) (b o es c:Nat) (vs:Nat→Nat→Value) (hn:l.length≤c) (he:0 < es) (hb:¬ bad b) (hl:b < w.heap.size)
    (hs:∀ (i:Nat) (x:AV),l[i]?=some x→x.cells.length=es)
    (hc:∀ (i:Nat) (x:AV) (j:Nat) (c:AV),l[i]?=some x→x.cells[j]?=some c→w.cell? ⟨b,o+(i * es+j),none⟩=some (vs i j))
    (hr:∀ (i:Nat) (x:AV) (j:Nat) (c:AV),l[i]?=some x→x.cells[j]?=some c→FRep w bad c (vs i j)):FRep w bad (.lst l) (.slice (some ⟨b,o,none⟩) l.length c)
 | fptr (v:AV) (b o j:Nat) (vs:Nat→Value) (hb:¬ bad b) (hl:b < w.heap.size)
    (hc:∀ (k:Nat) (c:AV),v.cells[k]?=some c→w.cell? ⟨b,o+k,none⟩=some (vs k))
    (hr:∀ (k:Nat) (c:AV),v.cells[k]?=some c→FRep w bad c (vs k)):FRep w bad (.fptr v j) (.pointer (some ⟨b,o+j,none⟩))
 | agg (cs:List AV) (vs:List Value) (hl:cs.length=vs.length) (h:∀ (i:Nat) (c:AV) (v:Value),cs[i]?=some c→vs[i]?=some v→FRep w bad c v):FRep w bad (.agg cs) (.agg vs.toArray)
 | tup (cs:List AV) (vs:List Value) (hl:cs.length=vs.length) (h:∀ (i:Nat) (c:AV) (v:Value),cs[i]?=some c→vs[i]?=some v→FRep w bad c v):FRep w bad (.tup cs) (.tuple vs.toArray)
 | fn (g:FuncId) (a b:List AV) (va vb:List Value) (hla:a.length=va.length) (hlb:b.length=vb.length)
    (ha:∀ (i:Nat) (c:AV) (v:Value),a[i]?=some c→va[i]?=some v→FRep w bad c v) (hb:∀ (i:Nat) (c:AV) (v:Value),b[i]?=some c→vb[i]?=some v→FRep w bad c v):FRep w bad (.fn g a b) (.func (.func g) va.toArray vb.toArray)
 | nilf:FRep w bad .nilf .nilFunc
 | undef (v:Value):FRep w bad .undef v

inductive Rep (w:World) (bad:Nat→Prop) (D:Nat→Prop) (ρ:Rho):AV→Value→Prop where
 | frz {v:AV} {c:Value} (h:FRep w (fun b=>bad b ∨ own ρ b) v c):Rep w bad D ρ v c
 | ptr {id i j b es cap:Nat} (h:ρ id=.real b es cap):Rep w bad D ρ (.ptr id i j) (.pointer (some ⟨b,i * es+j,none⟩))
 | ptrD {id i j:Nat} (b o:Nat) (h:D id):Rep w bad D ρ (.ptr id i j) (.pointer (some ⟨b,o,none⟩))
 | slc {id o n b es cap c:Nat} (h:ρ id=.real b es cap) (hc:o+c≤cap) (hn:n≤c):Rep w bad D ρ (.slc id o n) (.slice (some ⟨b,o * es,none⟩) n c)
 | slcV {id:Nat} (a:Option Addr) (h:ρ id=.virt):Rep w bad D ρ (.slc id 0 0) (.slice a 0 0)
 | slk {id o n b es cap:Nat} (h:ρ id=.real b es cap) (hc:o+n≤cap):Rep w bad D ρ (.slk id o n) (.slice (some ⟨b,o * es,none⟩) n n)
 | slkD {id o n:Nat} (a:Option Addr) (h:D id) (ha:n ≠ 0→a ≠ none):Rep w bad D ρ (.slk id o n) (.slice a n n)
 | slcD {id o n:Nat} (a:Option Addr) (c:Nat) (h:D id) (hn:n≤c) (ha:n ≠ 0→a ≠ none):Rep w bad D ρ (.slc id o n) (.slice a n c)
 | agg (cs:List AV) (vs:List Value) (hl:cs.length=vs.length) (h:∀ (i:Nat) (c:AV) (v:Value),cs[i]?=some c→vs[i]?=some v→Rep w bad D ρ c v):Rep w bad D ρ (.agg cs) (.agg vs.toArray)
 | tup (cs:List AV) (vs:List Value) (hl:cs.length=vs.length) (h:∀ (i:Nat) (c:AV) (v:Value),cs[i]?=some c→vs[i]?=some v→Rep w bad D ρ c v):Rep w bad D ρ (.tup cs) (.tuple vs.toArray)
 | fn (g:FuncId) (a b:List AV) (va vb:List Value) (hla:a.length=va.length) (hlb:b.length=vb.length)
    (ha:∀ (i:Nat) (c:AV) (v:Value),a[i]?=some c→va[i]?=some v→Rep w bad D ρ c v) (hb:∀ (i:Nat) (c:AV) (v:Value),b[i]?=some c→vb[i]?=some v→Rep w bad D ρ c v):Rep w bad D ρ (.fn g a b) (.func (.func g) va.toArray vb.toArray)

def Unfz (fz:Nat × Nat) (n:Nat):Prop:=(∀ j,j < n→¬ (fz.1≤j∧j < fz.2))∧fz.1≤fz.2
theorem unfz0 (n:Nat):Unfz (0,0) n:=⟨fun j hj=>by simp,Nat.le_refl _⟩
structure BlkRel (w:World) (bad D:Nat→Prop) (ρ:Rho) (B:Nat) (k:Blk) (b es cap:Nat):Prop where
 hes:k.e.es=es
 pos:0 < es
 low:B≤b
 len:k.els.length≤cap
 ok:∀ (i:Nat) (el:AV),k.els[i]?=some el→elOk k.e el=true
 mem:∃ cur fz,w.heap[b]?=some (.cells cur k.e.tid fz)∧cur.size=cap * es∧Unfz fz cur.size ∧
  ∀ (i:Nat) (el:AV) (j:Nat) (c:AV),k.els[i]?=some el→el.cells[j]?=some c→∃ v,cur[i * es+j]?=some v∧Rep w bad D ρ c v

structure HRel (w:World) (bad:Nat→Prop) (ρ:Rho) (B:Nat) (H:Heap):Prop where
 real:∀ id b es cap,ρ id=.real b es cap→∃ k,H[id]?=some (some k)∧BlkRel w bad (fun i=>H[i]?=some none) ρ B k b es cap
 virt:∀ id,ρ id=.virt→∃ k,H[id]?=some (some k)∧k.els=[]
 inj:∀ id id' b es cap es' cap',ρ id=.real b es cap→ρ id'=.real b es' cap'→id=id'
 res:∀ id,ρ id=.res→∃ k:Blk,H[id]?=some (some k)∧k.e.es ≠ 0

structure Grow (ρ:Rho) (w w':World):Prop where
 os:w'.os=w.os
 tape:w'.tape=w.tape
 output:w'.output=w.output
 size:w.heap.size≤w'.heap.size
 block:∀ b,b < w.heap.size→¬ own ρ b→w'.heap[b]?=w.heap[b]?

theorem Grow.refl (ρ:Rho) (w:World):Grow ρ w w:=⟨rfl,rfl,rfl,Nat.le_refl _,fun _ _ _=>rfl⟩

structure RLe (w:World) (ρ ρ':Rho):Prop where
 keep:∀ b,own ρ' b→own ρ b ∨ w.heap.size≤b

theorem Grow.trans {ρ ρ':Rho} {w w' w'':World} (h:Grow ρ w w') (r:RLe w ρ ρ') (k:Grow ρ' w' w''):Grow ρ w w'' :=
 ⟨k.os.trans h.os,k.tape.trans h.tape,k.output.trans h.output,Nat.le_trans h.size k.size,fun b hb ho=>(k.block b (Nat.lt_of_lt_of_le hb h.size) (fun hh=>(r.keep b hh).elim ho (fun x=>by omega))).trans (h.block b hb ho)⟩
theorem RLe.refl (w:World) (ρ:Rho):RLe w ρ ρ:=⟨fun _ h=>.inl h⟩
theorem RLe.trans {w w':World} {ρ ρ' ρ'':Rho} (h:RLe w ρ ρ') (hs:w.heap.size≤w'.heap.size) (k:RLe w' ρ' ρ''):RLe w ρ ρ'' :=
 ⟨fun b hb=>(k.keep b hb).elim (fun x=>h.keep b x) (fun x=>.inr (by omega))⟩

theorem cell_of_heap {w w':World} {b o:Nat} (h:w'.heap[b]?=w.heap[b]?):w'.cell? ⟨b,o,none⟩=w.cell? ⟨b,o,none⟩:=by simp [World.cell?,h]

theorem FRep.mono {w w':World} {bad bad':Nat→Prop} {v:AV} {c:Value} (h:FRep w bad v c) (hs:w.heap.size≤w'.heap.size) (hw:∀ b,b < w.heap.size→¬ bad b→w'.heap[b]?=w.heap[b]?)
 (hb:∀ b,b < w.heap.size→bad' b→bad b):FRep w' bad' v c:=by
 induction h with
 | int k n=>exact .int k n
 | bool b=>exact .bool b
 | str s=>exact .str s
 | nilp=>exact .nilp
 | znil=>exact .znil
 | zsl a=>exact .zsl a
 | lst0 a c h=>exact .lst0 a c h
 | emp a c=>exact .emp a c
 | lst l b o es c vs hn he hb' hl hs' hc hr ih =>
   exact .lst l b o es c vs hn he (fun h=>hb' (hb b hl h)) (Nat.lt_of_lt_of_le hl hs) hs' (fun i x j c hx hj=>(cell_of_heap (hw b hl hb')).trans (hc i x j c hx hj)) (fun i x j c hx hj=>ih i x j c hx hj)
 | fptr v b o j vs hb' hl hc hr ih =>
   exact .fptr v b o j vs (fun h=>hb' (hb b hl h)) (Nat.lt_of_lt_of_le hl hs) (fun k c hk=>(cell_of_heap (hw b hl hb')).trans (hc k c hk)) (fun k c hk=>ih k c hk)
 | agg cs vs hl h ih=>exact .agg cs vs hl fun i c v hc hv=>ih i c v hc hv
 | tup cs vs hl h ih=>exact .tup cs vs hl fun i c v hc hv=>ih i c v hc hv
 | fn g a b va vb hla hlb ha hb iha ihb=>exact .fn g a b va vb hla hlb (fun i c v hc hv=>iha i c v hc hv) (fun i c v hc hv=>ihb i c v hc hv)
 | nilf=>exact .nilf
 | undef v=>exact .undef v

structure Step (w w':World) (D D':Nat→Prop) (ρ ρ':Rho):Prop where
 grow:Grow ρ w w'
 rle:RLe w ρ ρ'
 dead:∀ id,D id→D' id
 keep:∀ id,ρ id ≠ .no→ρ' id=ρ id ∨ D' id

theorem Step.refl (w:World) (D:Nat→Prop) (ρ:Rho):Step w w D D ρ ρ:=⟨.refl _ _,.refl _ _,fun _ h=>h,fun _ _=>.inl rfl⟩
theorem Step.trans {w w' w'':World} {D D' D'':Nat→Prop} {ρ ρ' ρ'':Rho} (h:Step w w' D D' ρ ρ') (k:Step w' w'' D' D'' ρ' ρ''):Step w w'' D D'' ρ ρ'' :=
 ⟨h.grow.trans h.rle k.grow,h.rle.trans h.grow.size k.rle,fun id hd=>k.dead id (h.dead id hd),fun id hn=>(h.keep id hn).elim (fun e=>(k.keep id (e ▸ hn)).imp (fun x=>x.trans e) (fun x=>x)) (fun d=>.inr (k.dead id d))⟩

theorem Rep.step {w w':World} {bad D D':Nat→Prop} {ρ ρ':Rho} (s:Step w w' D D' ρ ρ') {v:AV} {c:Value} (h:Rep w bad D ρ v c):Rep w' bad D' ρ' v c:=by
 induction h with
 | frz h=>exact .frz (h.mono s.grow.size (fun b hb hn=>s.grow.block b hb (fun ho=>hn (.inr ho))) (fun b hb hx=>hx.imp (fun x=>x) (fun ho=>(s.rle.keep b ho).elim (fun x=>x) (fun x=>by omega))))
 | ptr h =>
   rename_i id i j b es cap
   rcases s.keep id (by simp [h]) with e | d
   ·exact .ptr (e.trans h)
   ·exact .ptrD _ _ d
 | ptrD b o h=>exact .ptrD b o (s.dead _ h)
 | slc h hc hn =>
   rename_i id o n b es cap c
   rcases s.keep id (by simp [h]) with e | d
   ·exact .slc (e.trans h) hc hn
   ·exact .slcD _ _ d hn (fun _=>by simp)
 | slk h hc =>
   rename_i id o n b es cap
   rcases s.keep id (by simp [h]) with e | d
   ·exact .slk (e.trans h) hc
   ·exact .slkD _ d (fun _=>by simp)
 | slkD a h ha=>exact .slkD a (s.dead _ h) ha
 | slcV a h =>
   rename_i id
   rcases s.keep id (by simp [h]) with e | d
   ·exact .slcV a (e.trans h)
   ·exact .slcD _ _ d (Nat.le_refl _) (fun h=>absurd rfl h)
 | slcD a c h hn ha=>exact .slcD a c (s.dead _ h) hn ha
 | agg cs vs hl h ih=>exact .agg cs vs hl fun i c v hc hv=>ih i c v hc hv
 | tup cs vs hl h ih=>exact .tup cs vs hl fun i c v hc hv=>ih i c v hc hv
 | fn g a b va vb hla hlb ha hb iha ihb=>exact .fn g a b va vb hla hlb (fun i c v hc hv=>iha i c v hc hv) (fun i c v hc hv=>ihb i c v hc hv)

/-! ### Constants -/
theorem optAll_spec {α β:Type} {f:α→Option β}:∀ {l:List α} {m:List β},optAll f l=some m→m.length=l.length∧∀ (i:Nat) (a:α),l[i]?=some a→∃ b,m[i]?=some b∧f a=some b
 | [],m,h=>by simp [optAll] at h; subst h; simp
 | a::l,m,h=>by
   simp only [optAll] at h
   cases hf:f a with
   | none=>simp [hf] at h
   | some b =>
     cases hl:optAll f l with
     | none=>simp [hf,hl] at h
     | some m' =>
       simp [hf,hl] at h
       subst h
       obtain ⟨h1,h2⟩:=optAll_spec hl
       refine ⟨by simp [h1],fun i x hx=>?_⟩
       cases i with
       | zero=>simp at hx; subst hx; exact ⟨b,rfl,hf⟩
       | succ i=>exact h2 i x (by simpa using hx)

theorem cvS_rep {w:World} {bad:Nat→Prop} {v:Value} {x:AV} (h:cvS v=some x):FRep w bad x v∧isSc x=true∧v.oneCell'=true:=by
 unfold cvS at h
 split at h <;> first | (obtain rfl:=Option.some.inj h) | (cases h; done)
 ·exact ⟨.int _ _,rfl,rfl⟩
 ·exact ⟨.bool _,rfl,rfl⟩
 ·refine ⟨?_,rfl,rfl⟩
  rename_i s
  have:(⟨s.data.toList.toArray⟩:ByteArray)=s:=by simp
  conv=>rhs; rw [← this]
  exact .str _
 ·exact ⟨.nilp,rfl,rfl⟩
 ·exact ⟨.znil,rfl,rfl⟩
 ·exact ⟨.nilf,rfl,rfl⟩
 ·exact ⟨.fn _ [] [] [] [] rfl rfl (by simp) (by simp),rfl,rfl⟩

theorem cv_rep {w:World} {bad:Nat→Prop} {v:Value} {x:AV} (h:cv v=some x):FRep w bad x v:=by
 unfold cv at h
 split at h
 ·rename_i cs
  cases hm:optAll cvS cs with
  | none=>simp [hm] at h
  | some l =>
    simp [hm] at h
    subst h
    obtain ⟨h1,h2⟩:=optAll_spec hm
    refine .agg l cs h1 fun i c v hc hv=>?_
    obtain ⟨b,hb,he⟩:=h2 i v hv
    rw [hb] at hc
    cases hc
    exact (cvS_rep he).1
 ·exact (cvS_rep h).1

theorem FRep.cells {w:World} {bad:Nat→Prop} {x:AV} {v:Value} (h:FRep w bad x v) (hu:(∃ cs,x=.agg cs) ∨ isSc x=true) :
 x.cells.length=v.cells.size∧∀ (i:Nat) (c:AV) (u:Value),x.cells[i]?=some c→v.cells[i]?=some u→FRep w bad c u:=by
 cases h with
 | agg cs vs hl h=>exact ⟨by simpa [AV.cells,Value.cells] using hl,fun i c u hc hv=>h i c u (by simpa [AV.cells] using hc) (by simpa [Value.cells] using hv)⟩
 | tup cs vs hl h=>simp [isSc] at hu
 | undef v=>simp [isSc] at hu
 | _ =>
   refine ⟨rfl,fun i c u hc hv=>?_⟩
   cases i with
   | zero =>
     simp only [AV.cells,List.getElem?_cons_zero,Option.some.injEq] at hc
     simp only [Value.cells,List.getElem?_toArray,List.getElem?_cons_zero,Option.some.injEq] at hv
     subst hc; subst hv
     first | exact .int _ _ | exact .bool _ | exact .str _ | exact .nilp | exact .znil | exact .zsl _ | exact .emp _ _ | (constructor <;> assumption) | exact .nilf
   | succ i=>simp [AV.cells] at hc
end Go.Proofs.Ytdceaeifcniabaa.AE

namespace Go.Proofs.Ytdceaeifcniabaa.AE
set_option linter.unusedVariables false
set_option linter.unusedSimpArgs false
set_option linter.constructorNameAsVariable false
open Go Go.RowKit

section
variable {P:Program} {w:World} {bad D:Nat→Prop} {ρ:Rho}

theorem rep_int {k:IntKind} {n:Int} {v:Value} (h:Rep w bad D ρ (.int k n) v):v=.int k n:=by
 cases h with
 | frz h=>cases h; rfl
theorem rep_bool {b:Bool} {v:Value} (h:Rep w bad D ρ (.bool b) v):v=.bool b:=by
 cases h with
 | frz h=>cases h; rfl
theorem rep_str {s:List UInt8} {v:Value} (h:Rep w bad D ρ (.str s) v):v=.string ⟨s.toArray⟩:=by
 cases h with
 | frz h=>cases h; rfl
theorem rep_nilp {v:Value} (h:Rep w bad D ρ .nilp v):v=.pointer none:=by
 cases h with
 | frz h=>cases h; rfl
theorem rep_nilf {v:Value} (h:Rep w bad D ρ .nilf v):v=.nilFunc:=by
 cases h with
 | frz h=>cases h; rfl
theorem rep_agg {cs:List AV} {v:Value} (h:Rep w bad D ρ (.agg cs) v):∃ vs:List Value,v=.agg vs.toArray∧cs.length=vs.length∧∀ (i:Nat) (c:AV) (u:Value),cs[i]?=some c→vs[i]?=some u→Rep w bad D ρ c u:=by
 cases h with
 | frz h=>cases h with
   | agg cs vs hl h=>exact ⟨vs,rfl,hl,fun i c u hc hu=>.frz (h i c u hc hu)⟩
 | agg cs vs hl h=>exact ⟨vs,rfl,hl,h⟩
theorem rep_tup {cs:List AV} {v:Value} (h:Rep w bad D ρ (.tup cs) v):∃ vs:List Value,v=.tuple vs.toArray∧cs.length=vs.length∧∀ (i:Nat) (c:AV) (u:Value),cs[i]?=some c→vs[i]?=some u→Rep w bad D ρ c u:=by
 cases h with
 | frz h=>cases h with
   | tup cs vs hl h=>exact ⟨vs,rfl,hl,fun i c u hc hu=>.frz (h i c u hc hu)⟩
 | tup cs vs hl h=>exact ⟨vs,rfl,hl,h⟩
theorem rep_fn {g:FuncId} {a b:List AV} {v:Value} (h:Rep w bad D ρ (.fn g a b) v):∃ va vb:List Value,v=.func (.func g) va.toArray vb.toArray∧a.length=va.length∧b.length=vb.length ∧
 (∀ (i:Nat) (c:AV) (u:Value),a[i]?=some c→va[i]?=some u→Rep w bad D ρ c u)∧(∀ (i:Nat) (c:AV) (u:Value),b[i]?=some c→vb[i]?=some u→Rep w bad D ρ c u):=by
 cases h with
 | frz h=>cases h with
   | fn g a b va vb hla hlb ha hb=>exact ⟨va,vb,rfl,hla,hlb,fun i c u hc hu=>.frz (ha i c u hc hu),fun i c u hc hu=>.frz (hb i c u hc hu)⟩
 | fn g a b va vb hla hlb ha hb=>exact ⟨va,vb,rfl,hla,hlb,ha,hb⟩

theorem rep_one {x:AV} {v:Value} (h:Rep w bad D ρ x v) (hx:isSc x=true):v.oneCell'=true∧v.cells=#[v]:=by
 cases h with
 | frz h=>cases h <;> first | exact ⟨rfl,rfl⟩ | (simp [isSc] at hx; done)
 | _=>first | exact ⟨rfl,rfl⟩ | (simp [isSc] at hx; done)

theorem rep_cells {x:AV} {v:Value} (h:Rep w bad D ρ x v) (hx:isSc x=true ∨ ∃ cs,x=.agg cs) :
 x.cells.length=v.cells.size∧∀ (i:Nat) (c:AV) (u:Value),x.cells[i]?=some c→v.cells[i]?=some u→Rep w bad D ρ c u:=by
 rcases hx with hx | ⟨cs,rfl⟩
 ·have e:x.cells=[x]:=by cases x <;> first | rfl | (simp [isSc] at hx; done)
  obtain ⟨_,e2⟩:=rep_one h hx
  rw [e,e2]
  refine ⟨rfl,fun i c u hc hu=>?_⟩
  cases i with
  | zero=>simp at hc hu; subst hc; subst hu; exact h
  | succ i=>simp at hc
 ·obtain ⟨vs,rfl,hl,hp⟩:=rep_agg h
  exact ⟨by simpa [AV.cells,Value.cells] using hl,fun i c u hc hu=>hp i c u (by simpa [AV.cells] using hc) (by simpa [Value.cells] using hu)⟩

theorem run_ag {t:TypeId} {ag:Bool} (h:agB P t=some ag):(isAgg t).run P w=.ok ag w:=by
 unfold agB at h
 unfold isAgg
 cases hu:P.underlying t with
 | none=>simp [hu] at h
 | some d =>
   simp only [Sem.run_bind,run_underlying hu,Result.andThen_ok]
   rw [hu] at h
   cases d <;> simp_all
theorem run_size {t:TypeId} {i:TypeInfo} (h:P.info? t=some i):(sizeOf t).run P w=.ok i.size w:=by simp [sizeOf,typeInfo,h]

theorem run_part {t:TypeId} {i:TypeInfo} {ag:Bool} (hi:P.info? t=some i) (ha:agB P t=some ag) (cs:Array Value) (off:Nat) :
 (part t cs off).run P w=if ag then .ok (.agg (cs.extract off (off+i.size))) w else match cs[off]? with
   | some v=>.ok v w
   | none => .halt (.stuck "part: no such cell") w := by
 unfold part
 simp only [Sem.run_bind,run_ag ha,Result.andThen_ok]
 cases ag with
 | true=>simp [run_size hi]
 | false=>simp only [Bool.false_eq_true,if_false]; cases cs[off]? <;> simp

theorem sub_rep {ag:Bool} {n j:Nat} {cs:List AV} {vs:List Value} {x:AV} (h:sub ag n j (.agg cs)=some x) (hl:cs.length=vs.length)
 (hp:∀ (i:Nat) (c:AV) (u:Value),cs[i]?=some c→vs[i]?=some u→Rep w bad D ρ c u) :
 ∃ v,(if ag then some (Value.agg (vs.toArray.extract j (j+n))) else vs[j]?)=some v∧Rep w bad D ρ x v:=by
 unfold sub at h
 cases ag with
 | true =>
   simp only [if_true] at h ⊢
   split at h
   ·rename_i hle
    obtain rfl:=Option.some.inj h
    refine ⟨_,rfl,?_⟩
    have e:vs.toArray.extract j (j+n)=((vs.drop j).take n).toArray:=by
     apply Array.ext'
     simp
    rw [e]
    refine .agg _ _ (by simp [hl]) fun i c u hc hu=>?_
    have hi:i < n:=by
     have:=(List.getElem?_eq_some_iff.mp hc).1
     simp at this; omega
    rw [List.getElem?_take_of_lt hi,List.getElem?_drop] at hc hu
    exact hp _ c u hc hu
   ·cases h
 | false =>
   simp only [Bool.false_eq_true,if_false] at h ⊢
   have hj:=(List.getElem?_eq_some_iff.mp h).1
   refine ⟨vs[j]'(by omega),List.getElem?_eq_getElem _,hp j x _ h (List.getElem?_eq_getElem _)⟩

theorem load_rep {t:TypeId} {i:TypeInfo} {ag:Bool} {j:Nat} {el x:AV} {b o:Nat} (hi:P.info? t=some i) (ha:agB P t=some ag) (h:sub ag i.size j el=some x)
 (hm:∀ (k:Nat) (c:AV),el.cells[k]?=some c→∃ v,w.cell? ⟨b,o+k,none⟩=some v∧Rep w bad D ρ c v) :
 ∃ v,(Instr.loadAt t (.pointer (some ⟨b,o+j,none⟩))).run P w=.ok v w∧Rep w bad D ρ x v:=by
 have hall:∀ (k:Nat),k < el.cells.length→∃ v,w.cell? ⟨b,o+k,none⟩=some v∧∀ c,el.cells[k]?=some c→Rep w bad D ρ c v:=by
  intro k hk
  obtain ⟨v,hv,hr⟩:=hm k _ (List.getElem?_eq_getElem hk)
  refine ⟨v,hv,fun c hc=>?_⟩
  rw [List.getElem?_eq_getElem hk] at hc
  cases hc; exact hr
 cases ag with
 | true =>
   obtain ⟨cs,rfl⟩:∃ cs,el=.agg cs:=by
    cases el <;> first | (simp [sub] at h; done) | exact ⟨_,rfl⟩
   simp only [sub,if_true] at h
   split at h
   ·rename_i hle
    obtain rfl:=Option.some.inj h
    simp only [AV.cells] at hall hm
    have hcell:∀ k,k < i.size→∃ v,w.cell? (Addr.add ⟨b,o+j,none⟩ k)=some v:=by
     intro k hk
     obtain ⟨v,hv,_⟩:=hall (j+k) (by omega)
     exact ⟨v,by rw [Addr.add_lit,Nat.add_assoc]; exact hv⟩
    let f:Nat→Value:=fun k=>(w.cell? (Addr.add ⟨b,o+j,none⟩ k)).getD undef
    have hf:∀ k,k < i.size→w.cell? (Addr.add ⟨b,o+j,none⟩ k)=some (f k):=by
     intro k hk
     obtain ⟨v,hv⟩:=hcell k hk
     simp only [f,hv,Option.getD_some]
    refine ⟨.agg ((List.range i.size).map f).toArray,?_,?_⟩
    ·simp only [Instr.loadAt,Instr.sureAddr,Sem.run_bind,Sem.run_pure,Result.andThen_ok,loadVar,run_ag ha,if_true,run_size hi,run_loadCells w _ _ f hf]
    ·refine .agg _ _ (by simp; omega) fun k c u hc hu=>?_
     have hk:k < i.size:=by
      have:=(List.getElem?_eq_some_iff.mp hc).1
      simp at this; omega
     rw [List.getElem?_take_of_lt hk,List.getElem?_drop] at hc
     obtain ⟨v,hv,hr⟩:=hm _ c hc
     simp [List.getElem?_range hk] at hu
     subst hu
     have:=hf k hk
     rw [Addr.add_lit,Nat.add_assoc,hv] at this
     cases this
     exact hr
   ·cases h
 | false =>
   have hx:el.cells[j]?=some x:=by
    cases el <;> simp [sub] at h <;> first | (simpa [AV.cells] using h) | (cases j <;> simp_all [AV.cells])
   obtain ⟨v,hv,hr⟩:=hm j x hx
   refine ⟨v,?_,hr⟩
   simp only [Instr.loadAt,Instr.sureAddr,Sem.run_bind,Sem.run_pure,Result.andThen_ok,loadVar,run_ag ha,Bool.false_eq_true,if_false,run_load,hv]

theorem elOk_sc {e:ETy} {x:AV} (h:elOk e x=true):(isSc x=true ∨ ∃ cs,x=.agg cs)∧x.cells.length=e.es∧(∀ c ∈ x.cells,isSc c=true):=by
 simp only [elOk,Bool.and_eq_true,beq_iff_eq,List.all_eq_true] at h
 refine ⟨?_,h.1,h.2⟩
 by_cases hx:∃ cs,x=.agg cs
 ·exact .inr hx
 ·left
  have e:x.cells=[x]:=by cases x <;> first | rfl | exact absurd ⟨_,rfl⟩ hx
  exact h.2 x (by rw [e]; simp)

theorem aLoad_rep {H H':Heap} {B:Nat} {t:TypeId} {i:TypeInfo} {ag:Bool} {p x:AV} {v:Value} (hi:P.info? t=some i) (ha:agB P t=some ag) (h:aLoad H ag i.size p=some x)
 (hR:HRel w bad ρ B H') (hD:∀ id,D id ↔ H'[id]?=some none) (hsame:∀ id u q,p=.ptr id u q→∀ b,hget H id=some b→ρ id ≠ .no→hget H' id=some b) (hdd:∀ id,D id→hget H id=none) (hv:Rep w bad D ρ p v) :
 ∃ u,(Instr.loadAt t v).run P w=.ok u w∧Rep w bad D ρ x u:=by
 have eD:D=fun id=>H'[id]?=some none:=funext fun id=>propext (hD id)
 cases p with
 | ptr id u q =>
   simp only [aLoad] at h
   have hs:=hsame id u q rfl
   cases hk:hget H id with
   | none=>simp [hk] at h
   | some k =>
     simp only [hk] at h
     have hk':ρ id ≠ .no→H'[id]?=some (some k):=by
      intro hn
      have hs:=hs k hk hn
      unfold hget at hs
      cases hq:H'[id]? with
      | none=>simp [hq] at hs
      | some y=>cases y with
        | none=>simp [hq] at hs
        | some y=>simp [hq] at hs; rw [hs]
     cases he:k.els[u]? with
     | none=>simp [he] at h
     | some el =>
       simp only [he] at h
       cases hv with
       | frz hv=>cases hv
       | ptrD b o hd=>rw [hdd _ hd] at hk; cases hk
       | ptr hρ =>
         rename_i b es cap
         obtain ⟨k2,hk2,hb⟩:=hR.real id b es cap hρ
         rw [hk' (by simp [hρ])] at hk2; cases hk2
         obtain ⟨cur,fz,hm1,hm2,hm3,hm4⟩:=hb.mem
         refine load_rep (bad:=bad) (D:=D) (ρ:=ρ) (o:=u * es) hi ha h fun c y hy=>?_
         obtain ⟨z,hz1,hz2⟩:=hm4 u el c y he hy
         refine ⟨z,?_,eD ▸ hz2⟩
         simp only [World.cell?,hm1]
         simpa using hz1
 | fptr y q =>
   simp only [aLoad] at h
   cases hv with
   | frz hv =>
     cases hv with
     | fptr _ b o _ vs hb hl hc hr =>
       exact load_rep hi ha h fun k c hk=>⟨vs k,hc k c hk,.frz (hr k c hk)⟩
 | _=>simp [aLoad] at h

theorem eqGuard_off (op:BinOp) (t:TypeId) (x y:Operand) (a b:Value) (h1:a ≠ .nilIface) (h2:∀ cs,a ≠ .agg cs):eqGuard op t x y a b=pure ():=by
 cases a <;> first | exact absurd rfl h1 | exact absurd rfl (h2 _) | (cases op <;> rfl)

theorem aBin_run {op:BinOp} {t:TypeId} {x y:Operand} {a b:AV} {va vb:Value} {r:AV} (h:aBin op a b=some r) (ha:Rep w bad D ρ a va) (hb:Rep w bad D ρ b vb) :
 ∃ v,(do eqGuard op t x y va vb; binOp op t va vb:Sem Value).run P w=.ok v w∧Rep w bad D ρ r v:=by
 cases a <;> cases b <;> (try (simp [aBin] at h; done))
 ·rename_i k n k' m
  obtain rfl:=rep_int ha
  obtain rfl:=rep_int hb
  rw [eqGuard_off _ _ _ _ _ _ (by simp) (by simp)]
  simp only [aBin] at h
  cases op
  case shl =>
   simp only [] at h
   split at h
   ·cases h
   ·rename_i hm
    obtain rfl:=Option.some.inj h
    exact ⟨_,by simp [binOp,Op.shift,hm],.frz (.int _ _)⟩
  case shr =>
   simp only [] at h
   split at h
   ·cases h
   ·rename_i hm
    obtain rfl:=Option.some.inj h
    exact ⟨_,by simp [binOp,Op.shift,hm],.frz (.int _ _)⟩
  case quo =>
   simp only [] at h
   split at h
   ·rename_i hk
    subst hk
    split at h
    ·cases h
    ·rename_i hm
     obtain rfl:=Option.some.inj h
     exact ⟨_,by simp [binOp,Op.intDiv,hm],.frz (.int _ _)⟩
   ·cases h
  case rem =>
   simp only [] at h
   split at h
   ·rename_i hk
    subst hk
    split at h
    ·cases h
    ·rename_i hm
     obtain rfl:=Option.some.inj h
     exact ⟨_,by simp [binOp,Op.intDiv,hm],.frz (.int _ _)⟩
   ·cases h
  all_goals
   simp only [] at h
   split at h
   ·rename_i hk
    subst hk
    obtain rfl:=Option.some.inj h
    refine ⟨_,?_,by first | exact .frz (.int _ _) | exact .frz (.bool _)⟩
    simp only [binOp_add,binOp_sub,binOp_mul,binOp_and,binOp_or,binOp_xor,binOp_andNot,binOp_eql,binOp_neq,binOp_lss,binOp_leq,binOp_gtr,binOp_geq,Op.intArith,intBits_and,intBits_or,intBits_xor,intBits_andNot,pure_bind,Sem.run_pure]
   ·cases h
 ·rename_i s u
  obtain rfl:=rep_str ha
  obtain rfl:=rep_str hb
  rw [eqGuard_off _ _ _ _ _ _ (by simp) (by simp)]
  have hl:∀ z:List UInt8,(⟨z.toArray⟩:ByteArray).toList=z:=fun z=>by simp [ByteArray.toList_eq]
  have hz:∀ z:List UInt8,(⟨z.toArray⟩:ByteArray).size=z.length:=fun z=>by simp [ByteArray.size]
  cases op <;> simp only [aBin] at h <;> first | (cases h; done) | skip
  case add =>
   split at h
   ·rename_i hle
    obtain rfl:=Option.some.inj h
    refine ⟨.string ⟨(s ++ u).toArray⟩,?_,.frz (.str _)⟩
    have hn:¬ (((⟨s.toArray⟩:ByteArray).size+(⟨u.toArray⟩:ByteArray).size:Nat):Int) > IntKind.i64.max:=by rw [hz,hz]; simp [IntKind.max,IntKind.signed,IntKind.bits]; omega
    simp only [binOp,Op.stringOp,Sem.run_bind,Sem.run_pure,Result.andThen_ok,if_neg hn]
    congr 2
   ·cases h
  all_goals
   obtain rfl:=Option.some.inj h
   refine ⟨_,?_,.frz (.bool _)⟩
   simp [binOp,Op.stringOp,hl]

theorem aUn_run {op:UnOp} {a:AV} {va:Value} {r:AV} (h:aUn op a=some r) (ha:Rep w bad D ρ a va):∃ v,(Op.unary op va).run P w=.ok v w∧Rep w bad D ρ r v:=by
 cases a <;> (try (simp [aUn] at h; done))
 ·obtain rfl:=rep_int ha
  cases op <;> simp only [aUn] at h <;> first | (cases h; done) | skip
  ·obtain rfl:=Option.some.inj h
   exact ⟨_,by simp [Op.unary,Op.intArith],.frz (.int _ _)⟩
  ·obtain rfl:=Option.some.inj h
   exact ⟨_,by simp [Op.unary,Op.intBits,bits],.frz (.int _ _)⟩
 ·obtain rfl:=rep_bool ha
  cases op <;> simp only [aUn] at h <;> first | (cases h; done) | skip
  obtain rfl:=Option.some.inj h
  exact ⟨_,by simp [Op.unary],.frz (.bool _)⟩
end
end Go.Proofs.Ytdceaeifcniabaa.AE

namespace Go.Proofs.Ytdceaeifcniabaa.AE
set_option linter.unusedVariables false
set_option linter.unusedSimpArgs false
set_option linter.constructorNameAsVariable false
open Go Go.RowKit

def isPure:IOp→Bool
 | .box .. | .alloc .. | .mkrow .. | .store .. | .s2b .. | .mkslice .. | .call .. | .app .. | .eqv ..=>false
 | _=>true

theorem agree_of {H:Heap} {id:Nat} {b:Blk} (h:hget H id=some b):H[id]?=some (some b):=by
 unfold hget at h
 split at h
 ·cases h; assumption
 ·cases h
theorem hget_of {H:Heap} {id:Nat} {b:Blk} (h:H[id]?=some (some b)):hget H id=some b:=by simp [hget,h]

section
variable {P:Program} {w:World} {bad D:Nat→Prop} {ρ:Rho} {a:Act} {ev:Opd→AV} {o:Oper}

def OpsOk (w:World) (bad D:Nat→Prop) (ρ:Rho) (a:Act) (ev:Opd→AV) (xs:List Operand):Prop :=
 ∀ x ∈ xs,∀ y,cOpd x=some y→Rep w bad D ρ (ev y) (a.eval x)

theorem opt_some {α β:Type} {o:Option α} {f:α→β} {b:β} (h:o.map f=some b):∃ a,o=some a∧f a=b:=by
 cases o with
 | none=>simp at h
 | some a=>exact ⟨a,rfl,by simpa using h⟩

theorem getD_some {cs:List Value} {i:Nat} (h:i < cs.length):cs[i]?=some (cs.getD i undef):=by
 rw [List.getD_eq_getElem?_getD,List.getElem?_eq_getElem h]; rfl

theorem opds_rep {xs:List Operand} {ys:List Opd} (h:cOpds xs=some ys) (hO:OpsOk w bad D ρ a ev xs) :
 (ys.map ev).length=(xs.map a.eval).length∧∀ (i:Nat) (c:AV) (u:Value),(ys.map ev)[i]?=some c→(xs.map a.eval)[i]?=some u→Rep w bad D ρ c u:=by
 obtain ⟨h1,h2⟩:=optAll_spec h
 refine ⟨by simp [h1],fun i c u hc hu=>?_⟩
 rw [List.getElem?_map] at hc hu
 obtain ⟨x,hx,rfl⟩:=Option.map_eq_some_iff.mp hu
 obtain ⟨y,hy,he⟩:=h2 i x hx
 rw [hy] at hc
 simp at hc
 subst hc
 exact hO x (List.mem_of_getElem? hx) y he

def OptRep (w:World) (bad D:Nat→Prop) (ρ:Rho) (x:Option AV) (v:Option Value):Prop:=(x=none∧v=none) ∨ ∃ y u,x=some y∧v=some u∧Rep w bad D ρ y u

theorem optOpd_rep {x:Option Operand} {y:Option Opd} {xs:List Operand} (h:cOptOpd x=some y) (hO:OpsOk w bad D ρ a ev xs) (hx:∀ z,x=some z→z ∈ xs):OptRep w bad D ρ (y.map ev) (x.map a.eval):=by
 cases x with
 | none=>simp [cOptOpd] at h; subst h; exact .inl ⟨rfl,rfl⟩
 | some z =>
   simp only [cOptOpd] at h
   cases hz:cOpd z with
   | none=>simp [hz] at h
   | some z' =>
     simp [hz] at h
     subst h
     exact .inr ⟨_,_,rfl,rfl,hO z (hx z rfl) z' hz⟩

theorem bound_run {x:Option AV} {v:Option Value} {d top n:Nat} (h:bound x d top=some n) (hv:OptRep w bad D ρ x v) :
 (x=none∧v=none∧n=d) ∨ (∃ k i,v=some (.int k i)∧0≤i∧i≤(top:Int)∧n=i.toNat∧x.isSome=true):=by
 rcases hv with ⟨rfl,rfl⟩ | ⟨y,u,rfl,rfl,hr⟩
 ·simp [bound] at h; exact .inl ⟨rfl,rfl,h.symm⟩
 ·right
  simp only [bound] at h
  cases y <;> simp [aInt] at h
  rename_i k i
  obtain rfl:=rep_int hr
  exact ⟨k,i,rfl,h.1.1,h.1.2,h.2.symm,rfl⟩

theorem sliceBounds_run {isSlice:Bool} {n cap l h m:Nat} {lo hi mx:Option AV} {lo' hi' mx':Option Value} (hm:bound mx n n=some m) (hh:bound hi n m=some h) (hl:bound lo 0 h=some l) (hc:n≤cap)
 (rl:OptRep w bad D ρ lo lo') (rh:OptRep w bad D ρ hi hi') (rm:OptRep w bad D ρ mx mx') (hx:mx.isSome=true→hi.isSome=true) :
 (Instr.sliceBounds isSlice n cap lo' hi' mx').run P w=.ok (l,h,if mx.isSome then m else cap) w∧l≤h∧h≤m∧m≤n:=by
 have q1:=bound_run hm rm
 have q2:=bound_run hh rh
 have q3:=bound_run hl rl
 rcases q1 with ⟨rfl,rfl,rfl⟩ | ⟨k1,i1,rfl,a1,b1,rfl,c1⟩ <;> rcases q2 with ⟨rfl,rfl,rfl⟩ | ⟨k2,i2,rfl,a2,b2,rfl,c2⟩ <;> rcases q3 with ⟨rfl,rfl,rfl⟩ | ⟨k3,i3,rfl,a3,b3,rfl,c3⟩
 all_goals (try (simp at hx; simp [c1] at hx; done))
 all_goals
  simp only [Instr.sliceBounds,Instr.sliceBound,asIntOf,Sem.run_bind,Sem.run_pure,Result.andThen_ok]
 case inl.inl.inl=>exact ⟨rfl,by omega,by omega,by omega⟩
 case inl.inl.inr=>rw [if_pos ⟨a3,b3⟩]; exact ⟨rfl,by omega,by omega,by omega⟩
 case inl.inr.inl=>rw [if_pos ⟨a2,by omega⟩]; exact ⟨rfl,by omega,by omega,by omega⟩
 case inl.inr.inr =>
  rw [if_pos ⟨a2,by omega⟩]
  simp only [Sem.run_pure,Result.andThen_ok]
  rw [if_pos ⟨a3,b3⟩]; exact ⟨rfl,by omega,by omega,by omega⟩
 case inr.inr.inl =>
  rw [if_pos ⟨a1,by omega⟩]
  simp only [Sem.run_pure,Result.andThen_ok]
  rw [if_pos ⟨a2,b2⟩]
  exact ⟨by simp [c1],by omega,by omega,by omega⟩
 case inr.inr.inr =>
  rw [if_pos ⟨a1,by omega⟩]
  simp only [Sem.run_pure,Result.andThen_ok]
  rw [if_pos ⟨a2,b2⟩]
  simp only [Sem.run_pure,Result.andThen_ok]
  rw [if_pos ⟨a3,b3⟩]
  exact ⟨by simp [c1],by omega,by omega,by omega⟩
 all_goals (exfalso; simp_all)

theorem lenOf_rep {H H':Heap} {x:AV} {n:Nat} {v:Value} (h:lenOf H x=some n) (hD:∀ id,D id ↔ H'[id]?=some none)
 (hsh:∀ id b,hget H id=some b→∃ b',hget H' id=some b'∧b'.els.length=b.els.length) (hv:Rep w bad D ρ x v) :
 ∃ ad c,v=.slice ad n c∧n≤c∧((∃ b,x=.zsl b∧c=0) ∨ (∃ l,x=.lst l∧n=l.length) ∨ ((∃ id q,x=.slc id q n) ∨ ∃ id q,x=.slk id q n) ∨ (x=.emp∧n=0))∧(ad=none→c=0):=by
 cases x <;> simp [lenOf] at h
 ·subst h
  cases hv with
  | frz hv=>cases hv with
    | znil=>exact ⟨_,_,rfl,Nat.le_refl _,.inl ⟨_,rfl,rfl⟩,fun _=>rfl⟩
    | zsl a=>exact ⟨_,_,rfl,Nat.le_refl _,.inl ⟨_,rfl,rfl⟩,fun _=>rfl⟩
 ·rename_i id q m
  cases hg:hget H id with
  | none=>simp [hg] at h
  | some b =>
    simp [hg] at h
    subst h
    obtain ⟨b',hb',_⟩:=hsh id b hg
    cases hv with
    | frz hv=>cases hv
    | slc hρ hc hn=>exact ⟨_,_,rfl,hn,.inr (.inr (.inl (.inl ⟨_,_,rfl⟩))),fun h=>by cases h⟩
    | slcV ad hρ=>exact ⟨_,_,rfl,Nat.le_refl _,.inr (.inr (.inl (.inl ⟨_,_,rfl⟩))),fun _=>rfl⟩
    | slcD ad c hd=>rw [hD,agree_of hb'] at hd; cases hd
 ·subst h
  cases hv with
  | frz hv=>cases hv with
    | lst0 a c h=>exact ⟨_,_,rfl,Nat.zero_le _,.inr (.inl ⟨_,rfl,rfl⟩),h⟩
    | lst l b o es c vs hn he hb hl hs hc hr=>exact ⟨_,_,rfl,hn,.inr (.inl ⟨_,rfl,rfl⟩),fun h=>by cases h⟩
 ·subst h
  cases hv with
  | frz hv=>cases hv with
    | emp a c=>exact ⟨_,_,rfl,Nat.zero_le _,.inr (.inr (.inr ⟨rfl,rfl⟩)),fun h=>by cases h⟩
 ·rename_i id q m
  cases hg:hget H id with
  | none=>simp [hg] at h
  | some b =>
    simp [hg] at h
    subst h
    obtain ⟨b',hb',_⟩:=hsh id b hg
    cases hv with
    | frz hv=>cases hv
    | slk hρ hc=>exact ⟨_,_,rfl,Nat.le_refl _,.inr (.inr (.inl (.inr ⟨_,_,rfl⟩))),fun h=>by cases h⟩
    | slkD ad hd=>rw [hD,agree_of hb'] at hd; cases hd

theorem shift_rep {x y:AV} {d:Nat} {v:Value} (h:aShift d x=some y) (hv:Rep w bad D ρ x v):∃ b o,v=.pointer (some ⟨b,o,none⟩)∧Rep w bad D ρ y (.pointer (some ⟨b,o+d,none⟩)):=by
 cases x <;> simp [aShift] at h
 ·subst h
  cases hv with
  | frz hv=>cases hv
  | ptr hρ=>exact ⟨_,_,rfl,by rw [Nat.add_assoc]; exact .ptr hρ⟩
  | ptrD b o hd=>exact ⟨_,_,rfl,.ptrD _ _ hd⟩
 ·subst h
  cases hv with
  | frz hv=>cases hv with
    | fptr y b o j vs hb hl hc hr=>exact ⟨_,_,rfl,by rw [Nat.add_assoc]; exact .frz (.fptr _ _ _ _ _ hb hl hc hr)⟩

theorem opd_rep {x:Operand} {y:Opd} {xs:List Operand} (h:cOpd x=some y) (hO:OpsOk w bad D ρ a ev xs) (hx:x ∈ xs):Rep w bad D ρ (ev y) (a.eval x):=hO x hx y h

theorem min_run:∀ (l:List AV) (vs:List Value) (k:IntKind) (x:Int) (r:AV),l.length=vs.length→(∀ (i:Nat) (c:AV) (u:Value),l[i]?=some c→vs[i]?=some u→Rep w bad D ρ c u) →
 l.foldl minStep (some (.int k x))=some r→∃ v,(vs.foldlM Builtin.min2 (.int k x):Sem Value).run P w=.ok v w∧Rep w bad D ρ r v
 | [],vs,k,x,r,hl,_,h=>by
   cases vs with
   | nil=>simp at h; subst h; exact ⟨_,rfl,.frz (.int _ _)⟩
   | cons v vs=>simp at hl
 | c::l,vs,k,x,r,hl,hp,h=>by
   cases vs with
   | nil=>simp at hl
   | cons u vs =>
     have h0:=hp 0 c u rfl rfl
     simp only [List.foldl_cons] at h
     have hn:∀ l:List AV,l.foldl minStep none=none:=fun l=>by induction l with
      | nil=>rfl
      | cons b l ih=>exact ih
     cases c <;> (try (simp only [minStep,hn] at h; cases h; done))
     rename_i k' y
     obtain rfl:=rep_int h0
     simp only [minStep] at h
     split at h
     ·rename_i hk
      subst hk
      obtain ⟨v,h1,h2⟩:=min_run l vs k _ r (by simpa using hl) (fun i c u hc hu=>hp (i+1) c u (by simpa using hc) (by simpa using hu)) h
      exact ⟨v,by simp only [List.foldlM_cons,Builtin.min2,Sem.run_bind,Sem.run_pure,Result.andThen_ok]; exact h1,h2⟩
     ·simp only [hn] at h; cases h

theorem max_run:∀ (l:List AV) (vs:List Value) (k:IntKind) (x:Int) (r:AV),l.length=vs.length→(∀ (i:Nat) (c:AV) (u:Value),l[i]?=some c→vs[i]?=some u→Rep w bad D ρ c u) →
 l.foldl maxStep (some (.int k x))=some r→∃ v,(vs.foldlM Builtin.max2 (.int k x):Sem Value).run P w=.ok v w∧Rep w bad D ρ r v
 | [],vs,k,x,r,hl,_,h=>by
   cases vs with
   | nil=>simp at h; subst h; exact ⟨_,rfl,.frz (.int _ _)⟩
   | cons v vs=>simp at hl
 | c::l,vs,k,x,r,hl,hp,h=>by
   cases vs with
   | nil=>simp at hl
   | cons u vs =>
     have h0:=hp 0 c u rfl rfl
     simp only [List.foldl_cons] at h
     have hn:∀ l:List AV,l.foldl maxStep none=none:=fun l=>by induction l with
      | nil=>rfl
      | cons b l ih=>exact ih
     cases c <;> (try (simp only [maxStep,hn] at h; cases h; done))
     rename_i k' y
     obtain rfl:=rep_int h0
     simp only [maxStep] at h
     split at h
     ·rename_i hk
      subst hk
      obtain ⟨v,h1,h2⟩:=max_run l vs k _ r (by simpa using hl) (fun i c u hc hu=>hp (i+1) c u (by simpa using hc) (by simpa using hu)) h
      exact ⟨v,by simp only [List.foldlM_cons,Builtin.max2,Sem.run_bind,Sem.run_pure,Result.andThen_ok]; exact h1,h2⟩
     ·simp only [hn] at h; cases h

theorem zip_fold (off:Nat):∀ (l:List Value) (k:Nat) (cs:Array Value),off+k+l.length≤cs.size →
 ((l.zipIdx k).foldl (fun (cs:Array Value) (x:Value × Nat)=>cs.setIfInBounds (off+x.2) x.1) cs).toList=cs.toList.take (off+k) ++ l ++ cs.toList.drop (off+k+l.length)
 | [],k,cs,_=>by simp
 | v::l,k,cs,h=>by
   simp only [List.zipIdx_cons,List.foldl_cons]
   rw [zip_fold off l (k+1) _ (by simp at h ⊢; omega)]
   simp at h
   apply List.ext_getElem?
   intro i
   simp only [Array.toList_setIfInBounds,List.getElem?_append,List.length_append,List.length_take,List.length_set,List.getElem?_take,List.getElem?_drop,List.getElem?_set,Array.length_toList,List.length_cons,List.getElem?_cons]
   repeat' split
   all_goals (try rfl)
   all_goals (try omega)
   all_goals (try (congr 1; omega))
   all_goals (first | (simp_all; done) | (exfalso; omega) | skip)

theorem fill_run (place:Nat→Option (Nat × Nat)):∀ (ps:List (Nat × Nat × AV)) (qs:List (Nat × Value)) (cs:List AV) (vs:List Value) (cs':List AV),ps.length=qs.length→cs.length=vs.length →
 (∀ (i:Nat) (c:AV) (u:Value),cs[i]?=some c→vs[i]?=some u→Rep w bad D ρ c u) →
 (∀ (i:Nat) (p:Nat × Nat × AV) (q:Nat × Value),ps[i]?=some p→qs[i]?=some q→place q.1=some (p.1,p.2.1)∧Rep w bad D ρ p.2.2 q.2)→fillP cs ps=some cs' →
 ∃ vs':List Value,Instr.fill place vs.toArray qs=some vs'.toArray∧cs'.length=vs'.length∧cs'.length=cs.length∧∀ (i:Nat) (c:AV) (u:Value),cs'[i]?=some c→vs'[i]?=some u→Rep w bad D ρ c u
 | [],qs,cs,vs,cs',hl,hn,hp,_,h=>by
   cases qs with
   | nil=>simp [fillP] at h; subst h; exact ⟨vs,rfl,hn,rfl,hp⟩
   | cons q qs=>simp at hl
 | (off,n,x)::ps,qs,cs,vs,cs',hl,hn,hp,hq,h=>by
   cases qs with
   | nil=>simp at hl
   | cons q qs =>
     obtain ⟨h1,h2⟩:=hq 0 _ _ rfl rfl
     simp only [fillP] at h
     split at h
     ·rename_i hx
      obtain ⟨hx,hsc⟩:=hx
      split at h
      ·rename_i hle
       have hxx:isSc x=true ∨ ∃ c,x=.agg c:=by
        cases x <;> simp_all [AV.cells,isSc]
       obtain ⟨e1,e2⟩:=rep_cells h2 hxx
       obtain ⟨i0,u⟩:=q
       simp only at h1 h2 e1 e2
       have hz:(u.cells.zipIdx.foldl (fun (cs:Array Value) (x:Value × Nat)=>cs.setIfInBounds (off+x.2) x.1) vs.toArray)=(vs.take off ++ u.cells.toList ++ vs.drop (off+n)).toArray:=by
        obtain ⟨ul⟩:Nonempty (∃ l:List Value,u.cells=l.toArray):=⟨⟨u.cells.toList,by simp⟩⟩
        obtain ⟨ul,hul⟩:=ul
        have hlen:ul.length=n:=by rw [hul] at e1; simp at e1; omega
        have z:=zip_fold off ul 0 vs.toArray (by simp; omega)
        rw [hul]
        apply Array.ext'
        have e3:ul.toArray.zipIdx=(ul.zipIdx 0).toArray:=by simp
        rw [e3,List.foldl_toArray]
        simpa [hlen] using z
       obtain ⟨vs',f1,f2,f3,f4⟩:=fill_run place ps qs (cs.take off ++ x.cells ++ cs.drop (off+n)) (vs.take off ++ u.cells.toList ++ vs.drop (off+n)) cs' (by simpa using hl) (by simp [hn]; omega)
        (by
          intro i c z hc hz'
          by_cases h1:i < off
          ·rw [List.append_assoc,List.getElem?_append_left (by simp; omega),List.getElem?_take_of_lt h1] at hc hz'
           exact hp i c z hc hz'
          ·by_cases h3:i < off+n
           ·rw [List.append_assoc,List.getElem?_append_right (by simp; omega),List.getElem?_append_left (by simp; omega)] at hc
            rw [List.append_assoc,List.getElem?_append_right (by simp; omega),List.getElem?_append_left (by simp; omega)] at hz'
            have q1:min off cs.length=off:=by omega
            have q2:min off vs.length=off:=by omega
            simp only [List.length_take,q1,q2] at hc hz'
            exact e2 (i - off) c z hc (by simpa using hz')
           ·rw [List.getElem?_append_right (by simp; omega)] at hc hz'
            simp only [List.length_append,List.length_take,List.getElem?_drop,Array.length_toList] at hc hz'
            have q1:off+n+(i - (min off cs.length+x.cells.length))=i:=by omega
            have q2:off+n+(i - (min off vs.length+u.cells.size))=i:=by omega
            rw [q1] at hc; rw [q2] at hz'
            exact hp i c z hc hz') (fun i p q hp hq'=>hq (i+1) p q (by simpa using hp) (by simpa using hq')) h
       refine ⟨vs',?_,f2,by rw [f3]; simp; omega,f4⟩
       unfold Instr.fill
       simp only [h1]
       rw [if_neg (by simp; omega)]
       exact (congrArg (fun z=>Instr.fill place z qs) hz).trans f1
      ·cases h
     ·cases h
end
end Go.Proofs.Ytdceaeifcniabaa.AE

namespace Go.Proofs.Ytdceaeifcniabaa.AE
set_option linter.unusedVariables false
set_option linter.unusedSimpArgs false
set_option linter.constructorNameAsVariable false
open Go Go.RowKit

section
variable {P:Program} {w:World} {bad D:Nat→Prop} {ρ:Rho} {a:Act} {ev:Opd→AV} {o:Oper}

def Says (P:Program) (w:World) (bad D:Nat→Prop) (ρ:Rho) (a:Act) (o:Oper) (v:AV):Prop :=
 ∃ cv,(execOp a.eval o).run P w=.ok (.value cv) w∧Rep w bad D ρ v cv

theorem says_mov {x:Operand} {y:Opd} (ho:o.op=.move x ∨ o.op=.assign x) (hx:cOpd x=some y) (hO:OpsOk w bad D ρ a ev o.op.operands.toList):Says P w bad D ρ a o (ev y):=by
 rcases ho with ho | ho
 all_goals exact ⟨a.eval x,by simp [execOp,ho],hO x (by simp [ho,Op.operands]) y hx⟩

theorem says_pick {c x y:Operand} {c' x' y':Opd} {t:Bool} (ho:o.op=.pick c x y) (hc:cOpd c=some c') (hx:cOpd x=some x') (hy:cOpd y=some y') (ht:ev c'=.bool t) (hO:OpsOk w bad D ρ a ev o.op.operands.toList) :
 Says P w bad D ρ a o (bif t then ev x' else ev y'):=by
 have h1:=hO c (by simp [ho,Op.operands]) c' hc
 have h2:=hO x (by simp [ho,Op.operands]) x' hx
 have h3:=hO y (by simp [ho,Op.operands]) y' hy
 rw [ht] at h1
 have e:=rep_bool h1
 cases t with
 | true=>exact ⟨a.eval x,by simp [execOp,ho,e,asBool],h2⟩
 | false=>exact ⟨a.eval y,by simp [execOp,ho,e,asBool],h3⟩

theorem says_bin {op:BinOp} {t u:TypeId} {x y:Operand} {x' y':Opd} {v:AV} (ho:o.op=.binOp op t x y u) (hx:cOpd x=some x') (hy:cOpd y=some y') (hv:aBin op (ev x') (ev y')=some v) (hO:OpsOk w bad D ρ a ev o.op.operands.toList) :
 Says P w bad D ρ a o v:=by
 have h2:=hO x (by simp [ho,Op.operands]) x' hx
 have h3:=hO y (by simp [ho,Op.operands]) y' hy
 obtain ⟨r,hr,hp⟩:=aBin_run (P:=P) (t:=t) (x:=x) (y:=y) hv h2 h3
 exact ⟨r,by simp only [execOp,ho,Sem.run_bind] at hr ⊢; simp only [hr,Result.andThen_ok,Sem.run_pure],hp⟩

theorem says_un {op:UnOp} {t:TypeId} {x:Operand} {x':Opd} {v:AV} (ho:o.op=.unOp op t x) (hx:cOpd x=some x') (hv:aUn op (ev x')=some v) (hO:OpsOk w bad D ρ a ev o.op.operands.toList):Says P w bad D ρ a o v:=by
 have h2:=hO x (by simp [ho,Op.operands]) x' hx
 obtain ⟨r,hr,hp⟩:=aUn_run (P:=P) hv h2
 exact ⟨r,by simp [execOp,ho,hr],hp⟩

theorem says_load {H H':Heap} {B:Nat} {t:TypeId} {i:TypeInfo} {ag:Bool} {x:Operand} {x':Opd} {v:AV} (ho:o.op=.load t x) (hi:P.info? t=some i) (ha:agB P t=some ag) (hx:cOpd x=some x')
 (hv:aLoad H ag i.size (ev x')=some v) (hR:HRel w bad ρ B H') (hD:∀ id,D id ↔ H'[id]?=some none) (hsame:∀ id u q,ev x'=.ptr id u q→∀ b,hget H id=some b→ρ id ≠ .no→hget H' id=some b) (hdd:∀ id,D id→hget H id=none)
 (hO:OpsOk w bad D ρ a ev o.op.operands.toList):Says P w bad D ρ a o v:=by
 have h2:=hO x (by simp [ho,Op.operands]) x' hx
 obtain ⟨u,hu,hp⟩:=aLoad_rep hi ha hv hR hD hsame hdd h2
 exact ⟨u,by simp [execOp,ho,hu],hp⟩

theorem says_nilck {x:Operand} {x':Opd} {v:AV} (ho:o.op=.nilCheck x) (hx:cOpd x=some x')
 (hv:(∃ id i j,ev x'=.ptr id i j) ∨ (∃ y j,ev x'=.fptr y j) ∨ (∃ g p q,ev x'=.fn g p q)) (he:v=ev x') (hO:OpsOk w bad D ρ a ev o.op.operands.toList):Says P w bad D ρ a o v:=by
 have h2:=hO x (by simp [ho,Op.operands]) x' hx
 subst he
 refine ⟨a.eval x,?_,h2⟩
 have hX:∃ V,a.eval x=V:=⟨_,rfl⟩
 obtain ⟨V,hX⟩:=hX
 rw [hX] at h2
 rcases hv with ⟨id,i,j,e⟩ | ⟨y,j,e⟩ | ⟨g,p,q,e⟩
 ·rw [e] at h2
  obtain ⟨b,o',h3⟩:∃ b o,V=.pointer (some ⟨b,o,none⟩):=by
   cases h2 with
   | frz h=>cases h
   | ptr h=>exact ⟨_,_,rfl⟩
   | ptrD b o h=>exact ⟨_,_,rfl⟩
  simp [execOp,ho,hX,h3]
 ·rw [e] at h2
  obtain ⟨b,o',h3⟩:∃ b o,V=.pointer (some ⟨b,o,none⟩):=by
   cases h2 with
   | frz h=>cases h with
     | fptr=>exact ⟨_,_,rfl⟩
  simp [execOp,ho,hX,h3]
 ·rw [e] at h2
  obtain ⟨va,vb,h3,_⟩:=rep_fn h2
  simp [execOp,ho,hX,h3]

theorem says_conv {s d:TypeId} {ds:TypeDesc} {k k0:IntKind} {n:Int} {x:Operand} {x':Opd} (ho:o.op=.convert s d x) (hs:P.underlying s=some ds) (hd:P.underlying d=some (.int k)) (hx:cOpd x=some x') (hv:ev x'=.int k0 n)
 (hO:OpsOk w bad D ρ a ev o.op.operands.toList):Says P w bad D ρ a o (.int k (k.wrap n)):=by
 have h2:=hO x (by simp [ho,Op.operands]) x' hx
 rw [hv] at h2
 have e:=rep_int h2
 exact ⟨.int k (k.wrap n),by simp [execOp,ho,e,convert,run_underlying hs,run_underlying hd,Conv.intToInt],.frz (.int _ _)⟩

theorem says_cid {s d:TypeId} {l:List UInt8} {x:Operand} {x':Opd} (ho:o.op=.convert s d x) (hs:P.underlying s=some .string) (hd:P.underlying d=some .string) (hx:cOpd x=some x') (hv:ev x'=.str l)
 (hO:OpsOk w bad D ρ a ev o.op.operands.toList):Says P w bad D ρ a o (.str l):=by
 have h2:=hO x (by simp [ho,Op.operands]) x' hx
 rw [hv] at h2
 have e:=rep_str h2
 exact ⟨_,by simp [execOp,ho,e,convert,run_underlying hs,run_underlying hd],.frz (.str _)⟩

theorem says_mkfn {g:FuncId} {p q:Array Operand} {p' q':List Opd} (ho:o.op=.makeFunc (.func g) p q) (hp:cOpds p.toList=some p') (hq:cOpds q.toList=some q') (hO:OpsOk w bad D ρ a ev o.op.operands.toList) :
 Says P w bad D ρ a o (.fn g (p'.map ev) (q'.map ev)):=by
 obtain ⟨h1,h2⟩:=opds_rep hp (fun x hx y hy=>hO x (by simp [ho,Op.operands] at hx ⊢; exact .inl hx) y hy)
 obtain ⟨h3,h4⟩:=opds_rep hq (fun x hx y hy=>hO x (by simp [ho,Op.operands] at hx ⊢; exact .inr hx) y hy)
 refine ⟨.func (.func g) (p.toList.map a.eval).toArray (q.toList.map a.eval).toArray,?_,.fn g _ _ _ _ h1 h3 h2 h4⟩
 have e1:∀ p:Array Operand,p.map a.eval=(p.toList.map a.eval).toArray:=fun p=>by simp [← Array.toList_map]
 simp only [execOp,ho,Instr.makeFunc,Sem.run_bind,Sem.run_pure,Result.andThen_ok,e1]

theorem says_extr {x:Operand} {x':Opd} {i:Nat} {vs:List AV} {v:AV} (ho:o.op=.extract x i) (hx:cOpd x=some x') (hv:ev x'=.tup vs) (hi:vs[i]?=some v) (hO:OpsOk w bad D ρ a ev o.op.operands.toList):Says P w bad D ρ a o v:=by
 have h2:=hO x (by simp [ho,Op.operands]) x' hx
 rw [hv] at h2
 obtain ⟨us,e,hl,hp⟩:=rep_tup h2
 have hlt:=(List.getElem?_eq_some_iff.mp hi).1
 have hu:us[i]?=some (us[i]'(by omega)):=List.getElem?_eq_getElem _
 refine ⟨us[i]'(by omega),?_,hp i v _ hi hu⟩
 simp only [execOp,ho,e,Instr.extract,List.getElem?_toArray,hu,Sem.run_bind,Sem.run_pure,Result.andThen_ok]

theorem says_fld {s:TypeId} {fs:Array Field} {fd:Field} {f:Nat} {i:TypeInfo} {ag:Bool} {x:Operand} {x':Opd} {cs:List AV} {v:AV} (ho:o.op=.field s x f) (hs:P.underlying s=some (.struct fs)) (hf:fs[f]?=some fd)
 (hi:P.info? fd.type=some i) (ha:agB P fd.type=some ag) (hx:cOpd x=some x') (hv:ev x'=.agg cs) (hsub:sub ag i.size fd.offset (.agg cs)=some v) (hO:OpsOk w bad D ρ a ev o.op.operands.toList):Says P w bad D ρ a o v:=by
 have h2:=hO x (by simp [ho,Op.operands]) x' hx
 rw [hv] at h2
 obtain ⟨us,e,hl,hp⟩:=rep_agg h2
 obtain ⟨r,hr,hrep⟩:=sub_rep hsub hl hp
 refine ⟨r,?_,hrep⟩
 simp only [execOp,ho,e,Instr.field,Sem.run_bind,run_underlying hs,Result.andThen_ok,hf,asAgg,Sem.run_pure,run_part hi ha]
 cases ag with
 | true=>simp at hr ⊢; exact hr
 | false=>simp at hr ⊢; simp [hr]

theorem says_fldA {s:TypeId} {fs:Array Field} {fd:Field} {f:Nat} {i:TypeInfo} {x:Operand} {x':Opd} {v:AV} (ho:o.op=.fieldAddr s x f) (hs:P.underlying s=some (.struct fs)) (hf:fs[f]?=some fd)
 (hi:P.info? fd.type=some i) (hz:0 < i.size) (hx:cOpd x=some x') (hv:aShift fd.offset (ev x')=some v) (hO:OpsOk w bad D ρ a ev o.op.operands.toList):Says P w bad D ρ a o v:=by
 have h2:=hO x (by simp [ho,Op.operands]) x' hx
 obtain ⟨b,q,e,hrep⟩:=shift_rep hv h2
 refine ⟨_,?_,hrep⟩
 have hne:¬ i.size=0:=by omega
 simp [execOp,ho,e,Instr.fieldAt,run_underlying hs,hf,Instr.sureAddr,fieldPlace,run_size hi,hne,Addr.add_lit]

theorem says_ixAA {t et:TypeId} {n:Nat} {i:TypeInfo} {x y:Operand} {x' y':Opd} {k:IntKind} {q:Int} {v:AV} (ho:o.op=.indexAddr t x y) (hs:P.underlying t=some (.array n et)) (hi:P.info? et=some i) (hx:cOpd x=some x') (hy:cOpd y=some y')
 (hq:ev y'=.int k q) (hb:0≤q∧q < (n:Int)) (hv:aShift (q.toNat * i.size) (ev x')=some v) (hO:OpsOk w bad D ρ a ev o.op.operands.toList):Says P w bad D ρ a o v:=by
 have h2:=hO x (by simp [ho,Op.operands]) x' hx
 have h3:=hO y (by simp [ho,Op.operands]) y' hy
 rw [hq] at h3
 have e3:=rep_int h3
 obtain ⟨b,u,e,hrep⟩:=shift_rep hv h2
 refine ⟨_,?_,hrep⟩
 simp [execOp,ho,e,e3,Instr.indexAt,asIntOf,run_underlying hs,Instr.sureAddr,hb,run_size hi,Addr.add_lit]

theorem says_ixS {t:TypeId} {x y:Operand} {x' y':Opd} {k:IntKind} {q:Int} {s:List UInt8} {c:UInt8} (ho:o.op=.index t x y) (hs:P.underlying t=some .string) (hx:cOpd x=some x') (hy:cOpd y=some y')
 (hq:ev y'=.int k q) (hv:ev x'=.str s) (h0:0≤q) (hc:s[q.toNat]?=some c) (hO:OpsOk w bad D ρ a ev o.op.operands.toList):Says P w bad D ρ a o (.int .u8 c.toNat):=by
 have h2:=hO x (by simp [ho,Op.operands]) x' hx
 have h3:=hO y (by simp [ho,Op.operands]) y' hy
 rw [hq] at h3
 rw [hv] at h2
 have e3:=rep_int h3
 have e2:=rep_str h2
 refine ⟨.int .u8 c.toNat,?_,.frz (.int _ _)⟩
 have hg:(⟨s.toArray⟩:ByteArray)[q.toNat]?=some c:=by
  obtain ⟨hlt,he⟩:=List.getElem?_eq_some_iff.mp hc
  have:q.toNat < (⟨s.toArray⟩:ByteArray).size:=by simpa [ByteArray.size] using hlt
  rw [getElem?_pos (⟨s.toArray⟩:ByteArray) q.toNat this]
  simp only [Option.some.injEq]
  exact he
 simp [execOp,ho,e2,e3,Instr.index,asIntOf,run_underlying hs,h0,hg]

theorem says_ixA {t et:TypeId} {n:Nat} {i:TypeInfo} {ag:Bool} {x y:Operand} {x' y':Opd} {k:IntKind} {q:Int} {cs:List AV} {v:AV} (ho:o.op=.index t x y) (hs:P.underlying t=some (.array n et)) (hi:P.info? et=some i) (ha:agB P et=some ag)
 (hx:cOpd x=some x') (hy:cOpd y=some y') (hq:ev y'=.int k q) (hv:ev x'=.agg cs) (hb:0≤q∧q < (n:Int)) (hsub:sub ag i.size (q.toNat * i.size) (.agg cs)=some v) (hO:OpsOk w bad D ρ a ev o.op.operands.toList):Says P w bad D ρ a o v:=by
 have h2:=hO x (by simp [ho,Op.operands]) x' hx
 have h3:=hO y (by simp [ho,Op.operands]) y' hy
 rw [hq] at h3
 rw [hv] at h2
 have e3:=rep_int h3
 obtain ⟨us,e,hl,hp⟩:=rep_agg h2
 obtain ⟨r,hr,hrep⟩:=sub_rep hsub hl hp
 refine ⟨r,?_,hrep⟩
 simp only [execOp,ho,e,e3,Instr.index,asIntOf,Sem.run_bind,Sem.run_pure,run_underlying hs,Result.andThen_ok,if_pos hb,run_size hi,run_part hi ha]
 cases ag with
 | true=>simp at hr ⊢; exact hr
 | false=>simp at hr ⊢; simp [hr]

theorem says_ixAS {H H':Heap} {B:Nat} {t et:TypeId} {i:TypeInfo} {x y:Operand} {x' y':Opd} {k:IntKind} {q:Int} {v:AV} (ho:o.op=.indexAddr t x y) (hs:P.underlying t=some (.slice et)) (hi:P.info? et=some i)
 (hx:cOpd x=some x') (hy:cOpd y=some y') (hq:ev y'=.int k q) (hv:aIx H i.size (ev x') q=some v) (hR:HRel w bad ρ B H') (hD:∀ id,D id ↔ H'[id]?=some none)
 (hsh:∀ id b,hget H id=some b→∃ b',hget H' id=some b'∧b'.els.length=b.els.length) (hse:∀ id b,hget H id=some b→∃ b',hget H' id=some b'∧b'.e=b.e)
 (hO:OpsOk w bad D ρ a ev o.op.operands.toList):Says P w bad D ρ a o v:=by
 have h2:=hO x (by simp [ho,Op.operands]) x' hx
 have h3:=hO y (by simp [ho,Op.operands]) y' hy
 rw [hq] at h3
 have e3:=rep_int h3
 generalize hX:ev x'=X at *
 cases X <;> simp only [aIx] at hv <;> (try (cases hv; done))
 ·rename_i id u n
  cases hg:hget H id with
  | none=>simp [hg] at hv
  | some b =>
    simp only [hg] at hv
    split at hv
    ·rename_i hb
     obtain ⟨hb0,hb1,hb2⟩:=hb
     obtain rfl:=Option.some.inj hv
     obtain ⟨b9,hb9,hbe⟩:=hse id b hg
     obtain ⟨b',hb',hbl⟩:=hsh id b hg
     generalize hV:a.eval x=V at *
     cases h2 with
     | frz h=>cases h
     | slcD ad c hd=>rw [hD,agree_of hb'] at hd; cases hd
     | slcV ad hρ=>omega
     | slc hρ hc hn =>
       rename_i b2 es cap c
       have he:es=i.size:=by
        obtain ⟨k9,hk9,hbr⟩:=hR.real _ _ _ _ hρ
        rw [agree_of hb9] at hk9
        cases hk9
        rw [← hbr.hes,hbe,hb2]
       subst he
       refine ⟨_,?_,.ptr hρ⟩
       have:(q.toNat < n):=by omega
       simp [execOp,ho,hV,e3,Instr.indexAt,asIntOf,run_underlying hs,hb0,hb1,run_size hi,Addr.add_lit,Nat.add_mul]
    ·cases hv
 ·rename_i l
  split at hv
  ·rename_i h0
   cases hl:l[q.toNat]? with
   | none=>simp [hl] at hv
   | some z =>
     simp only [hl] at hv
     split at hv
     case isFalse=>cases hv
     rename_i h8
     obtain rfl:=Option.some.inj hv
     have hlt:=(List.getElem?_eq_some_iff.mp hl).1
     generalize hV:a.eval x=V at *
     cases h2 with
     | frz h=>cases h with
       | lst0=>simp at hl
       | lst _ b u es c vs hn he hb hlw hs2 hc hr =>
         have h9:=hs2 _ _ hl
         have hes2:es=i.size:=by omega
         subst hes2
         refine ⟨.pointer (some ⟨b,u+q.toNat * i.size+0,none⟩),?_,.frz (.fptr z b (u+q.toNat * i.size) 0 (fun k=>vs q.toNat k) hb hlw (fun k y hk=>?_) (fun k y hk=>hr _ _ _ _ hl hk))⟩
         ·have h7:q < (l.length:Int):=by omega
          simp [execOp,ho,hV,e3,Instr.indexAt,asIntOf,run_underlying hs,h0,h7,run_size hi,Addr.add_lit]
         ·have:=hc _ _ k y hl hk
          rw [Nat.add_assoc]; exact this
  ·cases hv

theorem fill_says {ps:List (Nat × Operand)} {zs cs:List AV} {zvs:List Value} {l:List (Nat × Nat × Opd)} (place:Nat→Option (Nat × Nat)) (hl:l.length=ps.length)
 (hpl:∀ (i:Nat) p q,ps[i]?=some p→l[i]?=some q→place p.1=some (q.1,q.2.1)∧cOpd p.2=some q.2.2) (hzl:zs.length=zvs.length) (hzp:∀ (i:Nat) (c:AV) (u:Value),zs[i]?=some c→zvs[i]?=some u→Rep w bad D ρ c u)
 (hev:∀ q ∈ ps,∀ y,cOpd q.2=some y→Rep w bad D ρ (ev y) (a.eval q.2)) (hf:fillP zs (l.map fun p=>(p.1,p.2.1,ev p.2.2))=some cs) :
 ∃ vs':List Value,Instr.fill place zvs.toArray (ps.map fun p=>(p.1,a.eval p.2))=some vs'.toArray∧Rep w bad D ρ (.agg cs) (.agg vs'.toArray):=by
 obtain ⟨vs',f1,f2,f3,f4⟩:=fill_run place _ (ps.map fun p=>(p.1,a.eval p.2)) zs zvs cs (by simp [hl]) hzl hzp (by
  intro i p q hp hq
  rw [List.getElem?_map] at hp hq
  obtain ⟨p',hp',rfl⟩:=Option.map_eq_some_iff.mp hp
  obtain ⟨q',hq',rfl⟩:=Option.map_eq_some_iff.mp hq
  obtain ⟨h1,h2⟩:=hpl i q' p' hq' hp'
  exact ⟨h1,hev q' (List.mem_of_getElem? hq') _ h2⟩) hf
 exact ⟨vs',f1,.agg _ _ f2 f4⟩

theorem says_build {t:TypeId} {ps:Array (Nat × Operand)} {zs cs:List AV} {l:List (Nat × Nat × Opd)} (ho:o.op=.build t ps) (hc:cBuild P t ps.toList=some (.build zs l))
 (hf:fillP zs (l.map fun p=>(p.1,p.2.1,ev p.2.2))=some cs) (hO:OpsOk w bad D ρ a ev o.op.operands.toList):Says P w bad D ρ a o (.agg cs):=by
 unfold cBuild at hc
 split at hc <;> (try (cases hc; done))
 rename_i i hi
 split at hc <;> (try (cases hc; done))
 rename_i z hz
 split at hc <;> (try (cases hc; done))
 rename_i zs' hzs
 have hzero:(zeroValue t).run P w=.ok z w:=by simp [zeroValue,typeInfo,hi,hz]
 obtain ⟨zvs,hze,hzl,hzp⟩:=rep_agg (D:=D) (ρ:=ρ) (.frz (cv_rep (w:=w) (bad:=fun b=>bad b ∨ own ρ b) hzs))
 have hev:∀ q ∈ ps.toList,∀ y,cOpd q.2=some y→Rep w bad D ρ (ev y) (a.eval q.2):=fun q hq y hy=>hO q.2 (by simp only [ho,Op.operands]; simp; exact ⟨q.1,by simpa using hq⟩) y hy
 have hmap:(ps.map fun p=>(p.1,a.eval p.2)).toList=ps.toList.map fun p=>(p.1,a.eval p.2):=by simp
 split at hc <;> (try (cases hc; done))
 ·rename_i fs hfs
  split at hc <;> (try (cases hc; done))
  rename_i pl hpl
  split at hc <;> (try (cases hc; done))
  rename_i l' hl'
  obtain ⟨rfl,rfl⟩:zs'=zs∧l'=l:=by simpa using hc
  obtain ⟨o1,o2⟩:=optAll_spec hl'
  obtain ⟨vs',f1,f2⟩:=fill_says (w:=w) (bad:=bad) (D:=D) (ρ:=ρ) (a:=a) (ev:=ev) (fun k=>pl.toArray[k]?) o1 (by
   intro i p q hp hq
   obtain ⟨b,hb,he⟩:=o2 i p hp
   rw [hb] at hq; cases hq
   split at he
   ·rename_i h1 h2
    cases he
    exact ⟨by simpa using h1,h2⟩
   ·cases he) hzl hzp hev hf
  refine ⟨.agg vs'.toArray,?_,f2⟩
  subst hze
  have hcells:(Value.agg zvs.toArray).cells=zvs.toArray:=rfl
  have f1':Instr.fill (fun x=>pl[x]?) zvs.toArray (List.map (fun p=>(p.fst,a.eval p.snd)) ps.toList)=some vs'.toArray:=by simpa using f1
  simp [execOp,ho,Instr.build,run_underlying hfs,hzero,Array.mapM_eq_mapM_toList,run_places w _ _ hpl,hcells,f1']
 ·rename_i n e hfs
  split at hc <;> (try (cases hc; done))
  rename_i ie hie
  split at hc <;> (try (cases hc; done))
  rename_i l' hl'
  obtain ⟨rfl,rfl⟩:zs'=zs∧l'=l:=by simpa using hc
  obtain ⟨o1,o2⟩:=optAll_spec hl'
  obtain ⟨vs',f1,f2⟩:=fill_says (w:=w) (bad:=bad) (D:=D) (ρ:=ρ) (a:=a) (ev:=ev) (fun k=>some (k * ie.size,ie.size)) o1 (by
   intro i p q hp hq
   obtain ⟨b,hb,he⟩:=o2 i p hp
   rw [hb] at hq; cases hq
   split at he
   ·rename_i h2
    cases he
    exact ⟨rfl,h2⟩
   ·cases he) hzl hzp hev hf
  refine ⟨.agg vs'.toArray,?_,f2⟩
  subst hze
  have hcells:(Value.agg zvs.toArray).cells=zvs.toArray:=rfl
  simp only [execOp,ho,Instr.build,Sem.run_bind,hzero,run_underlying hfs,Result.andThen_ok,run_size hie,hmap,hcells,f1,Sem.run_pure]

theorem says_subS {t:TypeId} {x:Operand} {lo hi:Option Operand} {x':Opd} {lo' hi':Option Opd} {v:AV} (ho:o.op=.slice t x lo hi none) (hs:P.underlying t=some .string) (hx:cOpd x=some x') (hlo:cOptOpd lo=some lo') (hhi:cOptOpd hi=some hi')
 (hv:aSubS (ev x') (lo'.map ev) (hi'.map ev)=some v) (hO:OpsOk w bad D ρ a ev o.op.operands.toList):Says P w bad D ρ a o v:=by
 have h2:=hO x (by simp [ho,Op.operands]) x' hx
 have rlo:=optOpd_rep hlo hO (fun z hz=>by subst hz; simp [ho,Op.operands])
 have rhi:=optOpd_rep hhi hO (fun z hz=>by subst hz; simp [ho,Op.operands])
 generalize hX:ev x'=X at *
 cases X <;> simp only [aSubS] at hv <;> (try (cases hv; done))
 rename_i s
 have e2:=rep_str h2
 have hsz:(⟨s.toArray⟩:ByteArray).size=s.length:=by simp [ByteArray.size]
 cases hh:bound (hi'.map ev) s.length s.length with
 | none=>simp [hh] at hv
 | some h =>
   simp only [hh] at hv
   cases hl:bound (lo'.map ev) 0 h with
   | none=>simp [hl] at hv
   | some l =>
     simp only [hl] at hv
     obtain rfl:=Option.some.inj hv
     obtain ⟨hb,hb1,hb2,hb3⟩:=sliceBounds_run (P:=P) (w:=w) (isSlice:=false) (cap:=s.length) (m:=s.length) (mx:=none) (mx':=none) (by rfl) hh hl (Nat.le_refl _) rlo rhi (.inl ⟨rfl,rfl⟩) (by simp)
     refine ⟨.string ⟨((s.take h).drop l).toArray⟩,?_,.frz (.str _)⟩
     have hex:(⟨s.toArray⟩:ByteArray).extract l h=⟨((s.take h).drop l).toArray⟩:=by
      apply ByteArray.ext
      simp [ByteArray.data_extract,List.drop_take]
     simp only [execOp,ho,e2,Instr.sliceAt,Sem.run_bind,run_underlying hs,Result.andThen_ok,Instr.slice,Option.map_none,Option.isSome_none,hsz,hb,Bool.false_eq_true,if_false,Sem.run_pure,hex]

theorem says_lenS {t:TypeId} {c:Call} {x:Operand} {x':Opd} {s:List UInt8} (ho:o.op=.call c) (hcc:c.callee=.builtin .len) (hca:c.args.toList=[x]) (hct:c.argTypes.toList=[t]) (hs:P.underlying t=some .string)
 (hx:cOpd x=some x') (hv:ev x'=.str s) (hO:OpsOk w bad D ρ a ev o.op.operands.toList):Says P w bad D ρ a o (.int .i64 s.length):=by
 obtain ⟨cal,args,tys⟩:=c
 obtain ⟨args⟩:=args
 obtain ⟨tys⟩:=tys
 simp only at hcc hca hct
 subst hcc; subst hca; subst hct
 have h2:=hO x (by simp [ho,Op.operands,Call.operands]) x' hx
 rw [hv] at h2
 have e2:=rep_str h2
 have hsz:(⟨s.toArray⟩:ByteArray).size=s.length:=by simp [ByteArray.size]
 exact ⟨.int .i64 s.length,by simp [execOp,ho,resolve,invoke,builtin,Builtin.len_,run_underlying hs,e2,goInt,hsz],.frz (.int _ _)⟩

theorem says_lenV {H H':Heap} {t e:TypeId} {c:Call} {x:Operand} {x':Opd} {n:Nat} (ho:o.op=.call c) (hcc:c.callee=.builtin .len) (hca:c.args.toList=[x]) (hct:c.argTypes.toList=[t]) (hs:P.underlying t=some (.slice e))
 (hx:cOpd x=some x') (hv:lenOf H (ev x')=some n) (hD:∀ id,D id ↔ H'[id]?=some none)
 (hsh:∀ id b,hget H id=some b→∃ b',hget H' id=some b'∧b'.els.length=b.els.length)
 (hO:OpsOk w bad D ρ a ev o.op.operands.toList):Says P w bad D ρ a o (.int .i64 n):=by
 obtain ⟨cal,args,tys⟩:=c
 obtain ⟨args⟩:=args
 obtain ⟨tys⟩:=tys
 simp only at hcc hca hct
 subst hcc; subst hca; subst hct
 have h2:=hO x (by simp [ho,Op.operands,Call.operands]) x' hx
 obtain ⟨ad,c,e2,_⟩:=lenOf_rep hv hD hsh h2
 exact ⟨.int .i64 n,by simp [execOp,ho,resolve,invoke,builtin,Builtin.len_,run_underlying hs,e2,goInt],.frz (.int _ _)⟩

theorem says_min {c:Call} {ys:List Opd} {v:AV} (ho:o.op=.call c) (hcc:c.callee=.builtin .min) (hx:cOpds c.args.toList=some ys) (hv:aMin (ys.map ev)=some v) (hO:OpsOk w bad D ρ a ev o.op.operands.toList):Says P w bad D ρ a o v:=by
 obtain ⟨cal,args,tys⟩:=c
 simp only at hcc hx
 subst hcc
 obtain ⟨h1,h2⟩:=opds_rep hx (fun x hx y hy=>hO x (by simpa [ho,Op.operands,Call.operands] using hx) y hy)
 have hmap:args.map a.eval=(args.toList.map a.eval).toArray:=by simp [← Array.toList_map]
 generalize ys.map ev=l at *
 generalize args.toList.map a.eval=us at *
 cases l with
 | nil=>simp [aMin] at hv
 | cons x l =>
   cases us with
   | nil=>simp at h1
   | cons u us =>
     cases x <;> simp only [aMin] at hv <;> (try (cases hv; done))
     rename_i k n
     have e0:=rep_int (h2 0 _ u rfl rfl)
     obtain ⟨r,hr,hp⟩:=min_run (P:=P) l us k n v (by simpa using h1) (fun i c u hc hu=>h2 (i+1) c u (by simpa using hc) (by simpa using hu)) hv
     refine ⟨r,?_,hp⟩
     subst e0
     simp only [execOp,ho,resolve,invoke,builtin,Builtin.min_,hmap,Sem.run_bind,Sem.run_pure,Result.andThen_ok,hr]

theorem says_max {c:Call} {ys:List Opd} {v:AV} (ho:o.op=.call c) (hcc:c.callee=.builtin .max) (hx:cOpds c.args.toList=some ys) (hv:aMax (ys.map ev)=some v) (hO:OpsOk w bad D ρ a ev o.op.operands.toList):Says P w bad D ρ a o v:=by
 obtain ⟨cal,args,tys⟩:=c
 simp only at hcc hx
 subst hcc
 obtain ⟨h1,h2⟩:=opds_rep hx (fun x hx y hy=>hO x (by simpa [ho,Op.operands,Call.operands] using hx) y hy)
 have hmap:args.map a.eval=(args.toList.map a.eval).toArray:=by simp [← Array.toList_map]
 generalize ys.map ev=l at *
 generalize args.toList.map a.eval=us at *
 cases l with
 | nil=>simp [aMax] at hv
 | cons x l =>
   cases us with
   | nil=>simp at h1
   | cons u us =>
     cases x <;> simp only [aMax] at hv <;> (try (cases hv; done))
     rename_i k n
     have e0:=rep_int (h2 0 _ u rfl rfl)
     obtain ⟨r,hr,hp⟩:=max_run (P:=P) l us k n v (by simpa using h1) (fun i c u hc hu=>h2 (i+1) c u (by simpa using hc) (by simpa using hu)) hv
     refine ⟨r,?_,hp⟩
     subst e0
     simp only [execOp,ho,resolve,invoke,builtin,Builtin.max_,hmap,Sem.run_bind,Sem.run_pure,Result.andThen_ok,hr]

theorem frz_drop {l:List AV} {b o' es c:Nat} {vs:Nat→Nat→Value} {bad':Nat→Prop} (h1 h2 c':Nat) (he:0 < es) (hb:¬ bad' b) (hl:b < w.heap.size) (hn:h2≤l.length) (hle:h1≤h2) (hcc:h2 - h1≤c')
 (hs:∀ (i:Nat) (x:AV),l[i]?=some x→x.cells.length=es)
 (hc:∀ (i:Nat) (x:AV) (j:Nat) (c:AV),l[i]?=some x→x.cells[j]?=some c→w.cell? ⟨b,o'+(i * es+j),none⟩=some (vs i j))
 (hr:∀ (i:Nat) (x:AV) (j:Nat) (c:AV),l[i]?=some x→x.cells[j]?=some c→FRep w bad' c (vs i j)) :
 FRep w bad' (.lst ((l.take h2).drop h1)) (.slice (some ⟨b,o'+h1 * es,none⟩) (h2 - h1) c'):=by
 have hlen:((l.take h2).drop h1).length=h2 - h1:=by simp; omega
 have key:∀ (i:Nat) (x:AV),((l.take h2).drop h1)[i]?=some x→l[h1+i]?=some x:=by
  intro i x hx
  have hi:i < h2 - h1:=by have:=(List.getElem?_eq_some_iff.mp hx).1; omega
  rw [List.getElem?_drop,List.getElem?_take_of_lt (by omega)] at hx
  exact hx
 rw [← hlen]
 refine .lst _ b (o'+h1 * es) es c' (fun i j=>vs (h1+i) j) (by omega) he hb hl (fun i x hx=>hs _ x (key i x hx)) (fun i x j c hx hj=>?_) (fun i x j c hx hj=>hr _ x j c (key i x hx) hj)
 have:=hc _ x j c (key i x hx) hj
 rw [show o'+h1 * es+(i * es+j)=o'+((h1+i) * es+j) by rw [Nat.add_mul]; omega]
 exact this

theorem says_subV {H H':Heap} {B:Nat} {t e:TypeId} {ie:TypeInfo} {x:Operand} {lo hi mx:Option Operand} {x':Opd} {lo' hi' mx':Option Opd} {v:AV} (ho:o.op=.slice t x lo hi mx) (hs:P.underlying t=some (.slice e)) (hie:P.info? e=some ie)
 (hx:cOpd x=some x') (hlo:cOptOpd lo=some lo') (hhi:cOptOpd hi=some hi') (hmx:cOptOpd mx=some mx') (hmh:(mx.isSome && hi.isNone)=false)
 (hv:aSubV H ie.size (ev x') (lo'.map ev) (hi'.map ev) (mx'.map ev)=some v) (hR:HRel w bad ρ B H') (hD:∀ id,D id ↔ H'[id]?=some none)
 (hsh:∀ id b,hget H id=some b→∃ b',hget H' id=some b'∧b'.els.length=b.els.length) (hse:∀ id b,hget H id=some b→∃ b',hget H' id=some b'∧b'.e=b.e)
 (hO:OpsOk w bad D ρ a ev o.op.operands.toList):Says P w bad D ρ a o v:=by
 have h2:=hO x (by simp [ho,Op.operands]) x' hx
 have rlo:=optOpd_rep hlo hO (fun z hz=>by subst hz; simp [ho,Op.operands])
 have rhi:=optOpd_rep hhi hO (fun z hz=>by subst hz; simp [ho,Op.operands])
 have rmx:=optOpd_rep hmx hO (fun z hz=>by subst hz; simp [ho,Op.operands])
 have hmh':(mx'.map ev).isSome=true→(hi'.map ev).isSome=true:=by
  cases mx <;> cases hi <;> simp [cOptOpd] at hmx hhi hmh ⊢
  ·subst hmx; simp
  ·subst hmx; simp
  ·rename_i p q
   cases hq:cOpd q <;> simp [hq] at hhi
   subst hhi; simp
 unfold aSubV at hv
 split at hv <;> (try (cases hv; done))
 rename_i n hn
 split at hv <;> (try (cases hv; done))
 rename_i m hm
 split at hv <;> (try (cases hv; done))
 rename_i h hh
 split at hv <;> (try (cases hv; done))
 rename_i l hl
 obtain ⟨ad,c,e2,hnc,hkind,hnil⟩:=lenOf_rep hn hD hsh h2
 obtain ⟨hb,hb1,hb2,hb3⟩:=sliceBounds_run (P:=P) (w:=w) (isSlice:=true) (cap:=c) hm hh hl hnc rlo rhi rmx hmh'
 have hrun:(execOp a.eval o).run P w=.ok (.value (.slice (if (if (mx'.map ev).isSome=true then m else c)=l then ad else ad.map (·.add (l * ie.size))) (h - l) ((if (mx'.map ev).isSome=true then m else c) - l))) w:=by
  simp only [execOp,ho,e2,Instr.sliceAt,Sem.run_bind,run_underlying hs,Result.andThen_ok,Instr.slice,hb,run_size hie,Sem.run_pure]
 refine ⟨_,hrun,?_⟩
 rw [e2] at h2
 generalize ev x'=X at *
 cases X <;> simp only at hv <;> (try (cases hv; done))
 ·rename_i b
  obtain rfl:=Option.some.inj hv
  have hn0:n=0:=by simpa [lenOf] using hn.symm
  subst hn0
  have q1:h=0:=by omega
  have q2:l=0:=by omega
  subst q1; subst q2
  have hm0:m=0:=by omega
  subst hm0
  cases h2 with
  | frz h2=>cases h2 with
    | znil=>simp; exact .frz .znil
    | zsl a=>simp; exact .frz (.zsl _)
 ·rename_i id q nn
  have hnn:nn=n:=by
   simp only [lenOf] at hn
   cases hg:hget H id with
   | none=>simp [hg] at hn
   | some b=>simpa [hg] using hn
  subst hnn
  split at hv
  ·rename_i hcond
   obtain rfl:=Option.some.inj hv
   simp only [Bool.and_eq_true,beq_iff_eq] at hcond
   have q1:h=0:=by omega
   have q2:l=0:=by omega
   have q3:=hcond.2
   subst q1; subst q2; subst q3
   simp [hcond.1]
   exact .frz (.zsl _)
  ·rename_i hcond
   split at hv
   ·rename_i heq
    obtain rfl:=Option.some.inj hv
    subst heq
    simp
    refine .frz (.lst0 _ _ fun hz=>?_)
    cases ad with
    | none=>have:=hnil rfl; split <;> omega
    | some ad =>
      exfalso; revert hz; repeat' split
      all_goals simp
   ·rename_i hne
    split at hv <;> (try (cases hv; done))
    rename_i b hg
    split at hv <;> (try (cases hv; done))
    rename_i hbe
    split at hv
    ·rename_i hms
     split at hv <;> (try (cases hv; done))
     rename_i hmh2
     obtain rfl:=Option.some.inj hv
     subst hmh2
     simp only [hms,if_true]
     have hlt:l < m:=by omega
     have hne':¬ m=l:=by omega
     rw [if_neg hne']
     obtain ⟨b',hb',hble⟩:=hse id b hg
     cases h2 with
     | frz h=>cases h
     | slcD ad c hd=>rw [hD,agree_of hb'] at hd; cases hd
     | slcV ad hρ=>omega
     | slc hρ hc hn2 =>
       rename_i b2 es cap
       have he:es=ie.size:=by
        obtain ⟨k9,hk9,hbr⟩:=hR.real _ _ _ _ hρ
        rw [agree_of hb'] at hk9
        cases hk9
        rw [← hbr.hes,hble,hbe]
       subst he
       simp only [Option.map_some,Addr.add_lit,← Nat.add_mul]
       exact .slk hρ (by omega)
    ·rename_i hms
     obtain rfl:=Option.some.inj hv
     simp only [hms,Bool.false_eq_true,if_false]
     have hlt:l < h:=by omega
     have hne':¬ c=l:=by omega
     rw [if_neg hne']
     obtain ⟨b',hb',hble⟩:=hse id b hg
     cases h2 with
     | frz h=>cases h
     | slcD ad c hd=>rw [hD,agree_of hb'] at hd; cases hd
     | slcV ad hρ=>omega
     | slc hρ hc hn2 =>
       rename_i b2 es cap
       have he:es=ie.size:=by
        obtain ⟨k9,hk9,hbr⟩:=hR.real _ _ _ _ hρ
        rw [agree_of hb'] at hk9
        cases hk9
        rw [← hbr.hes,hble,hbe]
       subst he
       simp only [Option.map_some,Addr.add_lit,← Nat.add_mul]
       exact .slc hρ (by omega) (by omega)
 ·rename_i al
  have hnl:n=al.length:=by simpa [lenOf] using hn.symm
  subst hnl
  split at hv
  ·rename_i hcond
   obtain rfl:=Option.some.inj hv
   simp only [Bool.and_eq_true,beq_iff_eq] at hcond
   have q1:h=0:=by omega
   have q2:l=0:=by omega
   have q3:=hcond.2
   subst q1; subst q2; subst q3
   simp [hcond.1]
   exact .frz (.zsl _)
  ·rename_i hcond
   split at hv <;> (try (cases hv; done))
   rename_i hall
   obtain rfl:=Option.some.inj hv
   by_cases heq:l=h
   ·subst heq
    have:(al.take l).drop l=[]:=by simp
    rw [this,Nat.sub_self]
    refine .frz (.lst0 _ _ fun hz=>?_)
    cases ad with
    | none=>have:=hnil rfl; split <;> omega
    | some ad =>
      exfalso; revert hz; repeat' split
      all_goals simp
   ·have hne':¬ (if (mx'.map ev).isSome=true then m else c)=l:=by split <;> omega
    rw [if_neg hne']
    cases h2 with
    | frz h2=>cases h2 with
      | lst0=>simp at hb3 hb2 hb1; omega
      | lst _ b u es c vs hn he hb hlw hs2 hc hr =>
        have hpos:0 < al.length:=by omega
        have e0:al[0]?=some al[0]:=List.getElem?_eq_getElem hpos
        have he2:es=ie.size:=by
         rw [← hs2 0 _ e0]
         exact by simpa using (List.all_eq_true.mp hall) _ (List.mem_of_getElem? e0)
        subst he2
        simp only [Option.map_some,Addr.add_lit]
        exact .frz (frz_drop (vs:=vs) (c:=c) l h _ he hb hlw (by omega) (by omega) (by split <;> omega) hs2 hc hr)
 ·have hn0:n=0:=by simpa [lenOf] using hn.symm
  subst hn0
  split at hv <;> (try (cases hv; done))
  rename_i hcond
  obtain rfl:=Option.some.inj hv
  simp only [Bool.and_eq_true,beq_iff_eq] at hcond
  have q1:h=0:=by omega
  have q2:l=0:=by omega
  have q3:=hcond.2
  subst q1; subst q2; subst q3
  simp [hcond.1]
  exact .frz (.zsl _)
end
end Go.Proofs.Ytdceaeifcniabaa.AE

namespace Go.Proofs.Ytdceaeifcniabaa.AE
set_option linter.unusedVariables false
set_option linter.unusedSimpArgs false
set_option linter.constructorNameAsVariable false
open Go Go.RowKit

section
variable {P:Program} {w:World} {bad D:Nat→Prop} {ρ:Rho} {a:Act} {ev:Opd→AV} {o:Oper}

theorem cells_sc {x:AV} (h:∀ (j:Nat) (c:AV),x.cells[j]?=some c→isSc c=true):isSc x=true ∨ ∃ cs,x=.agg cs:=by
 by_cases hx:∃ cs,x=.agg cs
 ·exact .inr hx
 ·left
  have:x.cells[0]?=some x:=by cases x <;> first | rfl | exact absurd ⟨_,rfl⟩ hx
  exact h 0 x this

def RowAt (w:World) (bad D:Nat→Prop) (ρ:Rho) (l:List AV) (b o es:Nat):Prop :=
 0 < es∧(∀ (i:Nat) (x:AV),l[i]?=some x→x.cells.length=es) ∧
 ∀ (i:Nat) (x:AV) (j:Nat) (c:AV),l[i]?=some x→x.cells[j]?=some c→∃ u,w.cell? ⟨b,o+(i * es+j),none⟩=some u∧Rep w bad D ρ c u

theorem elsOf_rep {H H':Heap} {B:Nat} {X:AV} {l:List AV} {v:Value} (h:elsOf H X=some l) (hX:∀ s,X ≠ .str s) (hR:HRel w bad ρ B H') (hD:∀ id,D id ↔ H'[id]?=some none) (hsame:∀ id u q,X=.slc id u q→∀ b,hget H id=some b→ρ id ≠ .no→hget H' id=some b) (hdd:∀ id,D id→hget H id=none)
 (hv:Rep w bad D ρ X v):∃ ad c,v=.slice ad l.length c∧l.length≤c∧(l=[] ∨ ∃ b q es,ad=some ⟨b,q,none⟩∧RowAt w bad D ρ l b q es):=by
 have eD:D=fun id=>H'[id]?=some none:=funext fun id=>propext (hD id)
 cases X <;> simp only [elsOf] at h <;> (try (cases h; done))
 ·exact absurd rfl (hX _)
 ·obtain rfl:=Option.some.inj h
  cases hv with
  | frz hv=>cases hv with
    | znil=>exact ⟨_,_,rfl,Nat.le_refl _,.inl rfl⟩
    | zsl a=>exact ⟨_,_,rfl,Nat.le_refl _,.inl rfl⟩
 ·rename_i id q n
  have hs:=hsame id q n rfl
  cases hg:hget H id with
  | none=>simp [hg] at h
  | some k =>
    simp only [hg] at h
    split at h <;> (try (cases h; done))
    rename_i hle
    obtain rfl:=Option.some.inj h
    have hs:=hs k hg
    have hlen:((k.els.drop q).take n).length=n:=by simp; omega
    rw [hlen]
    cases hv with
    | frz h=>cases h
    | slcD ad c hd=>rw [hdd _ hd] at hg; cases hg
    | slcV ad hρ=>exact ⟨_,_,rfl,Nat.le_refl _,.inl (by simp)⟩
    | slc hρ hc hn =>
      rename_i b es cap c
      obtain ⟨k2,hk2,hb⟩:=hR.real _ b es cap hρ
      rw [agree_of (hs (by simp [hρ]))] at hk2; cases hk2
      obtain ⟨cur,fz,hm1,hm2,hm3,hm4⟩:=hb.mem
      refine ⟨_,_,rfl,hn,.inr ⟨b,q * es,es,rfl,hb.pos,fun i x hx=>?_,fun i x j c hx hj=>?_⟩⟩
      ·have hi:i < n:=by have:=(List.getElem?_eq_some_iff.mp hx).1; omega
       rw [List.getElem?_take_of_lt hi,List.getElem?_drop] at hx
       rw [(elOk_sc (hb.ok _ x hx)).2.1,hb.hes]
      ·have hi:i < n:=by have:=(List.getElem?_eq_some_iff.mp hx).1; omega
       rw [List.getElem?_take_of_lt hi,List.getElem?_drop] at hx
       obtain ⟨u,hu,hr⟩:=hm4 _ x j c hx hj
       refine ⟨u,?_,eD ▸ hr⟩
       rw [show q * es+(i * es+j)=(q+i) * es+j by rw [Nat.add_mul]; omega]
       simp only [World.cell?,hm1]
       simpa using hu
 ·obtain rfl:=Option.some.inj h
  cases hv with
  | frz hv=>cases hv with
    | lst0 a c h=>exact ⟨_,_,rfl,Nat.zero_le _,.inl rfl⟩
    | lst _ b q es c vs hn he hb hl hs hc hr=>exact ⟨_,_,rfl,hn,.inr ⟨b,q,es,rfl,he,hs,fun i x j c hx hj=>⟨_,hc i x j c hx hj,.frz (hr i x j c hx hj)⟩⟩⟩
 ·obtain rfl:=Option.some.inj h
  cases hv with
  | frz hv=>cases hv with
    | emp a c=>exact ⟨_,_,rfl,Nat.zero_le _,.inl rfl⟩

theorem b2sL_spec:∀ {l:List AV} {s:List UInt8},b2sL l=some s→∃ ns:List Int,l=ns.map (AV.int .u8)∧s=ns.map fun n=>UInt8.ofNat n.toNat
 | [],s,h=>by simp [b2sL] at h; subst h; exact ⟨[],rfl,rfl⟩
 | x::l,s,h=>by
   unfold b2sL at h
   split at h <;> (try (cases h; done))
   ·rename_i heq; cases heq
   ·rename_i n l' heq
    cases heq
    cases hl:b2sL l with
    | none=>simp [hl] at h
    | some s' =>
      simp [hl] at h
      subst h
      obtain ⟨ns,rfl,rfl⟩:=b2sL_spec hl
      exact ⟨n::ns,rfl,rfl⟩

theorem push_fold:∀ (ns:List Int) (s:ByteArray),(ns.foldl (fun r n=>r.push (UInt8.ofNat n.toNat)) s)=⟨(s.data.toList ++ ns.map fun n=>UInt8.ofNat n.toNat).toArray⟩
 | [],s=>by simp
 | n::ns,s=>by
   rw [List.foldl_cons,push_fold ns]
   apply ByteArray.ext
   simp [ByteArray.push]

theorem says_b2s {H H':Heap} {B:Nat} {s d e:TypeId} {x:Operand} {x':Opd} {l:List AV} {z:List UInt8} (ho:o.op=.convert s d x) (hs:P.underlying s=some (.slice e)) (he:P.underlying e=some (.int .u8)) (hd:P.underlying d=some .string) (hx:cOpd x=some x')
 (hl:elsOf H (ev x')=some l) (hX:∀ s,ev x' ≠ .str s) (hz:b2sL l=some z) (hR:HRel w bad ρ B H') (hD:∀ id,D id ↔ H'[id]?=some none) (hsame:∀ id u q,ev x'=.slc id u q→∀ b,hget H id=some b→ρ id ≠ .no→hget H' id=some b) (hdd:∀ id,D id→hget H id=none)
 (hO:OpsOk w bad D ρ a ev o.op.operands.toList):Says P w bad D ρ a o (.str z):=by
 have h2:=hO x (by simp [ho,Op.operands]) x' hx
 obtain ⟨ad,c,e2,hn,hrow⟩:=elsOf_rep hl hX hR hD hsame hdd h2
 obtain ⟨ns,rfl,rfl⟩:=b2sL_spec hz
 refine ⟨_,?_,.frz (.str _)⟩
 simp only [execOp,ho,e2,Sem.run_bind,run_convert_bytes_string w s d e ad _ c hs he hd]
 have key:(Conv.bytesToString (.slice ad (ns.map (AV.int .u8)).length c)).run P w=.ok (.string ⟨(ns.map fun n=>UInt8.ofNat n.toNat).toArray⟩) w:=by
  rcases hrow with hnil | ⟨b,q,es,rfl,hpos,hes,hc⟩
  ·have:ns=[]:=by simpa using hnil
   subst this
   cases ad with
   | none=>simp [Conv.bytesToString]; rfl
   | some ad =>
     rw [run_bytesToString w ad _ c [] (by simp [loadCells,loadCellsFrom])]
     rfl
  ·rw [run_bytesToString w ⟨b,q,none⟩ _ c ns ?_]
   ·rw [push_fold]; simp
   ·have:=run_loadCells_list (P:=P) w ⟨b,q,none⟩ (ns.map (Value.int .u8)) (by
     intro j u hu
     have hj:j < ns.length:=by have:=(List.getElem?_eq_some_iff.mp hu).1; simpa using this
     have hx:(ns.map (AV.int .u8))[j]?=some (.int .u8 ns[j]):=by simp [hj]
     have h1:=hes j _ hx
     have h1':es=1:=by simpa [AV.cells] using h1.symm
     subst h1'
     obtain ⟨u',hu',hr⟩:=hc j _ 0 (.int .u8 ns[j]) hx rfl
     have:=rep_int hr
     subst this
     simp [hj] at hu
     subst hu
     rw [Addr.add_lit]
     simpa using hu')
    simpa using this
 simp only [key,Result.andThen_ok,Sem.run_pure]

def Makes (P:Program) (w:World) (bad D:Nat→Prop) (ρ:Rho) (a:Act) (o:Oper) (v:AV) (id:Nat) (k:Blk):Prop :=
 ∃ cv w' cur fz cap,(execOp a.eval o).run P w=.ok (.value cv) w'∧w'.os=w.os∧w'.tape=w.tape∧w'.output=w.output∧(w'.heap.size=w.heap.size+1∧(∀ j,j < w.heap.size→w'.heap[j]?=w.heap[j]?)∧w'.heap[w.heap.size]?=some (.cells cur k.e.tid fz)) ∧
   0 < k.e.es∧cur.size=cap * k.e.es∧Unfz fz cur.size∧k.els.length≤cap∧(∀ (i:Nat) (el:AV),k.els[i]?=some el→elOk k.e el=true) ∧
   (∀ (i:Nat) (el:AV) (j:Nat) (c:AV),k.els[i]?=some el→el.cells[j]?=some c→∃ u,cur[i * k.e.es+j]?=some u∧Rep w bad D ρ c u) ∧
   ((v=.ptr id 0 0∧cv=.pointer (some ⟨w.heap.size,0,none⟩)) ∨ ∃ n c,v=.slc id 0 n∧n≤c∧c≤cap∧cv=.slice (some ⟨w.heap.size,0,none⟩) n c)

theorem alloc3 (w:World) (cur:Array Value) {t u:TypeId} (h:u=t):(w.alloc (.cells cur t)).heap.size=w.heap.size+1∧(∀ j,j < w.heap.size→(w.alloc (.cells cur t)).heap[j]?=w.heap[j]?)∧(w.alloc (.cells cur t)).heap[w.heap.size]?=some (.cells cur u (0,0)):=by
 subst h
 refine ⟨by simp,fun j hj=>Below.heap_alloc w _ j hj,heap_alloc_new w _⟩

theorem cETy_spec {t:TypeId} {e:ETy} (h:cETy P t=some e):∃ i z,P.info? t=some i∧agB P t=some e.ag∧i.zero=some z∧cv z=some e.zero∧e.tid=t∧e.es=i.size∧e.bytes=i.bytes∧elOk e e.zero=true∧0 < e.es:=by
 unfold cETy at h
 split at h <;> (try (cases h; done))
 rename_i i ag hi ha
 split at h <;> (try (cases h; done))
 rename_i z hz
 split at h <;> (try (cases h; done))
 rename_i v hv
 split at h <;> (try (cases h; done))
 rename_i hok
 cases h
 exact ⟨i,z,hi,ha,hz,hv,rfl,rfl,rfl,hok.1,hok.2⟩

theorem elOk_rep {e:ETy} {x:AV} {v:Value} (h:elOk e x=true) (hv:Rep w bad D ρ x v):v.cells.size=e.es∧∀ (j:Nat) (c:AV),x.cells[j]?=some c→∃ u,v.cells[j]?=some u∧Rep w bad D ρ c u:=by
 obtain ⟨h1,h2,h3⟩:=elOk_sc h
 obtain ⟨e1,e2⟩:=rep_cells hv h1
 refine ⟨by omega,fun j c hj=>?_⟩
 have hlt:j < v.cells.size:=by have:=(List.getElem?_eq_some_iff.mp hj).1; omega
 exact ⟨_,Array.getElem?_eq_getElem hlt,e2 j c _ hj (Array.getElem?_eq_getElem hlt)⟩

theorem makes_one {e:ETy} {t:TypeId} {x:AV} {v:Value} (id:Nat) (he:cETy P t=some e) (hok:elOk e x=true) (hv:Rep w bad D ρ x v)
 (hrun:(execOp a.eval o).run P w=.ok (.value (.pointer (some ⟨w.heap.size,0,none⟩))) (w.alloc (.cells v.cells t))):Makes P w bad D ρ a o (.ptr id 0 0) id ⟨e,[x]⟩:=by
 obtain ⟨i,z,hi,ha,hz,hzv,ht,hes,hby,hzo,hpos⟩:=cETy_spec he
 obtain ⟨h1,h2⟩:=elOk_rep hok hv
 refine ⟨_,_,v.cells,(0,0),1,hrun,rfl,rfl,rfl,alloc3 _ _ ht,hpos,by simpa using h1,unfz0 _,by simp,?_,?_,.inl ⟨rfl,rfl⟩⟩
 ·intro i el hel
  cases i with
  | zero=>simp at hel; subst hel; exact hok
  | succ i=>simp at hel
 ·intro i el j c hel hj
  cases i with
  | zero=>simp at hel; subst hel; simpa using h2 j c hj
  | succ i=>simp at hel

theorem makes_box {e:ETy} {t:TypeId} {x:Operand} {x':Opd} (id:Nat) (ho:o.op=.box t x) (he:cETy P t=some e) (hx:cOpd x=some x') (hok:elOk e (ev x')=true) (hO:OpsOk w bad D ρ a ev o.op.operands.toList) :
 Makes P w bad D ρ a o (.ptr id 0 0) id ⟨e,[ev x']⟩:=by
 have h2:=hO x (by simp [ho,Op.operands]) x' hx
 refine makes_one id he hok h2 ?_
 simp [execOp,ho,Instr.box,newVar,newRow]

theorem makes_alloc {e:ETy} {t:TypeId} (id:Nat) (ho:o.op=.alloc t) (he:cETy P t=some e):Makes P w bad D ρ a o (.ptr id 0 0) id ⟨e,[e.zero]⟩:=by
 obtain ⟨i,z,hi,ha,hz,hzv,ht,hes,hby,hzo,hpos⟩:=cETy_spec he
 refine makes_one id he hzo (.frz (cv_rep hzv)) ?_
 simp [execOp,ho,Instr.alloc,newVar,newRow,zeroValue,typeInfo,hi,hz]

theorem zero_cells {z:Array Value} {es n i j:Nat} (hz:z.size=es) (hi:i < n) (hj:j < es):((Array.range (n * es)).map fun k=>z[k % z.size]!)[i * es+j]?=z[j]?:=by
 have h1:i * es+j < n * es:=by
  have:=Nat.mul_le_mul_right es hi
  rw [Nat.succ_mul] at this
  omega
 have h2:(i * es+j) % es=j:=by rw [Nat.add_comm,Nat.add_mul_mod_self_right]; exact Nat.mod_eq_of_lt hj
 have h3:j < z.size:=by omega
 simp [h1,hz,h2]
 rw [getElem!_pos z j h3,Array.getElem?_eq_getElem h3]

theorem makes_row {e:ETy} {t:TypeId} {n:Nat} (id:Nat) (he:cETy P t=some e) {z:Value} {i:TypeInfo} (hi:P.info? t=some i) (hz:i.zero=some z)
 (hrun:(execOp a.eval o).run P w=.ok (.value (.slice (some ⟨w.heap.size,0,none⟩) n n)) (w.alloc (.cells ((Array.range (n * i.size)).map fun k=>z.cells[k % z.cells.size]!) t))) :
 Makes P w bad D ρ a o (.slc id 0 n) id ⟨e,List.replicate n e.zero⟩:=by
 obtain ⟨i',z',hi',ha,hz',hzv,ht,hes,hby,hzo,hpos⟩:=cETy_spec he
 rw [hi] at hi'; cases hi'
 rw [hz] at hz'; cases hz'
 obtain ⟨h1,h2⟩:=elOk_rep hzo (.frz (cv_rep (w:=w) (bad:=fun b=>bad b ∨ own ρ b) hzv):Rep w bad D ρ e.zero z)
 refine ⟨_,_,_,(0,0),n,hrun,rfl,rfl,rfl,alloc3 _ _ ht,hpos,by simp [hes],unfz0 _,by simp,?_,?_,.inr ⟨n,n,rfl,Nat.le_refl _,Nat.le_refl _,rfl⟩⟩
 ·intro k el hel
  simp only [List.getElem?_replicate] at hel
  split at hel <;> simp at hel
  subst hel; exact hzo
 ·intro k el j c hel hj
  simp only [List.getElem?_replicate] at hel
  split at hel
  ·rename_i hk
   simp at hel
   subst hel
   obtain ⟨u,hu,hr⟩:=h2 j c hj
   refine ⟨u,?_,hr⟩
   have hjl:j < e.es:=by have:=(List.getElem?_eq_some_iff.mp hj).1; have:=(elOk_sc hzo).2.1; omega
   simp only
   rw [hes] at hjl ⊢
   rw [zero_cells (by omega) hk hjl]
   exact hu
  ·cases hel

theorem makes_mkslice {e:ETy} {t et:TypeId} {x y:Operand} {x' y':Opd} {n:Int} (id:Nat) (ho:o.op=.makeSlice t x y) (hs:P.underlying t=some (.slice et)) (he:cETy P et=some e) (hx:cOpd x=some x') (hy:cOpd y=some y')
 (hn:aInt (ev x')=some n) (hm:aInt (ev y')=some n) (h0:0≤n) (hb:n * e.bytes≤140737488355328) (hl:n≤9223372036854775807) (hO:OpsOk w bad D ρ a ev o.op.operands.toList) :
 Makes P w bad D ρ a o (.slc id 0 n.toNat) id ⟨e,List.replicate n.toNat e.zero⟩:=by
 obtain ⟨i,z,hi,ha,hz,hzv,ht,hes,hby,hzo,hpos⟩:=cETy_spec he
 have h2:=hO x (by simp [ho,Op.operands]) x' hx
 have h3:=hO y (by simp [ho,Op.operands]) y' hy
 refine makes_row id he hi hz ?_
 have e2:∃ k,a.eval x=.int k n:=by
  generalize ev x'=X at *
  cases X <;> simp [aInt] at hn
  subst hn
  exact ⟨_,rep_int h2⟩
 have e3:∃ k,a.eval y=.int k n:=by
  generalize ev y'=X at *
  cases X <;> simp [aInt] at hm
  subst hm
  exact ⟨_,rep_int h3⟩
 obtain ⟨k1,e2⟩:=e2
 obtain ⟨k2,e3⟩:=e3
 have hw:IntKind.i64.wrap n=n:=by rw [IntKind.wrap_i64]; omega
 rw [hby] at hb
 have hsz:0 < i.size:=by omega
 simp only [execOp,ho,Instr.makeSlice,e2,e3,Sem.run_bind,run_underlying hs,Result.andThen_ok,asInt,asIntOf,Sem.run_pure,typeInfo,run_program,hi,hw]
 have c1:¬ ((decide (n < 0) || decide ((i.bytes:Int) * n > 2 ^ 48)) || decide (n < 0) || decide (n > n))=true:=by
  have:(i.bytes:Int) * n≤140737488355328:=by rw [Int.mul_comm]; exact hb
  simp
  omega
 rw [if_neg c1]
 simp only [Sem.run_bind,run_askRoom,Result.andThen_ok,run_size hi]
 by_cases hz0:n.toNat * i.size=0
 ·rw [if_pos hz0]
  have hr:∀ f:Nat→Value,Array.map f (Array.range (n.toNat * i.size))=#[]:=fun f=>by rw [hz0]; apply Array.ext'; simp
  simp [newRow,hr]
 ·rw [if_neg hz0]
  simp [newRow,zeroValue,typeInfo,hi,hz]

theorem fillR_run {e:ETy} (hes:0 < e.es):∀ (ps:List (Nat × AV)) (qs:List (Nat × Value)) (els els':List AV) (vs:List Value),ps.length=qs.length→vs.length=els.length * e.es →
 (∀ (i:Nat) (el:AV),els[i]?=some el→elOk e el=true) →
 (∀ (i:Nat) (el:AV) (j:Nat) (c:AV),els[i]?=some el→el.cells[j]?=some c→∃ u,vs[i * e.es+j]?=some u∧Rep w bad D ρ c u) →
 (∀ (i:Nat) (p:Nat × AV) (q:Nat × Value),ps[i]?=some p→qs[i]?=some q→q.1=p.1∧Rep w bad D ρ p.2 q.2)→fillR e els ps=some els' →
 ∃ vs':List Value,Instr.fill (fun i=>some (i * e.es,e.es)) vs.toArray qs=some vs'.toArray∧els'.length=els.length∧vs'.length=els'.length * e.es ∧
   (∀ (i:Nat) (el:AV),els'[i]?=some el→elOk e el=true) ∧
   (∀ (i:Nat) (el:AV) (j:Nat) (c:AV),els'[i]?=some el→el.cells[j]?=some c→∃ u,vs'[i * e.es+j]?=some u∧Rep w bad D ρ c u)
 | [],qs,els,els',vs,hl,hv,hok,hp,_,h=>by
   cases qs with
   | nil=>simp [fillR] at h; subst h; exact ⟨vs,rfl,rfl,hv,hok,hp⟩
   | cons q qs=>simp at hl
 | (k,x)::ps,qs,els,els',vs,hl,hv,hok,hp,hq,h=>by
   cases qs with
   | nil=>simp at hl
   | cons q qs =>
     obtain ⟨h1,h2⟩:=hq 0 _ _ rfl rfl
     obtain ⟨i0,u⟩:=q
     simp only at h1 h2
     subst h1
     simp only [fillR] at h
     split at h <;> (try (cases h; done))
     rename_i hx
     split at h <;> (try (cases h; done))
     rename_i hlt
     obtain ⟨e1,e2⟩:=elOk_rep hx h2
     have hb:i0 * e.es+e.es≤els.length * e.es:=by
      have:=Nat.mul_le_mul_right e.es hlt
      rwa [Nat.succ_mul] at this
     have hz:(u.cells.zipIdx.foldl (fun (cs:Array Value) (x:Value × Nat)=>cs.setIfInBounds (i0 * e.es+x.2) x.1) vs.toArray)=(vs.take (i0 * e.es) ++ u.cells.toList ++ vs.drop (i0 * e.es+e.es)).toArray:=by
      obtain ⟨ul,hul⟩:∃ l:List Value,u.cells=l.toArray:=⟨u.cells.toList,by simp⟩
      have hlen:ul.length=e.es:=by rw [hul] at e1; simpa using e1
      have z:=zip_fold (i0 * e.es) ul 0 vs.toArray (by simp; omega)
      rw [hul]
      apply Array.ext'
      have e3:ul.toArray.zipIdx=(ul.zipIdx 0).toArray:=by simp
      rw [e3,List.foldl_toArray]
      simpa [hlen] using z
     have hlen':(vs.take (i0 * e.es) ++ u.cells.toList ++ vs.drop (i0 * e.es+e.es)).length=(els.set i0 x).length * e.es:=by
      simp; omega
     obtain ⟨vs',f1,f2,f3,f4,f5⟩:=fillR_run hes ps qs (els.set i0 x) els' _ (by simpa using hl) hlen' (by
      intro i el hel
      by_cases hii:i0=i
      ·subst hii
       rw [List.getElem?_set_self hlt] at hel
       cases hel; exact hx
      ·rw [List.getElem?_set_ne hii] at hel
       exact hok i el hel) (by
      intro i el j c hel hj
      by_cases hne:i0=i
      ·subst hne
       rw [List.getElem?_set_self hlt] at hel
       cases hel
       obtain ⟨y,hy,hr⟩:=e2 j c hj
       refine ⟨y,?_,hr⟩
       have hjl:j < u.cells.size:=(Array.getElem?_eq_some_iff.mp hy).1
       rw [List.append_assoc,List.getElem?_append_right (by simp; omega),List.getElem?_append_left (by simp; omega)]
       have:i0 * e.es+j - (vs.take (i0 * e.es)).length=j:=by simp; omega
       rw [this]
       simpa using hy
      ·rw [List.getElem?_set_ne hne] at hel
       obtain ⟨y,hy,hr⟩:=hp i el j c hel hj
       refine ⟨y,?_,hr⟩
       have hjl:j < e.es:=by have h9:=(List.getElem?_eq_some_iff.mp hj).1; have:=(elOk_sc (hok i el hel)).2.1; omega
       rcases Nat.lt_or_gt_of_ne hne with hlt' | hgt'
       ·have h8:i0 * e.es+e.es≤i * e.es:=by
         have:=Nat.mul_le_mul_right e.es hlt'
         rwa [Nat.succ_mul] at this
        rw [List.getElem?_append_right (by simp; omega)]
        simp only [List.length_append,List.length_take,Array.length_toList,List.getElem?_drop]
        have:i0 * e.es+e.es+(i * e.es+j - (min (i0 * e.es) vs.length+u.cells.size))=i * e.es+j:=by omega
        rw [this]; exact hy
       ·have h8:i * e.es+e.es≤i0 * e.es:=by
         have:=Nat.mul_le_mul_right e.es hgt'
         rwa [Nat.succ_mul] at this
        rw [List.append_assoc,List.getElem?_append_left (by simp; omega),List.getElem?_take_of_lt (by omega)]
        exact hy) (fun i p q hp hq'=>hq (i+1) p q (by simpa using hp) (by simpa using hq')) h
     refine ⟨vs',?_,by rw [f2]; simp,f3,f4,f5⟩
     unfold Instr.fill
     simp only
     rw [if_neg (by simp; omega)]
     exact (congrArg (fun z=>Instr.fill _ z qs) hz).trans f1

theorem makes_mkrow {e:ETy} {t et:TypeId} {n:Nat} {ps:Array (Nat × Operand)} {l:List (Nat × Opd)} {els:List AV} (id:Nat) (ho:o.op=.buildSlice t n ps) (hs:P.underlying t=some (.slice et)) (he:cETy P et=some e) (hl:cParts ps.toList=some l)
 (hn:n * e.es≤16777216) (hf:fillR e (List.replicate n e.zero) (l.map fun p=>(p.1,ev p.2))=some els) (hO:OpsOk w bad D ρ a ev o.op.operands.toList):Makes P w bad D ρ a o (.slc id 0 n) id ⟨e,els⟩:=by
 obtain ⟨i,z,hi,ha,hz,hzv,ht,hes,hby,hzo,hpos⟩:=cETy_spec he
 obtain ⟨o1,o2⟩:=optAll_spec hl
 obtain ⟨z1,z2⟩:=elOk_rep hzo (.frz (cv_rep (w:=w) (bad:=fun b=>bad b ∨ own ρ b) hzv):Rep w bad D ρ e.zero z)
 have hev:∀ q ∈ ps.toList,∀ y,cOpd q.2=some y→Rep w bad D ρ (ev y) (a.eval q.2):=fun q hq y hy=>hO q.2 (by simp only [ho,Op.operands]; simp; exact ⟨q.1,by simpa using hq⟩) y hy
 have hmap:(ps.map fun p=>(p.1,a.eval p.2)).toList=ps.toList.map fun p=>(p.1,a.eval p.2):=by simp
 obtain ⟨vs',f1,f2,f3,f4,f5⟩:=fillR_run (w:=w) (bad:=bad) (D:=D) (ρ:=ρ) hpos (l.map fun p=>(p.1,ev p.2)) (ps.toList.map fun p=>(p.1,a.eval p.2)) (List.replicate n e.zero) els
  ((Array.range (n * e.es)).map fun k=>z.cells[k % z.cells.size]!).toList (by simp [o1]) (by simp) (fun i el hel=>by
    simp only [List.getElem?_replicate] at hel
    split at hel <;> simp at hel
    subst hel; exact hzo) (fun k el j c hel hj=>by
    simp only [List.getElem?_replicate] at hel
    split at hel
    ·rename_i hk
     simp at hel
     subst hel
     obtain ⟨u,hu,hr⟩:=z2 j c hj
     refine ⟨u,?_,hr⟩
     have hjl:j < e.es:=by have:=(List.getElem?_eq_some_iff.mp hj).1; have:=(elOk_sc hzo).2.1; omega
     rw [Array.getElem?_toList,zero_cells z1 hk hjl]
     exact hu
    ·cases hel) (fun k p q hp hq=>by
    rw [List.getElem?_map] at hp hq
    obtain ⟨p',hp',rfl⟩:=Option.map_eq_some_iff.mp hp
    obtain ⟨q',hq',rfl⟩:=Option.map_eq_some_iff.mp hq
    obtain ⟨b,hb,hbe⟩:=o2 k q' hq'
    rw [hb] at hp'; cases hp'
    split at hbe
    ·rename_i y hy
     cases hbe
     exact ⟨rfl,hev q' (List.mem_of_getElem? hq') _ hy⟩
    ·cases hbe) hf
 have f2':els.length=n:=by simpa using f2
 rw [Array.toArray_toList] at f1
 refine ⟨.slice (some ⟨w.heap.size,0,none⟩) n n,w.alloc (.cells vs'.toArray et),vs'.toArray,(0,0),n,?_,rfl,rfl,rfl,alloc3 _ _ ht,hpos,by simp only [List.size_toArray,f3,f2'],unfz0 _,by simp only [f2']; exact Nat.le_refl _,f4,
  fun i el j c hel hj=>by simpa using f5 i el j c hel hj,.inr ⟨n,n,rfl,Nat.le_refl _,Nat.le_refl _,rfl⟩⟩
 have hbig:¬ (n * i.size > 2 ^ 24):=by rw [← hes]; omega
 simp only [execOp,ho,Instr.buildSlice,Sem.run_bind,run_underlying hs,Result.andThen_ok,run_size hi,if_neg hbig,Sem.run_pure,hmap]
 rw [hes] at f1
 have hzr:(zeroValue et).run P w=.ok z w:=by simp [zeroValue,typeInfo,hi,hz]
 by_cases hz0:n * i.size=0
 ·rw [if_pos hz0]
  have hr:∀ f:Nat→Value,Array.map f (Array.range (n * i.size))=#[]:=fun f=>by rw [hz0]; apply Array.ext'; simp
  rw [hr] at f1
  simp only [Sem.run_pure,Result.andThen_ok,hr,f1]
  simp [newRow]
 ·rw [if_neg hz0]
  simp only [Sem.run_bind,hzr,Result.andThen_ok,Sem.run_pure,f1]
  simp [newRow]

theorem makes_s2b {e:ETy} {s d et:TypeId} {ds:TypeDesc} {x:Operand} {x':Opd} {l:List UInt8} (id:Nat) (ho:o.op=.convert s d x) (hs:P.underlying s=some ds) (hd:P.underlying d=some (.slice et)) (hu:P.underlying et=some (.int .u8))
 (he:cETy P et=some e) (he1:e.es=1) (hx:cOpd x=some x') (hv:ev x'=.str l) (hO:OpsOk w bad D ρ a ev o.op.operands.toList):Makes P w bad D ρ a o (.slc id 0 l.length) id ⟨e,bytesAV l⟩:=by
 obtain ⟨i,z,hi,ha,hz,hzv,ht,hes,hby,hzo,hpos⟩:=cETy_spec he
 subst ht
 have h2:=hO x (by simp [ho,Op.operands]) x' hx
 rw [hv] at h2
 have e2:=rep_str h2
 have hrun:=Lib.run_convert_string_bytes (P:=P) w s d e.tid ⟨l.toArray⟩ hs hd hu
 have hsz:(⟨l.toArray⟩:ByteArray).size=l.length:=by simp [ByteArray.size]
 have hge:=grownCap_ge w (⟨l.toArray⟩:ByteArray).size 0 e.tid
 have hcur:(Lib.bytesCells w e.tid ⟨l.toArray⟩).size=grownCap w (⟨l.toArray⟩:ByteArray).size 0 e.tid:=by
  simp only [Lib.bytesCells,Array.size_append,Array.size_map,Array.size_replicate]
  have h8:l.toArray.size=l.length:=by simp
  rw [hsz] at hge ⊢
  omega
 rw [hsz] at hge hcur
 refine ⟨.slice (some ⟨w.heap.size,0,none⟩) l.length (grownCap w l.length 0 e.tid),Lib.bytesWorld w e.tid ⟨l.toArray⟩,Lib.bytesCells w e.tid ⟨l.toArray⟩,_,grownCap w l.length 0 e.tid,?_,rfl,rfl,rfl,
  ⟨Lib.bytesWorld_size _ _ _,fun j hj=>Lib.bytesWorld_at_old _ _ _ j hj,Lib.bytesWorld_at_new w _ _⟩,hpos,by rw [he1,hcur,Nat.mul_one],⟨fun j hj=>by simp; omega,by simp⟩,by simpa [bytesAV] using hge,?_,?_,
  .inr ⟨l.length,_,rfl,hge,Nat.le_refl _,rfl⟩⟩
 ·rw [hsz] at hrun
  simp only [execOp,ho,e2,Sem.run_bind,hrun,Result.andThen_ok,Sem.run_pure]
 ·intro k el hel
  simp only [bytesAV,List.getElem?_map] at hel
  obtain ⟨b,hb,rfl⟩:=Option.map_eq_some_iff.mp hel
  simp [elOk,AV.cells,isSc,he1]
 ·intro k el j c hel hj
  simp only [bytesAV,List.getElem?_map] at hel
  obtain ⟨b,hb,rfl⟩:=Option.map_eq_some_iff.mp hel
  cases j with
  | succ j=>simp [AV.cells] at hj
  | zero =>
    simp [AV.cells] at hj
    subst hj
    have hk:=(List.getElem?_eq_some_iff.mp hb).1
    refine ⟨.int .u8 b.toNat,?_,.frz (.int _ _)⟩
    simp only [he1,Nat.mul_one,Nat.add_zero,Lib.bytesCells]
    rw [Array.getElem?_append_left (by simpa using hk)]
    simp [hb]
end
end Go.Proofs.Ytdceaeifcniabaa.AE

namespace Go.Proofs.Ytdceaeifcniabaa.AE
set_option linter.unusedVariables false
set_option linter.unusedSimpArgs false
set_option linter.constructorNameAsVariable false
open Go Go.RowKit

abbrev dead (H:Heap):Nat→Prop:=fun id=>H[id]?=some none

section
variable {P:Program} {w w':World} {bad D D':Nat→Prop} {ρ ρ':Rho} {a:Act} {ev:Opd→AV} {o:Oper} {B:Nat}

theorem BlkRel.step {k:Blk} {b es cap:Nat} (s:Step w w' D D' ρ ρ') (h:BlkRel w bad D ρ B k b es cap) (hm:w'.heap[b]?=w.heap[b]?):BlkRel w' bad D' ρ' B k b es cap:=by
 obtain ⟨cur,fz,h1,h2,h3,h4⟩:=h.mem
 exact ⟨h.hes,h.pos,h.low,h.len,h.ok,cur,fz,hm.trans h1,h2,h3,fun i el j c hel hj=>let ⟨v,hv,hr⟩:=h4 i el j c hel hj; ⟨v,hv,hr.step s⟩⟩

theorem own_lt {H:Heap} (hR:HRel w bad ρ B H) {b:Nat} (h:own ρ b):b < w.heap.size∧B≤b:=by
 obtain ⟨id,es,cap,h⟩:=h
 obtain ⟨k,hk,hb⟩:=hR.real id b es cap h
 obtain ⟨cur,fz,h1,_⟩:=hb.mem
 exact ⟨(Array.getElem?_eq_some_iff.mp h1).1,hb.low⟩

theorem alloc_upd {H H':Heap} {id:Nat} {k:Blk} {cur:Array Value} {fz:Nat × Nat} {cap:Nat} (hR:HRel w bad ρ B H) (hB:B≤w.heap.size) (hρ:ρ id=.no) (hnew:H'[id]?=some (some k)) (hold:∀ i:Nat,i ≠ id→ρ i ≠ .no→H'[i]?=H[i]?)
 (hdead:∀ i:Nat,H[i]?=some none→H'[i]?=some none) (hos:w'.os=w.os) (htape:w'.tape=w.tape) (hout:w'.output=w.output) (hsz:w'.heap.size=w.heap.size+1) (hkeep:∀ j,j < w.heap.size→w'.heap[j]?=w.heap[j]?)
 (hcell:w'.heap[w.heap.size]?=some (.cells cur k.e.tid fz)) (hpos:0 < k.e.es) (hcs:cur.size=cap * k.e.es) (hfz:Unfz fz cur.size) (hlen:k.els.length≤cap)
 (hok:∀ (i:Nat) (el:AV),k.els[i]?=some el→elOk k.e el=true)
 (hcells:∀ (i:Nat) (el:AV) (j:Nat) (c:AV),k.els[i]?=some el→el.cells[j]?=some c→∃ u,cur[i * k.e.es+j]?=some u∧Rep w bad (dead H) ρ c u) :
 ∃ ρ',ρ'=(fun i=>if i=id then RB.real w.heap.size k.e.es cap else ρ i)∧Step w w' (dead H) (dead H') ρ ρ'∧HRel w' bad ρ' B H':=by
 refine ⟨_,rfl,?_⟩
 have hst:Step w w' (dead H) (dead H') ρ (fun i=>if i=id then RB.real w.heap.size k.e.es cap else ρ i):=by
  refine ⟨⟨hos,htape,hout,by omega,fun b hb _=>hkeep b hb⟩,⟨fun b hb=>?_⟩,hdead,fun i hi=>.inl ?_⟩
  ·obtain ⟨i,es,cp,h⟩:=hb
   by_cases hi:i=id
   ·simp [hi] at h; right; omega
   ·simp [hi] at h; exact .inl ⟨i,es,cp,h⟩
  ·have:i ≠ id:=fun e=>hi (e ▸ hρ)
   simp [this]
 refine ⟨hst,?_,?_,?_,fun i h=>?_⟩
 rotate_right
 ·by_cases hi:i=id
  ·simp [hi] at h
  ·simp [hi] at h
   obtain ⟨k',hk',he⟩:=hR.res i h
   exact ⟨k',(hold i hi (by simp [h])).trans hk',he⟩
 ·intro i b es cp h
  by_cases hi:i=id
  ·simp [hi] at h
   obtain ⟨rfl,rfl,rfl⟩:=h
   subst hi
   exact ⟨k,hnew,rfl,hpos,hB,hlen,hok,cur,fz,hcell,hcs,hfz,fun i el j c hel hj=>let ⟨u,hu,hr⟩:=hcells i el j c hel hj; ⟨u,hu,hr.step hst⟩⟩
  ·simp [hi] at h
   obtain ⟨k',hk',hb⟩:=hR.real i b es cp h
   exact ⟨k',(hold i hi (by simp [h])).trans hk',hb.step hst (hkeep b (own_lt hR ⟨i,es,cp,h⟩).1)⟩
 ·intro i h
  by_cases hi:i=id
  ·simp [hi] at h
  ·simp [hi] at h
   obtain ⟨k',hk',he⟩:=hR.virt i h
   exact ⟨k',(hold i hi (by simp [h])).trans hk',he⟩
 ·intro i i' b es cp es' cp' h h'
  by_cases hi:i=id <;> by_cases hi':i'=id
  ·rw [hi,hi']
  ·simp [hi] at h; simp [hi'] at h'
   have:=(own_lt hR ⟨i',es',cp',h'⟩).1
   omega
  ·simp [hi] at h; simp [hi'] at h'
   have:=(own_lt hR ⟨i,es,cp,h⟩).1
   omega
  ·simp [hi] at h; simp [hi'] at h'
   exact hR.inj i i' b es cp es' cp' h h'

theorem storeCells_run (b t:Nat) (fz:Nat × Nat):∀ (vs:List Value) (o i:Nat) (cur:Array Value) (w:World),w.heap[b]?=some (.cells cur t fz)→o+i+vs.length≤cur.size→(∀ j,j < cur.size→¬ (fz.1≤j∧j < fz.2))→(∀ v ∈ vs,v.oneCell'=true) →
 ∃ w' cur',(storeCells ⟨b,o,none⟩ vs i).run P w=.ok () w'∧w'.os=w.os∧w'.tape=w.tape∧w'.output=w.output∧w'.heap.size=w.heap.size∧(∀ j,j ≠ b→w'.heap[j]?=w.heap[j]?)∧w'.heap[b]?=some (.cells cur' t fz)∧cur'.size=cur.size ∧
   ∀ k,cur'[k]?=if o+i≤k∧k < o+i+vs.length then vs[k - (o+i)]? else cur[k]?
 | [],o,i,cur,w,hb,_,_,_=>⟨w,cur,rfl,rfl,rfl,rfl,rfl,fun _ _=>rfl,hb,rfl,fun k=>by rw [if_neg (by simp)]⟩
 | v::vs,o,i,cur,w,hb,hle,hfz,h1=>by
   simp only [List.length_cons] at hle
   have hcell:w.cell? ⟨b,o+i,none⟩=some cur[o+i]:=by simp [World.cell?,hb]
   have hfr:w.frozen? ⟨b,o+i,none⟩=false:=by
    have:=hfz (o+i) (by omega)
    simp only [World.frozen?,hb]
    simpa using this
   have hst:(store (Addr.add ⟨b,o,none⟩ i) v).run P w=.ok () (w.setCell ⟨b,o+i,none⟩ v):=by
    rw [Addr.add_lit,run_store P w _ v _ (h1 v (by simp)),hcell]
    simp [hfr]
   have hb2:(w.setCell ⟨b,o+i,none⟩ v).heap[b]?=some (.cells (cur.setIfInBounds (o+i) v) t fz):=by
    simp only [World.setCell,Array.getElem?_modify,if_true,hb,Option.map_some]
    simp
   obtain ⟨w',cur',r1,r2,r3,r4,r5,r6,r7,r8,r9⟩:=storeCells_run b t fz vs o (i+1) (cur.setIfInBounds (o+i) v) (w.setCell ⟨b,o+i,none⟩ v) hb2 (by simp; omega) (by simpa using hfz) (fun u hu=>h1 u (by simp [hu]))
   refine ⟨w',cur',?_,r2,r3,r4,by rw [r5]; simp,fun j hj=>(r6 j hj).trans (Below.heap_setCell _ _ _ _ hj),r7,by simpa using r8,fun k=>?_⟩
   ·simp only [storeCells,Sem.run_bind,hst,Result.andThen_ok]
    exact r1
   ·rw [r9 k]
    simp only [List.length_cons]
    by_cases hk:k=o+i
    ·subst hk
     rw [if_neg (by omega),if_pos (by omega)]
     rw [Array.getElem?_setIfInBounds_self_of_lt (by omega)]
     simp
    ·by_cases hk2:o+(i+1)≤k∧k < o+(i+1)+vs.length
     ·rw [if_pos hk2,if_pos (by omega)]
      rw [show k - (o+i)=(k - (o+(i+1)))+1 by omega]
      simp
     ·rw [if_neg hk2,if_neg (by omega)]
      rw [Array.getElem?_setIfInBounds_ne (by omega)]

theorem store_run {H H' Hn:Heap} {t:TypeId} {i:TypeInfo} {p x:AV} {vp vx:Value} (hi:P.info? t=some i) (hz:0 < i.size) (h:aStore H i.size x p=some Hn) (hR:HRel w bad ρ B H') (hsame:∀ id u q,p=.ptr id u q→∀ b,hget H id=some b→ρ id ≠ .no→hget H' id=some b) (hdd:∀ id,dead H' id→hget H id=none)
 (hp:Rep w bad (dead H') ρ p vp) (hx:Rep w bad (dead H') ρ x vx) :
 ∃ id k w',H'[id]?=some (some k)∧hget H id=some k∧(∃ k',Hn=H.set id (some k')∧k'.e=k.e∧k'.els.length=k.els.length∧∀ G:Heap,G=H'.set id (some k')→Step w w' (dead H') (dead G) ρ ρ∧HRel w' bad ρ B G)∧(∃ u q,p=.ptr id u q) ∧
   (Instr.storeAt t vp vx).run P w=.ok () w':=by
 cases p <;> simp only [aStore] at h <;> (try (cases h; done))
 rename_i id u q
 have hs:=hsame id u q rfl
 cases hg:hget H id with
 | none=>simp [hg] at h
 | some k =>
   simp only [hg] at h
   have hs:=hs k hg
   cases he:k.els[u]? with
   | none=>simp [he] at h
   | some el =>
     simp only [he] at h
     cases hps:putSub i.size q x el with
     | none=>simp [hps] at h
     | some el' =>
       simp only [hps] at h
       obtain rfl:=Option.some.inj h
       cases hp with
       | frz h=>cases h
       | ptrD b o hd=>rw [hdd _ hd] at hg; cases hg
       | ptr hρ =>
         rename_i b es cap
         have hk':=agree_of (hs (by simp [hρ]))
         obtain ⟨k2,hk2,hb⟩:=hR.real id b es cap hρ
         rw [hk'] at hk2; cases hk2
         obtain ⟨cur,fz,m1,m2,m3,m4⟩:=hb.mem
         have hok:=elOk_sc (hb.ok u el he)
         have hult:u < k.els.length:=(List.getElem?_eq_some_iff.mp he).1
         have hel:q+i.size≤el.cells.length∧x.cells.length=i.size∧(∀ c ∈ x.cells,isSc c=true)∧el'.cells=el.cells.take q ++ x.cells ++ el.cells.drop (q+i.size):=by
          unfold putSub at hps
          split at hps
          ·split at hps <;> (try (cases hps; done))
           rename_i hcnd
           obtain rfl:=Option.some.inj hps
           exact ⟨hcnd.1,hcnd.2.1,by simpa using hcnd.2.2,rfl⟩
          ·rename_i hna
           split at hps <;> (try (cases hps; done))
           rename_i hcnd
           obtain rfl:=Option.some.inj hps
           obtain ⟨rfl,h1,hsc⟩:=hcnd
           have ex:x.cells=[x]:=by cases x <;> first | rfl | (simp [isSc] at hsc; done)
           have ee:el.cells=[el]:=by cases el <;> first | rfl | exact absurd rfl (hna _)
           rw [ex,ee,h1]
           exact ⟨by simp,rfl,by simpa using hsc,by simp⟩
         obtain ⟨hq,hxl,hxs,hel'⟩:=hel
         have hes:el.cells.length=es:=by rw [hok.2.1,hb.hes]
         have hxsc:isSc x=true ∨ ∃ cs,x=.agg cs:=cells_sc (fun j c hj=>hxs c (List.mem_of_getElem? hj))
         obtain ⟨v1,v2⟩:=rep_cells hx hxsc
         have hone:∀ v ∈ vx.cells.toList,v.oneCell'=true:=by
          intro v hv
          obtain ⟨j,hj⟩:=List.getElem?_of_mem hv
          have hjl:j < x.cells.length:=by have:=(List.getElem?_eq_some_iff.mp hj).1; simp at this; omega
          exact (rep_one (v2 j _ v (List.getElem?_eq_getElem hjl) (by simpa using hj)) (hxs _ (List.getElem_mem hjl))).1
         have hbound:u * es+es≤cap * es:=by
          have:=Nat.mul_le_mul_right es (Nat.lt_of_lt_of_le hult hb.len)
          rwa [Nat.succ_mul] at this
         obtain ⟨w',cur',r1,r2,r3,r4,r5,r6,r7,r8,r9⟩:=storeCells_run (P:=P) b k.e.tid fz vx.cells.toList (u * es+q) 0 cur w m1 (by simp; omega) m3.1 hone
         refine ⟨id,k,w',hk',hg,⟨{ k with els:=k.els.set u el' },rfl,rfl,by simp,fun G hG=>?_⟩,⟨u,q,rfl⟩,?_⟩
         ·subst hG
          have hdd:dead (H'.set id (some { k with els:=k.els.set u el' }))=dead H':=by
           funext j
           apply propext
           simp only [dead,List.getElem?_set]
           split
           ·rename_i hj; subst hj
            split
            ·simp [hk']
            ·rename_i hlt; simp at hlt; simp [List.getElem?_eq_none hlt]
           ·rfl
          have hst:Step w w' (dead H') (dead (H'.set id (some { k with els:=k.els.set u el' }))) ρ ρ:=by
           rw [hdd]
           exact ⟨⟨r2,r3,r4,Nat.le_of_eq r5.symm,fun b' _ hn=>r6 b' (fun e=>hn (e ▸ ⟨id,es,cap,hρ⟩))⟩,RLe.refl _ _,fun _ h=>h,fun _ _=>.inl rfl⟩
          refine ⟨hst,?_,?_,hR.inj,fun id' h'=>by
           obtain ⟨k3,hk3,he3⟩:=hR.res id' h'
           have hid:id ≠ id':=fun e=>by subst e; rw [hρ] at h'; cases h'
           exact ⟨k3,by rw [List.getElem?_set_ne hid]; exact hk3,he3⟩⟩
          ·intro id' b' es' cap' h'
           by_cases hid:id=id'
           ·subst hid
            rw [hρ] at h'; cases h'
            have hlt:id < H'.length:=(List.getElem?_eq_some_iff.mp hk').1
            refine ⟨{ k with els:=k.els.set u el' },by rw [List.getElem?_set_self hlt],hb.hes,hb.pos,hb.low,by simpa using hb.len,?_,cur',fz,r7,by rw [r8,m2],by rw [r8]; exact m3,?_⟩
            ·intro j y hy
             by_cases hju:u=j
             ·subst hju
              rw [List.getElem?_set_self hult] at hy; cases hy
              simp only [elOk,hel',Bool.and_eq_true,beq_iff_eq,List.all_eq_true,List.length_append,List.length_take,List.length_drop]
              refine ⟨by rw [hb.hes]; omega,fun c hc=>?_⟩
              simp only [List.mem_append] at hc
              rcases hc with (hc | hc) | hc
              ·exact hok.2.2 c (List.mem_of_mem_take hc)
              ·exact hxs c hc
              ·exact hok.2.2 c (List.mem_of_mem_drop hc)
             ·rw [List.getElem?_set_ne hju] at hy
              exact hb.ok j y hy
            ·intro j y l c hy hl
             have hll:l < es:=by
              by_cases hju:u=j
              ·subst hju
               rw [List.getElem?_set_self hult] at hy; cases hy
               have:=(List.getElem?_eq_some_iff.mp hl).1
               rw [hel'] at this
               simp at this; omega
              ·rw [List.getElem?_set_ne hju] at hy
               have h9:=(List.getElem?_eq_some_iff.mp hl).1
               have:=(elOk_sc (hb.ok j y hy)).2.1
               rw [hb.hes] at this; omega
             by_cases hju:u=j
             ·subst hju
              rw [List.getElem?_set_self hult] at hy; cases hy
              rw [r9,hel'] at *
              by_cases hin:q≤l∧l < q+i.size
              ·rw [if_pos (by simp; omega)]
               rw [List.append_assoc,List.getElem?_append_right (by simp; omega),List.getElem?_append_left (by simp; omega)] at hl
               have e1:l - (el.cells.take q).length=l - q:=by simp; omega
               rw [e1] at hl
               have e2:u * es+l - (u * es+q+0)=l - q:=by omega
               rw [e2]
               have hlt:l - q < vx.cells.size:=by omega
               refine ⟨vx.cells[l - q],by simp [hlt],?_⟩
               exact (v2 _ c _ hl (Array.getElem?_eq_getElem hlt)).step hst
              ·rw [if_neg (by simp; omega)]
               have hl2:el.cells[l]?=some c:=by
                by_cases hl3:l < q
                ·rwa [List.append_assoc,List.getElem?_append_left (by simp; omega),List.getElem?_take_of_lt hl3] at hl
                ·rw [List.getElem?_append_right (by simp; omega)] at hl
                 simp only [List.length_append,List.length_take,List.getElem?_drop] at hl
                 have e1:q+i.size+(l - (min q el.cells.length+x.cells.length))=l:=by omega
                 rwa [e1] at hl
               obtain ⟨z,hz1,hz2⟩:=m4 u el l c he hl2
               exact ⟨z,hz1,hz2.step hst⟩
             ·rw [List.getElem?_set_ne hju] at hy
              obtain ⟨z,hz1,hz2⟩:=m4 j y l c hy hl
              refine ⟨z,?_,hz2.step hst⟩
              rw [r9,if_neg]
              ·exact hz1
              ·intro hh
               simp at hh
               rcases Nat.lt_or_gt_of_ne hju with h9 | h9
               ·have:=Nat.mul_le_mul_right es h9
                rw [Nat.succ_mul] at this; omega
               ·have:=Nat.mul_le_mul_right es h9
                rw [Nat.succ_mul] at this; omega
           ·obtain ⟨k3,hk3,hb3⟩:=hR.real id' b' es' cap' h'
            refine ⟨k3,by rw [List.getElem?_set_ne hid]; exact hk3,hb3.step hst (r6 b' (fun e=>hid ?_))⟩
            subst e
            exact hR.inj id id' _ _ _ _ _ hρ h'
          ·intro id' h'
           obtain ⟨k3,hk3,he3⟩:=hR.virt id' h'
           have hid:id ≠ id':=fun e=>by subst e; rw [hρ] at h'; cases h'
           exact ⟨k3,by rw [List.getElem?_set_ne hid]; exact hk3,he3⟩
         ·simp only [Instr.storeAt,Instr.sureAddr,Sem.run_bind,Sem.run_pure,Result.andThen_ok,storeVar,run_size hi]
          rw [if_neg (by omega)]
          exact r1
end
end Go.Proofs.Ytdceaeifcniabaa.AE

namespace Go.Proofs.Ytdceaeifcniabaa.AE
set_option linter.unusedVariables false
set_option linter.unusedSimpArgs false
set_option linter.constructorNameAsVariable false
open Go Go.RowKit

section
variable {P:Program} {w w':World} {bad D D':Nat→Prop} {ρ ρ':Rho} {a:Act} {ev:Opd→AV} {o:Oper} {B:Nat}

structure Src (P:Program) (w:World) (bad D:Nat→Prop) (ρ:Rho) (xs:List AV) (es:Nat) (v:Value) (news:List Value):Prop where
 len:(Builtin.lenOf v).run P w=.ok xs.length w
 first:∀ w2:World,w2.heap=w.heap→(Builtin.firstCells es xs.length v).run P w2=.ok news.toArray w2
 size:news.length=xs.length * es
 one:∀ u ∈ news,u.oneCell'=true
 rep:∀ (i:Nat) (el:AV) (j:Nat) (c:AV),xs[i]?=some el→el.cells[j]?=some c→∃ u,news[i * es+j]?=some u∧Rep w bad D ρ c u

theorem dead_get (H:Heap):∀ id,dead H id→hget H id=none:=fun id hd=>by simp only [dead] at hd; simp [hget,hd]

theorem src_of {H H':Heap} {X:AV} {xs:List AV} {v:Value} {e:ETy} (h:elsOf H X=some xs) (hok:xs.all (elOk e)=true) (hR:HRel w bad ρ B H') (hD:∀ id,D id ↔ H'[id]?=some none) (hsame:∀ id u q,X=.slc id u q→∀ b,hget H id=some b→ρ id ≠ .no→hget H' id=some b) (hdd:∀ id,D id→hget H id=none)
 (hv:Rep w bad D ρ X v):∃ news,Src P w bad D ρ xs e.es v news:=by
 by_cases hX:∃ s,X=.str s
 ·obtain ⟨s,rfl⟩:=hX
  have e2:=rep_str hv
  subst e2
  simp only [elsOf,Option.some.injEq] at h
  subst h
  have hsz:(⟨s.toArray⟩:ByteArray).size=s.length:=by simp [ByteArray.size]
  have hlen:(bytesAV s).length=s.length:=by simp [bytesAV]
  by_cases hs:s=[]
  ·subst hs
   exact ⟨[],by simp [Builtin.lenOf,bytesAV,ByteArray.size],fun w2 _=>by simp [Builtin.firstCells,bytesAV],by simp [bytesAV],by simp,by simp [bytesAV]⟩
  ·have he:e.es=1:=by
    cases s with
    | nil=>exact absurd rfl hs
    | cons b s =>
      have:=(List.all_eq_true.mp hok) (.int .u8 b.toNat) (by simp [bytesAV])
      simp [elOk,AV.cells] at this
      exact this.1.symm
   refine ⟨s.map fun b=>Value.int .u8 b.toNat,by simp [Builtin.lenOf,hsz,hlen],?_,by simp [hlen,he],by simp [Value.oneCell'],?_⟩
   ·intro w2 _
    rw [hlen]
    have:(⟨s.toArray⟩:ByteArray).extract 0 s.length=⟨s.toArray⟩:=by
     apply ByteArray.ext
     simp
    simp only [Builtin.firstCells,this,Sem.run_pure]
    congr 1
    simp
   ·intro i el j c hel hj
    simp only [bytesAV,List.getElem?_map] at hel
    obtain ⟨b,hb,rfl⟩:=Option.map_eq_some_iff.mp hel
    cases j with
    | succ j=>simp [AV.cells] at hj
    | zero =>
      simp [AV.cells] at hj
      subst hj
      exact ⟨.int .u8 b.toNat,by rw [he]; simp [hb],.frz (.int _ _)⟩
 ·obtain ⟨ad,c,e2,hn,hrow⟩:=elsOf_rep h (fun s hs=>hX ⟨s,hs⟩) hR hD hsame hdd hv
  subst e2
  by_cases hnil:xs=[]
  ·subst hnil
   refine ⟨[],by simp [Builtin.lenOf],fun w2 _=>?_,by simp,by simp,by simp⟩
   cases ad with
   | none=>simp [Builtin.firstCells]
   | some ad=>simp [Builtin.firstCells,loadCells,loadCellsFrom]
  ·rcases hrow with h0 | ⟨b,q,es,rfl,hpos,hes,hc⟩
   ·exact absurd h0 hnil
   ·have he:es=e.es:=by
     cases xs with
     | nil=>exact absurd rfl hnil
     | cons x xs =>
       have h1:=(List.all_eq_true.mp hok) x (by simp)
       simp only [elOk,Bool.and_eq_true,beq_iff_eq] at h1
       rw [← hes 0 x rfl,h1.1]
    subst he
    have hcell:∀ k,k < xs.length * e.es→∃ u,w.cell? (Addr.add ⟨b,q,none⟩ k)=some u∧∀ i j c,i * e.es+j=k→j < e.es→(xs[i]?.bind fun el=>el.cells[j]?)=some c→Rep w bad D ρ c u∧isSc c=true:=by
     intro k hk
     have hi:k / e.es < xs.length:=Nat.div_lt_of_lt_mul (by rw [Nat.mul_comm]; exact hk)
     have hj:k % e.es < e.es:=Nat.mod_lt _ hpos
     have hx:=List.getElem?_eq_getElem hi
     have hxl:=hes _ _ hx
     have hcj:=List.getElem?_eq_getElem (l:=(xs[k / e.es]).cells) (i:=k % e.es) (by omega)
     obtain ⟨u,hu,hr⟩:=hc _ _ _ _ hx hcj
     have hsc:isSc (xs[k / e.es]).cells[k % e.es]=true:=(elOk_sc (List.all_eq_true.mp hok _ (List.getElem_mem hi))).2.2 _ (List.getElem_mem _)
     have hdm:k / e.es * e.es+k % e.es=k:=by rw [Nat.mul_comm]; exact Nat.div_add_mod k e.es
     refine ⟨u,by rw [Addr.add_lit,← hdm]; exact hu,fun i j c hij hjl hcc=>?_⟩
     have e1:i=k / e.es:=by rw [← hij,Nat.mul_comm,Nat.mul_add_div hpos,Nat.div_eq_of_lt hjl]; omega
     have e2:j=k % e.es:=by rw [← hij,Nat.mul_comm,Nat.mul_add_mod,Nat.mod_eq_of_lt hjl]
     subst e1; subst e2
     rw [hx] at hcc
     simp only [Option.bind_some,hcj,Option.some.injEq] at hcc
     subst hcc
     exact ⟨hr,hsc⟩
    let f:Nat→Value:=fun k=>(w.cell? (Addr.add ⟨b,q,none⟩ k)).getD undef
    have hf:∀ k,k < xs.length * e.es→w.cell? (Addr.add ⟨b,q,none⟩ k)=some (f k):=by
     intro k hk
     obtain ⟨u,hu,_⟩:=hcell k hk
     simp only [f,hu,Option.getD_some]
    refine ⟨(List.range (xs.length * e.es)).map f,by simp [Builtin.lenOf],?_,by simp,?_,?_⟩
    ·intro w2 hw2
     simp only [Builtin.firstCells,run_loadCells w2 _ _ f (fun k hk=>by have:=hf k hk; simp only [World.cell?,hw2] at this ⊢; exact this)]
    ·intro u hu
     obtain ⟨k,hk,rfl⟩:=List.mem_map.mp hu
     have hk':k < xs.length * e.es:=by simpa using hk
     obtain ⟨u,hu,hr⟩:=hcell k hk'
     have hi:k / e.es < xs.length:=Nat.div_lt_of_lt_mul (by rw [Nat.mul_comm]; exact hk')
     have hx:=List.getElem?_eq_getElem hi
     have hj:k % e.es < e.es:=Nat.mod_lt _ hpos
     have hcj:=List.getElem?_eq_getElem (l:=(xs[k / e.es]).cells) (i:=k % e.es) (by rw [hes _ _ hx]; exact hj)
     have hdm:k / e.es * e.es+k % e.es=k:=by rw [Nat.mul_comm]; exact Nat.div_add_mod k e.es
     obtain ⟨h1,h2⟩:=hr _ _ _ hdm hj (by rw [hx]; exact hcj)
     have:f k=u:=by simp only [f,hu,Option.getD_some]
     rw [this]
     exact (rep_one h1 h2).1
    ·intro i el j c hel hj
     have hil:i < xs.length:=(List.getElem?_eq_some_iff.mp hel).1
     have hjl:j < e.es:=by have:=(List.getElem?_eq_some_iff.mp hj).1; rw [hes _ _ hel] at this; exact this
     have hk:i * e.es+j < xs.length * e.es:=by
      have:=Nat.mul_le_mul_right e.es hil
      rw [Nat.succ_mul] at this; omega
     obtain ⟨u,hu,hr⟩:=hcell _ hk
     refine ⟨f (i * e.es+j),by simp [hk],?_⟩
     have:f (i * e.es+j)=u:=by simp only [f,hu,Option.getD_some]
     rw [this]
     exact (hr i j c rfl hjl (by rw [hel]; exact hj)).1

theorem append_grow {t u ty e:TypeId} {du:TypeDesc} {i:TypeInfo} {z:Value} {base:Option Addr} {n c m:Nat} {x:Value} {olds news:List Value} (ht:P.underlying t=some (.slice e)) (hu:P.underlying u=some du) (hni:du=.string ∨ ∃ e',du=.slice e') (hi:P.info? e=some i) (hz:i.zero=some z)
 (hm:(Builtin.lenOf x).run P w=.ok m w) (hold:∀ w2:World,w2.heap=w.heap→(Builtin.firstCells i.size n (.slice base n c)).run P w2=.ok olds.toArray w2) (hnew:∀ w2:World,w2.heap=w.heap→(Builtin.firstCells i.size m x).run P w2=.ok news.toArray w2)
 (hg:c < n+m) (h63:n+m≤9223372036854775807) (hb:(n+m) * i.bytes≤140737488355328) :
 (Builtin.append_ #[t,u] ty #[.slice base n c,x]).run P w =
   .ok (.slice (some ⟨w.heap.size,0,none⟩) (n+m) (grownCap w (n+m) c e)) (w.drew.alloc (.cells (olds.toArray ++ news.toArray ++ Builtin.zeroCells z.cells (grownCap w (n+m) c e - (n+m))) e)):=by
 have hfit:=growslice_fits hg hb
 have h48':¬ (281474976710656 < Builtin.nextslicecap (n+m) c * i.bytes):=by omega
 have h63':¬ (9223372036854775807 < (n:Int)+(m:Int)):=by omega
 have hn:¬ (n+m≤c):=by omega
 have h1:=hold w.drew rfl
 have h2:=hnew w.drew rfl
 rcases hni with rfl | ⟨e',rfl⟩
 all_goals simp [Builtin.append_,run_underlying ht,run_underlying hu,sizeOf,typeInfo,zeroValue,hi,hz,hm,hn,h63',h48',Question.forced,h1,h2,newRow,grownCap]
 all_goals
  congr 2
  apply Array.ext'
  simp [List.append_assoc]

theorem append_room {t u ty e:TypeId} {du:TypeDesc} {i:TypeInfo} {base:Option Addr} {n c m:Nat} {x:Value} {news:List Value} (ht:P.underlying t=some (.slice e)) (hu:P.underlying u=some du) (hni:du=.string ∨ ∃ e',du=.slice e') (hi:P.info? e=some i)
 (hm:(Builtin.lenOf x).run P w=.ok m w) (hnew:∀ w2:World,w2.heap=w.heap→(Builtin.firstCells i.size m x).run P w2=.ok news.toArray w2)
 (hg:n+m≤c) {w':World} (hst:(match base with | some a=>storeCells (a.add (n * i.size)) news | none=>pure ():Sem Unit).run P w=.ok () w') :
 (Builtin.append_ #[t,u] ty #[.slice base n c,x]).run P w=.ok (.slice base (n+m) c) w':=by
 have h2:=hnew w rfl
 rcases hni with rfl | ⟨e',rfl⟩
 all_goals
  cases base with
  | none =>
    simp at hst
    subst hst
    simp [Builtin.append_,run_underlying ht,run_underlying hu,sizeOf,typeInfo,hi,hm,hg,h2]
  | some ad =>
    simp at hst
    simp [Builtin.append_,run_underlying ht,run_underlying hu,sizeOf,typeInfo,hi,hm,hg,h2,hst]

theorem kill_upd {H:Heap} {id:Nat} (hR:HRel w bad ρ B H):Step w w (dead H) (dead (H.set id none)) ρ (fun i=>if i=id∧id < H.length then .no else ρ i)∧HRel w bad (fun i=>if i=id∧id < H.length then .no else ρ i) B (H.set id none):=by
 have hst:Step w w (dead H) (dead (H.set id none)) ρ (fun i=>if i=id∧id < H.length then .no else ρ i):=by
  refine ⟨.refl _ _,⟨fun b hb=>?_⟩,fun i hi=>?_,fun i hi=>?_⟩
  ·obtain ⟨i,es,cp,h⟩:=hb
   try simp only at h
   split at h
   ·cases h
   ·exact .inl ⟨i,es,cp,h⟩
  ·simp only [dead,List.getElem?_set] at hi ⊢
   split
   ·rename_i he; subst he
    split
    ·rfl
    ·rename_i hlt; rw [List.getElem?_eq_none (by simpa using hlt)] at hi; cases hi
   ·exact hi
  ·by_cases he:i=id∧id < H.length
   ·right
    obtain ⟨rfl,hlt⟩:=he
    simp [dead,List.getElem?_set_self hlt]
   ·left; simp [he]
 refine ⟨hst,?_,?_,?_,fun i h=>?_⟩
 rotate_right
 ·try simp only at h
  split at h
  ·cases h
  ·rename_i hne
   obtain ⟨k,hk,hb⟩:=hR.res i h
   have hlt:i < H.length:=(List.getElem?_eq_some_iff.mp hk).1
   have:id ≠ i:=fun e=>hne ⟨e.symm,by omega⟩
   exact ⟨k,by rw [List.getElem?_set_ne this]; exact hk,hb⟩
 ·intro i b es cp h
  try simp only at h
  split at h
  ·cases h
  ·rename_i hne
   obtain ⟨k,hk,hb⟩:=hR.real i b es cp h
   have hlt:i < H.length:=(List.getElem?_eq_some_iff.mp hk).1
   have:id ≠ i:=fun e=>hne ⟨e.symm,by omega⟩
   exact ⟨k,by rw [List.getElem?_set_ne this]; exact hk,hb.step hst rfl⟩
 ·intro i h
  try simp only at h
  split at h
  ·cases h
  ·rename_i hne
   obtain ⟨k,hk,hb⟩:=hR.virt i h
   have hlt:i < H.length:=(List.getElem?_eq_some_iff.mp hk).1
   have:id ≠ i:=fun e=>hne ⟨e.symm,by omega⟩
   exact ⟨k,by rw [List.getElem?_set_ne this]; exact hk,hb⟩
 ·intro i i' b es cp es' cp' h h'
  try simp only at h h'
  split at h <;> (try (cases h; done))
  split at h' <;> (try (cases h'; done))
  exact hR.inj i i' b es cp es' cp' h h'

theorem no_at_end {H:Heap} (hR:HRel w bad ρ B H):ρ H.length=.no:=by
 cases h:ρ H.length with
 | no=>rfl
 | virt=>obtain ⟨k,hk,_⟩:=hR.virt _ h; simp at hk
 | res=>obtain ⟨k,hk,_⟩:=hR.res _ h; simp at hk
 | real b es cap=>obtain ⟨k,hk,_⟩:=hR.real _ _ _ _ h; simp at hk

theorem lt_of_no {H:Heap} {ρ:Rho} (hR:HRel w bad ρ B H) {i:Nat} (h:ρ i ≠ .no):i < H.length:=by
 cases hq:ρ i with
 | no=>exact absurd hq h
 | virt=>obtain ⟨k,hk,_⟩:=hR.virt _ hq; exact (List.getElem?_eq_some_iff.mp hk).1
 | res=>obtain ⟨k,hk,_⟩:=hR.res _ hq; exact (List.getElem?_eq_some_iff.mp hk).1
 | real b es cap=>obtain ⟨k,hk,_⟩:=hR.real _ _ _ _ hq; exact (List.getElem?_eq_some_iff.mp hk).1

theorem dead_app {H:Heap} {k:Option Blk} {i:Nat} (h:H[i]?=some none):(H ++ [k])[i]?=some none:=by
 rw [List.getElem?_append_left (List.getElem?_eq_some_iff.mp h).1]; exact h

theorem virt_upd {H:Heap} {k:Blk} (hR:HRel w bad ρ B H) (hk:k.els=[]):Step w w (dead H) (dead (H ++ [some k])) ρ (fun i=>if i=H.length then .virt else ρ i)∧HRel w bad (fun i=>if i=H.length then .virt else ρ i) B (H ++ [some k]):=by
 have hst:Step w w (dead H) (dead (H ++ [some k])) ρ (fun i=>if i=H.length then .virt else ρ i):=by
  refine ⟨.refl _ _,⟨fun b hb=>?_⟩,fun i hi=>dead_app hi,fun i hi=>.inl ?_⟩
  ·obtain ⟨i,es,cp,h⟩:=hb
   try simp only at h
   split at h
   ·cases h
   ·exact .inl ⟨i,es,cp,h⟩
  ·have:i ≠ H.length:=fun e=>hi (e ▸ no_at_end hR)
   simp [this]
 refine ⟨hst,?_,?_,?_,fun i h=>?_⟩
 rotate_right
 ·try simp only at h
  split at h
  ·cases h
  ·obtain ⟨k',hk',hb⟩:=hR.res i h
   exact ⟨k',by rw [List.getElem?_append_left (List.getElem?_eq_some_iff.mp hk').1]; exact hk',hb⟩
 ·intro i b es cp h
  try simp only at h
  split at h
  ·cases h
  ·obtain ⟨k',hk',hb⟩:=hR.real i b es cp h
   exact ⟨k',by rw [List.getElem?_append_left (List.getElem?_eq_some_iff.mp hk').1]; exact hk',hb.step hst rfl⟩
 ·intro i h
  try simp only at h
  split at h
  ·rename_i he; subst he
   exact ⟨k,by simp,hk⟩
  ·obtain ⟨k',hk',hb⟩:=hR.virt i h
   exact ⟨k',by rw [List.getElem?_append_left (List.getElem?_eq_some_iff.mp hk').1]; exact hk',hb⟩
 ·intro i i' b es cp es' cp' h h'
  try simp only at h h'
  split at h <;> (try (cases h; done))
  split at h' <;> (try (cases h'; done))
  exact hR.inj i i' b es cp es' cp' h h'

theorem flat_rep {xs:List AV} {e:ETy} {news rest:List Value} (pre:List Value) (n:Nat) (hpre:pre.length=n * e.es) (hok:xs.all (elOk e)=true) (hsz:news.length=xs.length * e.es)
 (hrep:∀ (i:Nat) (el:AV) (j:Nat) (c:AV),xs[i]?=some el→el.cells[j]?=some c→∃ u,news[i * e.es+j]?=some u∧Rep w bad D ρ c u) (i:Nat) (el:AV) (j:Nat) (c:AV) (hel:xs[i]?=some el) (hj:el.cells[j]?=some c) :
 ∃ u,(pre ++ news ++ rest)[(n+i) * e.es+j]?=some u∧Rep w bad D ρ c u:=by
 obtain ⟨u,hu,hr⟩:=hrep i el j c hel hj
 refine ⟨u,?_,hr⟩
 have hlt:=(List.getElem?_eq_some_iff.mp hu).1
 rw [List.append_assoc,List.getElem?_append_right (by rw [hpre,Nat.add_mul]; omega),List.getElem?_append_left (by rw [hpre,Nat.add_mul]; omega)]
 rw [show (n+i) * e.es+j - pre.length=i * e.es+j by rw [hpre,Nat.add_mul]; omega]
 exact hu

theorem app_run {H H':Heap} {t u ty et:TypeId} {du:TypeDesc} {e:ETy} {s x v:AV} {vs vx:Value} {xs:List AV} (ht:P.underlying t=some (.slice et)) (hu:P.underlying u=some du) (hni:du=.string ∨ ∃ e',du=.slice e') (he:cETy P et=some e)
 (hxs:elsOf H x=some xs) (hR:HRel w bad ρ B H) (hB:B≤w.heap.size) (hs:Rep w bad (dead H) ρ s vs) (hx:Rep w bad (dead H) ρ x vx)
 (h:aApp H e xs s=some (v,H')) :
 ∃ cv w' ρ',(Builtin.append_ #[t,u] ty #[vs,vx]).run P w=.ok cv w'∧Step w w' (dead H) (dead H') ρ ρ'∧HRel w' bad ρ' B H'∧Rep w' bad (dead H') ρ' v cv:=by
 obtain ⟨i,z,hi,ha,hz,hzv,htid,hes,hby,hzo,hpos⟩:=cETy_spec he
 have fresh:∀ (H1:Heap) (ρ1:Rho) (base:Option Addr),HRel w bad ρ1 B H1→Step w w (dead H) (dead H1) ρ ρ1→H1.length=H.length→vs=.slice base 0 0→xs.length * e.bytes≤140737488355328→xs.length≤9223372036854775807→xs.all (elOk e)=true →
  ∃ cv w' ρ',(Builtin.append_ #[t,u] ty #[vs,vx]).run P w=.ok cv w'∧Step w w' (dead H) (dead (H1 ++ [some ⟨e,xs⟩])) ρ ρ'∧HRel w' bad ρ' B (H1 ++ [some ⟨e,xs⟩])∧Rep w' bad (dead (H1 ++ [some ⟨e,xs⟩])) ρ' (.slc H.length 0 xs.length) cv:=by
  intro H1 ρ1 base hR1 hst1 hlen hvs hb h63 hok
  obtain ⟨news,hsrc⟩:=src_of (P:=P) hxs hok hR (fun _=>Iff.rfl) (fun _ _ _ _ _ hb _=>hb) (dead_get H) hx
  subst hvs
  by_cases hm:xs.length=0
  ·obtain ⟨v1,v2⟩:=virt_upd (k:=⟨e,xs⟩) hR1 (by simpa using hm)
   refine ⟨.slice base 0 0,w,_,?_,hst1.trans v1,v2,?_⟩
   ·have hnn:news=[]:=by have:=hsrc.size; rw [hm] at this; simpa using this
    have h1:=append_room (P:=P) (w:=w) (ty:=ty) (base:=base) (n:=0) (c:=0) (x:=vx) ht hu hni hi hsrc.len (by rw [← hes]; exact hsrc.first) (by omega) (w':=w) (by
     subst hnn
     cases base <;> rfl)
    rw [hm] at h1
    exact h1
   ·rw [hm,← hlen]
    exact .slcV base (by simp)
  ·have hgrow:=append_grow (P:=P) (w:=w) (ty:=ty) (base:=base) (n:=0) (c:=0) (x:=vx) (olds:=[]) ht hu hni hi hz hsrc.len (fun w2 _=>by cases base <;> simp [Builtin.firstCells,loadCells,loadCellsFrom]) (by rw [← hes]; exact hsrc.first) (by omega) (by omega) (by rw [← hby]; simpa using hb)
   simp only [Nat.zero_add] at hgrow
   have hge:=grownCap_ge w xs.length 0 et
   have hzs:z.cells.size=e.es:=(elOk_rep hzo (.frz (cv_rep (w:=w) (bad:=fun b=>bad b ∨ own ρ b) hzv):Rep w bad (dead H) ρ e.zero z)).1
   have hcsz:([].toArray ++ news.toArray ++ Builtin.zeroCells z.cells (grownCap w xs.length 0 et - xs.length)).size=grownCap w xs.length 0 et * e.es:=by
    simp only [Array.size_append,List.size_toArray,List.length_nil,size_zeroCells,hzs,hsrc.size]
    rw [Nat.zero_add,← Nat.add_mul]; congr 1; omega
   obtain ⟨ρ',hρ',st,hr⟩:=alloc_upd (w':=w.drew.alloc (.cells ([].toArray ++ news.toArray ++ Builtin.zeroCells z.cells (grownCap w xs.length 0 et - xs.length)) et)) (k:=⟨e,xs⟩) (H':=H1 ++ [some ⟨e,xs⟩]) (id:=H1.length) (fz:=(0,0)) hR1 hB (no_at_end hR1) (by simp)
    (fun i hi hn=>List.getElem?_append_left (lt_of_no hR1 hn))
    (fun i hi=>dead_app hi) rfl rfl rfl (by simp) (fun j hj=>Below.heap_alloc w.drew _ j hj) (by simp only [htid]; exact heap_alloc_new w.drew _) hpos hcsz (unfz0 _) (by simp; omega)
    (fun i el hel=>List.all_eq_true.mp hok el (List.mem_of_getElem? hel))
    (fun i el j c hel hj=>by
      obtain ⟨q,hq,hrq⟩:=flat_rep (w:=w) (bad:=bad) (D:=dead H) (ρ:=ρ) (rest:=(Builtin.zeroCells z.cells (grownCap w xs.length 0 et - xs.length)).toList) [] 0 (by simp) hok hsrc.size hsrc.rep i el j c hel hj
      refine ⟨q,?_,hrq.step hst1⟩
      rw [← Array.getElem?_toList]
      simpa using hq)
   refine ⟨_,_,ρ',hgrow,hst1.trans st,hr,?_⟩
   rw [← hlen]
   subst hρ'
   have:Rep (w.drew.alloc (.cells ([].toArray ++ news.toArray ++ Builtin.zeroCells z.cells (grownCap w xs.length 0 et - xs.length)) et)) bad (dead (H1 ++ [some ⟨e,xs⟩])) (fun i=>if i=H1.length then RB.real w.heap.size e.es (grownCap w xs.length 0 et) else ρ1 i) (.slc H1.length 0 xs.length) (.slice (some ⟨w.heap.size,0 * e.es,none⟩) xs.length (grownCap w xs.length 0 et)) :=
    Rep.slc (b:=w.heap.size) (es:=e.es) (cap:=grownCap w xs.length 0 et) (by simp) (by omega) hge
   simpa using this
 cases s <;> simp only [aApp] at h <;> (try (cases h; done))
 ·split at h <;> (try (cases h; done))
  rename_i hc
  obtain ⟨rfl,rfl⟩:_=v∧_=H':=by simpa using h
  have:∃ base,vs=.slice base 0 0:=by
   cases hs with
   | frz hs=>cases hs with
     | znil=>exact ⟨_,rfl⟩
     | zsl a=>exact ⟨_,rfl⟩
  obtain ⟨base,hb⟩:=this
  exact fresh H ρ base hR (Step.refl _ _ _) rfl hb hc.1 hc.2.1 hc.2.2
 ·rename_i id o' n
  cases o' with
  | succ o'=>cases h
  | zero =>
    cases hg:hget H id with
    | none=>simp [hg] at h
    | some k =>
      simp only [hg] at h
      split at h <;> (try (cases h; done))
      rename_i hc
      obtain ⟨c1,c2,c3,c4,c5,c6⟩:=hc
      obtain ⟨rfl,rfl⟩:_=v∧_=H':=by simpa using h
      have hk:=agree_of hg
      have hidlt:id < H.length:=(List.getElem?_eq_some_iff.mp hk).1
      cases hs with
      | frz hs=>cases hs
      | slcD a c hd=>rw [dead,hk] at hd; cases hd
      | slcV base hρ =>
        obtain ⟨k2,hk2,he2⟩:=hR.virt _ hρ
        rw [hk] at hk2; cases hk2
        obtain ⟨q1,q2⟩:=kill_upd (id:=id) hR
        rw [he2]
        simp only [Nat.zero_add,List.nil_append] at c2 c3 ⊢
        exact fresh (H.set id none) _ base q2 q1 (by simp) rfl c2 c3 c6
      | slc hρ hcap hnc =>
        rename_i b es cap c
        obtain ⟨k2,hk2,hbr⟩:=hR.real _ _ _ _ hρ
        rw [hk] at hk2; cases hk2
        have hees:es=e.es:=by rw [← hbr.hes,c5]
        subst hees
        obtain ⟨cur,fz,m1,m2,m3,m4⟩:=hbr.mem
        obtain ⟨news,hsrc⟩:=src_of (P:=P) hxs c6 hR (fun _=>Iff.rfl) (fun _ _ _ _ _ hb _=>hb) (dead_get H) hx
        have hnn:n * e.es≤cap * e.es:=Nat.mul_le_mul_right _ (by omega)
        have hold:∀ w2:World,w2.heap=w.heap→(Builtin.firstCells i.size n (.slice (some ⟨b,0 * e.es,none⟩) n c)).run P w2=.ok (cur.toList.take (n * e.es)).toArray w2:=by
         intro w2 hw2
         rw [← hes]
         have:=run_firstCells_some (P:=P) w2 e.es n ⟨b,0 * e.es,none⟩ n c (cur.toList.take (n * e.es)) (by simp; omega) (by
          intro j v hv
          rw [Addr.add_lit]
          have hj:j < n * e.es:=by have:=(List.getElem?_eq_some_iff.mp hv).1; simp at this; omega
          rw [List.getElem?_take_of_lt hj] at hv
          simp only [World.cell?,hw2,m1]
          simpa using hv)
         exact this
        have hold2:∀ (i':Nat) (el:AV) (j:Nat) (y:AV),k.els[i']?=some el→el.cells[j]?=some y→∃ q,cur[i' * e.es+j]?=some q∧Rep w bad (dead H) ρ y q∧i' * e.es+j < n * e.es:=by
         intro i' el j y hel hj
         obtain ⟨q,h1,h2⟩:=m4 i' el j y hel hj
         refine ⟨q,h1,h2,?_⟩
         have hil:i' < n:=by rw [← c1]; exact (List.getElem?_eq_some_iff.mp hel).1
         have hjl:j < e.es:=by have h9:=(List.getElem?_eq_some_iff.mp hj).1; have:=(elOk_sc (hbr.ok _ _ hel)).2.1; omega
         have:=Nat.mul_le_mul_right e.es hil
         rw [Nat.succ_mul] at this; omega
        have hokAll:∀ (j:Nat) (el:AV),(k.els ++ xs)[j]?=some el→elOk e el=true:=by
         intro j el hel
         rcases List.mem_append.mp (List.mem_of_getElem? hel) with hm | hm
         ·obtain ⟨j',hj'⟩:=List.getElem?_of_mem hm
          have:=hbr.ok j' el hj'
          simp only [elOk,c5] at this ⊢
          exact this
         ·exact List.all_eq_true.mp c6 el hm
        by_cases hroom:n+xs.length≤c
        ·have hfit:(n+xs.length) * e.es≤cap * e.es:=Nat.mul_le_mul_right _ (by omega)
         obtain ⟨w',cur',r1,r2,r3,r4,r5,r6,r7,r8,r9⟩:=storeCells_run (P:=P) b k.e.tid fz news (n * e.es) 0 cur w m1 (by rw [hsrc.size,m2]; rw [Nat.add_mul] at hfit; omega) m3.1 hsrc.one
         have hrun:=append_room (P:=P) (w:=w) (ty:=ty) (base:=some ⟨b,0 * e.es,none⟩) (n:=n) (c:=c) (x:=vx) ht hu hni hi hsrc.len (by rw [← hes]; exact hsrc.first) hroom (w':=w') (by
          simp only [Addr.add_lit,← hes,Nat.zero_mul,Nat.zero_add]
          exact r1)
         have hst:Step w w' (dead H) (dead (H.set id none ++ [some ⟨e,k.els ++ xs⟩])) ρ (fun i=>if i=H.length then .real b e.es cap else if i=id then .no else ρ i):=by
          refine ⟨⟨r2,r3,r4,Nat.le_of_eq r5.symm,fun b' _ hn=>r6 b' (fun e'=>hn (e' ▸ ⟨id,_,_,hρ⟩))⟩,⟨fun b' hb'=>?_⟩,fun j hj=>?_,fun j hj=>?_⟩
          ·obtain ⟨j,es',cp',h'⟩:=hb'
           try simp only at h'
           split at h'
           ·cases h'; exact .inl ⟨id,_,_,hρ⟩
           ·split at h'
            ·cases h'
            ·exact .inl ⟨j,_,_,h'⟩
          ·refine dead_app ?_
           have:id ≠ j:=fun e'=>by subst e'; rw [dead,hk] at hj; cases hj
           rw [List.getElem?_set_ne this]; exact hj
          ·by_cases hjd:j=id
           ·right
            subst hjd
            exact dead_app (by rw [List.getElem?_set_self hidlt])
           ·left
            have:j ≠ H.length:=fun e'=>hj (e' ▸ no_at_end hR)
            simp [this,hjd]
         have hid2:id ≠ H.length:=by omega
         refine ⟨_,w',_,hrun,hst,⟨?_,?_,?_,?_⟩,?_⟩
         rotate_left 3
         ·intro j h'
          try simp only at h'
          split at h'
          ·cases h'
          ·split at h'
           ·cases h'
           ·rename_i hj2
            obtain ⟨k3,hk3,hb3⟩:=hR.res _ h'
            refine ⟨k3,?_,hb3⟩
            rw [List.getElem?_append_left (by simp; exact (List.getElem?_eq_some_iff.mp hk3).1),List.getElem?_set_ne (fun e'=>hj2 e'.symm)]
            exact hk3
         rotate_right 3
         ·intro j b' es' cp' h'
          try simp only at h'
          split at h'
          ·rename_i hj
           cases h'
           subst hj
           refine ⟨⟨e,k.els ++ xs⟩,by simp,rfl,hpos,hbr.low,by simp; omega,hokAll,cur',fz,by rw [r7]; simp [c4],by rw [r8,m2],by rw [r8]; exact m3,?_⟩
           intro j el l y hel hl
           rcases Nat.lt_or_ge j k.els.length with hlt | hge'
           ·rw [List.getElem?_append_left hlt] at hel
            obtain ⟨q,h1,h2,h3⟩:=hold2 j el l y hel hl
            refine ⟨q,?_,h2.step hst⟩
            rw [r9,if_neg (by omega)]
            exact h1
           ·rw [List.getElem?_append_right hge'] at hel
            obtain ⟨q,h1,h2⟩:=hsrc.rep _ el l y hel hl
            refine ⟨q,?_,h2.step hst⟩
            have hlt2:=(List.getElem?_eq_some_iff.mp h1).1
            have e9:j * e.es+l=n * e.es+((j - k.els.length) * e.es+l):=by
             have:j=n+(j - k.els.length):=by omega
             conv=>lhs; rw [this,Nat.add_mul]
             omega
            rw [r9,if_pos (by omega),e9]
            rw [show n * e.es+((j - k.els.length) * e.es+l) - (n * e.es+0)=(j - k.els.length) * e.es+l by omega]
            exact h1
          ·rename_i hj
           split at h'
           ·cases h'
           ·rename_i hj2
            obtain ⟨k3,hk3,hb3⟩:=hR.real _ _ _ _ h'
            refine ⟨k3,?_,hb3.step hst (r6 _ (fun e'=>hj2 ?_))⟩
            ·rw [List.getElem?_append_left (by simp; exact (List.getElem?_eq_some_iff.mp hk3).1),List.getElem?_set_ne (fun e'=>hj2 e'.symm)]
             exact hk3
            ·subst e'; exact hR.inj _ _ _ _ _ _ _ h' hρ
         ·intro j h'
          try simp only at h'
          split at h'
          ·cases h'
          ·split at h'
           ·cases h'
           ·rename_i hj2
            obtain ⟨k3,hk3,hb3⟩:=hR.virt _ h'
            refine ⟨k3,?_,hb3⟩
            rw [List.getElem?_append_left (by simp; exact (List.getElem?_eq_some_iff.mp hk3).1),List.getElem?_set_ne (fun e'=>hj2 e'.symm)]
            exact hk3
         ·intro j j' b' es' cp' es2 cp2 h1 h2
          try simp only at h1 h2
          split at h1
          ·rename_i q1
           split at h2
           ·rename_i q2; omega
           ·cases h1
            split at h2
            ·cases h2
            ·rename_i q3; exact absurd (hR.inj _ _ _ _ _ _ _ h2 hρ) q3
          ·split at h1
           ·cases h1
           ·rename_i q3
            split at h2
            ·cases h2; exact absurd (hR.inj _ _ _ _ _ _ _ h1 hρ) q3
            ·split at h2
             ·cases h2
             ·exact hR.inj _ _ _ _ _ _ _ h1 h2
         ·exact Rep.slc (b:=b) (es:=e.es) (cap:=cap) (by simp) (by omega) hroom
        ·have hgrow:=append_grow (P:=P) (w:=w) (ty:=ty) (base:=some ⟨b,0 * e.es,none⟩) (n:=n) (c:=c) (x:=vx) (olds:=cur.toList.take (n * e.es)) ht hu hni hi hz hsrc.len hold (by rw [← hes]; exact hsrc.first) (by omega) (by omega) (by rw [← hby]; exact c2)
         have hge:=grownCap_ge w (n+xs.length) c et
         have hzs:z.cells.size=e.es:=(elOk_rep hzo (.frz (cv_rep (w:=w) (bad:=fun b=>bad b ∨ own ρ b) hzv):Rep w bad (dead H) ρ e.zero z)).1
         have hol:(cur.toList.take (n * e.es)).length=n * e.es:=by simp; omega
         have hcsz:((cur.toList.take (n * e.es)).toArray ++ news.toArray ++ Builtin.zeroCells z.cells (grownCap w (n+xs.length) c et - (n+xs.length))).size=grownCap w (n+xs.length) c et * e.es:=by
          simp only [Array.size_append,List.size_toArray,hol,size_zeroCells,hzs,hsrc.size]
          rw [← Nat.add_mul,← Nat.add_mul]; congr 1; omega
         obtain ⟨q1,q2⟩:=kill_upd (id:=id) hR
         obtain ⟨ρ',hρ',st,hr⟩:=alloc_upd (w':=w.drew.alloc (.cells ((cur.toList.take (n * e.es)).toArray ++ news.toArray ++ Builtin.zeroCells z.cells (grownCap w (n+xs.length) c et - (n+xs.length))) et)) (k:=⟨e,k.els ++ xs⟩) (H':=H.set id none ++ [some ⟨e,k.els ++ xs⟩]) (id:=(H.set id none).length) (fz:=(0,0)) q2 hB (no_at_end q2) (by simp)
          (fun i hi hn=>List.getElem?_append_left (lt_of_no q2 hn))
          (fun i hi=>dead_app hi) rfl rfl rfl (by simp) (fun j hj=>Below.heap_alloc w.drew _ j hj) (by simp only [htid]; exact heap_alloc_new w.drew _) hpos hcsz (unfz0 _) (by simp; omega) hokAll
          (fun j el l y hel hl=>by
            rcases Nat.lt_or_ge j k.els.length with hlt | hge'
            ·rw [List.getElem?_append_left hlt] at hel
             obtain ⟨q,h1,h2,h3⟩:=hold2 j el l y hel hl
             refine ⟨q,?_,h2.step q1⟩
             simp only
             rw [← Array.getElem?_toList]
             simp only [Array.toList_append,List.append_assoc]
             rw [List.getElem?_append_left (by simp only [hol]; exact h3),List.getElem?_take_of_lt h3]
             simpa using h1
            ·rw [List.getElem?_append_right hge'] at hel
             obtain ⟨q,hq,hrq⟩:=flat_rep (w:=w) (bad:=bad) (D:=dead H) (ρ:=ρ) (rest:=(Builtin.zeroCells z.cells (grownCap w (n+xs.length) c et - (n+xs.length))).toList) (cur.toList.take (n * e.es)) n hol c6 hsrc.size hsrc.rep _ el l y hel hl
             refine ⟨q,?_,hrq.step q1⟩
             rw [show n+(j - k.els.length)=j by omega] at hq
             rw [← Array.getElem?_toList]
             simpa using hq)
         refine ⟨_,_,ρ',hgrow,q1.trans st,hr,?_⟩
         subst hρ'
         have hsl:(H.set id none).length=H.length:=by simp
         have:Rep (w.drew.alloc (.cells ((cur.toList.take (n * e.es)).toArray ++ news.toArray ++ Builtin.zeroCells z.cells (grownCap w (n+xs.length) c et - (n+xs.length))) et)) bad (dead (H.set id none ++ [some ⟨e,k.els ++ xs⟩])) (fun i=>if i=(H.set id none).length then RB.real w.heap.size e.es (grownCap w (n+xs.length) c et) else (if i=id∧id < H.length then .no else ρ i)) (.slc H.length 0 (n+xs.length)) (.slice (some ⟨w.heap.size,0 * e.es,none⟩) (n+xs.length) (grownCap w (n+xs.length) c et)) :=
          Rep.slc (b:=w.heap.size) (es:=e.es) (cap:=grownCap w (n+xs.length) c et) (by simp) (by omega) hge
         simpa using this
 ·rename_i id o n
  cases hg:hget H id with
  | none=>simp [hg] at h
  | some k =>
    simp only [hg] at h
    have hk:=agree_of hg
    cases hs with
    | frz hs=>cases hs
    | slkD a hd=>rw [dead,hk] at hd; cases hd
    | slk hρ hcap =>
      rename_i b es cap
      obtain ⟨k2,hk2,hbr⟩:=hR.real _ _ _ _ hρ
      rw [hk] at hk2; cases hk2
      cases hxe:xs.isEmpty
      ·rw [hxe] at h
       simp only at h
       split at h <;> (try (cases h; done))
       rename_i hc
       obtain ⟨c1,c2,c3,c4,c5,c6⟩:=hc
       obtain ⟨rfl,rfl⟩:_=v∧_=H':=by simpa using h
       have hees:es=e.es:=by rw [← hbr.hes,c5]
       subst hees
       have hx0:0 < xs.length:=by
        cases xs with
        | nil=>cases hxe
        | cons _ _=>simp
       obtain ⟨cur,fz,m1,m2,m3,m4⟩:=hbr.mem
       obtain ⟨news,hsrc⟩:=src_of (P:=P) hxs c6 hR (fun _=>Iff.rfl) (fun _ _ _ _ _ hb _=>hb) (dead_get H) hx
       have hnn:(o+n) * e.es≤cap * e.es:=Nat.mul_le_mul_right _ (by omega)
       rw [Nat.add_mul] at hnn
       have hol:((cur.toList.drop (o * e.es)).take (n * e.es)).length=n * e.es:=by simp; omega
       have hold:∀ w2:World,w2.heap=w.heap→(Builtin.firstCells i.size n (.slice (some ⟨b,o * e.es,none⟩) n n)).run P w2=.ok ((cur.toList.drop (o * e.es)).take (n * e.es)).toArray w2:=by
        intro w2 hw2
        rw [← hes]
        have:=run_firstCells_some (P:=P) w2 e.es n ⟨b,o * e.es,none⟩ n n ((cur.toList.drop (o * e.es)).take (n * e.es)) (by simp; omega) (by
         intro j v hv
         rw [Addr.add_lit]
         have hj:j < n * e.es:=by have:=(List.getElem?_eq_some_iff.mp hv).1; omega
         rw [List.getElem?_take_of_lt hj,List.getElem?_drop] at hv
         simp only [World.cell?,hw2,m1]
         simpa using hv)
        exact this
       have htl:((k.els.drop o).take n).length=n:=by simp; omega
       have hold2:∀ (i':Nat) (el:AV) (j:Nat) (y:AV),((k.els.drop o).take n)[i']?=some el→el.cells[j]?=some y→∃ q,cur[o * e.es+(i' * e.es+j)]?=some q∧Rep w bad (dead H) ρ y q∧i' * e.es+j < n * e.es:=by
        intro i' el j y hel hj
        have hil:i' < n:=by rw [← htl]; exact (List.getElem?_eq_some_iff.mp hel).1
        rw [List.getElem?_take_of_lt hil,List.getElem?_drop] at hel
        obtain ⟨q,h1,h2⟩:=m4 _ el j y hel hj
        refine ⟨q,by rw [show o * e.es+(i' * e.es+j)=(o+i') * e.es+j by rw [Nat.add_mul]; omega]; exact h1,h2,?_⟩
        have hjl:j < e.es:=by have h9:=(List.getElem?_eq_some_iff.mp hj).1; have:=(elOk_sc (hbr.ok _ _ hel)).2.1; omega
        have:=Nat.mul_le_mul_right e.es hil
        rw [Nat.succ_mul] at this; omega
       have hokAll:∀ (j:Nat) (el:AV),((k.els.drop o).take n ++ xs)[j]?=some el→elOk e el=true:=by
        intro j el hel
        rcases List.mem_append.mp (List.mem_of_getElem? hel) with hm | hm
        ·obtain ⟨j',hj'⟩:=List.getElem?_of_mem (List.mem_of_mem_drop (List.mem_of_mem_take hm))
         have:=hbr.ok j' el hj'
         simp only [elOk,c5] at this ⊢
         exact this
        ·exact List.all_eq_true.mp c6 el hm
       have hgrow:=append_grow (P:=P) (w:=w) (ty:=ty) (base:=some ⟨b,o * e.es,none⟩) (n:=n) (c:=n) (x:=vx) (olds:=(cur.toList.drop (o * e.es)).take (n * e.es)) ht hu hni hi hz hsrc.len hold (by rw [← hes]; exact hsrc.first) (by omega) (by omega) (by rw [← hby]; exact c2)
       have hge:=grownCap_ge w (n+xs.length) n et
       have hzs:z.cells.size=e.es:=(elOk_rep hzo (.frz (cv_rep (w:=w) (bad:=fun b=>bad b ∨ own ρ b) hzv):Rep w bad (dead H) ρ e.zero z)).1
       have hcsz:(((cur.toList.drop (o * e.es)).take (n * e.es)).toArray ++ news.toArray ++ Builtin.zeroCells z.cells (grownCap w (n+xs.length) n et - (n+xs.length))).size=grownCap w (n+xs.length) n et * e.es:=by
        simp only [Array.size_append,List.size_toArray,hol,size_zeroCells,hzs,hsrc.size]
        rw [← Nat.add_mul,← Nat.add_mul]; congr 1; omega
       obtain ⟨ρ',hρ',st,hr⟩:=alloc_upd (w':=w.drew.alloc (.cells (((cur.toList.drop (o * e.es)).take (n * e.es)).toArray ++ news.toArray ++ Builtin.zeroCells z.cells (grownCap w (n+xs.length) n et - (n+xs.length))) et)) (k:=⟨e,(k.els.drop o).take n ++ xs⟩) (H':=H ++ [some ⟨e,(k.els.drop o).take n ++ xs⟩]) (id:=H.length) (fz:=(0,0)) hR hB (no_at_end hR) (by simp)
        (fun i hi hn=>List.getElem?_append_left (lt_of_no hR hn))
        (fun i hi=>dead_app hi) rfl rfl rfl (by simp) (fun j hj=>Below.heap_alloc w.drew _ j hj) (by simp only [htid]; exact heap_alloc_new w.drew _) hpos hcsz (unfz0 _) (by simp only [List.length_append,htl]; omega) hokAll
        (fun j el l y hel hl=>by
          rcases Nat.lt_or_ge j n with hlt | hge'
          ·rw [List.getElem?_append_left (by rw [htl]; exact hlt)] at hel
           obtain ⟨q,h1,h2,h3⟩:=hold2 j el l y hel hl
           refine ⟨q,?_,h2⟩
           simp only
           rw [← Array.getElem?_toList]
           simp only [Array.toList_append,List.append_assoc]
           rw [List.getElem?_append_left (by simp only [hol]; exact h3),List.getElem?_take_of_lt h3,List.getElem?_drop]
           simpa using h1
          ·rw [List.getElem?_append_right (by rw [htl]; exact hge'),htl] at hel
           obtain ⟨q,hq,hrq⟩:=flat_rep (w:=w) (bad:=bad) (D:=dead H) (ρ:=ρ) (rest:=(Builtin.zeroCells z.cells (grownCap w (n+xs.length) n et - (n+xs.length))).toList) ((cur.toList.drop (o * e.es)).take (n * e.es)) n hol c6 hsrc.size hsrc.rep _ el l y hel hl
           refine ⟨q,?_,hrq⟩
           rw [show n+(j - n)=j by omega] at hq
           rw [← Array.getElem?_toList]
           simpa using hq)
       refine ⟨_,_,ρ',hgrow,st,hr,?_⟩
       subst hρ'
       have:Rep (w.drew.alloc (.cells (((cur.toList.drop (o * e.es)).take (n * e.es)).toArray ++ news.toArray ++ Builtin.zeroCells z.cells (grownCap w (n+xs.length) n et - (n+xs.length))) et)) bad (dead (H ++ [some ⟨e,(k.els.drop o).take n ++ xs⟩])) (fun i=>if i=H.length then RB.real w.heap.size e.es (grownCap w (n+xs.length) n et) else ρ i) (.slc H.length 0 (n+xs.length)) (.slice (some ⟨w.heap.size,0 * e.es,none⟩) (n+xs.length) (grownCap w (n+xs.length) n et)) :=
        Rep.slc (b:=w.heap.size) (es:=e.es) (cap:=grownCap w (n+xs.length) n et) (by simp) (by omega) hge
       simpa using this
      ·rw [hxe] at h
       obtain ⟨rfl,rfl⟩:_=v∧_=H':=by simpa using h
       obtain rfl:=List.isEmpty_iff.mp hxe
       obtain ⟨news,hsrc⟩:=src_of (P:=P) (e:=e) hxs rfl hR (fun _=>Iff.rfl) (fun _ _ _ _ _ hb _=>hb) (dead_get H) hx
       have hnn:news=[]:=by have:=hsrc.size; simpa using this
       subst hnn
       have h1:=append_room (P:=P) (w:=w) (ty:=ty) (base:=some ⟨b,o * es,none⟩) (n:=n) (c:=n) (x:=vx) ht hu hni hi hsrc.len (by rw [← hes]; exact hsrc.first) (by simp) (w':=w) rfl
       exact ⟨_,w,ρ,h1,Step.refl _ _ _,hR,.slk hρ hcap⟩
end
end Go.Proofs.Ytdceaeifcniabaa.AE

namespace Go.Proofs.Ytdceaeifcniabaa.AE
set_option linter.unusedVariables false
set_option linter.unusedSimpArgs false
set_option linter.constructorNameAsVariable false
open Go Go.RowKit

structure Sim (w0:World) (D0:Nat→Prop) (ρ0:Rho) (bad:Nat→Prop) (B:Nat) (ρ:Rho) (s:St) (a:Act) (w:World):Prop where
 defers:a.defers=[]
 size:a.tmps.size=s.env.length
 env:∀ t,t < s.env.length→Rep w bad (dead s.H) ρ (s.env.getD t .undef) (a.tmps.getD t undef)
 heap:HRel w bad ρ B s.H
 low:B≤w.heap.size
 st:Step w0 w D0 (dead s.H) ρ0 ρ

def CallRes (P:Program) (g:FuncId) (vs:Array Value) (w:World) (R:Value→World→Prop):Prop :=
 (∃ cv w',(callFunc g vs).run P w=.ok (.value cv) w'∧R cv w') ∨ ((callFunc g vs).run P w=.ok (.enter g vs) w∧Calls P g vs w fun e w'=>∃ cv,e=.returned cv∧R cv w')

def CallOK (P:Program) (call:CallF):Prop :=
 ∀ g args H v H',call g args H=some (v,H')→∀ (w:World) (bad:Nat→Prop) (ρ:Rho) (B:Nat) (vs:List Value),HRel w bad ρ B H→B≤w.heap.size→(∀ b,bad b→b < B)→args.length=vs.length →
   (∀ (i:Nat) (c:AV) (u:Value),args[i]?=some c→vs[i]?=some u→Rep w bad (dead H) ρ c u) →
   CallRes P g vs.toArray w fun cv w'=>∃ ρ',Step w w' (dead H) (dead H') ρ ρ'∧HRel w' bad ρ' B H'∧Rep w' bad (dead H') ρ' v cv

def Keeps (call:CallF):Prop:=∀ g args H v H',call g args H=some (v,H')→H'=H

section
variable {P:Program} {w w0:World} {bad D0:Nat→Prop} {ρ ρ0:Rho} {a:Act} {o:Oper} {B:Nat} {s:St} {Q:Exit→Act→World→Prop} {K:Act→World→Prop}

theorem evO_rep (h:Sim w0 D0 ρ0 bad B ρ s a w) (xs:List Operand):OpsOk w bad (dead s.H) ρ a (evO s.env) xs:=by
 intro x _ y hy
 cases x with
 | tmp t =>
   simp only [cOpd,Option.some.injEq] at hy
   subst hy
   simp only [evO,Act.eval]
   rcases Nat.lt_or_ge t s.env.length with hlt | hge
   ·exact h.env t hlt
   ·have:s.env.getD t .undef=.undef:=by simp [List.getD_eq_getElem?_getD,List.getElem?_eq_none hge]
    rw [this]
    exact .frz (.undef _)
 | const v =>
   simp only [cOpd] at hy
   cases hv:cv v with
   | none=>simp [hv] at hy
   | some z =>
     simp [hv] at hy
     subst hy
     exact .frz (cv_rep hv)
 | global g=>simp [cOpd] at hy
 | func f =>
   simp only [cOpd,Option.some.injEq] at hy
   subst hy
   exact .frz (.fn f [] [] [] [] rfl rfl (by simp) (by simp))

theorem put_sim {v:AV} {cv:Value} {H':Heap} {w':World} {ρ':Rho} (d:Option Nat) (h:Sim w0 D0 ρ0 bad B ρ s a w) (st:Step w w' (dead s.H) (dead H') ρ ρ') (hR:HRel w' bad ρ' B H') (hv:Rep w' bad (dead H') ρ' v cv) :
 Sim w0 D0 ρ0 bad B ρ' ⟨AE.put s.env d v,H'⟩ (a.put d cv) w':=by
 cases d with
 | none=>exact ⟨h.defers,h.size,fun t ht=>(h.env t ht).step st,hR,Nat.le_trans h.low st.grow.size,h.st.trans st⟩
 | some d =>
   refine ⟨h.defers,by simp [AE.put,Act.put,h.size],fun t ht=>?_,hR,Nat.le_trans h.low st.grow.size,h.st.trans st⟩
   simp only [AE.put,List.length_set] at ht
   simp only [AE.put,Act.put,List.getD_eq_getElem?_getD,Array.getD_eq_getD_getElem?]
   by_cases hd:d=t
   ·subst hd
    rw [List.getElem?_set_self ht,Array.getElem?_setIfInBounds_self_of_lt (by rw [h.size]; exact ht)]
    exact hv
   ·rw [List.getElem?_set_ne hd,Array.getElem?_setIfInBounds_ne hd]
    have:=(h.env t ht).step st
    rwa [List.getD_eq_getElem?_getD,Array.getD_eq_getD_getElem?] at this

theorem fin_says {v:AV} (h:Sim w0 D0 ρ0 bad B ρ s a w) (hs:Says P w bad (dead s.H) ρ a o v) (hK:∀ a' w' ρ',Sim w0 D0 ρ0 bad B ρ' ⟨AE.put s.env o.dst v,s.H⟩ a' w'→K a' w'):o.wp P a w K Q:=by
 obtain ⟨cv,hr,hrep⟩:=hs
 unfold Oper.wp
 rw [hr]
 exact hK _ _ ρ (put_sim o.dst h (Step.refl _ _ _) h.heap hrep)

theorem fin_mark {ty e:TypeId} {x:Operand} {x':Opd} {id q n:Nat} {k:Blk} {ev:Opd→AV} (h:Sim w0 D0 ρ0 bad B ρ s a w) (ho:o.op=.convert ty ty x) (hs:P.underlying ty=some (.slice e)) (he:P.underlying e=some (.int .u8))
 (hx:cOpd x=some x') (hv:ev x'=.slc id q n) (hg:hget s.H id=some k) (hne:k.els ≠ []) (hO:OpsOk w bad (dead s.H) ρ a ev o.op.operands.toList)
 (hK:∀ a' w' ρ',Sim w0 D0 ρ0 bad B ρ' ⟨AE.put s.env o.dst (.slc id q n),s.H⟩ a' w'→K a' w'):o.wp P a w K Q:=by
 have h2:=hO x (by simp [ho,Op.operands]) x' hx
 rw [hv] at h2
 have hR:=h.heap
 generalize hva:a.eval x=va at h2
 have hgk:s.H[id]?=some (some k):=by
  unfold hget at hg
  split at hg <;> simp_all
 cases h2 with
 | frz hv=>cases hv
 | slcD ad c hd =>
   have hd2:s.H[id]?=some none:=hd
   rw [hgk] at hd2; cases hd2
 | slcV ad hρ =>
   obtain ⟨k2,hk2,h0⟩:=hR.virt id hρ
   rw [hgk] at hk2; cases hk2
   exact absurd h0 hne
 | slc hρ hc hn =>
   rename_i b es cap c
   obtain ⟨k2,hk2,hb⟩:=hR.real id b es cap hρ
   rw [hgk] at hk2; cases hk2
   obtain ⟨cur,fz,m1,m2,m3,m4⟩:=hb.mem
   have hsh:w.shape? b=some (k.e.tid,cur.size):=by simp [World.shape?,m1]
   have hrun:(execOp a.eval o).run P w=.ok (.value (.slice (some ⟨b,q * es,none⟩) n c)) (w.freeze ⟨b,cur.size,none⟩ 1):=by
    simp [execOp,ho,hva,convert,run_underlying hs,run_underlying he,markStringish,hsh]
   obtain ⟨lo,hi⟩:=fz
   have hw:(w.freeze ⟨b,cur.size,none⟩ 1).heap=w.heap.modify b fun
    | .cells c elem (lo,hi)=>.cells c elem (if lo == hi then (cur.size,cur.size+1) else (min lo cur.size,max hi (cur.size+1)))
    | o=>o:=by rfl
   have hat:(w.freeze ⟨b,cur.size,none⟩ 1).heap[b]?=some (.cells cur k.e.tid (if lo == hi then (cur.size,cur.size+1) else (min lo cur.size,max hi (cur.size+1)))):=by
    rw [hw,Array.getElem?_modify]
    simp [m1]
   have hoth:∀ b',b' ≠ b→(w.freeze ⟨b,cur.size,none⟩ 1).heap[b']?=w.heap[b']?:=fun b' hb'=>by
    rw [hw,Array.getElem?_modify]
    simp [Ne.symm hb']
   have hst:Step w (w.freeze ⟨b,cur.size,none⟩ 1) (dead s.H) (dead s.H) ρ ρ :=
    ⟨⟨by simp [World.freeze],by simp [World.freeze],by simp [World.freeze],by rw [hw]; simp,fun b' _ hn=>hoth b' (fun e=>hn (e ▸ ⟨id,es,cap,hρ⟩))⟩,RLe.refl _ _,fun _ h=>h,fun _ _=>.inl rfl⟩
   have hR':HRel (w.freeze ⟨b,cur.size,none⟩ 1) bad ρ B s.H:=by
    refine ⟨?_,hR.virt,hR.inj,hR.res⟩
    intro id' b' es' cap' h'
    by_cases hid:id=id'
    ·subst hid
     rw [hρ] at h'; cases h'
     refine ⟨k,hgk,hb.hes,hb.pos,hb.low,hb.len,hb.ok,cur,_,hat,m2,?_,fun i el j c hel hj=>let ⟨v,hv,hr⟩:=m4 i el j c hel hj; ⟨v,hv,hr.step hst⟩⟩
     obtain ⟨f1,f2⟩:=m3
     simp only at f1 f2
     by_cases hl:lo=hi
     ·simp only [hl,beq_self_eq_true,if_true]
      exact ⟨fun j hj=>by simp only; omega,by simp only; omega⟩
     ·have hge:cur.size≤lo:=by
       rcases Nat.lt_or_ge lo cur.size with hlt | hge
       ·exact absurd ⟨Nat.le_refl _,by omega⟩ (f1 lo hlt)
       ·exact hge
      simp only [beq_eq_false_iff_ne.mpr hl,Bool.false_eq_true,if_false]
      exact ⟨fun j hj=>by simp only; omega,by simp only; omega⟩
    ·obtain ⟨k3,hk3,hb3⟩:=hR.real id' b' es' cap' h'
     exact ⟨k3,hk3,hb3.step hst (hoth b' (fun e=>by subst e; exact hid (hR.inj id id' _ _ _ _ _ hρ h')))⟩
   unfold Oper.wp
   rw [hrun]
   exact hK _ _ ρ (put_sim o.dst h hst hR' (.slc hρ hc hn))

theorem fin_makes {v:AV} {k:Blk} (h:Sim w0 D0 ρ0 bad B ρ s a w) (hs:Makes P w bad (dead s.H) ρ a o v s.H.length k) (hK:∀ a' w' ρ',Sim w0 D0 ρ0 bad B ρ' ⟨AE.put s.env o.dst v,s.H ++ [some k]⟩ a' w'→K a' w'):o.wp P a w K Q:=by
 obtain ⟨cv,w',cur,fz,cap,hr,h1,h2,h3,⟨h4,h5,h6⟩,h7,h8,h9,h10,h11,h12,h13⟩:=hs
 obtain ⟨ρ',hρ',st,hR⟩:=alloc_upd (H':=s.H ++ [some k]) h.heap h.low (no_at_end h.heap) (by simp) (fun i _ hn=>List.getElem?_append_left (lt_of_no h.heap hn)) (fun i hi=>dead_app hi) h1 h2 h3 h4 h5 h6 h7 h8 h9 h10 h11 h12
 unfold Oper.wp
 rw [hr]
 refine hK _ _ ρ' (put_sim o.dst h st hR ?_)
 rcases h13 with ⟨rfl,rfl⟩ | ⟨n,c,rfl,q1,q2,rfl⟩
 ·have:=Rep.ptr (w:=w') (bad:=bad) (D:=dead (s.H ++ [some k])) (ρ:=ρ') (id:=s.H.length) (i:=0) (j:=0) (b:=w.heap.size) (es:=k.e.es) (cap:=cap) (by subst hρ'; simp)
  simpa using this
 ·have:=Rep.slc (w:=w') (bad:=bad) (D:=dead (s.H ++ [some k])) (ρ:=ρ') (id:=s.H.length) (o:=0) (n:=n) (c:=c) (b:=w.heap.size) (es:=k.e.es) (cap:=cap) (by subst hρ'; simp) (by omega) q1
  simpa using this

theorem app_args {c:Call} {sArg xArg:Operand} {t u:TypeId} (ho:o.op=.call c) (hcc:c.callee=.builtin .append) (hca:c.args.toList=[sArg,xArg]) (hct:c.argTypes.toList=[t,u]) :
 (execOp a.eval o).run P w=((Builtin.append_ #[t,u] o.type #[a.eval sArg,a.eval xArg]).run P w).andThen fun v w'=>.ok (.value v) w':=by
 obtain ⟨cal,args,tys⟩:=c
 obtain ⟨args⟩:=args
 obtain ⟨tys⟩:=tys
 simp only at hcc hca hct
 subst hcc; subst hca; subst hct
 simp [execOp,ho,resolve,invoke,builtin]

theorem call_run {D:Nat→Prop} {ev:Opd→AV} {c:Call} {f:Operand} {f':Opd} {ys:List Opd} {g:FuncId} {p q:List AV} (hO:OpsOk w bad D ρ a ev o.op.operands.toList) (ho:o.op=.call c) (hcc:c.callee=.value f) (hf:cOpd f=some f') (hx:cOpds c.args.toList=some ys) (he:ev f'=.fn g p q) :
 ∃ vs:List Value,(execOp a.eval o).run P w=(callFunc g vs.toArray).run P w∧(p ++ ys.map ev ++ q).length=vs.length ∧
   ∀ (i:Nat) (c:AV) (u:Value),(p ++ ys.map ev ++ q)[i]?=some c→vs[i]?=some u→Rep w bad D ρ c u:=by
 obtain ⟨h1,h2⟩:=opds_rep hx (fun x hx y hy=>hO x (by simp only [ho,Op.operands,Call.operands,hcc]; simp; exact .inr (by simpa using hx)) y hy)
 have h3:=hO f (by simp [ho,Op.operands,Call.operands,hcc]) f' hf
 rw [he] at h3
 obtain ⟨va,vb,e3,l1,l2,r1,r2⟩:=rep_fn h3
 refine ⟨va ++ c.args.toList.map a.eval ++ vb,?_,by simp at h1 ⊢; omega,?_⟩
 ·have hmap:c.args.map a.eval=(c.args.toList.map a.eval).toArray:=by simp [← Array.toList_map]
  simp only [execOp,ho,resolve,hcc,hmap,e3,Deferred.ofValue,Sem.run_bind,Sem.run_pure,Result.andThen_ok,invoke]
  congr 2
  simp
 ·intro i c' u hc hu
  by_cases hi:i < p.length
  ·rw [List.append_assoc,List.getElem?_append_left hi] at hc
   rw [List.append_assoc,List.getElem?_append_left (by omega)] at hu
   exact r1 i c' u hc hu
  ·rw [List.append_assoc,List.getElem?_append_right (by omega)] at hc
   rw [List.append_assoc,List.getElem?_append_right (by omega),← l1] at hu
   by_cases hi2:i - p.length < (ys.map ev).length
   ·rw [List.getElem?_append_left hi2] at hc
    rw [List.getElem?_append_left (by omega)] at hu
    exact h2 _ c' u hc hu
   ·rw [List.getElem?_append_right (by omega)] at hc
    rw [List.getElem?_append_right (by omega),← h1] at hu
    exact r2 _ c' u hc hu

theorem fin_call {c:Call} {f:Operand} {f':Opd} {ys:List Opd} {g:FuncId} {p q:List AV} {call:CallF} {v:AV} {H':Heap} {ev:Opd→AV} (h:Sim w0 D0 ρ0 bad B ρ s a w) (hO:OpsOk w bad (dead s.H) ρ a ev o.op.operands.toList) (hbad:∀ b,bad b→b < B) (hcall:CallOK P call) (ho:o.op=.call c) (hcc:c.callee=.value f) (hf:cOpd f=some f')
 (hx:cOpds c.args.toList=some ys) (he:ev f'=.fn g p q) (hres:call g (p ++ ys.map ev ++ q) s.H=some (v,H')) (hK:∀ a' w' ρ',Sim w0 D0 ρ0 bad B ρ' ⟨AE.put s.env o.dst v,H'⟩ a' w'→K a' w'):o.wp P a w K Q:=by
 obtain ⟨vs,hr,hl,hp⟩:=call_run (P:=P) hO ho hcc hf hx he
 have hc:=hcall g _ _ _ _ hres w bad ρ B vs h.heap h.low hbad hl hp
 unfold Oper.wp
 rw [hr]
 rcases hc with ⟨cv,w',h1,ρ',st,hR,hrep⟩ | ⟨h1,h2⟩
 ·rw [h1]
  exact hK _ _ ρ' (put_sim o.dst h st hR hrep)
 ·rw [h1]
  refine h2.mono ?_
  rintro e w' ⟨cv,rfl,ρ',st,hR,hrep⟩
  exact hK _ _ ρ' (put_sim o.dst h st hR hrep)
end
end Go.Proofs.Ytdceaeifcniabaa.AE

namespace Go.Proofs.Ytdceaeifcniabaa.AE
set_option linter.unusedVariables false
set_option linter.unusedSimpArgs false
set_option linter.constructorNameAsVariable false
open Go Go.RowKit

section
variable {P:Program} {w:World} {bad D:Nat→Prop} {ρ:Rho} {a:Act} {ev:Opd→AV} {o:Oper}

theorem eqL_len:∀ {sh:List Sh} {l m:List AV} {r:Bool},eqL sh l m=some r→l.length=sh.length∧m.length=sh.length
 | [],l,m,r,h=>by
   cases l <;> cases m <;> simp [eqL] at h ⊢
 | s::sh,l,m,r,h=>by
   cases l with
   | nil=>cases s <;> simp [eqL] at h
   | cons x l =>
     cases m with
     | nil=>cases s <;> cases x <;> simp [eqL] at h
     | cons y m =>
       unfold eqL at h
       split at h <;> (try (cases h; done))
       all_goals (rename_i e1 e2 e3; first | (cases e1; done) | skip)
       all_goals
        cases e1; cases e2; cases e3
        first
         | (split at h <;> (try (cases h; done))
            split at h <;> (try (cases h; done))
            rename_i r' hr
            obtain ⟨h1,h2⟩:=eqL_len hr
            simp [h1,h2])
         | (split at h <;> (try (cases h; done))
            rename_i r' hr
            obtain ⟨h1,h2⟩:=eqL_len hr
            simp [h1,h2])

theorem eqL_app:∀ (s1:List Sh) {s2:List Sh} {l m:List AV} {r:Bool},eqL (s1 ++ s2) l m=some r →
 ∃ r1 r2,eqL s1 (l.take s1.length) (m.take s1.length)=some r1∧eqL s2 (l.drop s1.length) (m.drop s1.length)=some r2∧r=(r1 && r2)
 | [],s2,l,m,r,h=>⟨true,r,by simp [eqL],by simpa using h,by simp⟩
 | s::s1,s2,l,m,r,h=>by
   cases l with
   | nil=>cases s <;> simp [eqL] at h
   | cons x l =>
     cases m with
     | nil=>cases s <;> cases x <;> simp [eqL] at h
     | cons y m =>
       simp only [List.cons_append] at h
       unfold eqL at h
       split at h <;> (try (cases h; done))
       all_goals (rename_i e1 e2 e3; first | (cases e1; done) | skip)
       all_goals
        cases e1; cases e2; cases e3
        first
         | (split at h <;> (try (cases h; done))
            rename_i hk
            split at h <;> (try (cases h; done))
            rename_i r' hr
            obtain ⟨r1,r2,h1,h2,h3⟩:=eqL_app s1 hr
            subst hk
            refine ⟨_,r2,by simp [eqL,h1]; rfl,by simpa using h2,?_⟩
            simp only [Option.some.injEq] at h
            rw [← h,h3,Bool.and_assoc])
         | (split at h <;> (try (cases h; done))
            rename_i r' hr
            obtain ⟨r1,r2,h1,h2,h3⟩:=eqL_app s1 hr
            refine ⟨_,r2,by simp [eqL,h1]; rfl,by simpa using h2,?_⟩
            simp only [Option.some.injEq] at h
            rw [← h,h3,Bool.and_assoc])

def CellsRep (w:World) (bad D:Nat→Prop) (ρ:Rho) (l:List AV) (xs:List Value):Prop:=l.length=xs.length∧∀ (i:Nat) (c:AV) (u:Value),l[i]?=some c→xs[i]?=some u→Rep w bad D ρ c u

theorem CellsRep.sub {l:List AV} {xs:List Value} (h:CellsRep w bad D ρ l xs) (o n:Nat):CellsRep w bad D ρ ((l.drop o).take n) ((xs.drop o).take n):=by
 refine ⟨by simp [h.1],fun i c u hc hu=>?_⟩
 have hi:i < n:=by have:=(List.getElem?_eq_some_iff.mp hc).1; simp at this; omega
 rw [List.getElem?_take_of_lt hi,List.getElem?_drop] at hc hu
 exact h.2 _ c u hc hu

def EqAt (P:Program) (w:World) (bad D:Nat→Prop) (ρ:Rho) (n:Nat) (t:TypeId) (sh:List Sh):Prop :=
 ∀ (l m:List AV) (xs ys:List Value) (off:Nat) (r:Bool),CellsRep w bad D ρ l xs→CellsRep w bad D ρ m ys→eqL sh ((l.drop off).take sh.length) ((m.drop off).take sh.length)=some r →
   ∃ va vb,(part t xs.toArray off).run P w=.ok va w∧(part t ys.toArray off).run P w=.ok vb w∧(Op.equalIn n t va vb).run P w=.ok r w

theorem fields_run {n:Nat} {g:TypeId→Option (List Sh)} (hg:∀ t sh,g t=some sh→EqAt P w bad D ρ n t sh):∀ (fs:List Field) (o:Nat) (sh:List Sh) (l m:List AV) (xs ys:List Value) (r:Bool),eqFs g fs o=some sh→CellsRep w bad D ρ l xs→CellsRep w bad D ρ m ys →
 eqL sh (l.drop o) (m.drop o)=some r→(Op.eqFields n xs.toArray ys.toArray fs).run P w=.ok r w
 | [],o,sh,l,m,xs,ys,r,h,_,_,he=>by
   simp only [eqFs,Option.some.injEq] at h
   subst h
   obtain ⟨h1,h2⟩:=eqL_len he
   simp only [List.length_nil] at h1 h2
   rw [List.eq_nil_of_length_eq_zero h1,List.eq_nil_of_length_eq_zero h2] at he
   simp [eqL] at he
   subst he
   rfl
 | f::fs,o,sh,l,m,xs,ys,r,h,hl,hm,he=>by
   simp only [eqFs] at h
   split at h <;> (try (cases h; done))
   rename_i hf
   split at h <;> (try (cases h; done))
   rename_i l1 hl1
   split at h <;> (try (cases h; done))
   rename_i l2 hl2
   obtain rfl:=Option.some.inj h
   obtain ⟨r1,r2,h1,h2,rfl⟩:=eqL_app l1 he
   obtain ⟨va,vb,p1,p2,p3⟩:=hg _ _ hl1 l m xs ys o r1 hl hm h1
   rw [List.drop_drop,List.drop_drop] at h2
   have ih:=fields_run hg fs (o+l1.length) l2 l m xs ys r2 hl2 hl hm h2
   simp only [Op.eqFields,ne_eq,hf.1,not_false_eq_true,if_true,hf.2,Sem.run_bind,p1,p2,p3,Result.andThen_ok]
   cases r1 with
   | true=>simpa using ih
   | false=>simp

theorem items_run {n:Nat} {e:TypeId} {sh:List Sh} (hg:EqAt P w bad D ρ n e sh) (l m:List AV) (xs ys:List Value) (hl:CellsRep w bad D ρ l xs) (hm:CellsRep w bad D ρ m ys):∀ (k s:Nat) (r:Bool),
 eqL ((List.replicate k sh).flatten) (l.drop (s * sh.length)) (m.drop (s * sh.length))=some r→(Op.eqItems n e sh.length xs.toArray ys.toArray (List.range' s k)).run P w=.ok r w
 | 0,s,r,he=>by
   simp only [List.replicate_zero,List.flatten_nil] at he
   obtain ⟨h1,h2⟩:=eqL_len he
   simp only [List.length_nil] at h1 h2
   rw [List.eq_nil_of_length_eq_zero h1,List.eq_nil_of_length_eq_zero h2] at he
   simp [eqL] at he
   subst he
   rfl
 | k+1,s,r,he=>by
   simp only [List.replicate_succ,List.flatten_cons] at he
   obtain ⟨r1,r2,h1,h2,rfl⟩:=eqL_app sh he
   obtain ⟨va,vb,p1,p2,p3⟩:=hg l m xs ys _ r1 hl hm h1
   rw [List.drop_drop,List.drop_drop,show s * sh.length+sh.length=(s+1) * sh.length by rw [Nat.succ_mul]] at h2
   have ih:=items_run hg l m xs ys hl hm k (s+1) r2 h2
   simp only [List.range'_succ,Op.eqItems,Sem.run_bind,p1,p2,p3,Result.andThen_ok]
   cases r1 with
   | true=>simpa using ih
   | false=>simp

theorem array_run {n len:Nat} {t e:TypeId} {sh:List Sh} (ht:P.underlying t=some (.array len e)) (hg:EqAt P w bad D ρ n e sh) {i:TypeInfo} (hi:P.info? e=some i) (hsz:i.size=sh.length) (l m:List AV) (xs ys:List Value) (r:Bool) (hl:CellsRep w bad D ρ l xs) (hm:CellsRep w bad D ρ m ys)
 (he:eqL ((List.replicate len sh).flatten) l m=some r):(Op.equalIn (n+1) t (.agg xs.toArray) (.agg ys.toArray)).run P w=.ok r w:=by
 rw [run_equalIn_array (P:=P) w n _ _ ht hi,show P.cellsOf e=sh.length by rw [← hsz]; simp [Program.cellsOf,hi],List.range_eq_range']
 exact items_run hg l m xs ys hl hm len 0 r (by simpa using he)

theorem eqSh_run:∀ (d:Nat) (t:TypeId) (sh:List Sh),eqSh P d t=some sh→∀ n,d≤n→EqAt P w bad D ρ n t sh
 | 0,t,sh,h,n,_=>by simp [eqSh] at h
 | d+1,t,sh,h,n,hn=>by
   obtain ⟨n,rfl⟩:∃ k,n=k+1:=⟨n - 1,by omega⟩
   intro l m xs ys off r hl hm he
   have one:∀ (kd:Sh),(agB P t=some false)→eqL [kd] ((l.drop off).take 1) ((m.drop off).take 1)=some r→∃ c1 c2 va vb,l[off]?=some c1∧m[off]?=some c2∧eqL [kd] [c1] [c2]=some r∧Rep w bad D ρ c1 va∧Rep w bad D ρ c2 vb ∧
    (part t xs.toArray off).run P w=.ok va w∧(part t ys.toArray off).run P w=.ok vb w:=by
    intro kd ha he
    obtain ⟨h1,h2⟩:=eqL_len he
    simp only [List.length_take,List.length_drop,List.length_cons,List.length_nil] at h1 h2
    have o1:off < l.length:=by omega
    have o2:off < m.length:=by omega
    have e1:(l.drop off).take 1=[l[off]]:=by rw [List.drop_eq_getElem_cons o1,List.take_succ_cons,List.take_zero]
    have e2:(m.drop off).take 1=[m[off]]:=by rw [List.drop_eq_getElem_cons o2,List.take_succ_cons,List.take_zero]
    rw [e1,e2] at he
    have x1:off < xs.length:=by rw [← hl.1]; exact o1
    have x2:off < ys.length:=by rw [← hm.1]; exact o2
    refine ⟨l[off],m[off],xs[off],ys[off],List.getElem?_eq_getElem o1,List.getElem?_eq_getElem o2,he,hl.2 _ _ _ (List.getElem?_eq_getElem o1) (List.getElem?_eq_getElem x1),hm.2 _ _ _ (List.getElem?_eq_getElem o2) (List.getElem?_eq_getElem x2),?_,?_⟩
    ·simp only [part,Sem.run_bind,run_ag ha,Result.andThen_ok,Bool.false_eq_true,if_false]
     simp [x1]
    ·simp only [part,Sem.run_bind,run_ag ha,Result.andThen_ok,Bool.false_eq_true,if_false]
     simp [x2]
   have agg:∀ (i:TypeInfo),P.info? t=some i→agB P t=some true→i.size=sh.length→∀ ys:List Value,(part t ys.toArray off).run P w=.ok (.agg ((ys.drop off).take sh.length).toArray) w:=by
    intro i hi ha hsz ys
    rw [run_part hi ha,if_pos rfl,hsz]
    congr 2
    apply Array.ext'
    simp
   simp only [eqSh] at h
   split at h <;> (try (cases h; done))
   ·rename_i fs hfs
    split at h <;> (try (cases h; done))
    rename_i hst
    split at h <;> (try (cases h; done))
    rename_i sh' hsh
    split at h <;> (try (cases h; done))
    rename_i hsz
    obtain rfl:=Option.some.inj h
    obtain ⟨i,hi⟩:∃ i,P.info? t=some i:=by
     cases hq:P.info? t with
     | none=>simp [Program.underlying,hq] at hfs
     | some i=>exact ⟨i,rfl⟩
    have hsz':i.size=sh'.length:=by rw [← hsz]; simp [Program.cellsOf,hi]
    have ha:agB P t=some true:=by simp [agB,hfs]
    refine ⟨_,_,agg i hi ha hsz' xs,agg i hi ha hsz' ys,?_⟩
    have hfo:P.fieldsOf t=fs:=by simp [Program.fieldsOf,hfs]
    rw [run_equalIn_struct (P:=P) w n t _ _ (by rw [hfo]; exact hfs) (by simpa using hst),hfo]
    exact fields_run (fun t' sh'' h'=>eqSh_run d t' sh'' h' n (by omega)) fs.toList 0 sh' _ _ _ _ r hsh (hl.sub off sh'.length) (hm.sub off sh'.length) (by simpa using he)
   ·rename_i len e hfs
    split at h <;> (try (cases h; done))
    rename_i sh' hsh
    split at h <;> (try (cases h; done))
    rename_i hsz
    obtain rfl:=Option.some.inj h
    obtain ⟨i,hi⟩:∃ i,P.info? t=some i:=by
     cases hq:P.info? t with
     | none=>simp [Program.underlying,hq] at hfs
     | some i=>exact ⟨i,rfl⟩
    have hlen:((List.replicate len sh').flatten).length=len * sh'.length:=by simp
    have hsz':i.size=((List.replicate len sh').flatten).length:=by rw [hlen,← hsz.1]; simp [Program.cellsOf,hi]
    have ha:agB P t=some true:=by simp [agB,hfs]
    refine ⟨_,_,agg i hi ha hsz' xs,agg i hi ha hsz' ys,?_⟩
    have heq:=eqSh_run d e sh' hsh n (by omega)
    cases hie:P.info? e with
    | none =>
      exfalso
      cases d with
      | zero=>simp [eqSh] at hsh
      | succ d=>simp [eqSh,Program.underlying,hie] at hsh
    | some ie=>exact array_run hfs heq hie (by rw [← hsz.2]; simp [Program.cellsOf,hie]) _ _ _ _ r (hl.sub off _) (hm.sub off _) he
   ·rename_i k hfs
    split at h <;> (try (cases h; done))
    obtain rfl:=Option.some.inj h
    obtain ⟨c1,c2,va,vb,q1,q2,q3,q4,q5,q6,q7⟩:=one _ (by simp [agB,hfs]) he
    refine ⟨va,vb,q6,q7,?_⟩
    cases c1 <;> cases c2 <;> simp [eqL] at q3
    obtain ⟨rfl,rfl⟩:=q3
    rw [rep_int q4,rep_int q5]
    exact run_equalIn_int w n t _ k _ _ hfs
   ·rename_i hfs
    split at h <;> (try (cases h; done))
    obtain rfl:=Option.some.inj h
    obtain ⟨c1,c2,va,vb,q1,q2,q3,q4,q5,q6,q7⟩:=one _ (by simp [agB,hfs]) he
    refine ⟨va,vb,q6,q7,?_⟩
    cases c1 <;> cases c2 <;> simp [eqL] at q3
    subst q3
    rw [rep_bool q4,rep_bool q5]
    exact run_equalIn_bool' w n t _ _ hfs
   ·rename_i hfs
    split at h <;> (try (cases h; done))
    obtain rfl:=Option.some.inj h
    obtain ⟨c1,c2,va,vb,q1,q2,q3,q4,q5,q6,q7⟩:=one _ (by simp [agB,hfs]) he
    refine ⟨va,vb,q6,q7,?_⟩
    cases c1 <;> cases c2 <;> simp [eqL] at q3
    subst q3
    rw [rep_str q4,rep_str q5,run_equalIn_string w n t _ _ hfs]
    simp [ByteArray.toList_eq]

theorem eqIn_ptr (d:Nat) {t e:TypeId} (hu:P.underlying t=some (.pointer e)) (p q:Option Addr) (h:p=none ∨ q=none):(Op.equalIn (d+1) t (.pointer p) (.pointer q)).run P w=.ok (p.isNone && q.isNone) w:=by
 cases p <;> cases q <;> simp at h <;> simp [Op.equalIn,run_underlying hu]
theorem eqIn_slc (d:Nat) {t e:TypeId} (hu:P.underlying t=some (.slice e)) (p:Option Addr) (n c:Nat):(Op.equalIn (d+1) t (.slice p n c) (.slice none 0 0)).run P w=.ok p.isNone w:=by
 cases p <;> simp [Op.equalIn,run_underlying hu]
theorem eqIn_fn (d:Nat) {t:TypeId} {ps rs:Array TypeId} {v:Bool} (hu:P.underlying t=some (.func ps rs v)):(Op.equalIn (d+1) t .nilFunc .nilFunc).run P w=.ok true w ∧
 (∀ f p q,(Op.equalIn (d+1) t .nilFunc (.func f p q)).run P w=.ok false w)∧(∀ f p q,(Op.equalIn (d+1) t (.func f p q) .nilFunc).run P w=.ok false w):=by
 refine ⟨?_,fun f p q=>?_,fun f p q=>?_⟩ <;> simp [Op.equalIn,run_underlying hu]

theorem part_all {t:TypeId} {i:TypeInfo} (hi:P.info? t=some i) (ha:agB P t=some true) (xs:List Value) (h:i.size=xs.length):(part t xs.toArray 0).run P w=.ok (.agg xs.toArray) w:=by
 rw [run_part hi ha,if_pos rfl]
 congr 2
 apply Array.ext'
 simp [h]

theorem eqSh_size {d:Nat} {t:TypeId} {sh:List Sh} (h:eqSh P (d+1) t=some sh) (ha:agB P t=some true):P.cellsOf t=sh.length:=by
 simp only [eqSh] at h
 split at h <;> (try (cases h; done))
 ·split at h <;> (try (cases h; done))
  split at h <;> (try (cases h; done))
  split at h <;> (try (cases h; done))
  rename_i hc
  obtain rfl:=Option.some.inj h
  exact hc
 ·split at h <;> (try (cases h; done))
  split at h <;> (try (cases h; done))
  rename_i hc
  obtain rfl:=Option.some.inj h
  rw [hc.1]; simp
 all_goals
  rename_i hu
  simp [agB,hu] at ha

theorem says_eqv {op:BinOp} {neg:Bool} {t u:TypeId} {k:Nat} {sh:List Sh} {x y:Operand} {x' y':Opd} {b:Bool} (hop:(op=.eql∧neg=false) ∨ (op=.neq∧neg=true)) (ho:o.op=.binOp op t x y u) (hk:eqKind P t=some (k,sh)) (hx:cOpd x=some x') (hy:cOpd y=some y')
 (hv:eqV k sh (ev x') (ev y')=some b) (hO:OpsOk w bad D ρ a ev o.op.operands.toList):Says P w bad D ρ a o (.bool (xor neg b)):=by
 have h2:=hO x (by simp [ho,Op.operands]) x' hx
 have h3:=hO y (by simp [ho,Op.operands]) y' hy
 generalize ev x'=X at *
 generalize ev y'=Y at *
 have fin:∀ (va vb:Value),a.eval x=va→a.eval y=vb→(eqGuard op t x y va vb).run P w=.ok () w→(∀ op',op'=.eql ∨ op'=.neq→(binOp op' t va vb).run P w=((Op.equal t va vb).run P w).andThen fun r w'=>.ok (.bool (if op'=.eql then r else !r)) w')→(Op.equal t va vb).run P w=.ok b w→Says P w bad D ρ a o (.bool (xor neg b)):=by
  intro va vb e1 e2 hg hbin heq
  have hb:(binOp op t va vb).run P w=.ok (.bool (xor neg b)) w:=by
   rcases hop with ⟨rfl,rfl⟩ | ⟨rfl,rfl⟩
   ·rw [hbin _ (.inl rfl),heq]; simp
   ·rw [hbin _ (.inr rfl),heq]; simp
  refine ⟨.bool (xor neg b),?_,.frz (.bool _)⟩
  simp only [execOp,ho,e1,e2,Sem.run_bind,hg,hb,Result.andThen_ok,Sem.run_pure]
 have max1:Op.maxDepth=9999+1:=rfl
 unfold eqKind at hk
 split at hk <;> (try (cases hk; done))
 ·rename_i hu
  cases hk
  simp only [eqV] at hv
  unfold eqB at hv
  split at hv <;> (try (cases hv; done))
  obtain rfl:=Option.some.inj hv
  refine fin _ _ (rep_bool h2) (rep_bool h3) (by rw [eqGuard_off _ _ _ _ _ _ (by simp) (by simp)]; rfl) (fun op' h=>by rcases h with rfl | rfl <;> simp [binOp]) ?_
  rw [Op.equal,max1,run_equalIn_bool' w 9999 t _ _ hu]
 ·rename_i e hu
  cases hk
  have hp:∀ {v:AV} {c:Value},Rep w bad D ρ v c→((∃ i j q,v=.ptr i j q) ∨ ∃ z j,v=.fptr z j)→∃ ad,c=.pointer (some ad):=by
   intro v c h hh
   rcases hh with ⟨i,j,q,rfl⟩ | ⟨z,j,rfl⟩
   ·cases h with
    | frz h=>cases h
    | ptr h=>exact ⟨_,rfl⟩
    | ptrD b o h=>exact ⟨_,rfl⟩
   ·cases h with
    | frz h=>cases h with
      | fptr=>exact ⟨_,rfl⟩
  have run:∀ (p q:Option Addr),(p=none ∨ q=none)→b=(p.isNone && q.isNone)→a.eval x=.pointer p→a.eval y=.pointer q→Says P w bad D ρ a o (.bool (xor neg b)):=by
   intro p q hpq hb e1 e2
   refine fin _ _ e1 e2 (by rw [eqGuard_off _ _ _ _ _ _ (by simp) (by simp)]; rfl) (fun op' h=>by rcases h with rfl | rfl <;> simp [binOp]) ?_
   rw [Op.equal,max1,hb]
   exact eqIn_ptr 9999 hu p q hpq
  simp only [eqV] at hv
  unfold eqP at hv
  split at hv <;> (try (cases hv; done))
  ·exact run none none (.inl rfl) (by simpa using hv.symm) (rep_nilp h2) (rep_nilp h3)
  ·obtain ⟨ad,e⟩:=hp h3 (.inl ⟨_,_,_,rfl⟩)
   exact run none (some ad) (.inl rfl) (by simpa using hv.symm) (rep_nilp h2) e
  ·obtain ⟨ad,e⟩:=hp h2 (.inl ⟨_,_,_,rfl⟩)
   exact run (some ad) none (.inr rfl) (by simpa using hv.symm) e (rep_nilp h3)
  ·obtain ⟨ad,e⟩:=hp h3 (.inr ⟨_,_,rfl⟩)
   exact run none (some ad) (.inl rfl) (by simpa using hv.symm) (rep_nilp h2) e
  ·obtain ⟨ad,e⟩:=hp h2 (.inr ⟨_,_,rfl⟩)
   exact run (some ad) none (.inr rfl) (by simpa using hv.symm) e (rep_nilp h3)
 ·rename_i e hu
  cases hk
  have nil3:∀ {c:Value},Rep w bad D ρ (.zsl true) c→c=.slice none 0 0:=by
   intro c h
   cases h with
   | frz h=>cases h; rfl
  have run:∀ (p:Option Addr) (n c:Nat),b=p.isNone→a.eval x=.slice p n c→a.eval y=.slice none 0 0→Says P w bad D ρ a o (.bool (xor neg b)):=by
   intro p n c hb e1 e2
   refine fin _ _ e1 e2 (by rw [eqGuard_off _ _ _ _ _ _ (by simp) (by simp)]; rfl) (fun op' h=>by rcases h with rfl | rfl <;> simp [binOp]) ?_
   rw [Op.equal,max1,hb]
   exact eqIn_slc 9999 hu p n c
  simp only [eqV] at hv
  unfold eqS at hv
  split at hv <;> (try (cases hv; done))
  ·exact run none 0 0 (by simpa using hv.symm) (nil3 h2) (nil3 h3)
  ·have:∃ ad n c,a.eval x=.slice (some ad) n c:=by
    generalize a.eval x=V at *
    cases h2 with
    | frz h=>cases h
    | slc h _ _=>exact ⟨_,_,_,rfl⟩
    | slcD ad c hd hn ha =>
      cases ad with
      | none=>exact absurd rfl (ha (by simp))
      | some ad=>exact ⟨_,_,_,rfl⟩
   obtain ⟨ad,n,c,e1⟩:=this
   exact run (some ad) n c (by simpa using hv.symm) e1 (nil3 h3)
  ·have:∃ ad n c,a.eval x=.slice (some ad) n c:=by
    generalize a.eval x=V at *
    cases h2 with
    | frz h=>cases h with
      | lst=>exact ⟨_,_,_,rfl⟩
   obtain ⟨ad,n,c,e1⟩:=this
   exact run (some ad) n c (by simpa using hv.symm) e1 (nil3 h3)
  ·have:∃ ad n c,a.eval x=.slice (some ad) n c:=by
    generalize a.eval x=V at *
    cases h2 with
    | frz h=>cases h with
      | emp=>exact ⟨_,_,_,rfl⟩
   obtain ⟨ad,n,c,e1⟩:=this
   exact run (some ad) n c (by simpa using hv.symm) e1 (nil3 h3)
 ·rename_i hu
  cases hk
  have run:∀ (va vb:Value),(va=.nilFunc ∨ ∃ f p q,va=.func f p q)→(vb=.nilFunc ∨ ∃ f p q,vb=.func f p q)→(va=.nilFunc ∨ vb=.nilFunc)→(b=true ↔ va=.nilFunc∧vb=.nilFunc)→a.eval x=va→a.eval y=vb→Says P w bad D ρ a o (.bool (xor neg b)):=by
   intro va vb h1 h2 h3 hb e1 e2
   rcases h1 with rfl | ⟨f,p,q,rfl⟩ <;> rcases h2 with rfl | ⟨f',p',q',rfl⟩
   ·refine fin _ _ e1 e2 (by rw [eqGuard_off _ _ _ _ _ _ (by simp) (by simp)]; rfl) (fun op' h=>by rcases h with rfl | rfl <;> simp [binOp]) ?_
    rw [Op.equal,max1,hb.mpr ⟨rfl,rfl⟩]
    exact (eqIn_fn 9999 hu).1
   ·have hb':b=false:=by cases b; rfl; simp at hb
    refine fin _ _ e1 e2 (by rw [eqGuard_off _ _ _ _ _ _ (by simp) (by simp)]; rfl) (fun op' h=>by rcases h with rfl | rfl <;> simp [binOp]) ?_
    rw [Op.equal,max1,hb']
    exact (eqIn_fn 9999 hu).2.1 _ _ _
   ·have hb':b=false:=by cases b; rfl; simp at hb
    refine fin _ _ e1 e2 (by rw [eqGuard_off _ _ _ _ _ _ (by simp) (by simp)]; rfl) (fun op' h=>by rcases h with rfl | rfl <;> simp [binOp]) ?_
    rw [Op.equal,max1,hb']
    exact (eqIn_fn 9999 hu).2.2 _ _ _
   ·simp at h3
  simp only [eqV] at hv
  unfold eqF at hv
  split at hv <;> (try (cases hv; done))
  ·exact run _ _ (.inl rfl) (.inl rfl) (.inl rfl) (by simp only [Option.some.injEq] at hv; simp [← hv]) (rep_nilf h2) (rep_nilf h3)
  ·obtain ⟨va,vb,e,_⟩:=rep_fn h3
   exact run _ _ (.inl rfl) (.inr ⟨_,_,_,rfl⟩) (.inl rfl) (by simp only [Option.some.injEq] at hv; simp [← hv]) (rep_nilf h2) e
  ·obtain ⟨va,vb,e,_⟩:=rep_fn h2
   exact run _ _ (.inr ⟨_,_,_,rfl⟩) (.inl rfl) (.inr rfl) (by simp only [Option.some.injEq] at hv; simp [← hv]) e (rep_nilf h3)
 all_goals
  split at hk <;> (try (cases hk; done))
  rename_i hg
  split at hk <;> (try (cases hk; done))
  rename_i sh' hsh
  cases hk
  simp only [eqV] at hv
  unfold eqA at hv
  split at hv <;> (try (cases hv; done))
  rename_i cs ds
  obtain ⟨xs,e1,l1,p1⟩:=rep_agg h2
  obtain ⟨ys,e2,l2,p2⟩:=rep_agg h3
  have hlen:=eqL_len hv
  refine fin _ _ e1 e2 (run_eqGuard_agg w op t x y _ _ (by simpa using hg)) (fun op' h=>by rcases h with rfl | rfl <;> simp [binOp]) ?_
  rw [Op.equal,max1]
  obtain ⟨va,vb,q1,q2,q3⟩:=eqSh_run (w:=w) (bad:=bad) (D:=D) (ρ:=ρ) 5 t sh hsh (9999+1) (by omega) cs ds xs ys 0 b ⟨l1,p1⟩ ⟨l2,p2⟩ (by simp only [List.drop_zero]; rw [List.take_of_length_le (by omega),List.take_of_length_le (by omega)]; exact hv)
  have ha:agB P t=some true:=by simp [agB, *]
  obtain ⟨i,hi⟩:∃ i,P.info? t=some i:=info_of_underlying (by assumption)
  have hsz:i.size=sh.length:=by
   rw [← eqSh_size hsh ha]; simp [Program.cellsOf,hi]
  rw [part_all hi ha xs (by omega)] at q1
  rw [part_all hi ha ys (by omega)] at q2
  cases q1; cases q2
  exact q3
end
end Go.Proofs.Ytdceaeifcniabaa.AE

namespace Go.Proofs.Ytdceaeifcniabaa.AE
set_option linter.unusedVariables false
set_option linter.unusedSimpArgs false
set_option linter.constructorNameAsVariable false
open Go Go.RowKit

section
variable {P:Program} {w w0:World} {bad D0:Nat→Prop} {ρ ρ0:Rho} {a:Act} {o:Oper} {B:Nat} {s:St} {Q:Exit→Act→World→Prop} {K:Act→World→Prop}

theorem same_sh (H:Heap):(∀ id b,hget H id=some b→∃ b',hget H id=some b'∧b'.els.length=b.els.length)∧(∀ id b,hget H id=some b→∃ b',hget H id=some b'∧b'.e=b.e):=⟨fun _ b h=>⟨b,h,rfl⟩,fun _ b h=>⟨b,h,rfl⟩⟩

theorem map_some' {α β:Type} {x:Option α} {f:α→β} {y:β} (h:x.map f=some y):∃ z,x=some z∧f z=y:=opt_some h

set_option maxHeartbeats 1000000 in
theorem op_stepE {io:IOp} {call:CallF} {v:AV} {H':Heap} {ev:Opd→AV} (hev:∀ x,ev (.v x)=x) (hO:OpsOk w bad (dead s.H) ρ a ev o.op.operands.toList) (hc:cOp P o.type o.op=some io) (hcall:CallOK P call) (hbad:∀ b,bad b→b < B) (h:Sim w0 D0 ρ0 bad B ρ s a w) (hv:aop call ev s.H io=some (v,H'))
 (hK:∀ a' w' ρ',Sim w0 D0 ρ0 bad B ρ' ⟨AE.put s.env o.dst v,H'⟩ a' w'→K a' w'):o.wp P a w K Q:=by
 have hD:∀ id,dead s.H id ↔ s.H[id]?=some none:=fun _=>Iff.rfl
 obtain ⟨hsh,hse⟩:=same_sh s.H
 have hR:=h.heap
 generalize hop:o.op=op at hc
 have hopO:OpsOk w bad (dead s.H) ρ a ev o.op.operands.toList:=hO
 cases op with
 | move x =>
   obtain ⟨y,hy,rfl⟩:=map_some' hc
   simp only [aop,Option.some.injEq,Prod.mk.injEq] at hv
   obtain ⟨rfl,rfl⟩:=hv
   exact fin_says h (says_mov (.inl hop) hy hO) hK
 | assign x =>
   obtain ⟨y,hy,rfl⟩:=map_some' hc
   simp only [aop,Option.some.injEq,Prod.mk.injEq] at hv
   obtain ⟨rfl,rfl⟩:=hv
   exact fin_says h (says_mov (.inr hop) hy hO) hK
 | pick c x y =>
   simp only [cOp] at hc
   split at hc <;> (try (cases hc; done))
   rename_i c' x' y' h1 h2 h3
   cases hc
   simp only [aop] at hv
   split at hv <;> (try (cases hv; done))
   rename_i t ht
   simp only [Option.some.injEq,Prod.mk.injEq] at hv
   obtain ⟨rfl,rfl⟩:=hv
   exact fin_says h (says_pick hop h1 h2 h3 ht hO) hK
 | alloc t =>
   obtain ⟨e,he,rfl⟩:=map_some' hc
   simp only [aop,Option.some.injEq,Prod.mk.injEq] at hv
   obtain ⟨rfl,rfl⟩:=hv
   exact fin_makes h (makes_alloc _ hop he) hK
 | box t x =>
   simp only [cOp] at hc
   split at hc <;> (try (cases hc; done))
   rename_i e x' he hx
   cases hc
   simp only [aop] at hv
   split at hv <;> (try (cases hv; done))
   rename_i hok
   simp only [Option.some.injEq,Prod.mk.injEq] at hv
   obtain ⟨rfl,rfl⟩:=hv
   exact fin_makes h (makes_box _ hop he hx hok hO) hK
 | build t ps =>
   simp only [cOp] at hc
   have hio:∃ zs l,io=.build zs l:=by
    have h2:=hc
    unfold cBuild at h2
    split at h2 <;> (try (cases h2; done))
    split at h2 <;> (try (cases h2; done))
    split at h2 <;> (try (cases h2; done))
    split at h2 <;> (try (cases h2; done))
    ·split at h2 <;> (try (cases h2; done))
     split at h2 <;> (try (cases h2; done))
     cases h2; exact ⟨_,_,rfl⟩
    ·split at h2 <;> (try (cases h2; done))
     split at h2 <;> (try (cases h2; done))
     cases h2; exact ⟨_,_,rfl⟩
   obtain ⟨zs,l,rfl⟩:=hio
   simp only [aop] at hv
   split at hv <;> (try (cases hv; done))
   rename_i cs hcs
   simp only [Option.some.injEq,Prod.mk.injEq] at hv
   obtain ⟨rfl,rfl⟩:=hv
   exact fin_says h (says_build hop hc hcs hO) hK
 | buildSlice t n ps =>
   simp only [cOp] at hc
   split at hc <;> (try (cases hc; done))
   rename_i e hs
   split at hc <;> (try (cases hc; done))
   rename_i e' l he hl
   split at hc <;> (try (cases hc; done))
   rename_i hn
   cases hc
   simp only [aop] at hv
   split at hv <;> (try (cases hv; done))
   rename_i els hels
   simp only [Option.some.injEq,Prod.mk.injEq] at hv
   obtain ⟨rfl,rfl⟩:=hv
   exact fin_makes h (makes_mkrow _ hop hs he hl hn hels hO) hK
 | load t x =>
   simp only [cOp] at hc
   split at hc <;> (try (cases hc; done))
   rename_i i ag x' hi ha hx
   cases hc
   simp only [aop] at hv
   split at hv <;> (try (cases hv; done))
   rename_i u hu
   simp only [Option.some.injEq,Prod.mk.injEq] at hv
   obtain ⟨rfl,rfl⟩:=hv
   exact fin_says h (says_load hop hi ha hx hu hR hD (fun _ _ _ _ _ hb _=>hb) (dead_get s.H) hO) hK
 | store t x y =>
   simp only [cOp] at hc
   split at hc <;> (try (cases hc; done))
   rename_i i x' y' hi hx hy
   split at hc <;> (try (cases hc; done))
   rename_i hz
   cases hc
   simp only [aop] at hv
   split at hv <;> (try (cases hv; done))
   rename_i Hn hst
   simp only [Option.some.injEq,Prod.mk.injEq] at hv
   obtain ⟨rfl,rfl⟩:=hv
   have r1:=hO x (by simp [hop,Op.operands]) x' hx
   have r2:=hO y (by simp [hop,Op.operands]) y' hy
   obtain ⟨id,k,w',hk,-,⟨k',rfl,-,-,hst2⟩,-,hrun⟩:=store_run (P:=P) hi hz hst hR (fun _ _ _ _ _ hb _=>hb) (dead_get s.H) r1 r2
   obtain ⟨st,hR'⟩:=hst2 _ rfl
   unfold Oper.wp
   have hr:(execOp a.eval o).run P w=.ok .skip w':=by simp [execOp,hop,hrun]
   rw [hr]
   exact hK _ _ ρ (put_sim o.dst h st hR' (.frz (.undef _)))
 | nilCheck x =>
   obtain ⟨y,hy,rfl⟩:=map_some' hc
   simp only [aop] at hv
   split at hv <;> (try (cases hv; done))
   all_goals
    rename_i he
    simp only [Option.some.injEq,Prod.mk.injEq] at hv
    obtain ⟨rfl,rfl⟩:=hv
    first
     | exact fin_says h (says_nilck hop hy (.inl ⟨_,_,_,he⟩) he.symm hO) hK
     | exact fin_says h (says_nilck hop hy (.inr (.inl ⟨_,_,he⟩)) he.symm hO) hK
     | exact fin_says h (says_nilck hop hy (.inr (.inr ⟨_,_,_,he⟩)) he.symm hO) hK
 | binOp op t x y u =>
   simp only [cOp] at hc
   split at hc <;> (try (cases hc; done))
   rename_i d x' y' hd hx hy
   have bin:∀ op',io=.bin op' x' y'→op'=op→o.wp P a w K Q:=by
    rintro op' rfl rfl
    simp only [aop] at hv
    split at hv <;> (try (cases hv; done))
    rename_i r hr
    simp only [Option.some.injEq,Prod.mk.injEq] at hv
    obtain ⟨rfl,rfl⟩:=hv
    exact fin_says h (says_bin hop hx hy hr hO) hK
   have eqv:∀ neg k sh,io=.eqv neg k sh x' y'→eqKind P t=some (k,sh)→((op=.eql∧neg=false) ∨ (op=.neq∧neg=true))→o.wp P a w K Q:=by
    rintro neg k sh rfl hk hopn
    simp only [aop] at hv
    split at hv <;> (try (cases hv; done))
    rename_i b hb
    simp only [Option.some.injEq,Prod.mk.injEq] at hv
    obtain ⟨rfl,rfl⟩:=hv
    exact fin_says h (says_eqv hopn hop hk hx hy hb hO) hK
   split at hc
   ·split at hc
    ·cases hc; exact bin _ rfl rfl
    ·cases hc; exact bin _ rfl rfl
    ·split at hc <;> (try (cases hc; done))
     rename_i k sh hk
     cases hc
     exact eqv _ _ _ rfl hk (.inl ⟨rfl,rfl⟩)
   ·split at hc
    ·cases hc; exact bin _ rfl rfl
    ·cases hc; exact bin _ rfl rfl
    ·split at hc <;> (try (cases hc; done))
     rename_i k sh hk
     cases hc
     exact eqv _ _ _ rfl hk (.inr ⟨rfl,rfl⟩)
   ·cases hc; exact bin _ rfl rfl
 | unOp op t x =>
   obtain ⟨y,hy,rfl⟩:=map_some' hc
   simp only [aop] at hv
   split at hv <;> (try (cases hv; done))
   rename_i r hr
   simp only [Option.some.injEq,Prod.mk.injEq] at hv
   obtain ⟨rfl,rfl⟩:=hv
   exact fin_says h (says_un hop hy hr hO) hK
 | convert sT dT x =>
   simp only [cOp] at hc
   by_cases hm:sT=dT∧bytesT P sT=true
   ·rw [if_pos hm] at hc
    obtain ⟨x',hx,rfl⟩:=map_some' hc
    obtain ⟨rfl,hby⟩:=hm
    obtain ⟨e,h2,h3⟩:=bytesT_spec P hby
    simp only [aop] at hv
    split at hv <;> (try (cases hv; done))
    rename_i id q n hxv
    split at hv <;> (try (cases hv; done))
    rename_i k hg
    split at hv <;> (try (cases hv; done))
    rename_i hne
    simp only [Option.some.injEq,Prod.mk.injEq] at hv
    obtain ⟨rfl,rfl⟩:=hv
    exact fin_mark h hop h2 h3 hx hxv hg (by rw [hne]; simp) hO hK
   rw [if_neg hm] at hc
   split at hc <;> (try (cases hc; done))
   ·rename_i k k' x' h1 h2 hx
    cases hc
    simp only [aop] at hv
    split at hv <;> (try (cases hv; done))
    rename_i k0 n he
    simp only [Option.some.injEq,Prod.mk.injEq] at hv
    obtain ⟨rfl,rfl⟩:=hv
    exact fin_says h (says_conv hop h1 h2 hx he hO) hK
   ·rename_i x' h1 h2 hx
    cases hc
    simp only [aop] at hv
    split at hv <;> (try (cases hv; done))
    rename_i l he
    simp only [Option.some.injEq,Prod.mk.injEq] at hv
    obtain ⟨rfl,rfl⟩:=hv
    exact fin_says h (says_cid hop h1 h2 hx he hO) hK
   ·rename_i e x' h1 h2 hx
    split at hc <;> (try (cases hc; done))
    rename_i e' h3 he
    split at hc <;> (try (cases hc; done))
    rename_i he1
    cases hc
    simp only [aop] at hv
    split at hv <;> (try (cases hv; done))
    rename_i l hl
    simp only [Option.some.injEq,Prod.mk.injEq] at hv
    obtain ⟨rfl,rfl⟩:=hv
    exact fin_makes h (makes_s2b _ hop h1 h2 h3 he he1 hx hl hO) hK
   ·rename_i e x' h1 h2 hx
    split at hc <;> (try (cases hc; done))
    rename_i h3
    cases hc
    simp only [aop] at hv
    split at hv <;> (try (cases hv; done))
    rename_i hns
    split at hv <;> (try (cases hv; done))
    rename_i l hl
    split at hv <;> (try (cases hv; done))
    rename_i z hz
    simp only [Option.some.injEq,Prod.mk.injEq] at hv
    obtain ⟨rfl,rfl⟩:=hv
    exact fin_says h (says_b2s hop h1 h3 h2 hx hl (fun s hs=>hns s hs) hz hR hD (fun _ _ _ _ _ hb _=>hb) (dead_get s.H) hO) hK
 | makeFunc fn p q =>
   cases fn <;> simp only [cOp] at hc <;> (try (cases hc; done))
   rename_i g
   split at hc <;> (try (cases hc; done))
   rename_i p' q' hp hq
   cases hc
   simp only [aop,Option.some.injEq,Prod.mk.injEq] at hv
   obtain ⟨rfl,rfl⟩:=hv
   exact fin_says h (says_mkfn hop hp hq hO) hK
 | makeSlice t x y =>
   simp only [cOp] at hc
   split at hc <;> (try (cases hc; done))
   rename_i e hs
   split at hc <;> (try (cases hc; done))
   rename_i e' x' y' he hx hy
   cases hc
   simp only [aop] at hv
   split at hv <;> (try (cases hv; done))
   rename_i n c hn hm
   split at hv <;> (try (cases hv; done))
   rename_i hcnd
   obtain ⟨c1,c2,c3,c4⟩:=hcnd
   subst c2
   simp only [Option.some.injEq,Prod.mk.injEq] at hv
   obtain ⟨rfl,rfl⟩:=hv
   exact fin_makes h (makes_mkslice _ hop hs he hx hy hn hm c1 c3 c4 hO) hK
 | slice t x lo hi mx =>
   simp only [cOp] at hc
   split at hc <;> (try (cases hc; done))
   ·rename_i x' lo' hi' hs hx h1 h2 h3
    cases hc
    have hmn:mx=none:=by
     cases mx with
     | none=>rfl
     | some z =>
       simp only [cOptOpd] at h3
       split at h3 <;> cases h3
    subst hmn
    simp only [aop] at hv
    split at hv <;> (try (cases hv; done))
    rename_i r hr
    simp only [Option.some.injEq,Prod.mk.injEq] at hv
    obtain ⟨rfl,rfl⟩:=hv
    exact fin_says h (says_subS hop hs hx h1 h2 hr hO) hK
   ·rename_i e x' lo' hi' mx' hs hx h1 h2 h3
    split at hc <;> (try (cases hc; done))
    rename_i ie hie
    split at hc <;> (try (cases hc; done))
    rename_i hmh
    cases hc
    simp only [aop] at hv
    split at hv <;> (try (cases hv; done))
    rename_i r hr
    simp only [Option.some.injEq,Prod.mk.injEq] at hv
    obtain ⟨rfl,rfl⟩:=hv
    refine fin_says h (says_subV hop hs hie hx h1 h2 h3 ?_ hr hR hD hsh hse hO) hK
    cases mx <;> cases hi <;> simp [cOptOpd] at h2 h3 hmh ⊢
    ·rename_i z
     cases hz:cOpd z <;> simp [hz] at h3
     subst h3; subst h2
     simp at hmh
 | fieldAddr sT x f =>
   simp only [cOp] at hc
   split at hc <;> (try (cases hc; done))
   rename_i off n t x' hf hx
   cases hc
   simp only [aop] at hv
   split at hv <;> (try (cases hv; done))
   rename_i r hr
   simp only [Option.some.injEq,Prod.mk.injEq] at hv
   obtain ⟨rfl,rfl⟩:=hv
   unfold cField at hf
   split at hf <;> (try (cases hf; done))
   rename_i fs hs
   split at hf <;> (try (cases hf; done))
   rename_i fd hfd
   split at hf <;> (try (cases hf; done))
   rename_i i hi
   split at hf <;> (try (cases hf; done))
   rename_i hz
   cases hf
   exact fin_says h (says_fldA hop hs hfd hi hz hx hr hO) hK
 | field sT x f =>
   simp only [cOp] at hc
   split at hc <;> (try (cases hc; done))
   rename_i off n t x' hf hx
   split at hc <;> (try (cases hc; done))
   rename_i ag hag
   cases hc
   simp only [aop] at hv
   split at hv <;> (try (cases hv; done))
   rename_i cs he
   split at hv <;> (try (cases hv; done))
   rename_i r hr
   simp only [Option.some.injEq,Prod.mk.injEq] at hv
   obtain ⟨rfl,rfl⟩:=hv
   unfold cField at hf
   split at hf <;> (try (cases hf; done))
   rename_i fs hs
   split at hf <;> (try (cases hf; done))
   rename_i fd hfd
   split at hf <;> (try (cases hf; done))
   rename_i i hi
   split at hf <;> (try (cases hf; done))
   rename_i hz
   cases hf
   exact fin_says h (says_fld hop hs hfd hi hag hx he hr hO) hK
 | indexAddr t x y =>
   simp only [cOp] at hc
   split at hc <;> (try (cases hc; done))
   ·rename_i e x' y' hs hx hy
    split at hc <;> (try (cases hc; done))
    rename_i ie hie
    split at hc <;> (try (cases hc; done))
    cases hc
    simp only [aop] at hv
    split at hv <;> (try (cases hv; done))
    rename_i q hq
    split at hv <;> (try (cases hv; done))
    rename_i r hr
    simp only [Option.some.injEq,Prod.mk.injEq] at hv
    obtain ⟨rfl,rfl⟩:=hv
    obtain ⟨k,hk⟩:∃ k,ev y'=.int k q:=by
     generalize ev y'=Y at hq
     cases Y <;> simp [aInt] at hq
     subst hq; exact ⟨_,rfl⟩
    exact fin_says h (says_ixAS hop hs hie hx hy hk hr hR hD hsh hse hO) hK
   ·rename_i n e x' y' hs hx hy
    split at hc <;> (try (cases hc; done))
    rename_i ie hie
    cases hc
    simp only [aop] at hv
    split at hv <;> (try (cases hv; done))
    rename_i q hq
    split at hv <;> (try (cases hv; done))
    rename_i hb
    split at hv <;> (try (cases hv; done))
    rename_i r hr
    simp only [Option.some.injEq,Prod.mk.injEq] at hv
    obtain ⟨rfl,rfl⟩:=hv
    obtain ⟨k,hk⟩:∃ k,ev y'=.int k q:=by
     generalize ev y'=Y at hq
     cases Y <;> simp [aInt] at hq
     subst hq; exact ⟨_,rfl⟩
    exact fin_says h (says_ixAA hop hs hie hx hy hk hb hr hO) hK
 | index t x y =>
   simp only [cOp] at hc
   split at hc <;> (try (cases hc; done))
   ·rename_i x' y' hs hx hy
    cases hc
    simp only [aop] at hv
    split at hv <;> (try (cases hv; done))
    rename_i l q hl hq
    split at hv <;> (try (cases hv; done))
    rename_i h0
    split at hv <;> (try (cases hv; done))
    rename_i b hb
    simp only [Option.some.injEq,Prod.mk.injEq] at hv
    obtain ⟨rfl,rfl⟩:=hv
    obtain ⟨k,hk⟩:∃ k,ev y'=.int k q:=by
     generalize ev y'=Y at hq
     cases Y <;> simp [aInt] at hq
     subst hq; exact ⟨_,rfl⟩
    exact fin_says h (says_ixS hop hs hx hy hk hl h0 hb hO) hK
   ·rename_i n e x' y' hs hx hy
    split at hc <;> (try (cases hc; done))
    rename_i ie ag hie hag
    cases hc
    simp only [aop] at hv
    split at hv <;> (try (cases hv; done))
    rename_i cs q hcs hq
    split at hv <;> (try (cases hv; done))
    rename_i hb
    split at hv <;> (try (cases hv; done))
    rename_i r hr
    simp only [Option.some.injEq,Prod.mk.injEq] at hv
    obtain ⟨rfl,rfl⟩:=hv
    obtain ⟨k,hk⟩:∃ k,ev y'=.int k q:=by
     generalize ev y'=Y at hq
     cases Y <;> simp [aInt] at hq
     subst hq; exact ⟨_,rfl⟩
    exact fin_says h (says_ixA hop hs hie hag hx hy hk hcs hb hr hO) hK
 | extract x i =>
   simp only [cOp] at hc
   split at hc <;> (try (cases hc; done))
   rename_i x' hx
   cases hc
   simp only [aop] at hv
   split at hv <;> (try (cases hv; done))
   rename_i vs he
   split at hv <;> (try (cases hv; done))
   rename_i r hr
   simp only [Option.some.injEq,Prod.mk.injEq] at hv
   obtain ⟨rfl,rfl⟩:=hv
   exact fin_says h (says_extr hop hx he hr hO) hK
 | call c =>
   simp only [cOp,cCall] at hc
   split at hc <;> (try (cases hc; done))
   ·rename_i f hcc
    split at hc <;> (try (cases hc; done))
    rename_i f' ys hf hys
    cases hc
    simp only [aop] at hv
    split at hv <;> (try (cases hv; done))
    rename_i g p q he
    exact fin_call h hO hbad hcall hop hcc hf hys he hv hK
   ·rename_i hcc
    split at hc <;> (try (cases hc; done))
    rename_i x t hca hct
    split at hc <;> (try (cases hc; done))
    ·rename_i x' hs hx
     cases hc
     simp only [aop] at hv
     split at hv <;> (try (cases hv; done))
     rename_i l hl
     simp only [Option.some.injEq,Prod.mk.injEq] at hv
     obtain ⟨rfl,rfl⟩:=hv
     exact fin_says h (says_lenS hop hcc hca hct hs hx hl hO) hK
    ·rename_i e x' hs hx
     cases hc
     simp only [aop] at hv
     split at hv <;> (try (cases hv; done))
     rename_i n hn
     simp only [Option.some.injEq,Prod.mk.injEq] at hv
     obtain ⟨rfl,rfl⟩:=hv
     exact fin_says h (says_lenV hop hcc hca hct hs hx hn hD hsh hO) hK
    ·rename_i n e x' hs hx
     cases hc
     simp only [aop,hev,Option.some.injEq,Prod.mk.injEq] at hv
     obtain ⟨rfl,rfl⟩:=hv
     refine fin_says h ⟨.int .i64 n,?_,.frz (.int _ _)⟩ hK
     obtain ⟨cal,args,tys⟩:=c
     obtain ⟨args⟩:=args
     obtain ⟨tys⟩:=tys
     simp only at hcc hca hct
     subst hcc; subst hca; subst hct
     simp [execOp,hop,resolve,invoke,builtin,Builtin.len_,run_underlying hs,goInt]
   ·rename_i hcc
    split at hc <;> (try (cases hc; done))
    rename_i ys hys
    cases hc
    simp only [aop] at hv
    split at hv <;> (try (cases hv; done))
    rename_i r hr
    simp only [Option.some.injEq,Prod.mk.injEq] at hv
    obtain ⟨rfl,rfl⟩:=hv
    exact fin_says h (says_min hop hcc hys hr hO) hK
   ·rename_i hcc
    split at hc <;> (try (cases hc; done))
    rename_i ys hys
    cases hc
    simp only [aop] at hv
    split at hv <;> (try (cases hv; done))
    rename_i r hr
    simp only [Option.some.injEq,Prod.mk.injEq] at hv
    obtain ⟨rfl,rfl⟩:=hv
    exact fin_says h (says_max hop hcc hys hr hO) hK
   ·rename_i hcc
    split at hc <;> (try (cases hc; done))
    rename_i sA xA t u hca hct
    split at hc <;> (try (cases hc; done))
    rename_i e du s' x' ht hu hs hx
    have app:∀ e',cETy P e=some e'→(du=.string ∨ ∃ e',du=.slice e')→io=.app e' s' x'→o.wp P a w K Q:=by
     rintro e' he hdu rfl
     simp only [aop] at hv
     split at hv <;> (try (cases hv; done))
     rename_i xs hxs
     have r1:=hO sA (by simp [hop,Op.operands,Call.operands,hcc]; exact by have:=hca; (have h9:sA ∈ c.args.toList:=by rw [this]; simp); simpa using h9) s' hs
     have r2:=hO xA (by simp [hop,Op.operands,Call.operands,hcc]; exact by have:=hca; (have h9:xA ∈ c.args.toList:=by rw [this]; simp); simpa using h9) x' hx
     obtain ⟨cv,w',ρ',hrun,st,hR',hrep⟩:=app_run (P:=P) (ty:=o.type) ht hu hdu he hxs hR h.low r1 r2 hv
     unfold Oper.wp
     rw [app_args hop hcc hca hct,hrun]
     exact hK _ _ ρ' (put_sim o.dst h st hR' hrep)
    split at hc <;> (try (cases hc; done))
    ·split at hc <;> (try (cases hc; done))
     rename_i e' he
     cases hc
     exact app e' he (.inr ⟨_,rfl⟩) rfl
    ·split at hc <;> (try (cases hc; done))
     rename_i e' he
     cases hc
     exact app e' he (.inl rfl) rfl
 | _=>simp [cOp] at hc
theorem op_step {io:IOp} {call:CallF} {v:AV} {H':Heap} (hc:cOp P o.type o.op=some io) (hcall:CallOK P call) (hbad:∀ b,bad b→b < B) (h:Sim w0 D0 ρ0 bad B ρ s a w) (hv:aop call (evO s.env) s.H io=some (v,H'))
 (hK:∀ a' w' ρ',Sim w0 D0 ρ0 bad B ρ' ⟨AE.put s.env o.dst v,H'⟩ a' w'→K a' w'):o.wp P a w K Q :=
 op_stepE (fun _=>rfl) (evO_rep h o.op.operands.toList) hc hcall hbad h hv hK
end
end Go.Proofs.Ytdceaeifcniabaa.AE

namespace Go.Proofs.Ytdceaeifcniabaa.AE
set_option linter.unusedVariables false
set_option linter.unusedSimpArgs false
set_option linter.constructorNameAsVariable false
open Go Go.RowKit

def exOf:Ex→Exit
 | .normal=>.normal
 | .exit id=>.exit id
 | .ret=>.ret

def DrawD (P:Program) (call callP:CallF):Prop :=
 ∀ (ops:Array Oper) (ios:List IOper) (id:Nat),optAll (cOper P ops.toList) ops.toList=some ios→drawOk ops ios (predsOf ops.toList [])=true→edgesOk ops=true→Region.noSelect ops=true→P.follows .mixedOrders=true →
   ∀ (w w0:World) (bad D0:Nat→Prop) (ρ ρ0:Rho) (a:Act) (B:Nat) (s s':St) (Q:Exit→Act→World→Prop),(∀ b,bad b→b < B)→Sim w0 D0 ρ0 bad B ρ s a w →
     runOpsD call callP (ios.zipIdx.map fun p=>(p.1,chkOf ios (predsOf ops.toList []) p.2 p.1)) 0 [] s=some s'→(∀ a' w' ρ',Sim w0 D0 ρ0 bad B ρ' s' a' w'→Q .normal a' w')→(Code.region id ops true).wp P Q a w
def DrawS (P:Program) (call:CallF):Prop :=
 ∀ (ops:Array Oper) (ios:List IOper) (id:Nat),optAll (cOper P ops.toList) ops.toList=some ios→drawSOk ops (sopsOf ios (predsOf ops.toList [])) (predsOf ops.toList [])=true→edgesOk ops=true→Region.noSelect ops=true→P.follows .mixedOrders=true →
   ∀ (w w0:World) (bad D0:Nat→Prop) (ρ ρ0:Rho) (a:Act) (B:Nat) (s s':St) (Q:Exit→Act→World→Prop),(∀ b,bad b→b < B)→Sim w0 D0 ρ0 bad B ρ s a w →
     runOpsS call s.H.length (sopsOf ios (predsOf ops.toList [])) 0 [] ⟨s.env,s.H ++ preH (sopsOf ios (predsOf ops.toList []))⟩=some s'→(∀ a' w' ρ',Sim w0 D0 ρ0 bad B ρ' s' a' w'→Q .normal a' w')→(Code.region id ops true).wp P Q a w
def DrawOK (P:Program) (call callP:CallF):Prop:=DrawD P call callP∧DrawS P call

section
variable {P:Program} {w w0:World} {bad D0:Nat→Prop} {ρ ρ0:Rho} {a:Act} {o:Oper} {B:Nat} {s:St} {Q:Exit→Act→World→Prop}

theorem want_spec {ops:Array Oper} {io:IOper} {b:Bool} (hc:cOper P ops.toList o=some io) (h:Sim w0 D0 ρ0 bad B ρ s a w) (hw:want s.env io.guard=some b):Region.wanted o (yielded ops a.tmps)=b:=by
 unfold cOper at hc
 split at hc <;> (try (cases hc; done))
 cases hc
 simp only at hw
 unfold Region.wanted
 cases hg:o.guard with
 | none=>simp [hg,want] at hw; subst hw; rfl
 | some p =>
   obtain ⟨j,q⟩:=p
   simp only [hg] at hw
   simp only [yielded]
   have he:(ops.toList[j]?)=ops[j]?:=by simp
   rw [he] at hw
   cases hd:(ops[j]?).bind (·.dst) with
   | none =>
     simp only [hd,want,Option.some.injEq] at hw
     subst hw
     simp
   | some t =>
     simp only [hd,want] at hw
     have hlt:t < s.env.length:=by
      rcases Nat.lt_or_ge t s.env.length with hlt | hge
      ·exact hlt
      ·rw [List.getD_eq_getElem?_getD,List.getElem?_eq_none hge] at hw
       simp at hw
     have hr:=h.env t hlt
     have htm:a.tmps[t]?=some (a.tmps.getD t undef):=by
      rw [Array.getD_eq_getD_getElem?,Array.getElem?_eq_getElem (by rw [h.size]; exact hlt)]; rfl
     simp only [Option.bind_some,htm]
     split at hw
     ·rename_i c hcv
      rw [hcv] at hr
      rw [rep_bool hr]
      simp only [Option.some.injEq] at hw
      subst hw
      simp
     ·rename_i hcv
      rw [hcv] at hr
      obtain ⟨vs,hv,hl,_⟩:=rep_tup hr
      have:vs=[]:=by simpa using hl.symm
      subst this
      rw [hv]
      simp only [Option.some.injEq] at hw
      subst hw
      rfl
     ·cases hw

theorem cOper_op {ops:List Oper} {io:IOper} (hc:cOper P ops o=some io):cOp P o.type o.op=some io.op∧io.dst=o.dst:=by
 unfold cOper at hc
 split at hc <;> (try (cases hc; done))
 rename_i op hop
 cases hc
 exact ⟨hop,rfl⟩

theorem skip_sim (d:Option Nat) (h:Sim w0 D0 ρ0 bad B ρ s a w):Sim w0 D0 ρ0 bad B ρ ⟨AE.put s.env d (.tup []),s.H⟩ (a.put d undef) w :=
 put_sim d h (Step.refl _ _ _) h.heap (.frz (.tup [] [] rfl (by simp)))

theorem runOps_sound {call:CallF} (hcall:CallOK P call) (hbad:∀ b,bad b→b < B) (ops:Array Oper):∀ (l:List Oper) (il:List IOper) (ρ:Rho) (s s':St) (a:Act) (w:World),optAll (cOper P ops.toList) l=some il→Sim w0 D0 ρ0 bad B ρ s a w→runOps call il s=some s' →
 (∀ a' w' ρ',Sim w0 D0 ρ0 bad B ρ' s' a' w'→Q .normal a' w')→wpList P ops Q l a w
 | [],il,ρ,s,s',a,w,hc,h,hr,hq=>by
   simp only [optAll,Option.some.injEq] at hc
   subst hc
   simp only [runOps,Option.some.injEq] at hr
   subst hr
   exact wpList_nil (hq _ _ _ h)
 | o::l,il,ρ,s,s',a,w,hc,h,hr,hq=>by
   simp only [optAll] at hc
   split at hc <;> (try (cases hc; done))
   rename_i io hio
   split at hc <;> (try (cases hc; done))
   rename_i il' hil
   cases hc
   obtain ⟨hop,hdst⟩:=cOper_op hio
   simp only [runOps] at hr
   refine wpList_step fun K hK=>?_
   split at hr
   ·rename_i hw
    rw [want_spec hio h hw,if_pos rfl]
    split at hr <;> (try (cases hr; done))
    rename_i v H' hv
    refine op_step hop hcall hbad h hv fun a' w' ρ' h'=>hK _ _ ?_
    rw [← hdst] at h'
    exact runOps_sound hcall hbad ops l il' ρ' _ s' a' w' hil h' hr hq
   ·rename_i hw
    rw [want_spec hio h hw,if_neg (by simp)]
    have h':=skip_sim o.dst h
    rw [← hdst] at h' ⊢
    exact hK _ _ (runOps_sound hcall hbad ops l il' ρ _ s' _ w hil h' hr hq)
   ·cases hr

theorem opd_bool {c:Operand} {c':Opd} {t:Bool} (hc:cOpd c=some c') (h:Sim w0 D0 ρ0 bad B ρ s a w) (he:evO s.env c'=.bool t):a.eval c=.bool t:=by
 have:=evO_rep h [c] c (by simp) c' hc
 rw [he] at this
 exact rep_bool this

theorem exec_sound {call callP:CallF} {fu:Nat} (hcall:CallOK P call) (hdraw:DrawOK P call callP) (hbad:∀ b,bad b→b < B):∀ (sq:Bool) (c:Code) (ic:IC),cCode P sq c=some ic→∀ (ρ:Rho) (s:St) (e:Ex) (s':St) (a:Act) (w:World) (Q:Exit→Act→World→Prop),
 exec call callP fu ic s=some (e,s')→Sim w0 D0 ρ0 bad B ρ s a w→(∀ a' w' ρ',Sim w0 D0 ρ0 bad B ρ' s' a' w'→Q (exOf e) a' w')→c.wp P Q a w:=by
 intro sq c
 induction c with
 | skip =>
   intro ic hc ρ s e s' a w Q he h hq
   simp only [cCode,Option.some.injEq] at hc
   subst hc
   simp only [exec,Option.some.injEq,Prod.mk.injEq] at he
   obtain ⟨rfl,rfl⟩:=he
   exact wp_skip (hq _ _ _ h)
 | region id ops draw =>
   intro ic hc ρ s e s' a w Q he h hq
   simp only [cCode] at hc
   split at hc <;> (try (cases hc; done))
   rename_i il hil
   split at hc
   ·rename_i hdr
    subst hdr
    split at hc
    ·rename_i hok
     cases hc
     simp only [Bool.and_eq_true] at hok
     simp only [exec] at he
     split at he <;> (try (cases he; done))
     rename_i s2 hs2
     simp only [Option.some.injEq,Prod.mk.injEq] at he
     obtain ⟨rfl,rfl⟩:=he
     exact hdraw.2 ops il id hil hok.1.1.1.2 hok.1.1.2 hok.1.2 hok.2 w w0 bad D0 ρ ρ0 a B s s2 Q hbad h hs2 hq
    split at hc <;> (try (cases hc; done))
    rename_i hok
    cases hc
    simp only [Bool.and_eq_true] at hok
    simp only [exec] at he
    split at he <;> (try (cases he; done))
    rename_i s2 hs2
    simp only [Option.some.injEq,Prod.mk.injEq] at he
    obtain ⟨rfl,rfl⟩:=he
    exact hdraw.1 ops il id hil hok.1.1.1 hok.1.1.2 hok.1.2 hok.2 w w0 bad D0 ρ ρ0 a B s s2 Q hbad h hs2 hq
   ·rename_i hdr
    have:draw=false:=by simpa using hdr
    subst this
    cases hc
    simp only [exec] at he
    split at he <;> (try (cases he; done))
    rename_i s2 hs2
    simp only [Option.some.injEq,Prod.mk.injEq] at he
    obtain ⟨rfl,rfl⟩:=he
    exact wp_region_list (runOps_sound hcall hbad ops ops.toList il ρ s s2 a w hil h hs2 hq)
 | seq x y ihx ihy =>
   intro ic hc ρ s e s' a w Q he h hq
   simp only [cCode] at hc
   split at hc <;> (try (cases hc; done))
   rename_i ix iy hx hy
   cases hc
   simp only [exec] at he
   refine wp_seq ?_
   split at he
   ·rename_i s1 h1
    exact ihx ix hx ρ s .normal s1 a w _ h1 h fun a' w' ρ' h'=>ihy iy hy ρ' s1 e s' a' w' Q he h' hq
   ·rename_i hn
    refine ihx ix hx ρ s e s' a w _ he h fun a' w' ρ' h'=>?_
    cases e with
    | normal=>exact absurd he (hn _)
    | exit id=>exact hq _ _ _ h'
    | ret=>exact hq _ _ _ h'
 | cond cnd x y ihx ihy =>
   intro ic hc ρ s e s' a w Q he h hq
   simp only [cCode] at hc
   split at hc <;> (try (cases hc; done))
   rename_i c' ix iy hcc hx hy
   cases hc
   simp only [exec] at he
   split at he <;> (try (cases he; done))
   rename_i t ht
   refine wp_cond_split (opd_bool hcc h ht) (fun ht'=>?_) (fun ht'=>?_)
   ·subst ht'
    exact ihx ix hx ρ s e s' a w Q he h hq
   ·subst ht'
    exact ihy iy hy ρ s e s' a w Q he h hq
 | block id x ihx =>
   intro ic hc ρ s e s' a w Q he h hq
   simp only [cCode] at hc
   split at hc <;> (try (cases hc; done))
   rename_i ix hx
   cases hc
   simp only [exec] at he
   refine wp_block ?_
   split at he
   ·rename_i i s1 h1
    refine ihx ix hx ρ s (.exit i) s1 a w _ h1 h fun a' w' ρ' h'=>?_
    simp only [exOf,Exit.inBlock]
    split at he
    ·rename_i hi
     cases he
     rw [if_pos hi]
     exact hq _ _ _ h'
    ·rename_i hi
     cases he
     rw [if_neg hi]
     exact hq _ _ _ h'
   ·rename_i hn
    refine ihx ix hx ρ s e s' a w _ he h fun a' w' ρ' h'=>?_
    cases e with
    | normal=>exact hq _ _ _ h'
    | exit id=>exact absurd he (hn _ _)
    | ret=>exact hq _ _ _ h'
 | loop x ihx =>
   intro ic hc ρ s e s' a w Q he h hq
   simp only [cCode] at hc
   split at hc <;> (try (cases hc; done))
   rename_i ix hx
   cases hc
   simp only [exec] at he
   have key:∀ (n:Nat) (ρ:Rho) (s:St) (a:Act) (w:World),iter (exec call callP fu ix) n s=some (e,s')→Sim w0 D0 ρ0 bad B ρ s a w→Code.rounds P x Q n a w:=by
    intro n
    induction n with
    | zero=>intro ρ s a w he h; simp [iter] at he
    | succ n ih =>
      intro ρ s a w he h
      simp only [iter] at he
      rw [rounds_succ]
      split at he
      ·rename_i s1 h1
       exact ihx ix hx ρ s .normal s1 a w _ h1 h fun a' w' ρ' h'=>ih ρ' s1 a' w' he h'
      ·rename_i hn
       refine ihx ix hx ρ s e s' a w _ he h fun a' w' ρ' h'=>?_
       cases e with
       | normal=>exact absurd he (hn _)
       | exit id=>exact hq _ _ _ h'
       | ret=>exact hq _ _ _ h'
   exact wp_loop_rounds fu (key fu ρ s a w he h)
 | exit id =>
   intro ic hc ρ s e s' a w Q he h hq
   simp only [cCode,Option.some.injEq] at hc
   subst hc
   simp only [exec,Option.some.injEq,Prod.mk.injEq] at he
   obtain ⟨rfl,rfl⟩:=he
   exact wp_exit (hq _ _ _ h)
 | ret =>
   intro ic hc ρ s e s' a w Q he h hq
   simp only [cCode,Option.some.injEq] at hc
   subst hc
   simp only [exec,Option.some.injEq,Prod.mk.injEq] at he
   obtain ⟨rfl,rfl⟩:=he
   exact wp_ret (hq _ _ _ h)
 | _=>intros; rename_i hc _ _ _ _ _ _ _ _ _ _; simp [cCode] at hc
end
end Go.Proofs.Ytdceaeifcniabaa.AE

namespace Go.Proofs.Ytdceaeifcniabaa.AE
set_option linter.unusedVariables false
set_option linter.unusedSimpArgs false
set_option linter.constructorNameAsVariable false
open Go Go.RowKit

section
variable {P:Program} {w w0:World} {bad D0:Nat→Prop} {ρ ρ0:Rho} {a:Act} {B:Nat} {s:St}

theorem resAll_run:∀ (rs:List ResultVar) (rv:List RV) (vs:List AV),optAll (cRV P) rs=some rv→resAll s rv=some vs→Sim w0 D0 ρ0 bad B ρ s a w →
 ∃ us:List Value,(rs.mapM fun
   | .tmp t=>pure (a.tmps.getD t undef)
   | .cell x t=>do loadVar t (← asAddr (a.tmps.getD x undef)):Sem (List Value)).run P w=.ok us w∧vs.length=us.length∧∀ (i:Nat) (c:AV) (u:Value),vs[i]?=some c→us[i]?=some u→Rep w bad (dead s.H) ρ c u
 | [],rv,vs,hc,hr,h=>by
   simp only [optAll,Option.some.injEq] at hc
   subst hc
   simp only [resAll,Option.some.injEq] at hr
   subst hr
   exact ⟨[],rfl,rfl,by simp⟩
 | r::rs,rv,vs,hc,hr,h=>by
   simp only [optAll] at hc
   split at hc <;> (try (cases hc; done))
   rename_i r' hr'
   split at hc <;> (try (cases hc; done))
   rename_i rv' hrv
   cases hc
   simp only [resAll] at hr
   split at hr <;> (try (cases hr; done))
   rename_i v hv
   split at hr <;> (try (cases hr; done))
   rename_i vs' hvs
   cases hr
   obtain ⟨us,h1,h2,h3⟩:=resAll_run rs rv' vs' hrv hvs h
   have one:∃ u,((match r with
    | .tmp t=>pure (a.tmps.getD t undef)
    | .cell x t=>do loadVar t (← asAddr (a.tmps.getD x undef)):Sem Value)).run P w=.ok u w∧Rep w bad (dead s.H) ρ v u:=by
    cases r with
    | tmp t =>
      simp only [cRV,Option.some.injEq] at hr'
      subst hr'
      simp only [resOf,Option.some.injEq] at hv
      subst hv
      exact ⟨_,rfl,evO_rep h [.tmp t] (.tmp t) (by simp) (.t t) rfl⟩
    | cell x t =>
      simp only [cRV] at hr'
      split at hr' <;> (try (cases hr'; done))
      rename_i i ag hi ha
      cases hr'
      simp only [resOf] at hv
      have hx:=evO_rep h [.tmp x] (.tmp x) (by simp) (.t x) rfl
      obtain ⟨u,hu,hru⟩:=aLoad_rep hi ha hv h.heap (fun _=>Iff.rfl) (fun _ _ _ _ _ hb _=>hb) (dead_get s.H) hx
      refine ⟨u,?_,hru⟩
      simp only [Act.eval] at hu hx
      simp only [Sem.run_bind]
      generalize a.tmps.getD x undef=V at *
      generalize evO s.env (.t x)=X at *
      have:∃ ad,V=.pointer (some ad):=by
       simp only [Instr.loadAt,Sem.run_bind] at hu
       cases V <;> simp [Instr.sureAddr,Result.andThen] at hu
       rename_i ad
       cases ad <;> simp at hu
       exact ⟨_,rfl⟩
      obtain ⟨ad,rfl⟩:=this
      simp only [Instr.loadAt,Instr.sureAddr,Sem.run_bind,Sem.run_pure,Result.andThen_ok] at hu
      simp only [asAddr,Sem.run_pure,Result.andThen_ok]
      exact hu
   obtain ⟨u,hu,hru⟩:=one
   refine ⟨u::us,?_,by simp [h2],fun i c z hc hz=>?_⟩
   ·simp only [List.mapM_cons,Sem.run_bind,hu,Result.andThen_ok,h1,Sem.run_pure]
   ·cases i with
    | zero=>simp at hc hz; subst hc; subst hz; exact hru
    | succ i=>exact h3 i c z (by simpa using hc) (by simpa using hz)

theorem results_run {fn:Func} {rv:List RV} {vs:List AV} (hc:optAll (cRV P) fn.results.toList=some rv) (hr:resAll s rv=some vs) (h:Sim w0 D0 ρ0 bad B ρ s a w):∃ cv,(results fn a.tmps).run P w=.ok cv w∧Rep w bad (dead s.H) ρ (packRes vs) cv:=by
 obtain ⟨us,h1,h2,h3⟩:=resAll_run fn.results.toList rv vs hc hr h
 have hm:(fn.results.mapM fun
  | .tmp t=>pure (a.tmps.getD t undef)
  | .cell x t=>do loadVar t (← asAddr (a.tmps.getD x undef)):Sem (Array Value)).run P w=.ok us.toArray w:=by
  rw [Array.mapM_eq_mapM_toList,Sem.run_map,h1]; rfl
 have e:results fn a.tmps=((fn.results.mapM fun
  | .tmp t=>pure (a.tmps.getD t undef)
  | .cell x t=>do loadVar t (← asAddr (a.tmps.getD x undef)):Sem (Array Value)) >>= fun vs=>pure (if h:vs.size=1 then vs[0] else .tuple vs)):=rfl
 rw [e]
 simp only [Sem.run_bind,hm,Result.andThen_ok,Sem.run_pure]
 by_cases hl:us.length=1
 ·obtain ⟨u,rfl⟩:=List.length_eq_one_iff.mp hl
  obtain ⟨v,rfl⟩:=List.length_eq_one_iff.mp (h2.trans hl)
  exact ⟨u,by simp,h3 0 v u rfl rfl⟩
 ·refine ⟨.tuple us.toArray,by simp [hl],?_⟩
  have:packRes vs=.tup vs:=by
   cases vs with
   | nil=>rfl
   | cons v vs =>
     cases vs with
     | nil=>simp at h2; omega
     | cons=>rfl
  rw [this]
  exact .tup vs us h2 h3

theorem runFn_sound {call callP:CallF} {fu:Nat} {g:FuncId} {fn:AFn} {args:List AV} {H H':Heap} {v:AV} {vs:List Value} (hcall:CallOK P call) (hdraw:DrawOK P call callP) (hbad:∀ b,bad b→b < B) {sq:Bool} (hfn:cFnQ P sq g=some fn) (hr:runFn call callP fu fn args H=some (v,H'))
 (hR:HRel w bad ρ B H) (hB:B≤w.heap.size) (hl:args.length=vs.length) (hargs:∀ (i:Nat) (c:AV) (u:Value),args[i]?=some c→vs[i]?=some u→Rep w bad (dead H) ρ c u) :
 Calls P g vs.toArray w fun e w'=>∃ cv,e=.returned cv∧∃ ρ',Step w w' (dead H) (dead H') ρ ρ'∧HRel w' bad ρ' B H'∧Rep w' bad (dead H') ρ' v cv:=by
 unfold cFnQ at hfn
 split at hfn <;> (try (cases hfn; done))
 rename_i f hf
 split at hfn <;> (try (cases hfn; done))
 rename_i c hb
 split at hfn <;> (try (cases hfn; done))
 split at hfn <;> (try (cases hfn; done))
 rename_i ic rv hic hrv
 cases hfn
 unfold runFn at hr
 simp only at hr
 refine calls_of_wp hf hb ?_
 have h0:Sim w (dead H) ρ bad B ρ ⟨args ++ List.replicate (f.ntmps - args.length) (.tup []),H⟩ { tmps:=vs.toArray ++ Array.replicate (f.ntmps - vs.toArray.size) undef,defers:=[] } w:=by
  refine ⟨rfl,by simp [hl],fun t ht=>?_,hR,hB,Step.refl _ _ _⟩
  rw [List.getD_eq_getElem?_getD,Array.getD_eq_getD_getElem?]
  by_cases hlt:t < args.length
  ·rw [List.getElem?_append_left hlt,Array.getElem?_append_left (by simp; omega)]
   rw [List.getElem?_eq_getElem hlt]
   have hlt2:t < vs.length:=by omega
   rw [List.getElem?_toArray,List.getElem?_eq_getElem hlt2]
   exact hargs t _ _ (List.getElem?_eq_getElem hlt) (List.getElem?_eq_getElem hlt2)
  ·simp only [List.length_append,List.length_replicate] at ht
   rw [List.getElem?_append_right (by omega),Array.getElem?_append_right (by simp; omega)]
   rw [List.getElem?_replicate,if_pos (by omega)]
   simp only [List.size_toArray,Array.getElem?_replicate]
   rw [if_pos (by omega)]
   exact .frz (.tup [] [] rfl (by simp))
 split at hr
 ·rename_i s1 h1
  split at hr <;> (try (cases hr; done))
  rename_i vs' hvs
  cases hr
  refine exec_sound hcall hdraw hbad sq c ic hic ρ _ .normal s1 _ w _ h1 h0 fun a' w' ρ' h'=>?_
  obtain ⟨cv,r1,r2⟩:=results_run hrv hvs h'
  exact ⟨h'.defers,cv,r1,cv,rfl,ρ',h'.st,h'.heap,r2⟩
 ·rename_i s1 h1
  split at hr <;> (try (cases hr; done))
  rename_i vs' hvs
  cases hr
  refine exec_sound hcall hdraw hbad sq c ic hic ρ _ .ret s1 _ w _ h1 h0 fun a' w' ρ' h'=>?_
  obtain ⟨cv,r1,r2⟩:=results_run hrv hvs h'
  exact ⟨h'.defers,cv,r1,cv,rfl,ρ',h'.st,h'.heap,r2⟩
 ·cases hr

/-! ### What is handed on alone -/
theorem snap_sc {k:Nat} {H:Heap} {v:AV} (h:isSc v=true):∀ cs,snap k H v ≠ .agg cs:=by
 intro cs
 cases k with
 | zero=>simp [snap]
 | succ k =>
   cases v <;> simp [isSc] at h <;> simp only [snap] <;> (try simp)
   all_goals (split <;> (try split) <;> (try split) <;> simp)
theorem snap_len {k:Nat} {H:Heap} {v:AV} (h:isSc v=true ∨ ∃ cs,v=.agg cs):(snap (k+1) H v).cells.length=v.cells.length:=by
 rcases h with h | ⟨cs,rfl⟩
 ·have h1:v.cells=[v]:=by cases v <;> first | rfl | (simp [isSc] at h; done)
  have h2:=snap_sc (k:=k+1) (H:=H) h
  have:(snap (k+1) H v).cells=[snap (k+1) H v]:=by
   generalize snap (k+1) H v=x at *
   cases x <;> first | rfl | exact absurd rfl (h2 _)
  rw [this,h1]; rfl
 ·simp [snap,AV.cells]
theorem snap_cells {k:Nat} {H:Heap} {v c:AV} {q:Nat} (h:isSc v=true ∨ ∃ cs,v=.agg cs) (hq:(snap (k+1) H v).cells[q]?=some c):∃ c',v.cells[q]?=some c'∧(c=snap k H c' ∨ c=snap (k+1) H c'):=by
 rcases h with h | ⟨cs,rfl⟩
 ·have h1:v.cells=[v]:=by cases v <;> first | rfl | (simp [isSc] at h; done)
  have h2:=snap_sc (k:=k+1) (H:=H) h
  have h3:(snap (k+1) H v).cells=[snap (k+1) H v]:=by
   generalize snap (k+1) H v=x at *
   cases x <;> first | rfl | exact absurd rfl (h2 _)
  rw [h3] at hq
  rw [h1]
  cases q with
  | zero=>simp at hq; exact ⟨v,rfl,.inr hq.symm⟩
  | succ q=>simp at hq
 ·simp only [snap,AV.cells,List.getElem?_map] at hq ⊢
  obtain ⟨c',hc',rfl⟩:=Option.map_eq_some_iff.mp hq
  exact ⟨c',hc',.inl rfl⟩
theorem snap_rep (hbad:∀ b,bad b→b < B) {H G:Heap} (hR:HRel w bad ρ B G) (hsame:∀ id b,hget H id=some b→ρ id ≠ .no→hget G id=some b) (hdead:∀ id,dead G id→hget H id=none):∀ (k:Nat) {v:AV} {cv:Value},Rep w bad (dead G) ρ v cv→FRep w bad (snap k H v) cv
 | 0,v,cv,_=>.undef _
 | k+1,v,cv,hv=>by
   have lists:∀ (cs:List AV) (us:List Value),(∀ (i:Nat) (c:AV) (u:Value),cs[i]?=some c→us[i]?=some u→Rep w bad (dead G) ρ c u) →
    ∀ (i:Nat) (c:AV) (u:Value),(cs.map (snap k H))[i]?=some c→us[i]?=some u→FRep w bad c u:=by
    intro cs us h i c u hc hu
    rw [List.getElem?_map] at hc
    obtain ⟨c',hc',rfl⟩:=Option.map_eq_some_iff.mp hc
    exact snap_rep hbad hR hsame hdead k (h i c' u hc' hu)
   have down:∀ {x:AV} {c:Value},FRep w (fun b=>bad b ∨ own ρ b) x c→FRep w bad x c:=fun h=>h.mono (Nat.le_refl _) (fun _ _ _=>rfl) (fun b _ hb=>.inl hb)
   -- what has no room behind it is told as_ another slice
   suffices main:∀ v:AV,(∀ id o n,v ≠ .slk id o n)→Rep w bad (dead G) ρ v cv→FRep w bad (snap (k+1) H v) cv by
    by_cases hc:∃ id o n,v=.slk id o n
    ·obtain ⟨id,o,n,rfl⟩:=hc
     refine main (.slc id o n) (fun _ _ _ h=>by cases h) ?_
     cases hv with
     | frz h=>cases h
     | slk hρ hc=>exact .slc hρ hc (Nat.le_refl _)
     | slkD a hd ha=>exact .slcD a _ hd (Nat.le_refl _) ha
    ·exact main v (fun id o n h=>hc ⟨id,o,n,h⟩) hv
   clear hv
   intro v hn' hv
   cases v with
   | slk id o n=>exact absurd rfl (hn' id o n)
   | int a b=>cases rep_int hv; exact .int _ _
   | bool b=>cases rep_bool hv; exact .bool _
   | str s=>cases rep_str hv; exact .str _
   | nilp=>cases rep_nilp hv; exact .nilp
   | zsl b =>
     simp only [snap]
     cases hv with
     | frz h=>cases h <;> exact .lst0 _ _ (fun _=>rfl)
   | nilf=>cases rep_nilf hv; exact .nilf
   | undef=>exact .undef _
   | emp =>
     simp only [snap]
     cases hv with
     | frz h=>cases h; exact .emp _ _
   | lst l =>
     simp only [snap]
     cases hv with
     | frz h=>exact down h
   | fptr x j =>
     simp only [snap]
     cases hv with
     | frz h=>exact down h
   | agg cs =>
     obtain ⟨us,rfl,hl,hp⟩:=rep_agg hv
     exact .agg _ _ (by simp [hl]) (lists cs us hp)
   | tup cs =>
     obtain ⟨us,rfl,hl,hp⟩:=rep_tup hv
     exact .tup _ _ (by simp [hl]) (lists cs us hp)
   | fn g p q =>
     obtain ⟨va,vb,rfl,l1,l2,r1,r2⟩:=rep_fn hv
     exact .fn g _ _ _ _ (by simp [l1]) (by simp [l2]) (lists p va r1) (lists q vb r2)
   | ptr id i j =>
     simp only [snap]
     split <;> (try exact .undef _)
     rename_i hk0
     obtain ⟨k,rfl⟩:∃ k',k=k'+1:=⟨k - 1,by omega⟩
     split <;> (try exact .undef _)
     rename_i b hg
     split <;> (try exact .undef _)
     rename_i el hel
     cases hv with
     | frz h=>cases h
     | ptrD b' o hd=>rw [hdead _ hd] at hg; cases hg
     | ptr hρ =>
       rename_i bb es cap
       obtain ⟨k2,hk2,hbr⟩:=hR.real _ _ _ _ hρ
       rw [agree_of (hsame _ _ hg (by simp [hρ]))] at hk2; cases hk2
       obtain ⟨cur,fz,m1,m2,m3,m4⟩:=hbr.mem
       have hlt:bb < w.heap.size:=(Array.getElem?_eq_some_iff.mp m1).1
       have hcell:∀ (q:Nat) (c:AV),(snap (k+1) H el).cells[q]?=some c→∃ u,w.cell? ⟨bb,i * es+q,none⟩=some u∧FRep w bad c u:=by
        intro q c hq
        obtain ⟨c',hc',hcc⟩:=snap_cells (elOk_sc (hbr.ok _ _ hel)).1 hq
        obtain ⟨u,hu,hru⟩:=m4 i el q c' hel hc'
        refine ⟨u,by simp only [World.cell?,m1]; simpa using hu,?_⟩
        rcases hcc with rfl | rfl
        ·exact snap_rep hbad hR hsame hdead k hru
        ·exact snap_rep hbad hR hsame hdead (k+1) hru
       exact .fptr _ bb (i * es) j (fun q=>(w.cell? ⟨bb,i * es+q,none⟩).getD undef) (fun hb=>by have:=hbad _ hb; have:=hbr.low; omega) hlt
        (fun q c hq=>by obtain ⟨u,hu,_⟩:=hcell q c hq; simp [hu]) (fun q c hq=>by obtain ⟨u,hu,hf⟩:=hcell q c hq; simpa [hu] using hf)
   | slc id o n =>
     simp only [snap]
     split <;> (try exact .undef _)
     rename_i hk0
     obtain ⟨k,rfl⟩:∃ k',k=k'+1:=⟨k - 1,by omega⟩
     split <;> (try exact .undef _)
     rename_i b hg
     split <;> (try exact .undef _)
     rename_i hle
     cases hv with
     | frz h=>cases h
     | slcD a c hd=>rw [hdead _ hd] at hg; cases hg
     | slcV a hρ=>simp only [Nat.le_zero_eq,List.take_zero,List.map_nil]; exact .lst0 _ _ (fun _=>rfl)
     | slc hρ hcc hn =>
       rename_i bb es cap c
       obtain ⟨k2,hk2,hbr⟩:=hR.real _ _ _ _ hρ
       rw [agree_of (hsame _ _ hg (by simp [hρ]))] at hk2; cases hk2
       obtain ⟨cur,fz,m1,m2,m3,m4⟩:=hbr.mem
       have hlt:bb < w.heap.size:=(Array.getElem?_eq_some_iff.mp m1).1
       have key:∀ (i:Nat) (x:AV),(((b.els.drop o).take n).map (snap (k+1) H))[i]?=some x→∃ el,b.els[o+i]?=some el∧x=snap (k+1) H el:=by
        intro i x hx
        rw [List.getElem?_map] at hx
        obtain ⟨el,hel,rfl⟩:=Option.map_eq_some_iff.mp hx
        have hi:i < n:=by have:=(List.getElem?_eq_some_iff.mp hel).1; simp at this; omega
        rw [List.getElem?_take_of_lt hi,List.getElem?_drop] at hel
        exact ⟨el,hel,rfl⟩
       have hcell:∀ (i:Nat) (x:AV) (q:Nat) (y:AV),(((b.els.drop o).take n).map (snap (k+1) H))[i]?=some x→x.cells[q]?=some y→∃ u,w.cell? ⟨bb,o * es+(i * es+q),none⟩=some u∧FRep w bad y u:=by
        intro i x q y hx hq
        obtain ⟨el,hel,rfl⟩:=key i x hx
        obtain ⟨c',hc',hcc⟩:=snap_cells (elOk_sc (hbr.ok _ _ hel)).1 hq
        obtain ⟨u,hu,hru⟩:=m4 _ el q c' hel hc'
        refine ⟨u,?_,(by rcases hcc with rfl | rfl; exact snap_rep hbad hR hsame hdead k hru; exact snap_rep hbad hR hsame hdead (k+1) hru)⟩
        rw [show o * es+(i * es+q)=(o+i) * es+q by rw [Nat.add_mul]; omega]
        simp only [World.cell?,m1]; simpa using hu
       have hlen:(((b.els.drop o).take n).map (snap (k+1) H)).length=n:=by simp; omega
       have:=FRep.lst (w:=w) (bad:=bad) (((b.els.drop o).take n).map (snap (k+1) H)) bb (o * es) es c (fun i q=>(w.cell? ⟨bb,o * es+(i * es+q),none⟩).getD undef) (by omega) hbr.pos (fun hb=>by have:=hbad _ hb; have:=hbr.low; omega) hlt
        (fun i x hx=>by obtain ⟨el,hel,rfl⟩:=key i x hx; rw [snap_len (elOk_sc (hbr.ok _ _ hel)).1,(elOk_sc (hbr.ok _ _ hel)).2.1,hbr.hes])
        (fun i x q y hx hq=>by obtain ⟨u,hu,_⟩:=hcell i x q y hx hq; simp [hu]) (fun i x q y hx hq=>by obtain ⟨u,hu,hf⟩:=hcell i x q y hx hq; simpa [hu] using hf)
       rw [hlen] at this
       exact this
 termination_by k=>k
end
end Go.Proofs.Ytdceaeifcniabaa.AE
