/- A small evaluator over plain values, for the operations of a Go function: what it says is shown sound in the texts behind this one. No conditions. -/
import Derived.WalkKit
import Derived.ProofKit
import Derived.Below
namespace Go.Proofs.Ytbcbaidnamebkaa.AE
set_option linter.unusedVariables false
set_option linter.unusedSimpArgs false
set_option linter.constructorNameAsVariable false
open Go

/-- Plain values: own memory by number, other memory as a list. -/
inductive AV where
  | int (k : IntKind) (n : Int)
  | bool (b : Bool)
  | str (s : List UInt8)
  | nilp
  | zsl (nil : Bool)
  | ptr (id i j : Nat)
  | slc (id o n : Nat)
  | lst (l : List AV)
  | fptr (v : AV) (j : Nat)
  | agg (cs : List AV)
  | tup (vs : List AV)
  | fn (g : FuncId) (first caps : List AV)
  | nilf
  | undef
  deriving Inhabited

def AV.cells : AV → List AV
  | .agg cs => cs
  | v => [v]

/-- An element type: its number, how many cells, is it a struct or an array, its bytes, its zero. -/
structure ETy where
  tid : TypeId
  es : Nat
  ag : Bool
  bytes : Nat
  zero : AV
  deriving Inhabited

/-- May it be one cell? -/
def isSc : AV → Bool
  | .agg _ | .tup _ | .undef => false
  | _ => true

structure Blk where
  e : ETy
  els : List AV
  deriving Inhabited

abbrev Heap := List (Option Blk)

/-- A type's shape, as far as it is told apart. -/
inductive Sh where
  | i (k : IntKind)
  | b
  | s
  | l
  | agg (l : List Sh)
  | tup (l : List Sh)
  | any
  | lo
  | z
  deriving Inhabited

inductive Opd where
  | t (n : Nat)
  | v (v : AV)
  deriving Inhabited

inductive BK where
  | lenS | lenV | min | max
  deriving Inhabited

inductive IOp where
  | mov (x : Opd)
  | pick (c a b : Opd)
  | box (e : ETy) (x : Opd)
  | alloc (e : ETy)
  | build (z : List AV) (parts : List (Nat × Nat × Opd))
  | mkrow (e : ETy) (n : Nat) (parts : List (Nat × Opd))
  | load (ag : Bool) (n : Nat) (a : Opd)
  | store (n : Nat) (a v : Opd)
  | nilck (x : Opd)
  | bin (op : BinOp) (x y : Opd)
  | eqv (neg : Bool) (k : Nat) (sh : List Sh) (x y : Opd)
  | un (op : UnOp) (x : Opd)
  | conv (k : IntKind) (x : Opd)
  | cid (x : Opd)
  | s2b (e : ETy) (x : Opd)
  | b2s (x : Opd)
  | mkfn (g : FuncId) (first caps : List Opd)
  | mkslice (e : ETy) (n c : Opd)
  | subS (x : Opd) (lo hi : Option Opd)
  | subV (es : Nat) (x : Opd) (lo hi mx : Option Opd)
  | fldA (off : Nat) (x : Opd)
  | fld (ag : Bool) (n off : Nat) (x : Opd)
  | ixAS (sh : Sh) (es : Nat) (x i : Opd)
  | ixAA (len es : Nat) (x i : Opd)
  | ixS (x i : Opd)
  | ixA (ag : Bool) (len es : Nat) (x i : Opd)
  | extr (x : Opd) (i : Nat)
  | call (sh : Sh) (f : Opd) (args : List Opd)
  | bk (b : BK) (args : List Opd)
  | app (e : ETy) (s x : Opd)
  deriving Inhabited

structure IOper where
  dst : Option Nat
  op : IOp
  guard : Option (Option Nat × Bool)
  deriving Inhabited

inductive IC where
  | skip
  | reg (ops : List IOper)
  | regD (ops : List (IOper × List Nat))
  | seq (a b : IC)
  | cond (c : Opd) (a b : IC)
  | block (id : Nat) (a : IC)
  | loop (a : IC)
  | exit (id : Nat)
  | ret
  deriving Inhabited

inductive RV where
  | tmp (t : Nat)
  | cell (ag : Bool) (n : Nat) (t : Nat)
  deriving Inhabited

structure AFn where
  ntmps : Nat
  results : List RV
  body : IC
  deriving Inhabited

def hget (H : Heap) (id : Nat) : Option Blk := match H[id]? with
  | some (some b) => some b
  | _ => none

def DEPTH : Nat := 12

/-- What is in own memory, told as plain lists. -/
def snap : Nat → Heap → AV → AV
  | 0, _, _ => .undef
  | k + 1, H, v =>
    match v with
    | .int a b => .int a b
    | .bool b => .bool b
    | .str s => .str s
    | .nilp => .nilp
    | .zsl _ => .lst []
    | .ptr id i j => if k = 0 then .undef else match hget H id with
      | some b => match b.els[i]? with
        | some el => .fptr (snap k H el) j
        | none => .undef
      | none => .undef
    | .slc id o n => if k = 0 then .undef else match hget H id with
      | some b => if o + n ≤ b.els.length then .lst (((b.els.drop o).take n).map (snap k H)) else .undef
      | none => .undef
    | .lst l => .lst l
    | .fptr v j => .fptr v j
    | .agg cs => .agg (cs.map (snap k H))
    | .tup cs => .tup (cs.map (snap k H))
    | .fn g a b => .fn g (a.map (snap k H)) (b.map (snap k H))
    | .nilf => .nilf
    | .undef => .undef

/-- It names no own memory. -/
def noId : Nat → AV → Bool
  | 0, _ => false
  | k + 1, v =>
    match v with
    | .ptr .. | .slc .. => false
    | .agg cs | .tup cs => cs.all (noId k)
    | .fn _ a b => a.all (noId k) && b.all (noId k)
    | _ => true

/-- It names no memory at all. -/
def noMem : Nat → AV → Bool
  | 0, _ => false
  | k + 1, v =>
    match v with
    | .ptr .. | .slc .. | .fptr .. => false
    | .lst l => l.isEmpty
    | .zsl b => b
    | .agg cs | .tup cs => cs.all (noMem k)
    | .fn _ a b => a.all (noMem k) && b.all (noMem k)
    | _ => true

def wrapB (k : IntKind) (n : Int) : AV := .int k (k.wrap n)

def aBin (op : BinOp) : AV → AV → Option AV
  | .int k a, .int k' b =>
    match op with
    | .shl => if b < 0 then none else some (.int k (k.wrap (a * 2 ^ min b.toNat k.bits)))
    | .shr => if b < 0 then none else some (.int k (a.fdiv (2 ^ min b.toNat k.bits)))
    | _ => if k = k' then
      match op with
      | .add => some (.int k (k.wrap (a + b)))
      | .sub => some (.int k (k.wrap (a - b)))
      | .mul => some (.int k (k.wrap (a * b)))
      | .quo => if b = 0 then none else some (.int k (k.wrap (a.tdiv b)))
      | .rem => if b = 0 then none else some (.int k (a.tmod b))
      | .and | .or | .xor | .andNot => some (.int k (bits op k a b))
      | .eql => some (.bool (a == b))
      | .neq => some (.bool (a != b))
      | .lss => some (.bool (decide (a < b)))
      | .leq => some (.bool (decide (a ≤ b)))
      | .gtr => some (.bool (decide (a > b)))
      | .geq => some (.bool (decide (a ≥ b)))
      | _ => none
      else none
  | .str a, .str b =>
    match op with
    | .add => if (a.length + b.length) ≤ 9223372036854775807 then some (.str (a ++ b)) else none
    | .eql => some (.bool (a == b))
    | .neq => some (.bool (!(a == b)))
    | _ => none
  | _, _ => none

/-- Are cells equal, of kinds that are told? -/
def eqL : List Sh → List AV → List AV → Option Bool
  | [], [], [] => some true
  | .i _ :: sh, .int k a :: l, .int k' b :: m => if k = k' then match eqL sh l m with
      | some r => some (a == b && r)
      | none => none
    else none
  | .b :: sh, .bool a :: l, .bool b :: m => match eqL sh l m with
    | some r => some (a == b && r)
    | none => none
  | .s :: sh, .str a :: l, .str b :: m => match eqL sh l m with
    | some r => some (a == b && r)
    | none => none
  | _, _, _ => none
def eqB : AV → AV → Option Bool
  | .bool a, .bool b => some (a == b)
  | _, _ => none
def eqP : AV → AV → Option Bool
  | .nilp, .nilp => some true
  | .nilp, .ptr .. => some false
  | .ptr .., .nilp => some false
  | .nilp, .fptr .. => some false
  | .fptr .., .nilp => some false
  | _, _ => none
def eqS : AV → AV → Option Bool
  | .zsl true, .zsl true => some true
  | .slc _ _ (_ + 1), .zsl true => some false
  | .lst (_ :: _), .zsl true => some false
  | _, _ => none
def eqF : AV → AV → Option Bool
  | .nilf, .nilf => some true
  | .nilf, .fn .. => some false
  | .fn .., .nilf => some false
  | _, _ => none
def eqA (sh : List Sh) : AV → AV → Option Bool
  | .agg a, .agg b => eqL sh a b
  | _, _ => none
/-- Are values equal: bools (0), pointers against nil (1), slices against nil (2), functions against nil (3), structs and arrays (4)? -/
def eqV (k : Nat) (sh : List Sh) (x y : AV) : Option Bool :=
  match k with
  | 0 => eqB x y
  | 1 => eqP x y
  | 2 => eqS x y
  | 3 => eqF x y
  | 4 => eqA sh x y
  | _ => none

/-- A part of a value: n cells from j on. -/
def sub (ag : Bool) (n j : Nat) : AV → Option AV
  | .agg cs => if ag then (if j + n ≤ cs.length then some (.agg ((cs.drop j).take n)) else none) else cs[j]?
  | v => if ag then none else match j with
    | 0 => some v
    | _ => none
/-- A value with a part put anew. -/
def putSub (n j : Nat) (x : AV) : AV → Option AV
  | .agg cs => if j + n ≤ cs.length ∧ x.cells.length = n ∧ x.cells.all isSc then some (.agg (cs.take j ++ x.cells ++ cs.drop (j + n))) else none
  | _ => if j = 0 ∧ n = 1 ∧ isSc x then some x else none

def aLoad (H : Heap) (ag : Bool) (n : Nat) : AV → Option AV
  | .ptr id i j => match hget H id with
    | some b => match b.els[i]? with
      | some el => sub ag n j el
      | none => none
    | none => none
  | .fptr v j => sub ag n j v
  | _ => none

def aStore (H : Heap) (n : Nat) (x : AV) : AV → Option Heap
  | .ptr id i j => match hget H id with
    | some b => match b.els[i]? with
      | some el => match putSub n j x el with
        | some el' => some (H.set id (some { b with els := b.els.set i el' }))
        | none => none
      | none => none
    | none => none
  | _ => none

def bytesAV (s : List UInt8) : List AV := s.map fun b => .int .u8 b.toNat

/-- A slice's elements. -/
def elsOf (H : Heap) : AV → Option (List AV)
  | .zsl _ => some []
  | .lst l => some l
  | .slc id o n => match hget H id with
    | some b => if o + n ≤ b.els.length then some ((b.els.drop o).take n) else none
    | none => none
  | .str s => some (bytesAV s)
  | _ => none

def lenOf (H : Heap) : AV → Option Nat
  | .zsl _ => some 0
  | .lst l => some l.length
  | .slc id _ n => match hget H id with
    | some _ => some n
    | none => none
  | _ => none

def aInt : AV → Option Int
  | .int _ n => some n
  | _ => none
def aInt64 : AV → Option Int
  | .int .i64 n => some n
  | _ => none

def bound (x : Option AV) (d : Nat) (top : Nat) : Option Nat :=
  match x with
  | none => some d
  | some v => match aInt v with
    | some i => if 0 ≤ i ∧ i ≤ (top : Int) then some i.toNat else none
    | none => none

def aSubS (x : AV) (lo hi : Option AV) : Option AV :=
  match x with
  | .str s => match bound hi s.length s.length with
    | some h => match bound lo 0 h with
      | some l => some (.str ((s.take h).drop l))
      | none => none
    | none => none
  | _ => none

/-- x[lo:hi] or x[lo:hi:mx]. A bound above the length is refused (but 0:0:0). -/
def aSubV (H : Heap) (es : Nat) (x : AV) (lo hi mx : Option AV) : Option AV :=
  match lenOf H x with
  | none => none
  | some n =>
    match bound mx n n with
    | none => none
    | some m => match bound hi n m with
      | none => none
      | some h => match bound lo 0 h with
        | none => none
        | some l =>
          match x with
            | .zsl b => some (.zsl b)
            | .lst a => if mx.isSome && m == 0 then some (.zsl false) else if a.all (fun x => x.cells.length == es) then some (.lst ((a.take h).drop l)) else none
            | .slc id o _ => if mx.isSome && m == 0 then some (.zsl false) else if l = h then some (.lst []) else if mx.isSome then none else match hget H id with
              | some b => if b.e.es = es then some (.slc id (o + l) (h - l)) else none
              | none => none
            | _ => none

def aIx (H : Heap) (es : Nat) (x : AV) (i : Int) : Option AV :=
  match x with
  | .lst l => if 0 ≤ i then match l[i.toNat]? with
      | some v => if v.cells.length = es then some (.fptr v 0) else none
      | none => none
    else none
  | .slc id o n => match hget H id with
    | some b => if 0 ≤ i ∧ i < (n : Int) ∧ b.e.es = es then some (.ptr id (o + i.toNat) 0) else none
    | none => none
  | _ => none

def aShift (d : Nat) : AV → Option AV
  | .ptr id i j => some (.ptr id i (j + d))
  | .fptr v j => some (.fptr v (j + d))
  | _ => none

def aUn (op : UnOp) : AV → Option AV
  | .int k n => match op with
    | .neg => some (.int k (k.wrap (0 - n)))
    | .xor => some (.int k (bits .xor k (if k.signed then -1 else k.max) n))
    | _ => none
  | .bool b => match op with
    | .not => some (.bool (!b))
    | _ => none
  | _ => none

def minStep : Option AV → AV → Option AV
  | some (.int k x), .int k' y => if k = k' then some (.int k (if y < x then y else x)) else none
  | _, _ => none
def maxStep : Option AV → AV → Option AV
  | some (.int k x), .int k' y => if k = k' then some (.int k (if y > x then y else x)) else none
  | _, _ => none
def aMin : List AV → Option AV
  | .int k x :: l => l.foldl minStep (some (.int k x))
  | _ => none
def aMax : List AV → Option AV
  | .int k x :: l => l.foldl maxStep (some (.int k x))
  | _ => none

def fillP (cs : List AV) : List (Nat × Nat × AV) → Option (List AV)
  | [] => some cs
  | (off, n, v) :: l => if v.cells.length = n ∧ v.cells.all isSc then (if off + n ≤ cs.length then fillP (cs.take off ++ v.cells ++ cs.drop (off + n)) l else none) else none

/-- May it be an element of so many cells? -/
def elOk (e : ETy) (x : AV) : Bool := x.cells.length == e.es && x.cells.all isSc

def fillR (e : ETy) (els : List AV) : List (Nat × AV) → Option (List AV)
  | [] => some els
  | (i, v) :: l => if elOk e v then (if i < els.length then fillR e (els.set i v) l else none) else none

def b2sL : List AV → Option (List UInt8)
  | [] => some []
  | .int .u8 n :: l => match b2sL l with
    | some s => some (UInt8.ofNat n.toNat :: s)
    | none => none
  | _ :: _ => none

/-- append: onto nothing, or onto own memory that ends there; that number is gone then. -/
def aApp (H : Heap) (e : ETy) (xs : List AV) : AV → Option (AV × Heap)
  | .zsl _ => if xs.length * e.bytes ≤ 140737488355328 ∧ xs.length ≤ 9223372036854775807 ∧ xs.all (elOk e) then some (.slc H.length 0 xs.length, H ++ [some ⟨e, xs⟩]) else none
  | .slc id 0 n => match hget H id with
    | some b => if b.els.length = n ∧ (n + xs.length) * e.bytes ≤ 140737488355328 ∧ n + xs.length ≤ 9223372036854775807 ∧ b.e.tid = e.tid ∧ b.e.es = e.es ∧ xs.all (elOk e) then
        some (.slc H.length 0 (n + xs.length), H.set id none ++ [some ⟨e, b.els ++ xs⟩]) else none
    | none => none
  | _ => none

/-- What a call may come to: by the function's number. -/
abbrev CallF := FuncId → List AV → Heap → Option (AV × Heap)

/-- One operation. -/
def aop (call : CallF) (ev : Opd → AV) (H : Heap) : IOp → Option (AV × Heap)
  | .mov x => some (ev x, H)
  | .pick c a b => match ev c with
    | .bool t => some (bif t then ev a else ev b, H)
    | _ => none
  | .box e x => if elOk e (ev x) then some (.ptr H.length 0 0, H ++ [some ⟨e, [ev x]⟩]) else none
  | .alloc e => some (.ptr H.length 0 0, H ++ [some ⟨e, [e.zero]⟩])
  | .build z ps => match fillP z (ps.map fun p => (p.1, p.2.1, ev p.2.2)) with
    | some cs => some (.agg cs, H)
    | none => none
  | .mkrow e n ps => match fillR e (List.replicate n e.zero) (ps.map fun p => (p.1, ev p.2)) with
    | some els => some (.slc H.length 0 n, H ++ [some ⟨e, els⟩])
    | none => none
  | .load ag n a => match aLoad H ag n (ev a) with
    | some v => some (v, H)
    | none => none
  | .store n a v => match aStore H n (ev v) (ev a) with
    | some H' => some (.undef, H')
    | none => none
  | .nilck x => match ev x with
    | .ptr id i j => some (.ptr id i j, H)
    | .fptr v j => some (.fptr v j, H)
    | .fn g a b => some (.fn g a b, H)
    | _ => none
  | .bin op x y => match aBin op (ev x) (ev y) with
    | some v => some (v, H)
    | none => none
  | .eqv neg k sh x y => match eqV k sh (ev x) (ev y) with
    | some b => some (.bool (xor neg b), H)
    | none => none
  | .un op x => match aUn op (ev x) with
    | some v => some (v, H)
    | none => none
  | .conv k x => match ev x with
    | .int _ n => some (.int k (k.wrap n), H)
    | _ => none
  | .cid x => match ev x with
    | .str s => some (.str s, H)
    | _ => none
  | .s2b e x => match ev x with
    | .str s => some (.slc H.length 0 s.length, H ++ [some ⟨e, bytesAV s⟩])
    | _ => none
  | .b2s x => match ev x with
    | .str _ => none
    | x => match elsOf H x with
      | some l => match b2sL l with
        | some s => some (.str s, H)
        | none => none
      | none => none
  | .mkfn g a b => some (.fn g (a.map ev) (b.map ev), H)
  | .mkslice e n c => match aInt (ev n), aInt (ev c) with
    | some n, some c => if 0 ≤ n ∧ n = c ∧ n * e.bytes ≤ 140737488355328 ∧ n ≤ 9223372036854775807 then some (.slc H.length 0 n.toNat, H ++ [some ⟨e, List.replicate n.toNat e.zero⟩]) else none
    | _, _ => none
  | .subS x lo hi => match aSubS (ev x) (lo.map ev) (hi.map ev) with
    | some v => some (v, H)
    | none => none
  | .subV es x lo hi mx => match aSubV H es (ev x) (lo.map ev) (hi.map ev) (mx.map ev) with
    | some v => some (v, H)
    | none => none
  | .fldA off x => match aShift off (ev x) with
    | some v => some (v, H)
    | none => none
  | .fld ag n off x => match ev x with
    | .agg cs => match sub ag n off (.agg cs) with
      | some v => some (v, H)
      | none => none
    | _ => none
  | .ixAS _ es x i => match aInt (ev i) with
    | some i => match aIx H es (ev x) i with
      | some v => some (v, H)
      | none => none
    | none => none
  | .ixAA len es x i => match aInt (ev i) with
    | some i => if 0 ≤ i ∧ i < (len : Int) then match aShift (i.toNat * es) (ev x) with
        | some v => some (v, H)
        | none => none
      else none
    | none => none
  | .ixS x i => match ev x, aInt (ev i) with
    | .str s, some i => if 0 ≤ i then match s[i.toNat]? with
        | some b => some (.int .u8 b.toNat, H)
        | none => none
      else none
    | _, _ => none
  | .ixA ag len es x i => match ev x, aInt (ev i) with
    | .agg cs, some i => if 0 ≤ i ∧ i < (len : Int) then match sub ag es (i.toNat * es) (.agg cs) with
        | some v => some (v, H)
        | none => none
      else none
    | _, _ => none
  | .extr x i => match ev x with
    | .tup vs => match vs[i]? with
      | some v => some (v, H)
      | none => none
    | _ => none
  | .call _ f args => match ev f with
    | .fn g a b => call g (a ++ args.map ev ++ b) H
    | _ => none
  | .bk .lenS args => match args with
    | [x] => match ev x with
      | .str s => some (.int .i64 s.length, H)
      | _ => none
    | _ => none
  | .bk .lenV args => match args with
    | [x] => match lenOf H (ev x) with
      | some n => some (.int .i64 n, H)
      | none => none
    | _ => none
  | .bk .min args => match aMin (args.map ev) with
    | some v => some (v, H)
    | none => none
  | .bk .max args => match aMax (args.map ev) with
    | some v => some (v, H)
    | none => none
  | .app e s x => match elsOf H (ev x) with
    | some xs => aApp H e xs (ev s)
    | none => none

structure St where
  env : List AV
  H : Heap
  deriving Inhabited

def evO (env : List AV) : Opd → AV
  | .t n => env.getD n .undef
  | .v v => v

def put (env : List AV) (d : Option Nat) (v : AV) : List AV :=
  match d with
  | some d => env.set d v
  | none => env

/-- Is an operation wanted? -/
def want (env : List AV) : Option (Option Nat × Bool) → Option Bool
  | none => some true
  | some (some t, b) => match env.getD t .undef with
    | .bool c => some (c == b)
    | .tup [] => some false
    | _ => none
  | some (none, _) => some false

def runOps (call : CallF) : List IOper → St → Option St
  | [], s => some s
  | o :: l, s => match want s.env o.guard with
    | some true => match aop call (evO s.env) s.H o.op with
      | some (v, H) => runOps call l ⟨put s.env o.dst v, H⟩
      | none => none
    | some false => runOps call l ⟨put s.env o.dst (.tup []), s.H⟩
    | none => none

/-- The own memory that an operation looks at. -/
def touch (ev : Opd → AV) (H : Heap) : IOp → List Nat
  | .load _ _ a | .store _ a _ => match ev a with
    | .ptr id _ _ => [id]
    | _ => []
  | .b2s x => match ev x with
    | .slc id _ _ => [id]
    | _ => []
  | .call _ f args => match ev f with
    | .fn _ p q => if (p ++ args.map ev ++ q).all (noId DEPTH) then [] else List.range H.length
    | _ => []
  | _ => []

/-- Operations in any order that their edges leave: told in the text's, where it is all one. 'log': who looked at what. -/
def runOpsD (call : CallF) : List (IOper × List Nat) → Nat → List (Nat × Nat) → St → Option St
  | [], _, _, s => some s
  | (o, chk) :: l, i, log, s => match want s.env o.guard with
    | some true =>
      let tc := touch (evO s.env) s.H o.op
      if log.all (fun p => !(chk.contains p.1) || !(tc.contains p.2)) then
        match aop call (evO s.env) s.H o.op with
        | some (v, H) => runOpsD call l (i + 1) (log ++ tc.map fun id => (i, id)) ⟨put s.env o.dst v, H⟩
        | none => none
      else none
    | some false => runOpsD call l (i + 1) log ⟨put s.env o.dst (.tup []), s.H⟩
    | none => none

inductive Ex where
  | normal
  | exit (id : Nat)
  | ret
  deriving Inhabited, DecidableEq

def iter (g : St → Option (Ex × St)) : Nat → St → Option (Ex × St)
  | 0, _ => none
  | n + 1, s => match g s with
    | some (.normal, s') => iter g n s'
    | r => r

def exec (call callP : CallF) (fu : Nat) : IC → St → Option (Ex × St)
  | .skip, s => some (.normal, s)
  | .regD ops, s => match runOpsD callP ops 0 [] s with
    | some s' => some (.normal, s')
    | none => none
  | .reg ops, s => match runOps call ops s with
    | some s' => some (.normal, s')
    | none => none
  | .seq a b, s => match exec call callP fu a s with
    | some (.normal, s') => exec call callP fu b s'
    | r => r
  | .cond c a b, s => match evO s.env c with
    | .bool t => bif t then exec call callP fu a s else exec call callP fu b s
    | _ => none
  | .block id a, s => match exec call callP fu a s with
    | some (.exit i, s') => if i = id then some (.normal, s') else some (.exit i, s')
    | r => r
  | .loop a, s => iter (exec call callP fu a) fu s
  | .exit id, s => some (.exit id, s)
  | .ret, s => some (.ret, s)

def resOf (s : St) : RV → Option AV
  | .tmp t => some (s.env.getD t .undef)
  | .cell ag n t => aLoad s.H ag n (s.env.getD t .undef)

def resAll (s : St) : List RV → Option (List AV)
  | [] => some []
  | r :: l => match resOf s r with
    | some v => match resAll s l with
      | some vs => some (v :: vs)
      | none => none
    | none => none

def packRes : List AV → AV
  | [v] => v
  | vs => .tup vs

def runFn (call callP : CallF) (fu : Nat) (fn : AFn) (args : List AV) (H : Heap) : Option (AV × Heap) :=
  match exec call callP fu fn.body ⟨args ++ List.replicate (fn.ntmps - args.length) (.tup []), H⟩ with
  | some (.normal, s) | some (.ret, s) => match resAll s fn.results with
    | some vs => some (packRes vs, s.H)
    | none => none
  | _ => none

/-- A program's functions, as they are read; which ones are called with what they get alone; which ones have no text. -/
structure Mod where
  code : FuncId → Option AFn
  inl : FuncId → Bool
  ext : FuncId → Option (List AV → Option AV)
  fu : Nat


/-- A call that gets what it gets alone: in place of its memory it gets lists. -/
def pureCall (pc : FuncId → List AV → Option AV) : CallF := fun g args H =>
  if args.all (noId DEPTH) then match pc g args with
    | some v => some (v, H)
    | none => none
  else match pc g (args.map (snap DEPTH H)) with
    | some v => if noMem DEPTH v then some (v, H) else none
    | none => none

def extCall (e : List AV → Option AV) : CallF := fun _ args H => match e args with
  | some v => some (v, H)
  | none => none

/-- Calls that write nothing. -/
def callP (M : Mod) (pc : FuncId → List AV → Option AV) : CallF := fun g args H =>
  match M.ext g with
  | some e => extCall e g args H
  | none => if M.inl g then none else pureCall pc g args H

/-- Calls: those of 'inl' in the caller's own memory, so deep at most. -/
def callI (M : Mod) (pc : FuncId → List AV → Option AV) : Nat → CallF
  | 0 => callP M pc
  | n + 1 => fun g args H =>
    match M.ext g with
    | some e => extCall e g args H
    | none => if M.inl g then (match M.code g with
        | some fn => runFn (callI M pc n) (callP M pc) M.fu fn args H
        | none => none) else pureCall pc g args H

def IDEPTH : Nat := 6

/-- A call of a function with what it gets alone. -/
def pcall (M : Mod) : Nat → FuncId → List AV → Option AV
  | 0 => fun _ _ => none
  | d + 1 => fun g args => match M.code g with
    | none => none
    | some fn => match runFn (callI M (pcall M d) IDEPTH) (callP M (pcall M d)) M.fu fn args [] with
      | some (v, H') => some (snap DEPTH H' v)
      | none => none

end Go.Proofs.Ytbcbaidnamebkaa.AE
