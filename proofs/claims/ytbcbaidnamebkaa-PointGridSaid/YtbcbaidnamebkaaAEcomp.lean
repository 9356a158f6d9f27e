/- From the model's operations of a function to the small evaluator's. No conditions. -/
import Derived.Test.YtbcbaidnamebkaaAEdef
namespace Go.Proofs.Ytbcbaidnamebkaa.AE
set_option linter.unusedVariables false
set_option linter.unusedSimpArgs false
set_option linter.constructorNameAsVariable false
open Go

def optAll {α β : Type} (f : α → Option β) : List α → Option (List β)
  | [] => some []
  | a :: l => match f a with
    | some b => match optAll f l with
      | some m => some (b :: m)
      | none => none
    | none => none

/-- A scalar of the model. -/
def cvS : Value → Option AV
  | .int k n => some (.int k n)
  | .bool b => some (.bool b)
  | .string s => some (.str s.data.toList)
  | .pointer none => some .nilp
  | .slice none 0 0 => some (.zsl true)
  | .nilFunc => some .nilf
  | .func (.func g) ⟨[]⟩ ⟨[]⟩ => some (.fn g [] [])
  | _ => none
def cv : Value → Option AV
  | .agg ⟨cs⟩ => match optAll cvS cs with
    | some l => some (.agg l)
    | none => none
  | v => cvS v

def cOpd : Operand → Option Opd
  | .tmp t => some (.t t)
  | .const v => match cv v with
    | some x => some (.v x)
    | none => none
  | .func g => some (.v (.fn g [] []))
  | .global _ => none

section
variable (P : Program)

def agB (t : TypeId) : Option Bool := match P.underlying t with
  | some (.struct _) | some (.array _ _) => some true
  | some _ => some false
  | none => none

def cETy (t : TypeId) : Option ETy :=
  match P.info? t, agB P t with
  | some i, some ag => match i.zero with
    | some z => match cv z with
      | some v => if elOk ⟨t, i.size, ag, i.bytes, v⟩ v ∧ 0 < i.size then some ⟨t, i.size, ag, i.bytes, v⟩ else none
      | none => none
    | none => none
  | _, _ => none

/-- A struct's field: where it lies, how many cells it has. -/
def cField (s : TypeId) (f : Nat) : Option (Nat × Nat × TypeId) :=
  match P.underlying s with
  | some (.struct fs) => match fs[f]? with
    | some fd => match P.info? fd.type with
      | some i => if 0 < i.size then some (fd.offset, i.size, fd.type) else none
      | none => none
    | none => none
  | _ => none

/-- A type's shape. -/
def cSh : Nat → TypeId → Sh
  | 0, _ => .any
  | d + 1, t => match P.underlying t with
    | some (.int k) => .i k
    | some .bool => .b
    | some .string => .s
    | some (.slice _) => .l
    | some (.struct fs) => .agg (fs.toList.flatMap fun f => match cSh d f.type with
      | .agg l => l
      | x => [x])
    | some (.array n e) => .agg ((List.replicate n (match cSh d e with
      | .agg l => l
      | x => [x])).flatten)
    | some (.tuple ts) => .tup (ts.toList.map (cSh d))
    | _ => .any

def cParts (ps : List (Nat × Operand)) : Option (List (Nat × Opd)) :=
  optAll (fun p => match cOpd p.2 with | some x => some (p.1, x) | none => none) ps

def cBuild (t : TypeId) (ps : List (Nat × Operand)) : Option IOp :=
  match P.info? t with
  | some i => match i.zero with
    | some z => match cv z with
      | some (.agg zs) => match P.underlying t with
        | some (.struct fs) => match fs.toList.mapM (fun f => (P.info? f.type).map fun i => (f.offset, i.size)) with
          | some pl => match optAll (fun p => match pl[p.1]?, cOpd p.2 with | some (off, n), some x => some (off, n, x) | _, _ => none) ps with
            | some l => some (.build zs l)
            | none => none
          | none => none
        | some (.array _ e) => match P.info? e with
          | some ie => match optAll (fun p => match cOpd p.2 with | some x => some (p.1 * ie.size, ie.size, x) | none => none) ps with
            | some l => some (.build zs l)
            | none => none
          | none => none
        | _ => none
      | _ => none
    | none => none
  | none => none

def cOpds (xs : List Operand) : Option (List Opd) := optAll cOpd xs

def cOptOpd : Option Operand → Option (Option Opd)
  | none => some none
  | some x => match cOpd x with
    | some y => some (some y)
    | none => none

def cCall (t : TypeId) (c : Call) : Option IOp :=
  match c.callee with
  | .value f => match cOpd f, cOpds c.args.toList with
    | some f, some as => some (.call (cSh P 8 t) f as)
    | _, _ => none
  | .builtin .len => match c.args.toList, c.argTypes.toList with
    | [x], [t] => match P.underlying t, cOpd x with
      | some .string, some x => some (.bk .lenS [x])
      | some (.slice _), some x => some (.bk .lenV [x])
      | some (.array n _), some _ => some (.mov (.v (.int .i64 n)))
      | _, _ => none
    | _, _ => none
  | .builtin .min => match cOpds c.args.toList with
    | some as => some (.bk .min as)
    | none => none
  | .builtin .max => match cOpds c.args.toList with
    | some as => some (.bk .max as)
    | none => none
  | .builtin .append => match c.args.toList, c.argTypes.toList with
    | [s, x], [t, u] => match P.underlying t, P.underlying u, cOpd s, cOpd x with
      | some (.slice e), some d, some s, some x => match d with
        | .slice _ | .string => match cETy P e with
          | some e => some (.app e s x)
          | none => none
        | _ => none
      | _, _, _, _ => none
    | _, _ => none
  | _ => none

/-- The kinds of a struct's cells, field behind field. -/
def eqFs (g : TypeId → Option (List Sh)) : List Field → Nat → Option (List Sh)
  | [], _ => some []
  | f :: fs, off => if f.name ≠ "_" ∧ f.offset = off then match g f.type with
      | some l => match eqFs g fs (off + l.length) with
        | some m => some (l ++ m)
        | none => none
      | none => none
    else none
/-- The kinds of a value's cells, of types whose values are the same just if all their cells are. -/
def eqSh : Nat → TypeId → Option (List Sh)
  | 0, _ => none
  | d + 1, t => match P.underlying t with
    | some (.struct fs) => if P.stoodInHeld t then none else match eqFs (eqSh d) fs.toList 0 with
      | some l => if P.cellsOf t = l.length then some l else none
      | none => none
    | some (.array n e) => match eqSh d e with
      | some l => if P.cellsOf t = n * l.length ∧ P.cellsOf e = l.length then some ((List.replicate n l).flatten) else none
      | none => none
    | some (.int k) => if P.cellsOf t = 1 then some [.i k] else none
    | some .bool => if P.cellsOf t = 1 then some [.b] else none
    | some .string => if P.cellsOf t = 1 then some [.s] else none
    | _ => none
/-- How values of a type are held against each other. -/
def eqKind (t : TypeId) : Option (Nat × List Sh) := match P.underlying t with
  | some .bool => some (0, [])
  | some (.pointer _) => some (1, [])
  | some (.slice _) => some (2, [])
  | some (.func _ _ _) => some (3, [])
  | some (.struct _) | some (.array _ _) => if P.eqGuardType P.depth t then none else match eqSh P 5 t with
    | some l => some (4, l)
    | none => none
  | _ => none

def cOp (ty : TypeId) (o : Op) : Option IOp :=
  match o with
  | .move x | .assign x => (cOpd x).map .mov
  | .pick c a b => match cOpd c, cOpd a, cOpd b with
    | some c, some a, some b => some (.pick c a b)
    | _, _, _ => none
  | .alloc t => (cETy P t).map .alloc
  | .box t x => match cETy P t, cOpd x with
    | some e, some x => some (.box e x)
    | _, _ => none
  | .build t ps => cBuild P t ps.toList
  | .buildSlice t n ps => match P.underlying t with
    | some (.slice e) => match cETy P e, cParts ps.toList with
      | some e, some l => if n * e.es ≤ 16777216 then some (.mkrow e n l) else none
      | _, _ => none
    | _ => none
  | .load t a => match P.info? t, agB P t, cOpd a with
    | some i, some ag, some a => some (.load ag i.size a)
    | _, _, _ => none
  | .store t a v => match P.info? t, cOpd a, cOpd v with
    | some i, some a, some v => if 0 < i.size then some (.store i.size a v) else none
    | _, _, _ => none
  | .nilCheck x => (cOpd x).map .nilck
  | .binOp op t x y _ => match P.underlying t, cOpd x, cOpd y with
    | some d, some x, some y => match op with
      | .eql => match d with
        | .int _ | .string => some (.bin .eql x y)
        | _ => match eqKind P t with
          | some (k, sh) => some (.eqv false k sh x y)
          | none => none
      | .neq => match d with
        | .int _ | .string => some (.bin .neq x y)
        | _ => match eqKind P t with
          | some (k, sh) => some (.eqv true k sh x y)
          | none => none
      | op => some (.bin op x y)
    | _, _, _ => none
  | .unOp op _ x => (cOpd x).map (.un op)
  | .convert s d x => match P.underlying s, P.underlying d, cOpd x with
    | some (.int _), some (.int k), some x => some (.conv k x)
    | some .string, some .string, some x => some (.cid x)
    | some .string, some (.slice e), some x => match P.underlying e, cETy P e with
      | some (.int .u8), some e => if e.es = 1 then some (.s2b e x) else none
      | _, _ => none
    | some (.slice e), some .string, some x => match P.underlying e with
      | some (.int .u8) => some (.b2s x)
      | _ => none
    | _, _, _ => none
  | .makeFunc (.func g) first caps => match cOpds first.toList, cOpds caps.toList with
    | some a, some b => some (.mkfn g a b)
    | _, _ => none
  | .makeSlice t n c => match P.underlying t with
    | some (.slice e) => match cETy P e, cOpd n, cOpd c with
      | some e, some n, some c => some (.mkslice e n c)
      | _, _, _ => none
    | _ => none
  | .slice t x lo hi mx => match P.underlying t, cOpd x, cOptOpd lo, cOptOpd hi, cOptOpd mx with
    | some .string, some x, some lo, some hi, some none => some (.subS x lo hi)
    | some (.slice e), some x, some lo, some hi, some mx => match P.info? e with
      | some ie => if mx.isSome && hi.isNone then none else some (.subV ie.size x lo hi mx)
      | none => none
    | _, _, _, _, _ => none
  | .fieldAddr s x f => match cField P s f, cOpd x with
    | some (off, _, _), some x => some (.fldA off x)
    | _, _ => none
  | .field s x f => match cField P s f, cOpd x with
    | some (off, n, t), some x => match agB P t with
      | some ag => some (.fld ag n off x)
      | none => none
    | _, _ => none
  | .indexAddr t x i => match P.underlying t, cOpd x, cOpd i with
    | some (.slice e), some x, some i => match P.info? e with
      | some ie => if 0 < ie.size then some (.ixAS (cSh P 8 e) ie.size x i) else none
      | none => none
    | some (.array n e), some x, some i => match P.info? e with
      | some ie => some (.ixAA n ie.size x i)
      | none => none
    | _, _, _ => none
  | .index t x i => match P.underlying t, cOpd x, cOpd i with
    | some .string, some x, some i => some (.ixS x i)
    | some (.array n e), some x, some i => match P.info? e, agB P e with
      | some ie, some ag => some (.ixA ag n ie.size x i)
      | _, _ => none
    | _, _, _ => none
  | .extract x i => match cOpd x with
    | some x => some (.extr x i)
    | none => none
  | .call c => cCall P ty c
  | _ => none

def cOper (ops : List Oper) (o : Oper) : Option IOper :=
  match cOp P o.type o.op with
  | some op => some ⟨o.dst, op, match o.guard with
    | none => none
    | some (j, b) => some ((ops[j]?).bind (·.dst), b)⟩
  | none => none

/-- For each operation, as bits: which ones are ahead of it for sure. -/
def predsOf : List Oper → List Nat → List Nat
  | [], acc => acc
  | o :: l, acc => predsOf l (acc ++ [o.after.toList.foldl (fun m e => if Region.binds .any e then m ||| 2 ^ e.on ||| acc.getD e.on 0 else m) 0])

/-- Does it store? -/
def storeOp : IOp → Bool
  | .store .. => true
  | _ => false
/-- Does it do more than that? -/
def fullOp : IOp → Bool
  | .app .. => true
  | _ => false
/-- Does it look at memory? -/
def readOp : IOp → Bool
  | .load .. | .b2s .. | .call .. => true
  | _ => false

/-- Pairs that are in no order: may they be told by the text's? -/
def pairOk (ops : Array Oper) (o p : Oper) (a b : IOp) : Bool :=
  o.apart ops p && !(storeOp a && storeOp b) && !fullOp a && !fullOp b

def meets (a b : IOp) : Bool := (storeOp a && readOp b) || (readOp a && storeOp b)

def drawOk (ops : Array Oper) (ios : List IOper) (ps : List Nat) : Bool :=
  (List.range ops.size).all fun j => (List.range j).all fun i =>
    (ps.getD j 0).testBit i || (match ops[i]?, ops[j]?, ios[i]?, ios[j]? with
      | some o, some p, some a, some b => pairOk ops o p a.op b.op
      | _, _, _, _ => false)

def chkOf (ios : List IOper) (ps : List Nat) (j : Nat) (b : IOper) : List Nat :=
  (List.range j).filter fun i => !(ps.getD j 0).testBit i && (match ios[i]? with
    | some a => meets a.op b.op
    | none => true)

def edgesOk (ops : Array Oper) : Bool :=
  ops.toList.zipIdx.all fun p => p.1.after.toList.all fun e => !Region.binds .any e || decide (e.on < p.2)

def cCode : Code → Option IC
  | .skip => some .skip
  | .region _ ops draw => match optAll (cOper P ops.toList) ops.toList with
    | some l =>
      if draw then
        let ps := predsOf ops.toList []
        if drawOk ops l ps && edgesOk ops && Region.noSelect ops && P.follows .mixedOrders then some (.regD (l.zipIdx.map fun p => (p.1, chkOf l ps p.2 p.1))) else none
      else some (.reg l)
    | none => none
  | .seq a b => match cCode a, cCode b with
    | some a, some b => some (.seq a b)
    | _, _ => none
  | .cond c a b => match cOpd c, cCode a, cCode b with
    | some c, some a, some b => some (.cond c a b)
    | _, _, _ => none
  | .block id a => match cCode a with
    | some a => some (.block id a)
    | none => none
  | .loop a => match cCode a with
    | some a => some (.loop a)
    | none => none
  | .exit id => some (.exit id)
  | .ret => some .ret
  | _ => none

def cRV : ResultVar → Option RV
  | .tmp t => some (.tmp t)
  | .cell a t => match P.info? t, agB P t with
    | some i, some ag => some (.cell ag i.size a)
    | _, _ => none

def cFn (g : FuncId) : Option AFn :=
  match P.funcs[g]? with
  | none => none
  | some fn => match fn.body with
    | none => none
    | some c => if fn.name == "runtime.NumGoroutine" then none else match cCode P c, optAll (cRV P) fn.results.toList with
      | some b, some rs => some ⟨fn.ntmps, rs, b⟩
      | _, _ => none

end
end Go.Proofs.Ytbcbaidnamebkaa.AE
