/- The small evaluator, told forwards: what comes of a value is told by what comes behind it. No conditions. -/
import Derived.Test.YtbcbaidnamebkaaAEdef
namespace Go.Proofs.Ytbcbaidnamebkaa.AE
set_option linter.unusedVariables false
set_option linter.unusedSimpArgs false
set_option linter.constructorNameAsVariable false
open Go

abbrev Ans := Option AV

def cnd (t : Bool) (a b : Ans) : Ans := match t with
  | true => a
  | false => b

/-- What is asked at a value that is not told. -/
structure Cb where
  int : IntKind → Option AV → (Int → Ans) → Ans
  bool : Option AV → (Bool → Ans) → Ans
  str : Option AV → (List UInt8 → Ans) → Ans
  lst : Option AV → (List AV → Ans) → (Bool → Ans) → Ans
  agg : Nat → Option AV → (List AV → Ans) → Ans
  tup : Nat → Option AV → (List AV → Ans) → Ans
  any : Option AV → (AV → Ans) → Ans
  same : Option AV → AV → Ans → Ans
  sameH : Heap → Heap → Ans → Ans
  hop : Heap → IOp → (AV → Heap → Ans) → Ans
  snp : Heap → List AV → (List AV → Bool → Ans) → Ans
  iter : (St → (Ex → St → Ans) → Ans) → Nat → St → List Nat → List (St → Ans) → (St → Ans) → Ans

/-- How a function is told: are its loops unrolled; is its memory not told (then what looks at memory is asked); shapes of what it puts where. -/
structure XU where
  un : Bool
  hm : Bool
  hs : List (Nat × Sh)

def hsGet : List (Nat × Sh) → Nat → Sh
  | [], _ => .any
  | (n, s) :: l, i => match Nat.beq n i with
    | true => s
    | false => hsGet l i
mutual
/-- A shape that says nothing of slices. -/
def relax : Sh → Sh
  | .i k => .i k
  | .b => .b
  | .s => .s
  | .agg l => .agg (relaxL l)
  | .tup l => .tup (relaxL l)
  | .l => .any
  | .any => .any
  | .lo => .any
  | .z => .any
def relaxL : List Sh → List Sh
  | [] => []
  | s :: l => relax s :: relaxL l
end
mutual
/-- Is what has it free of memory? -/
def shFree : Sh → Bool
  | .i _ => true
  | .b => true
  | .s => true
  | .agg l => shFreeL l
  | .tup l => shFreeL l
  | .l => false
  | .any => false
  | .lo => false
  | .z => false
def shFreeL : List Sh → Bool
  | [] => true
  | s :: l => match shFree s with
    | true => shFreeL l
    | false => false
end
def freeOps (hs : List (Nat × Sh)) : List Opd → Bool
  | [] => true
  | .v _ :: l => freeOps hs l
  | .t n :: l => match shFree (hsGet hs n) with
    | true => freeOps hs l
    | false => false

/-- Operations that look at memory, or at a place that isn't told. -/
def isH : IOp → Bool
  | .load .. | .store .. | .nilck _ | .box .. | .alloc _ | .mkrow .. | .mkslice .. | .s2b .. | .b2s _ | .subV .. | .fldA .. | .ixAS .. | .ixAA .. | .ixA .. | .app .. => true
  | .bk .lenV _ => true
  | .eqv _ k _ _ _ => Nat.beq k 1 || (Nat.beq k 2 || Nat.beq k 3)
  | _ => false
/-- An operation whose operands are values. -/
def close (ev : Opd → AV) : IOp → IOp
  | .load ag n a => .load ag n (.v (ev a))
  | .store n a x => .store n (.v (ev a)) (.v (ev x))
  | .nilck x => .nilck (.v (ev x))
  | .box e x => .box e (.v (ev x))
  | .alloc e => .alloc e
  | .mkrow e n ps => .mkrow e n (ps.map fun p => (p.1, .v (ev p.2)))
  | .mkslice e n c => .mkslice e (.v (ev n)) (.v (ev c))
  | .s2b e x => .s2b e (.v (ev x))
  | .b2s x => .b2s (.v (ev x))
  | .subV es x lo hi mx => .subV es (.v (ev x)) (lo.map fun y => .v (ev y)) (hi.map fun y => .v (ev y)) (mx.map fun y => .v (ev y))
  | .fldA off x => .fldA off (.v (ev x))
  | .ixAS _ es x i => .ixAS .any es (.v (ev x)) (.v (ev i))
  | .ixAA len es x i => .ixAA len es (.v (ev x)) (.v (ev i))
  | .ixA ag len es x i => .ixA ag len es (.v (ev x)) (.v (ev i))
  | .app e s x => .app e (.v (ev s)) (.v (ev x))
  | .bk b args => .bk b (args.map fun y => .v (ev y))
  | .eqv neg k sh x y => .eqv neg k sh (.v (ev x)) (.v (ev y))
  | io => io
def noCall : CallF := fun _ _ _ => none
theorem close_ok {call : CallF} {ev : Opd → AV} {H : Heap} {io : IOp} (h : isH io = true) : aop call ev H io = aop noCall (evO []) H (close ev io) := by
  cases io <;> first | (cases h; done) | skip
  case bk b args =>
    cases b <;> first | (cases h; done) | skip
    cases args with
    | nil => rfl
    | cons x l => cases l <;> rfl
  case mkrow e n ps => simp only [close, aop, List.map_map]; rfl
  case subV es x lo hi mx => cases lo <;> cases hi <;> cases mx <;> rfl
  all_goals rfl

def xiter (g : St → (Ex → St → Ans) → Ans) : Nat → St → (Ex → St → Ans) → Ans
  | 0, _, _ => none
  | n + 1, s, K => g s fun e s' => match e with
    | .normal => xiter g n s' K
    | .exit i => K (.exit i) s'
    | .ret => K .ret s'

def xgo (i : Nat) : List Nat → List (St → Ans) → St → Ans
  | id :: ids, k :: ks, s => if i = id then k s else xgo i ids ks s
  | _, _, _ => none

def isInt (k : IntKind) : Option AV → Option Int
  | some (.int k' n) => if k' = k then some n else none
  | _ => none
def isBool : Option AV → Option Bool
  | some (.bool b) => some b
  | _ => none
def isStr : Option AV → Option (List UInt8)
  | some (.str b) => some b
  | _ => none
def isAgg (n : Nat) : Option AV → Option (List AV)
  | some (.agg l) => if l.length = n then some l else none
  | _ => none
def isTup (n : Nat) : Option AV → Option (List AV)
  | some (.tup l) => if l.length = n then some l else none
  | _ => none

/-- What they are. -/
noncomputable def C0 : Cb where
  hop H io K := match aop noCall (evO []) H io with
    | some (v, H') => K v H'
    | none => none
  snp H args K := match args.all (noId DEPTH) with
    | true => K args true
    | false => K (args.map (snap DEPTH H)) false
  int k o K := (isInt k o).bind K
  bool o K := (isBool o).bind K
  str o K := (isStr o).bind K
  lst o K Z := match o with
    | some (.lst l) => K l
    | some (.zsl b) => Z b
    | _ => none
  agg n o K := (isAgg n o).bind K
  tup n o K := (isTup n o).bind K
  any o K := o.bind K
  same o v K := @ite _ (o = some v) (Classical.propDecidable _) K none
  sameH a b K := @ite _ (a = b) (Classical.propDecidable _) K none
  iter g n s ids ks kr := xiter g n s fun e s' => match e with
    | .ret => kr s'
    | .exit i => xgo i ids ks s'
    | .normal => none

section
variable (C : Cb)

mutual
/-- A value of a shape: taken apart. -/
def destr : Sh → Option AV → (AV → Ans) → Ans
  | .i k, o, K => C.int k o fun n => K (.int k n)
  | .b, o, K => C.bool o fun b => K (.bool b)
  | .s, o, K => C.str o fun b => K (.str b)
  | .l, o, K => C.lst o (fun l => K (.lst l)) (fun b => K (.zsl b))
  | .agg l, o, K => C.agg l.length o fun cs => destrL l cs 0 fun vs => K (.agg vs)
  | .tup l, o, K => C.tup l.length o fun cs => destrL l cs 0 fun vs => K (.tup vs)
  | .any, o, K => C.any o K
  | .lo, o, K => C.lst o (fun l => K (.lst l)) (fun _ => none)
  | .z, o, K => C.lst o (fun _ => none) (fun b => K (.zsl b))
def destrL : List Sh → List AV → Nat → (List AV → Ans) → Ans
  | [], _, _, K => K []
  | s :: l, cs, i, K => destr s cs[i]? fun v => destrL l cs (i + 1) fun vs => K (v :: vs)
end

abbrev PC := FuncId → List AV → Option AV

/-- A call with what it gets alone. -/
def xpure (pc : PC) (sn : Bool) (sh : Sh) (g : FuncId) (args : List AV) (H : Heap) (K : AV → Heap → Ans) : Ans :=
  match sn with
  | true => C.snp H args fun as fr => destr C sh (pc g as) fun v => cnd (fr || noMem DEPTH v) (K v H) none
  | false => match args.all (noId DEPTH) with
    | true => destr C sh (pc g args) fun v => K v H
    | false => destr C sh (pc g (args.map (snap DEPTH H))) fun v => cnd (noMem DEPTH v) (K v H) none

def xext (sh : Sh) (e : List AV → Option AV) (args : List AV) (H : Heap) (K : AV → Heap → Ans) : Ans := destr C sh (e args) fun v => K v H

abbrev XCall := Bool → Sh → FuncId → List AV → Heap → (AV → Heap → Ans) → Ans

def xcallP (M : Mod) (pc : PC) : XCall := fun sn sh g args H K =>
  match M.ext g with
  | some e => xext C sh e args H K
  | none => match M.inl g with
    | true => none
    | false => xpure C pc sn sh g args H K

/-- A place in a list by a number that may not be told. -/
def xat (sh : Sh) (l : List AV) (q : Int) (K : AV → Ans) : Ans :=
  cnd (decide (0 ≤ q)) (destr C sh l[q.toNat]? K) none

def xpick (c : AV) (x y : AV) (K : AV → Ans) : Ans := match c with
  | .bool t => match x, y with
    | .int k n, .int k' n' => match decide (k = k') with
      | true => K (.int k (bif t then n else n'))
      | false => cnd t (K (.int k n)) (K (.int k' n'))
    | .bool n, .bool n' => K (.bool (bif t then n else n'))
    | x, y => cnd t (K x) (K y)
  | _ => none

def xbin (op : BinOp) (x y : AV) (K : AV → Ans) : Ans := match x, y with
  | .int k a, .int k' b => match op with
    | .shl => cnd (decide (b < 0)) none (K (.int k (k.wrap (a * 2 ^ min b.toNat k.bits))))
    | .shr => cnd (decide (b < 0)) none (K (.int k (a.fdiv (2 ^ min b.toNat k.bits))))
    | .quo => match decide (k = k') with
      | true => cnd (decide (b = 0)) none (K (.int k (k.wrap (a.tdiv b))))
      | false => none
    | .rem => match decide (k = k') with
      | true => cnd (decide (b = 0)) none (K (.int k (a.tmod b)))
      | false => none
    | op => match aBin op (.int k a) (.int k' b) with
      | some v => K v
      | none => none
  | x, y => match op with
    | .add => match x, y with
      | .str a, .str b => cnd (decide ((a.length + b.length) ≤ 9223372036854775807)) (K (.str (a ++ b))) none
      | _, _ => none
    | op => match aBin op x y with
      | some v => K v
      | none => none

def xbound (x : Option AV) (d top : Nat) (K : Nat → Ans) : Ans := match x with
  | none => K d
  | some v => match aInt v with
    | some i => cnd (decide (0 ≤ i ∧ i ≤ (top : Int))) (K i.toNat) none
    | none => none

/-- One operation, of what is told. -/
def xop0 (u : XU) (call : XCall) (ev : Opd → AV) (H : Heap) (io : IOp) (K : AV → Heap → Ans) : Ans := match io with
  | .pick c a b => xpick (ev c) (ev a) (ev b) fun v => K v H
  | .bin op x y => xbin op (ev x) (ev y) fun v => K v H
  | .eqv neg 0 sh x y => match eqV 0 sh (ev x) (ev y) with
    | some b => K (.bool (xor neg b)) H
    | none => none
  | .eqv neg 4 sh x y => match eqV 4 sh (ev x) (ev y) with
    | some b => K (.bool (xor neg b)) H
    | none => none
  | .eqv neg 2 sh x y => match ev x, ev y with
    | .lst l, .zsl true => cnd l.isEmpty none (K (.bool (xor neg false)) H)
    | x, y => match eqV 2 sh x y with
      | some b => K (.bool (xor neg b)) H
      | none => none
  | .call sh f args => match ev f with
    | .fn g a b => match u.hm with
      | true => call (!freeOps u.hs args) (relax sh) g (a ++ args.map ev ++ b) H K
      | false => call false sh g (a ++ args.map ev ++ b) H K
    | _ => none
  | .subS x lo hi => match ev x with
    | .str s => xbound (hi.map ev) s.length s.length fun h => xbound (lo.map ev) 0 h fun l => K (.str ((s.take h).drop l)) H
    | _ => none
  | .ixS x i => match ev x, aInt (ev i) with
    | .str s, some q => cnd (decide (0 ≤ q)) (C.int .u8 ((s[q.toNat]?).map fun b => .int .u8 b.toNat) fun n => K (.int .u8 n) H) none
    | _, _ => none
  | .ixAS sh es x i => match aInt (ev i) with
    | some q => match ev x with
      | .lst l => xat C sh l q fun v => match decide (v.cells.length = es) with
        | true => K (.fptr v 0) H
        | false => none
      | .slc id o n => match hget H id with
        | some b => match decide (b.e.es = es) with
          | true => cnd (decide (0 ≤ q ∧ q < (n : Int))) (K (.ptr id (o + q.toNat) 0) H) none
          | false => none
        | none => none
      | _ => none
    | none => none
  | io => match aop (fun _ _ _ => none) ev H io with
    | some (v, H') => K v H'
    | none => none

def xop (u : XU) (sh : Sh) (call : XCall) (ev : Opd → AV) (H : Heap) (io : IOp) (K : AV → Heap → Ans) : Ans := match u.hm with
  | true => match isH io with
    | true => C.hop H (close ev io) fun v H' => match sh with
      | .any => K v H'
      | sh => destr C sh (some v) fun v' => K v' H'
    | false => xop0 C u call ev H io K
  | false => xop0 C u call ev H io K

def dhs (u : XU) : Option Nat → Sh
  | some d => hsGet u.hs d
  | none => .any

def xwant (env : List AV) (g : Option (Option Nat × Bool)) (A B : List AV → Ans) : Ans := match g with
  | none => A env
  | some (some t, b) => match env.getD t .undef with
    | .bool c => match b with
      | true => cnd c (A (env.set t (.bool true))) (B (env.set t (.bool false)))
      | false => cnd c (B (env.set t (.bool true))) (A (env.set t (.bool false)))
    | .tup [] => B env
    | _ => none
  | some (none, _) => B env

def xrunOps (u : XU) (call : XCall) : List IOper → St → (St → Ans) → Ans
  | [], s, K => K s
  | o :: l, s, K => xwant s.env o.guard (fun env => xop C u (dhs u o.dst) call (evO env) s.H o.op fun v H => xrunOps u call l ⟨put env o.dst v, H⟩ K) (fun env => xrunOps u call l ⟨put env o.dst (.tup []), s.H⟩ K)

def xrunOpsD (u : XU) (call : XCall) : List (IOper × List Nat) → Nat → List (Nat × Nat) → St → (St → Ans) → Ans
  | [], _, _, s, K => K s
  | (o, chk) :: l, i, log, s, K => xwant s.env o.guard
      (fun env => match chk.isEmpty || log.all (fun p => !(chk.contains p.1) || !((touch (evO env) s.H o.op).contains p.2)) with
        | true => xop C u (dhs u o.dst) call (evO env) s.H o.op fun v H => xrunOpsD u call l (i + 1) (log ++ (touch (evO env) s.H o.op).map fun id => (i, id)) ⟨put env o.dst v, H⟩ K
        | false => none)
      (fun env => xrunOpsD u call l (i + 1) log ⟨put env o.dst (.tup []), s.H⟩ K)

/-- A value's shape: what may be told of it in another round, too. -/
def shOf : Nat → AV → Sh
  | 0, _ => .any
  | d + 1, v => match v with
    | .int k _ => .i k
    | .bool _ => .b
    | .str _ => .s
    | .lst _ => .lo
    | .zsl _ => .z
    | .agg cs => .agg (cs.map (shOf d))
    | _ => .any

/-- What code puts somewhere. -/
def dstsOf : IC → List Nat
  | .reg l => l.filterMap (·.dst)
  | .regD l => l.filterMap (·.1.dst)
  | .seq a b => dstsOf a ++ dstsOf b
  | .cond _ a b => dstsOf a ++ dstsOf b
  | .block _ a => dstsOf a
  | .loop a => dstsOf a
  | _ => []

def noMake : IOp → Bool
  | .store .. | .box .. | .alloc .. | .mkrow .. | .s2b .. | .mkslice .. | .app .. => false
  | _ => true
/-- Does it leave own memory as it is? -/
def noMakes : IC → Bool
  | .reg l => l.all fun o => noMake o.op
  | .regD l => l.all fun o => noMake o.1.op
  | .seq a b => noMakes a && noMakes b
  | .cond _ a b => noMakes a && noMakes b
  | .block _ a => noMakes a
  | .loop a => noMakes a
  | _ => true

def meetL (a b : List Nat) : List Nat := a.filter fun x => b.contains x
def joinO : Option (List Nat) → Option (List Nat) → Option (List Nat)
  | none, b => b
  | a, none => a
  | some a, some b => some (meetL a b)
def daOp (da : List Nat) (o : IOper) : List Nat := match o.guard, o.dst with
  | none, some d => d :: da
  | _, _ => da
def exAt (id : Nat) : List (Nat × List Nat) → Option (List Nat)
  | [] => none
  | (i, s) :: l => match Nat.beq i id with
    | true => joinO (some s) (exAt id l)
    | false => exAt id l
def RETID : Nat := 1000000
/-- What is put for sure: where code ends, and at each of its exits. -/
def daA : IC → List Nat → Option (List Nat) × List (Nat × List Nat)
  | .skip, s => (some s, [])
  | .reg l, s => (some (l.foldl daOp s), [])
  | .regD l, s => (some (l.foldl (fun s o => daOp s o.1) s), [])
  | .seq a b, s => match daA a s with
    | (none, e) => (none, e)
    | (some s', e) => match daA b s' with
      | (n, e2) => (n, e ++ e2)
  | .cond _ a b, s => match daA a s, daA b s with
    | (n, e), (n2, e2) => (joinO n n2, e ++ e2)
  | .block id a, s => match daA a s with
    | (n, e) => (joinO n (exAt id e), e.filter fun p => !(Nat.beq p.1 id))
  | .loop a, s => match daA a s with
    | (_, e) => (none, e)
  | .exit id, s => (none, [(id, s)])
  | .ret, s => (none, [(RETID, s)])
def daN (a : IC) (s : List Nat) : List Nat := match (daA a s).1 with
  | some s => s
  | none => []
def daX (a : IC) (s : List Nat) (i : Nat) : List Nat := match exAt i (daA a s).2 with
  | some s => s
  | none => []

/-- What is not put anew stays; the rest is taken apart as it was ahead ('da': what was put ahead), or as it is told to be ('db': what is put behind). -/
def destrV (u : XU) (ds da db : List Nat) : List AV → List AV → Nat → (List AV → Ans) → Ans
  | [], _, _, K => K []
  | v :: l, cs, i, K => match ds.contains i with
    | true => destr C (match da.contains i with
        | true => match u.hm with
          | true => hsGet u.hs i
          | false => shOf 3 v
        | false => match db.contains i with
          | true => relax (hsGet u.hs i)
          | false => .any) cs[i]? fun w => destrV u ds da db l cs (i + 1) fun us => K (w :: us)
    | false => C.same cs[i]? v (destrV u ds da db l cs (i + 1) fun us => K (v :: us))

def destrE (u : XU) (da db : List Nat) (a : IC) (s0 s : St) (K : St → Ans) : Ans := cnd (s.env.length == s0.env.length) (destrV C u (dstsOf a) da db s0.env s.env 0 fun env => match noMakes a with
  | true => match u.hm with
    | true => K ⟨env, s.H⟩
    | false => C.sameH s.H s0.H (K ⟨env, s0.H⟩)
  | false => K ⟨env, s.H⟩) none

/-- Where a loop may leave to. -/
def exitsOf : IC → List Nat
  | .seq a b => exitsOf a ++ exitsOf b
  | .cond _ a b => exitsOf a ++ exitsOf b
  | .block id a => (exitsOf a).filter (· != id)
  | .loop a => exitsOf a
  | .exit id => [id]
  | _ => []

def xexec (u : XU) (call callP : XCall) (fu : Nat) : IC → List Nat → St → (Ex → St → Ans) → Ans
  | .skip, _, s, K => K .normal s
  | .regD ops, _, s, K => xrunOpsD C u callP ops 0 [] s fun s' => K .normal s'
  | .reg ops, _, s, K => xrunOps C u call ops s fun s' => K .normal s'
  | .seq a b, da, s, K => xexec u call callP fu a da s fun e s' => match e with
    | .normal => xexec u call callP fu b (daN a da) s' K
    | .exit i => K (.exit i) s'
    | .ret => K .ret s'
  | .cond (.t n) a b, da, s, K => match s.env.getD n .undef with
    | .bool t => cnd t (xexec u call callP fu a da ⟨s.env.set n (.bool true), s.H⟩ K) (xexec u call callP fu b da ⟨s.env.set n (.bool false), s.H⟩ K)
    | _ => none
  | .cond (.v c) a b, da, s, K => match c with
    | .bool t => cnd t (xexec u call callP fu a da s K) (xexec u call callP fu b da s K)
    | _ => none
  | .block id a, da, s, K => xexec u call callP fu a da s fun e s' => match e with
    | .normal => K .normal s'
    | .exit i => match decide (i = id) with
      | true => K .normal s'
      | false => K (.exit i) s'
    | .ret => K .ret s'
  | .loop a, da, s, K => match u.un with
    | true => xiter (fun s1 Kn => xexec u call callP fu a da s1 Kn) fu s K
    | false => C.iter (fun s1 Kn => destrE C u da [] a s s1 fun s2 => xexec u call callP fu a da s2 Kn) fu s (exitsOf a).eraseDups ((exitsOf a).eraseDups.map fun i s1 => destrE C u da (daX a da i) a s s1 fun s2 => K (.exit i) s2) fun s1 => destrE C u da (daX a da RETID) a s s1 fun s2 => K .ret s2
  | .exit id, _, s, K => K (.exit id) s
  | .ret, _, s, K => K .ret s

/-- Results, where memory isn't told. -/
def xresAll (s : St) : List RV → (List AV → Ans) → Ans
  | [], K => K []
  | .tmp t :: l, K => xresAll s l fun vs => K (s.env.getD t .undef :: vs)
  | .cell ag n t :: l, K => C.hop s.H (.load ag n (.v (s.env.getD t .undef))) fun v _ => xresAll s l fun vs => K (v :: vs)

def xrunFn (u : XU) (call callP : XCall) (fu : Nat) (fn : AFn) (args : List AV) (H : Heap) (K : AV → Heap → Ans) : Ans :=
  xexec C u call callP fu fn.body (List.range args.length) ⟨args ++ List.replicate (fn.ntmps - args.length) (.tup []), H⟩ fun e s => match e with
    | .exit _ => none
    | _ => match u.hm with
      | true => xresAll C s fn.results fun vs => K (packRes vs) s.H
      | false => match resAll s fn.results with
        | some vs => K (packRes vs) s.H
        | none => none

def xcallI (M : Mod) (U : FuncId → XU) (pc : PC) : Nat → XCall
  | 0 => xcallP C M pc
  | n + 1 => fun sn sh g args H K =>
    match M.ext g with
    | some e => xext C sh e args H K
    | none => match M.inl g with
      | true => match M.code g with
        | some fn => xrunFn C (U g) (xcallI M U pc n) (xcallP C M pc) M.fu fn args H K
        | none => none
      | false => xpure C pc sn sh g args H K

/-- A call of a function, told forwards. -/
def xcall (M : Mod) (U : FuncId → XU) (d : Nat) (g : FuncId) (args : List AV) : Ans := match M.code g with
  | none => none
  | some fn => xrunFn C (U g) (xcallI C M U (pcall M d) IDEPTH) (xcallP C M (pcall M d)) M.fu fn args [] fun v H' => some (snap DEPTH H' v)
end

/-! ### It says what the other one says -/
section
mutual
theorem destr_sound : ∀ (sh : Sh) (o : Option AV) (K : AV → Ans) (r : AV), destr C0 sh o K = some r → ∃ v, o = some v ∧ K v = some r
  | .i k, o, K, r, h => by
    simp only [destr, C0] at h
    obtain ⟨n, h1, h2⟩ := Option.bind_eq_some_iff.mp h
    unfold isInt at h1
    split at h1 <;> (try (cases h1; done))
    split at h1 <;> (try (cases h1; done))
    rename_i k' n' hk
    cases h1; subst hk
    exact ⟨_, rfl, h2⟩
  | .b, o, K, r, h => by
    simp only [destr, C0] at h
    obtain ⟨n, h1, h2⟩ := Option.bind_eq_some_iff.mp h
    unfold isBool at h1
    split at h1 <;> (try (cases h1; done))
    cases h1
    exact ⟨_, rfl, h2⟩
  | .s, o, K, r, h => by
    simp only [destr, C0] at h
    obtain ⟨n, h1, h2⟩ := Option.bind_eq_some_iff.mp h
    unfold isStr at h1
    split at h1 <;> (try (cases h1; done))
    cases h1
    exact ⟨_, rfl, h2⟩
  | .l, o, K, r, h => by
    simp only [destr, C0] at h
    split at h <;> (try (cases h; done))
    · exact ⟨_, rfl, h⟩
    · exact ⟨_, rfl, h⟩
  | .agg l, o, K, r, h => by
    simp only [destr, C0] at h
    obtain ⟨cs, h1, h2⟩ := Option.bind_eq_some_iff.mp h
    unfold isAgg at h1
    split at h1 <;> (try (cases h1; done))
    split at h1 <;> (try (cases h1; done))
    rename_i hl
    cases h1
    obtain ⟨vs, q1, q2, q3⟩ := destrL_sound l cs 0 _ r h2
    have : vs = cs := by
      apply List.ext_getElem?
      intro i
      rcases Nat.lt_or_ge i l.length with hlt | hge
      · have := q2 i hlt; simpa using this.symm
      · rw [List.getElem?_eq_none (by omega), List.getElem?_eq_none (by omega)]
    subst this
    exact ⟨_, rfl, q3⟩
  | .tup l, o, K, r, h => by
    simp only [destr, C0] at h
    obtain ⟨cs, h1, h2⟩ := Option.bind_eq_some_iff.mp h
    unfold isTup at h1
    split at h1 <;> (try (cases h1; done))
    split at h1 <;> (try (cases h1; done))
    rename_i hl
    cases h1
    obtain ⟨vs, q1, q2, q3⟩ := destrL_sound l cs 0 _ r h2
    have : vs = cs := by
      apply List.ext_getElem?
      intro i
      rcases Nat.lt_or_ge i l.length with hlt | hge
      · have := q2 i hlt; simpa using this.symm
      · rw [List.getElem?_eq_none (by omega), List.getElem?_eq_none (by omega)]
    subst this
    exact ⟨_, rfl, q3⟩
  | .any, o, K, r, h => by
    simp only [destr, C0] at h
    exact Option.bind_eq_some_iff.mp h
  | .lo, o, K, r, h => by
    simp only [destr, C0] at h
    split at h <;> (try (cases h; done))
    exact ⟨_, rfl, h⟩
  | .z, o, K, r, h => by
    simp only [destr, C0] at h
    split at h <;> (try (cases h; done))
    exact ⟨_, rfl, h⟩
theorem destrL_sound : ∀ (l : List Sh) (cs : List AV) (i : Nat) (K : List AV → Ans) (r : AV), destrL C0 l cs i K = some r → ∃ vs, vs.length = l.length ∧ (∀ j, j < l.length → cs[i + j]? = vs[j]?) ∧ K vs = some r
  | [], cs, i, K, r, h => ⟨[], rfl, by simp, h⟩
  | s :: l, cs, i, K, r, h => by
    simp only [destrL] at h
    obtain ⟨v, h1, h2⟩ := destr_sound s _ _ r h
    obtain ⟨vs, q1, q2, q3⟩ := destrL_sound l cs (i + 1) _ r h2
    refine ⟨v :: vs, by simp [q1], fun j hj => ?_, q3⟩
    cases j with
    | zero => simpa using h1
    | succ j =>
      have := q2 j (by simpa using hj)
      simpa [show i + 1 + j = i + (j + 1) by omega] using this
end

theorem cnd_some {t : Bool} {a b : Ans} {r : AV} (h : cnd t a b = some r) : (t = true ∧ a = some r) ∨ (t = false ∧ b = some r) := by
  cases t <;> simp [cnd] at h <;> simp [h]

theorem destrV_sound (U0 : XU) (ds da db : List Nat) : ∀ (l cs : List AV) (i : Nat) (K : List AV → Ans) (r : AV), destrV C0 U0 ds da db l cs i K = some r → ∃ vs, vs.length = l.length ∧ (∀ j, j < l.length → cs[i + j]? = vs[j]?) ∧ K vs = some r
  | [], cs, i, K, r, h => ⟨[], rfl, by simp, h⟩
  | v :: l, cs, i, K, r, h => by
    simp only [destrV] at h
    have fin : ∀ u, cs[i]? = some u → destrV C0 U0 ds da db l cs (i + 1) (fun us => K (u :: us)) = some r → ∃ vs, vs.length = (v :: l).length ∧ (∀ j, j < (v :: l).length → cs[i + j]? = vs[j]?) ∧ K vs = some r := by
      intro u h1 h2
      obtain ⟨vs, q1, q2, q3⟩ := destrV_sound U0 ds da db l cs (i + 1) _ r h2
      refine ⟨u :: vs, by simp [q1], fun j hj => ?_, q3⟩
      cases j with
      | zero => simpa using h1
      | succ j =>
        have := q2 j (by simpa using hj)
        simpa [show i + 1 + j = i + (j + 1) by omega] using this
    split at h
    · obtain ⟨u, h1, h2⟩ := destr_sound _ _ _ r h
      exact fin u h1 h2
    · simp only [C0] at h
      split at h
      · rename_i he; exact fin v he h
      · cases h

theorem destrE_sound {u : XU} {da db : List Nat} {a : IC} {s0 s : St} {K : St → Ans} {r : AV} (h : destrE C0 u da db a s0 s K = some r) : K s = some r := by
  unfold destrE at h
  rcases cnd_some h with ⟨hl, h⟩ | ⟨_, h⟩
  · obtain ⟨vs, q1, q2, q3⟩ := destrV_sound _ _ _ _ _ _ _ _ _ h
    have hl : s.env.length = s0.env.length := by simpa using hl
    have : vs = s.env := by
      apply List.ext_getElem?
      intro i
      rcases Nat.lt_or_ge i s0.env.length with hlt | hge
      · have := q2 i hlt; simpa using this.symm
      · rw [List.getElem?_eq_none (by omega), List.getElem?_eq_none (by omega)]
    subst this
    split at q3
    · split at q3
      · exact q3
      · simp only [C0] at q3
        split at q3
        · rename_i he; rw [← he] at q3; exact q3
        · cases q3
    · exact q3
  · cases h

theorem xgo_ok {i : Nat} {s : St} {r : AV} {f : Nat → St → Ans} : ∀ ids : List Nat, xgo i ids (ids.map f) s = some r → f i s = some r
  | [], h => by cases h
  | id :: ids, h => by
    simp only [List.map_cons, xgo] at h
    split at h
    · rename_i he; rw [he]; exact h
    · exact xgo_ok ids h

/-- Calls told forwards. -/
def XOK (x : XCall) (call : CallF) : Prop := ∀ sn sh g args H K r, x sn sh g args H K = some r → ∃ v H', call g args H = some (v, H') ∧ K v H' = some r

theorem xpure_ok (pc : PC) : XOK (xpure C0 pc) (pureCall pc) := by
  intro sn sh g args H K r h
  unfold xpure at h
  unfold pureCall
  cases sn with
  | true =>
    simp only [C0] at h
    cases ha : args.all (noId DEPTH) <;> simp only [ha] at h
    · obtain ⟨v, h1, h2⟩ := destr_sound _ _ _ _ h
      rcases cnd_some h2 with ⟨h3, h2⟩ | ⟨_, h2⟩
      · simp only [Bool.false_or] at h3
        exact ⟨v, H, by simp [h1, h3], h2⟩
      · cases h2
    · obtain ⟨v, h1, h2⟩ := destr_sound _ _ _ _ h
      rcases cnd_some h2 with ⟨h3, h2⟩ | ⟨h3, h2⟩
      · exact ⟨v, H, by simp [h1], h2⟩
      · cases h2
  | false =>
    cases ha : args.all (noId DEPTH) <;> simp only [ha] at h
    · obtain ⟨v, h1, h2⟩ := destr_sound _ _ _ _ h
      rcases cnd_some h2 with ⟨h3, h2⟩ | ⟨_, h2⟩
      · exact ⟨v, H, by simp [h1, h3], h2⟩
      · cases h2
    · obtain ⟨v, h1, h2⟩ := destr_sound _ _ _ _ h
      exact ⟨v, H, by simp [h1], h2⟩

theorem xcallP_ok (M : Mod) (pc : PC) : XOK (xcallP C0 M pc) (callP M pc) := by
  intro sn sh g args H K r h
  unfold xcallP at h
  unfold callP
  cases he : M.ext g with
  | some e =>
    simp only [he, xext] at h
    obtain ⟨v, h1, h2⟩ := destr_sound _ _ _ _ h
    exact ⟨v, H, by simp [extCall, h1], h2⟩
  | none =>
    simp only [he] at h
    cases hi : M.inl g <;> simp only [hi] at h
    · obtain ⟨v, H', h1, h2⟩ := xpure_ok pc _ _ _ _ _ _ _ h
      exact ⟨v, H', by simp [h1], h2⟩
    · cases h

theorem xbound_ok {x : Option AV} {d top : Nat} {K : Nat → Ans} {r : AV} (h : xbound x d top K = some r) : ∃ n, bound x d top = some n ∧ K n = some r := by
  unfold xbound at h
  split at h
  · exact ⟨_, rfl, h⟩
  · split at h <;> (try (cases h; done))
    rename_i v i hi
    rcases cnd_some h with ⟨h0, h⟩ | ⟨_, h⟩
    · have h0 := of_decide_eq_true h0
      exact ⟨_, by simp only [bound, hi]; rw [if_pos h0], h⟩
    · cases h

theorem xpick_ok {c x y : AV} {K : AV → Ans} {r : AV} (h : xpick c x y K = some r) : ∃ t, c = .bool t ∧ K (bif t then x else y) = some r := by
  unfold xpick at h
  split at h <;> (try (cases h; done))
  rename_i t
  refine ⟨t, rfl, ?_⟩
  split at h
  · split at h
    · rename_i hk
      have hk := of_decide_eq_true hk
      subst hk
      cases t <;> exact h
    · rcases cnd_some h with ⟨rfl, h⟩ | ⟨rfl, h⟩ <;> exact h
  · cases t <;> exact h
  · rcases cnd_some h with ⟨rfl, h⟩ | ⟨rfl, h⟩ <;> exact h

theorem xbin_ok {op : BinOp} {x y : AV} {K : AV → Ans} {r : AV} (h : xbin op x y K = some r) : ∃ v, aBin op x y = some v ∧ K v = some r := by
  unfold xbin at h
  split at h
  · rename_i k a k' b
    split at h
    · rcases cnd_some h with ⟨_, h⟩ | ⟨hb, h⟩
      · cases h
      · have hb := of_decide_eq_false hb
        exact ⟨_, by simp [aBin, hb], h⟩
    · rcases cnd_some h with ⟨_, h⟩ | ⟨hb, h⟩
      · cases h
      · have hb := of_decide_eq_false hb
        exact ⟨_, by simp [aBin, hb], h⟩
    · split at h
      · rename_i hk
        have hk := of_decide_eq_true hk
        rcases cnd_some h with ⟨_, h⟩ | ⟨hb, h⟩
        · cases h
        · have hb := of_decide_eq_false hb
          exact ⟨_, by simp [aBin, hk, hb], h⟩
      · cases h
    · split at h
      · rename_i hk
        have hk := of_decide_eq_true hk
        rcases cnd_some h with ⟨_, h⟩ | ⟨hb, h⟩
        · cases h
        · have hb := of_decide_eq_false hb
          exact ⟨_, by simp [aBin, hk, hb], h⟩
      · cases h
    · split at h
      · rename_i v hv; exact ⟨v, hv, h⟩
      · cases h
  · split at h
    · split at h
      · rcases cnd_some h with ⟨hb, h⟩ | ⟨_, h⟩
        · have hb := of_decide_eq_true hb
          exact ⟨_, by simp [aBin, hb], h⟩
        · cases h
      · cases h
    · split at h
      · rename_i v hv; exact ⟨v, hv, h⟩
      · cases h
end
end Go.Proofs.Ytbcbaidnamebkaa.AE
