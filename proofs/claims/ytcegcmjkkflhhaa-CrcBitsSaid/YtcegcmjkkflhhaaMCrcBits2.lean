/- The texts that the law CrcBits needs, part 2. No conditions. -/
import Derived.ChangeArms
import Derived.WideShapes
import Derived.OpenShut
import Derived.Deep.Slices
import Derived.Test.YtcegcmjkkflhhaaMCrcBits1
namespace Go.Proofs.Ytcegcmjkkflhhaa.AE
set_option linter.unusedVariables false
set_option linter.unusedSimpArgs false
set_option linter.constructorNameAsVariable false
open Go

theorem C0_int (k : IntKind) (n : Int) (K : Int → Ans) : C0.int k (some (.int k n)) K = K n := by simp [C0, isInt]
theorem C0_bool (b : Bool) (K : Bool → Ans) : C0.bool (some (.bool b)) K = K b := by simp [C0, isBool]
theorem C0_str (b : List UInt8) (K : List UInt8 → Ans) : C0.str (some (.str b)) K = K b := by simp [C0, isStr]
theorem C0_lst (l : List AV) (K : List AV → Ans) (Z : Bool → Ans) : C0.lst (some (.lst l)) K Z = K l := rfl
theorem C0_lstz (b : Bool) (K : List AV → Ans) (Z : Bool → Ans) : C0.lst (some (.zsl b)) K Z = Z b := rfl
theorem C0_agg (n : Nat) (l : List AV) (h : l.length = n) (K : List AV → Ans) : C0.agg n (some (.agg l)) K = K l := by simp [C0, isAgg, h]
theorem C0_tup (n : Nat) (l : List AV) (h : l.length = n) (K : List AV → Ans) : C0.tup n (some (.tup l)) K = K l := by simp [C0, isTup, h]
theorem C0_agg2 (a b : AV) (K : List AV → Ans) : C0.agg 2 (some (.agg [a, b])) K = K [a, b] := C0_agg 2 _ rfl K
theorem C0_tup2 (a b : AV) (K : List AV → Ans) : C0.tup 2 (some (.tup [a, b])) K = K [a, b] := C0_tup 2 _ rfl K
theorem C0_any (v : AV) (K : AV → Ans) : C0.any (some v) K = K v := by simp [C0]
theorem C0_same (v : AV) (K : Ans) : C0.same (some v) v K = K := by simp [C0]
theorem C0_sameH (H : Heap) (K : Ans) : C0.sameH H H K = K := by simp [C0]
theorem cnd_t (a b : Ans) : cnd true a b = a := rfl
theorem cnd_f (a b : Ans) : cnd false a b = b := rfl
theorem pl_len {t : Bool} {a b : Ans} (h : t = true) : cnd t a b = a := by subst h; rfl
theorem pl_f {t : Bool} {a b : Ans} (h : t = false) : cnd t a b = b := by subst h; rfl
theorem pl_same {o : Option AV} {v : AV} {K : Ans} (h : o = some v) : C0.same o v K = K := by subst h; simp [C0]
theorem pl_sameH {H : Heap} {K : Ans} : C0.sameH H H K = K := by simp [C0]
theorem pl_int {k : IntKind} {o : Option AV} {n : Int} {K : Int → Ans} (h : o = some (.int k n)) : C0.int k o K = K n := by subst h; simp [C0, isInt]
theorem pl_bool {o : Option AV} {n : Bool} {K : Bool → Ans} (h : o = some (.bool n)) : C0.bool o K = K n := by subst h; simp [C0, isBool]
theorem pl_str {o : Option AV} {n : List UInt8} {K : List UInt8 → Ans} (h : o = some (.str n)) : C0.str o K = K n := by subst h; simp [C0, isStr]
theorem pl_any {o : Option AV} {v : AV} {K : AV → Ans} (h : o = some v) : C0.any o K = K v := by subst h; simp [C0]
theorem pl_agg {n : Nat} {o : Option AV} {l : List AV} {K : List AV → Ans} (h : o = some (.agg l)) (h2 : l.length = n) : C0.agg n o K = K l := by subst h; simp [C0, isAgg, h2]
theorem pl_tup {n : Nat} {o : Option AV} {l : List AV} {K : List AV → Ans} (h : o = some (.tup l)) (h2 : l.length = n) : C0.tup n o K = K l := by subst h; simp [C0, isTup, h2]
theorem pl_lst {o : Option AV} {l : List AV} {K : List AV → Ans} {Z : Bool → Ans} (h : o = some (.lst l)) : C0.lst o K Z = K l := by subst h; rfl
/-- What comes behind a round; what comes behind a loop. -/
def kIter (R : St → (Ex → St → Ans) → Ans) (n : Nat) (K : Ex → St → Ans) : Ex → St → Ans := fun e s' => match e with
  | .normal => xiter R n s' K
  | .exit i => K (.exit i) s'
  | .ret => K .ret s'
def kOut (ids : List Nat) (ks : List (St → Ans)) (kr : St → Ans) : Ex → St → Ans := fun e s' => match e with
  | .ret => kr s'
  | .exit i => xgo i ids ks s'
  | .normal => none
theorem kIter_n (R : St → (Ex → St → Ans) → Ans) (n : Nat) (K : Ex → St → Ans) (s : St) : kIter R n K .normal s = xiter R n s K := rfl
theorem kIter_x (R : St → (Ex → St → Ans) → Ans) (n : Nat) (K : Ex → St → Ans) (i : Nat) (s : St) : kIter R n K (.exit i) s = K (.exit i) s := rfl
theorem kIter_r (R : St → (Ex → St → Ans) → Ans) (n : Nat) (K : Ex → St → Ans) (s : St) : kIter R n K .ret s = K .ret s := rfl
theorem kOut_x (ids : List Nat) (ks : List (St → Ans)) (kr : St → Ans) (i : Nat) (s : St) : kOut ids ks kr (.exit i) s = xgo i ids ks s := rfl
theorem kOut_r (ids : List Nat) (ks : List (St → Ans)) (kr : St → Ans) (s : St) : kOut ids ks kr .ret s = kr s := rfl
theorem it_ret (R : St → (Ex → St → Ans) → Ans) (n : Nat) (s : St) (ids : List Nat) (ks : List (St → Ans)) (kr : St → Ans) : C0.iter R n s ids ks kr = xiter R n s (kOut ids ks kr) := rfl
theorem xiter_s (R : St → (Ex → St → Ans) → Ans) (n : Nat) (s : St) (K : Ex → St → Ans) : xiter R (n + 1) s K = R s (kIter R n K) := rfl
theorem xgo_hit (i : Nat) (ids : List Nat) (k : St → Ans) (ks : List (St → Ans)) (s : St) : xgo i (i :: ids) (k :: ks) s = k s := by simp [xgo]
theorem xgo_miss {i j : Nat} (ids : List Nat) (k : St → Ans) (ks : List (St → Ans)) (s : St) (h : (i == j) = false) : xgo i (j :: ids) (k :: ks) s = xgo i ids ks s := by
  simp only [xgo]; rw [if_neg]; intro he; subst he; simp at h
theorem C0_hop (H : Heap) (io : IOp) (K : AV → Heap → Ans) : C0.hop H io K = match aop noCall (evO []) H io with
    | some (v, H') => K v H'
    | none => none := rfl
theorem hop_eq {H H' : Heap} {io : IOp} {v : AV} {K : AV → Heap → Ans} (h : aop noCall (evO []) H io = some (v, H')) : C0.hop H io K = K v H' := by rw [C0_hop, h]
theorem cal_eq {M : Mod} {pc : FuncId → List AV → Option AV} {n : Nat} {b : Bool} {g : FuncId} {args : List AV} {H H' : Heap} {v : AV} {K : AV → Heap → Ans} (h : callB M pc n b g args H = some (v, H')) : C0.cal M pc n b g args H K = K v H' := by
  change (match callB M pc n b g args H with
    | some (v, H') => K v H'
    | none => none) = _
  rw [h]
theorem C0_fin (H : Heap) (v : AV) : C0.fin H v = some (snap 12 H v) := rfl
theorem C0_disj {a b : TV} {K : Ans} (h : disjB a b = true) : C0.disj a b K = K := by simp only [C0, h]
theorem snp_free {H : Heap} {args : List AV} {K : List AV → Bool → Ans} (h : args.all (noId DEPTH) = true) : C0.snp H args K = K args true := by simp [C0, h]
theorem snp_id {H : Heap} {args : List AV} {K : List AV → Bool → Ans} (h : args.all (noId DEPTH) = false) : C0.snp H args K = K (args.map (snap DEPTH H)) false := by simp [C0, h]
theorem at0 (a : AV) (l : List AV) : (a :: l)[0]? = some a := rfl
theorem at1 (a b : AV) (l : List AV) : (a :: b :: l)[1]? = some b := rfl
theorem at2 (a b c : AV) (l : List AV) : (a :: b :: c :: l)[2]? = some c := rfl
theorem at3 (a b c d : AV) (l : List AV) : (a :: b :: c :: d :: l)[3]? = some d := rfl
theorem at4 (a b c d e : AV) (l : List AV) : (a :: b :: c :: d :: e :: l)[4]? = some e := rfl
theorem at5 (a b c d e f : AV) (l : List AV) : (a :: b :: c :: d :: e :: f :: l)[5]? = some f := rfl
theorem at6 (a b c d e f g : AV) (l : List AV) : (a :: b :: c :: d :: e :: f :: g :: l)[6]? = some g := rfl
theorem at7 (a b c d e f g h : AV) (l : List AV) : (a :: b :: c :: d :: e :: f :: g :: h :: l)[7]? = some h := rfl
/-- From what is told forwards. -/
theorem told {d g : Nat} {args : List AV} {r : AV} {t : Ans} (h : xcall C0 M unr d g args = t) (h2 : t = some r) : pcall M (d + 1) g args = some r := xcall_ok (h.trans h2)
theorem up {k d : Nat} {p : Nat → Prop} (h : ∀ d, p (d + k)) (hd : k ≤ d) : p d := by
  have := h (d - k)
  rwa [Nat.sub_add_cancel hd] at this
theorem yt {a b c : Ans} (h : a = b) (k : b = c) : a = c := h.trans k
theorem yS {o : Option AV} {v : AV} {K : Ans} (h : o = some v := by rfl) : C0.same o v K = K := pl_same h
theorem yA {o : Option AV} {v : AV} {K : AV → Ans} (h : o = some v := by rfl) : C0.any o K = K v := pl_any h
theorem yI {k : IntKind} {o : Option AV} {n : Int} {K : Int → Ans} (h : o = some (.int k n) := by rfl) : C0.int k o K = K n := pl_int h
theorem yB {o : Option AV} {n : Bool} {K : Bool → Ans} (h : o = some (.bool n) := by rfl) : C0.bool o K = K n := pl_bool h
theorem yG {n : Nat} {o : Option AV} {l : List AV} {K : List AV → Ans} (h : o = some (.agg l) := by rfl) (h2 : l.length = n := by rfl) : C0.agg n o K = K l := pl_agg h h2
theorem yT {n : Nat} {o : Option AV} {l : List AV} {K : List AV → Ans} (h : o = some (.tup l) := by rfl) (h2 : l.length = n := by rfl) : C0.tup n o K = K l := pl_tup h h2
end Go.Proofs.Ytcegcmjkkflhhaa.AE

namespace Go.Proofs.Ytcegcmjkkflhhaa.AE
set_option linter.unusedVariables false
set_option linter.unusedSimpArgs false
set_option linter.constructorNameAsVariable false
open Go
theorem hg_lt {H : Heap} {id : Nat} {b : Blk} (h : hget H id = some b) : id < H.length := by
  unfold hget at h
  rcases Nat.lt_or_ge id H.length with h1 | h1
  · exact h1
  · rw [List.getElem?_eq_none h1] at h; cases h
theorem hget_app {H l : Heap} {id : Nat} {b : Blk} (h : hget H id = some b) : hget (H ++ l) id = some b := by
  have := hg_lt h
  unfold hget at *
  rw [List.getElem?_append_left this]; exact h
theorem hget_new {H : Heap} {b : Blk} : hget (H ++ [some b]) H.length = some b := by unfold hget; simp
theorem hget_set {H : Heap} {id : Nat} {b : Blk} (h : id < H.length) : hget (H.set id (some b)) id = some b := by unfold hget; simp [h]
theorem hget_set_ne {H : Heap} {id id' : Nat} {x : Option Blk} (h : id ≠ id') : hget (H.set id x) id' = hget H id' := by unfold hget; rw [List.getElem?_set_ne h]
/-- An element's place, a look at it, and a store. -/
theorem ix_slc {H : Heap} {id o n es : Nat} {b : Blk} {q : Int} {K : AV → Heap → Ans} (h : hget H id = some b) (h0 : 0 ≤ q) (h1 : q < n) (he : b.e.es = es) :
    C0.hop H (.ixAS .any es (.v (.slc id o n)) (.v (.int .i64 q))) K = K (.ptr id (o + q.toNat) 0) H := hop_eq (by simp [aop, evO, aInt, aIx, h, h0, h1, he])
theorem ld_ptr {H : Heap} {id i j n : Nat} {ag : Bool} {b : Blk} {el v : AV} {K : AV → Heap → Ans} (h : hget H id = some b) (hi : b.els[i]? = some el) (hs : sub ag n j el = some v) :
    C0.hop H (.load ag n (.v (.ptr id i j))) K = K v H := hop_eq (by simp [aop, evO, aLoad, h, hi, hs])
theorem st_ptr {H : Heap} {id i j n : Nat} {b : Blk} {el el' x : AV} {K : AV → Heap → Ans} (h : hget H id = some b) (hi : b.els[i]? = some el) (hs : putSub n j x el = some el') :
    C0.hop H (.store n (.v (.ptr id i j)) (.v x)) K = K .undef (H.set id (some { b with els := b.els.set i el' })) := hop_eq (by simp [aop, evO, aStore, h, hi, hs])
theorem sh_ptr {H : Heap} {id i j d : Nat} {K : AV → Heap → Ans} : C0.hop H (.fldA d (.v (.ptr id i j))) K = K (.ptr id i (j + d)) H := hop_eq rfl
theorem nil_ptr {H : Heap} {id i j : Nat} {K : AV → Heap → Ans} : C0.hop H (.nilck (.v (.ptr id i j))) K = K (.ptr id i j) H := hop_eq rfl
end Go.Proofs.Ytcegcmjkkflhhaa.AE

namespace Go.Proofs.Ytcegcmjkkflhhaa.AE
set_option linter.unusedVariables false
set_option linter.unusedSimpArgs false
set_option linter.constructorNameAsVariable false
open Go
theorem hg_z {Z X : Heap} {k : Nat} {b : Blk} (h : Z[k]? = some (some b)) : hget (Z ++ X) k = some b := by
  unfold hget
  have hk : k < Z.length := by
    rcases Nat.lt_or_ge k Z.length with h1 | h1
    · exact h1
    · rw [List.getElem?_eq_none h1] at h; cases h
  rw [List.getElem?_append_left hk, h]
theorem ld_z {Z X : Heap} {k i j n : Nat} {ag : Bool} {b : Blk} {el v : AV} {K : AV → Heap → Ans} (h : Z[k]? = some (some b)) (hi : b.els[i]? = some el) (hs : sub ag n j el = some v) :
    C0.hop (Z ++ X) (.load ag n (.v (.ptr k i j))) K = K v (Z ++ X) := ld_ptr (hg_z h) hi hs
theorem sub_w {cs : List AV} {n : Nat} (h : cs.length = n) : sub true n 0 (.agg cs) = some (.agg cs) := by
  subst h; simp [sub]
theorem ld_zw {Z X : Heap} {k i n : Nat} {b : Blk} {cs : List AV} {K : AV → Heap → Ans} (h : Z[k]? = some (some b)) (hi : b.els[i]? = some (.agg cs)) (hn : cs.length = n) :
    C0.hop (Z ++ X) (.load true n (.v (.ptr k i 0))) K = K (.agg cs) (Z ++ X) := ld_z h hi (sub_w hn)
theorem gen_at {l : List AV} {i : Nat} {a : AV} (h : l[i]? = some a) : l[i]? = some a := h
theorem f_free {H : Heap} {v : AV} (h : snap 12 H v = v) : C0.fin H v = some v := by rw [C0_fin, h]
theorem at8 (a b c d e f g h i : AV) (l : List AV) : (a :: b :: c :: d :: e :: f :: g :: h :: i :: l)[8]? = some i := rfl
theorem at9 (a b c d e f g h i j : AV) (l : List AV) : (a :: b :: c :: d :: e :: f :: g :: h :: i :: j :: l)[9]? = some j := rfl
theorem at10 (a b c d e f g h i j k : AV) (l : List AV) : (a :: b :: c :: d :: e :: f :: g :: h :: i :: j :: k :: l)[10]? = some k := rfl
theorem w2 {k : IntKind} {o : Option AV} {n : Int} {K : Int → Ans} (h : o = some (.int k n) := by first | with_reducible rfl | exact at0 _ _ | exact at1 _ _ _ | exact at2 _ _ _ _ | exact at3 _ _ _ _ _ | exact at4 _ _ _ _ _ _ | exact at5 _ _ _ _ _ _ _ | exact at6 _ _ _ _ _ _ _ _ | exact at7 _ _ _ _ _ _ _ _ _ | exact at8 _ _ _ _ _ _ _ _ _ _ | exact at9 _ _ _ _ _ _ _ _ _ _ _ | exact at10 _ _ _ _ _ _ _ _ _ _ _ _ | exact gen_at (by with_unfolding_all rfl)) : C0.int k o K = K n := pl_int h
theorem wf {Z X : Heap} {k i n : Nat} {b : Blk} {cs : List AV} {K : AV → Heap → Ans} (h : Z[k]? = some (some b) := by with_unfolding_all rfl) (hi : b.els[i]? = some (.agg cs) := by with_unfolding_all rfl) (hn : cs.length = n := by with_unfolding_all rfl) :
    C0.hop (Z ++ X) (.load true n (.v (.ptr k i 0))) K = K (.agg cs) (Z ++ X) := ld_zw h hi hn
end Go.Proofs.Ytcegcmjkkflhhaa.AE

namespace Go.Proofs.Ytcegcmjkkflhhaa.AE
set_option linter.unusedVariables false
set_option linter.unusedSimpArgs false
set_option linter.constructorNameAsVariable false
open Go
theorem i64w (n : Int) : IntKind.i64.wrap n = (n + 9223372036854775808) % 18446744073709551616 - 9223372036854775808 := IntKind.wrap_i64 n
theorem u64w (n : Int) : IntKind.u64.wrap n = n % 18446744073709551616 := by simp [IntKind.wrap, IntKind.bits, IntKind.signed]
theorem u64_small {n : Int} (h : 0 ≤ n) (h' : n < 18446744073709551616) : IntKind.u64.wrap n = n := by rw [u64w]; omega
theorem i64_small {n : Int} (h : -9223372036854775808 ≤ n) (h' : n < 9223372036854775808) : IntKind.i64.wrap n = n := by rw [i64w]; omega
def low (v : Int) : Int := v % 18446744073709551616
end Go.Proofs.Ytcegcmjkkflhhaa.AE

namespace Go.Proofs.Ytcegcmjkkflhhaa.Geo
set_option linter.unusedVariables false
/-- A step of the sum of 32 bits. -/
def st (x : BitVec 32) : BitVec 32 := (x >>> 1) ^^^ (bif x.getLsbD 0 then 0xedb88320#32 else 0#32)
theorem xlc (x y z : BitVec 32) : x ^^^ (y ^^^ z) = y ^^^ (x ^^^ z) := by rw [← BitVec.xor_assoc, BitVec.xor_comm x y, BitVec.xor_assoc]
theorem st_xor (x y : BitVec 32) : st (x ^^^ y) = st x ^^^ st y := by
  unfold st
  rw [BitVec.ushiftRight_xor_distrib, BitVec.getLsbD_xor]
  cases x.getLsbD 0 <;> cases y.getLsbD 0 <;> simp [BitVec.xor_assoc, BitVec.xor_comm, xlc]
theorem st_zero : st 0#32 = 0#32 := by decide
theorem st_inj {x : BitVec 32} (h : st x = 0#32) : x = 0#32 := by
  unfold st at h
  cases hb : x.getLsbD 0
  · rw [hb, cond_false, BitVec.xor_zero] at h
    apply BitVec.eq_of_getLsbD_eq
    intro i hi
    match i with
    | 0 => rw [hb]; rfl
    | i + 1 =>
      have := congrArg (fun v => v.getLsbD i) h
      simp only [BitVec.getLsbD_ushiftRight] at this
      rw [show i + 1 = 1 + i by omega, this]; simp
  · rw [hb, cond_true] at h
    have := congrArg (fun v => v.getLsbD 31) h
    simp only [BitVec.getLsbD_xor, BitVec.getLsbD_ushiftRight] at this
    rw [BitVec.getLsbD_of_ge x (1 + 31) (by omega)] at this
    exact absurd this (by decide)
def stN : Nat → BitVec 32 → BitVec 32
  | 0, x => x
  | n + 1, x => stN n (st x)
theorem stN_xor : ∀ (n : Nat) (x y : BitVec 32), stN n (x ^^^ y) = stN n x ^^^ stN n y
  | 0, x, y => rfl
  | n + 1, x, y => by simp only [stN, st_xor, stN_xor n]
theorem stN_succ : ∀ (n : Nat) (x : BitVec 32), stN (n + 1) x = st (stN n x)
  | 0, x => rfl
  | n + 1, x => by rw [stN, stN_succ n (st x)]; rfl
theorem stN_inj : ∀ (n : Nat) {x : BitVec 32}, stN n x = 0#32 → x = 0#32
  | 0, x, h => h
  | n + 1, x, h => st_inj (stN_inj n h)
theorem stN_zero : ∀ n : Nat, stN n 0#32 = 0#32
  | 0 => rfl
  | n + 1 => by rw [stN, st_zero, stN_zero n]
def bt (e : Bool) : BitVec 32 := bif e then 1#32 else 0#32
theorem bt_xor (e f : Bool) : bt (xor e f) = bt e ^^^ bt f := by cases e <;> cases f <;> decide
/-- A bit is fed. -/
def bf (x : BitVec 32) (e : Bool) : BitVec 32 := st (x ^^^ bt e)
/-- Bits as a word, the first one lowest. -/
def word : List Bool → BitVec 32
  | [] => 0#32
  | e :: l => bt e ^^^ (word l <<< 1)
theorem up1 : ∀ k : Fin 32, stN k.val (1#32 <<< k.val) = 1#32 := by decide
theorem up (k : Nat) (h : k < 32) (e : Bool) : stN k (bt e <<< k) = bt e := by
  cases e
  · rw [show bt false = 0#32 from rfl, BitVec.zero_shiftLeft]; exact stN_zero k
  · exact up1 ⟨k, h⟩
theorem word_snoc : ∀ (l : List Bool) (e : Bool), word (l ++ [e]) = word l ^^^ (bt e <<< l.length)
  | [], e => by simp [word]
  | f :: l, e => by
    rw [List.cons_append, word, word_snoc l e, BitVec.shiftLeft_xor_distrib, word, List.length_cons, ← BitVec.shiftLeft_add, BitVec.xor_assoc]
/-- So many bits at once. -/
theorem feed (x : BitVec 32) : ∀ (n : Nat) (l : List Bool), l.length = n → n ≤ 32 → l.foldl bf x = stN n (x ^^^ word l)
  | 0, l, hl, _ => by
    have : l = [] := List.eq_nil_of_length_eq_zero hl
    subst this; simp [word, stN]
  | n + 1, l, hl, h => by
    obtain ⟨l', e, rfl⟩ : ∃ l' e, l = l' ++ [e] := ⟨l.dropLast, l.getLast (by intro c; rw [c] at hl; simp at hl), (List.dropLast_concat_getLast _).symm⟩
    have hl' : l'.length = n := by simpa using hl
    rw [List.foldl_append, List.foldl_cons, List.foldl_nil, feed x n l' hl' (by omega), word_snoc, ← BitVec.xor_assoc, stN_succ, stN_xor n _ (bt e <<< _), hl', up n (by omega)]
    rfl
theorem feed_xor : ∀ (l m : List Bool) (x y : BitVec 32), l.length = m.length → l.foldl bf x ^^^ m.foldl bf y = (List.zipWith xor l m).foldl bf (x ^^^ y)
  | [], [], x, y, _ => rfl
  | e :: l, f :: m, x, y, h => by
    simp only [List.foldl_cons, List.zipWith_cons_cons]
    rw [feed_xor l m _ _ (by simpa using h)]
    congr 1
    unfold bf
    rw [← st_xor, bt_xor]
    congr 1
    simp only [BitVec.xor_assoc]
    congr 1
    rw [← BitVec.xor_assoc, BitVec.xor_comm (bt e) y, BitVec.xor_assoc]
theorem feed_none : ∀ (n : Nat) (x : BitVec 32), (List.replicate n false).foldl bf x = stN n x
  | 0, x => rfl
  | n + 1, x => by
    rw [List.replicate_succ, List.foldl_cons, feed_none n]
    show stN n (st (x ^^^ 0#32)) = stN n (st x)
    rw [BitVec.xor_zero]
theorem word_bit : ∀ (l : List Bool) (i : Nat), i < 32 → (word l).getLsbD i = l.getD i false
  | [], i, _ => by simp [word]
  | e :: l, 0, _ => by cases e <;> simp [word, bt]
  | e :: l, i + 1, h => by
    rw [word, BitVec.getLsbD_xor, BitVec.getLsbD_shiftLeft]
    have : (bt e).getLsbD (i + 1) = false := by cases e <;> simp [bt]
    rw [this, Bool.false_xor]
    simp [h, word_bit l i (by omega)]
theorem word_ne {l : List Bool} (hl : l.length ≤ 32) (h : true ∈ l) : word l ≠ 0#32 := by
  intro c
  obtain ⟨i, hi, he⟩ := List.mem_iff_getElem.mp h
  have := word_bit l i (by omega)
  rw [c, List.getD_eq_getElem?_getD, List.getElem?_eq_getElem hi, he] at this
  simp at this
/-- Bits that differ in a window of 32 have another sum. -/
theorem burst {l m w : List Bool} {a r : Nat} (x : BitVec 32) (hlm : l.length = m.length) (hw : List.zipWith xor l m = List.replicate a false ++ w ++ List.replicate r false) (h32 : w.length ≤ 32) (ht : true ∈ w) : l.foldl bf x ≠ m.foldl bf x := by
  intro c
  have k := feed_xor l m x x hlm
  rw [c, BitVec.xor_self, BitVec.xor_self, hw, List.foldl_append, List.foldl_append, feed_none r, feed_none a, stN_zero, feed _ w.length w rfl h32, BitVec.zero_xor] at k
  exact word_ne h32 ht (stN_inj _ (stN_inj _ k.symm))
def b32 (b : UInt8) : BitVec 32 := b.toBitVec.setWidth 32
def bitsOf (b : UInt8) : List Bool := (List.range 8).map fun i => b.toBitVec.getLsbD i
theorem bitsOf_len (b : UInt8) : (bitsOf b).length = 8 := by simp [bitsOf]
theorem word_byte (b : UInt8) : word (bitsOf b) = b32 b := by
  apply BitVec.eq_of_getLsbD_eq
  intro i hi
  rw [word_bit _ i hi]
  unfold bitsOf b32
  rw [BitVec.getLsbD_setWidth, List.getD_eq_getElem?_getD, List.getElem?_map]
  by_cases h : i < 8
  · rw [List.getElem?_range h]; simp [hi]
  · rw [List.getElem?_eq_none (by simp; omega), BitVec.getLsbD_of_ge _ _ (by omega)]; simp
def byteF (x : BitVec 32) (b : UInt8) : BitVec 32 := stN 8 (x ^^^ b32 b)
def crcF (s : List UInt8) : BitVec 32 := s.foldl byteF 0xffffffff#32 ^^^ 0xffffffff#32
theorem byte_bits (x : BitVec 32) (b : UInt8) : byteF x b = (bitsOf b).foldl bf x := by
  rw [feed x 8 _ (bitsOf_len b) (by decide), word_byte]; rfl
theorem bytes_bits : ∀ (s : List UInt8) (x : BitVec 32), s.foldl byteF x = (s.flatMap bitsOf).foldl bf x
  | [], x => rfl
  | b :: s, x => by rw [List.foldl_cons, bytes_bits s, List.flatMap_cons, List.foldl_append, byte_bits]
/-- Texts of one length whose bits differ in a window of 32 have unlike sums. -/
theorem crc_burst {s t : List UInt8} {w : List Bool} {a r : Nat} (hl : s.length = t.length) (hw : List.zipWith xor (s.flatMap bitsOf) (t.flatMap bitsOf) = List.replicate a false ++ w ++ List.replicate r false) (h32 : w.length ≤ 32) (ht : true ∈ w) : crcF s ≠ crcF t := by
  have len : ∀ s : List UInt8, (s.flatMap bitsOf).length = 8 * s.length := by
    intro s
    induction s with
    | nil => rfl
    | cons b s ih => rw [List.flatMap_cons, List.length_append, bitsOf_len, ih, List.length_cons]; omega
  intro c
  unfold crcF at c
  have c' : s.foldl byteF 0xffffffff#32 = t.foldl byteF 0xffffffff#32 := by
    have := congrArg (fun v => v ^^^ 0xffffffff#32) c
    simpa [BitVec.xor_assoc] using this
  rw [bytes_bits, bytes_bits] at c'
  exact burst _ (by rw [len, len, hl]) hw h32 ht c'
end Go.Proofs.Ytcegcmjkkflhhaa.Geo

namespace Go.Proofs.Ytcegcmjkkflhhaa.AE
set_option linter.unusedVariables false
open Go Go.Proofs.Ytcegcmjkkflhhaa.Geo
theorem ofInt32 (x : BitVec 32) : BitVec.ofInt 32 (x.toNat : Int) = x := by
  apply BitVec.eq_of_toNat_eq
  rw [BitVec.toNat_ofInt]
  have := x.isLt
  omega
theorem u32w (n : Int) : IntKind.u32.wrap n = n % 4294967296 := by simp [IntKind.wrap, IntKind.bits, IntKind.signed]
theorem u32_xor (x y : BitVec 32) : Go.bits .xor .u32 (x.toNat : Int) (y.toNat : Int) = ((x ^^^ y).toNat : Int) := by
  show IntKind.u32.wrap ((BitVec.ofInt 32 (x.toNat : Int) ^^^ BitVec.ofInt 32 (y.toNat : Int)).toNat : Int) = _
  rw [ofInt32, ofInt32, u32w]; have := (x ^^^ y).isLt; omega
theorem u32_and (x y : BitVec 32) : Go.bits .and .u32 (x.toNat : Int) (y.toNat : Int) = ((x &&& y).toNat : Int) := by
  show IntKind.u32.wrap ((BitVec.ofInt 32 (x.toNat : Int) &&& BitVec.ofInt 32 (y.toNat : Int)).toNat : Int) = _
  rw [ofInt32, ofInt32, u32w]; have := (x &&& y).isLt; omega
theorem shr1 (x : BitVec 32) : ((x >>> 1).toNat : Int) = (x.toNat : Int) / 2 := by
  rw [BitVec.toNat_ushiftRight, Nat.shiftRight_eq_div_pow]; omega
theorem lsb (x : BitVec 32) : x.getLsbD 0 = decide (x.toNat % 2 = 1) := by
  rw [BitVec.getLsbD, Nat.testBit_zero]
theorem byte_nat (b : UInt8) : ((b32 b).toNat : Int) = (b.toNat : Int) := by
  unfold b32
  rw [BitVec.toNat_setWidth]
  have := b.toNat_lt
  rw [Nat.mod_eq_of_lt (by have : b.toBitVec.toNat = b.toNat := rfl; omega)]; rfl
end Go.Proofs.Ytcegcmjkkflhhaa.AE

namespace Go.Proofs.Ytcegcmjkkflhhaa.AE
set_option linter.unusedVariables false
set_option linter.unusedSimpArgs false
set_option linter.constructorNameAsVariable false
open Go
set_option maxRecDepth 100000
/-- apogee/crc.Sum16 -/
theorem r10 (C : Cb) (d : Nat) (a0 : List UInt8) : xcall C M unr d 10 [(.str a0)] =
 C.int .u16 (pcall M d 14 [(.int .u16 65535), (.str a0)]) fun x0 =>
 some (.int .u16 x0) := by kernel_rfl
def r12R0 (C : Cb) (d : Nat) (a0 : List UInt8) (v0 : AV) (x4 : Int) : St → (Ex → St → Ans) → Ans := fun s5 k6 =>
 cnd ((List.length s5.env) == 21)
 (C.same s5.env[0]? (.str a0) <|
 C.same s5.env[1]? tz <|
 C.same s5.env[2]? (.int .u32 0) <|
 C.int .u32 s5.env[3]? fun x8 =>
 C.same s5.env[4]? tz <|
 C.any s5.env[5]? fun v9 =>
 C.same s5.env[6]? (.str a0) <|
 C.same s5.env[7]? v0 <|
 C.same s5.env[8]? (iz x4) <|
 C.int .i64 s5.env[9]? fun x10 =>
 C.any s5.env[10]? fun v11 =>
 C.any s5.env[11]? fun v12 =>
 C.any s5.env[12]? fun v13 =>
 C.any s5.env[13]? fun v14 =>
 C.any s5.env[14]? fun v15 =>
 C.any s5.env[15]? fun v16 =>
 C.any s5.env[16]? fun v17 =>
 C.any s5.env[17]? fun v18 =>
 C.any s5.env[18]? fun v19 =>
 C.same s5.env[19]? tz <|
 C.same s5.env[20]? tz <|
 cnd (decide (x10 < x4))
 (C.hop (St.H s5) (.ixAS .any 1 (.v v0) (.v (iz x10))) fun v20 h21 =>
 C.hop h21 (.load false 1 (.v v20)) fun v22 h23 =>
 C.int .u8 (some v22) fun x24 =>
 C.int .u32 (pcall M d 23 [(.int .u32 (bits .xor .u32 x8 (IntKind.wrap .u32 x24)))]) fun x25 =>
 k6 .normal ⟨[(.str a0), tz, (.int .u32 0), (.int .u32 x25), tz, (.int .u8 x24), (.str a0), v0, (iz x4), (iz (IntKind.wrap .i64 (x10 + 1))), bt, v20, (.int .u8 x24), (.int .u32 x8), (.int .u8 x24), (.int .u32 (IntKind.wrap .u32 x24)), (.int .u32 (bits .xor .u32 x8 (IntKind.wrap .u32 x24))), (.int .u32 x25), (iz (IntKind.wrap .i64 (x10 + 1))), tz, tz], h23⟩)
 (k6 (.exit 0) ⟨[(.str a0), tz, (.int .u32 0), (.int .u32 x8), tz, v9, (.str a0), v0, (iz x4), (iz x10), bf, v12, v13, v14, v15, v16, v17, v18, v19, tz, tz], (St.H s5)⟩))
 (none)
def r12X0_0 (C : Cb) (d : Nat) (a0 : List UInt8) (v0 : AV) (x4 : Int) : St → Ans := fun s26 =>
 cnd ((List.length s26.env) == 21)
 (C.same s26.env[0]? (.str a0) <|
 C.same s26.env[1]? tz <|
 C.same s26.env[2]? (.int .u32 0) <|
 C.int .u32 s26.env[3]? fun x27 =>
 C.same s26.env[4]? tz <|
 C.any s26.env[5]? fun v28 =>
 C.same s26.env[6]? (.str a0) <|
 C.same s26.env[7]? v0 <|
 C.same s26.env[8]? (iz x4) <|
 C.int .i64 s26.env[9]? fun x29 =>
 C.any s26.env[10]? fun v30 =>
 C.any s26.env[11]? fun v31 =>
 C.any s26.env[12]? fun v32 =>
 C.any s26.env[13]? fun v33 =>
 C.any s26.env[14]? fun v34 =>
 C.any s26.env[15]? fun v35 =>
 C.any s26.env[16]? fun v36 =>
 C.any s26.env[17]? fun v37 =>
 C.any s26.env[18]? fun v38 =>
 C.same s26.env[19]? tz <|
 C.same s26.env[20]? tz <|
 C.fin (St.H s26) (.int .u32 (bits .xor .u32 x27 4294967295)))
 (none)
def r12E0 (C : Cb) (d : Nat) (a0 : List UInt8) (v0 : AV) (x4 : Int) : St → Ans := fun s7 =>
 cnd ((List.length s7.env) == 21)
 (C.same s7.env[0]? (.str a0) <|
 C.same s7.env[1]? tz <|
 C.same s7.env[2]? (.int .u32 0) <|
 C.int .u32 s7.env[3]? fun x39 =>
 C.same s7.env[4]? tz <|
 C.any s7.env[5]? fun v40 =>
 C.same s7.env[6]? (.str a0) <|
 C.same s7.env[7]? v0 <|
 C.same s7.env[8]? (iz x4) <|
 C.int .i64 s7.env[9]? fun x41 =>
 C.any s7.env[10]? fun v42 =>
 C.any s7.env[11]? fun v43 =>
 C.any s7.env[12]? fun v44 =>
 C.any s7.env[13]? fun v45 =>
 C.any s7.env[14]? fun v46 =>
 C.any s7.env[15]? fun v47 =>
 C.any s7.env[16]? fun v48 =>
 C.any s7.env[17]? fun v49 =>
 C.any s7.env[18]? fun v50 =>
 C.same s7.env[19]? tz <|
 C.same s7.env[20]? tz <|
 C.fin (St.H s7) (.int .u32 0))
 (none)
/-- apogee/crc.Sum32 -/
theorem r12 (C : Cb) (d : Nat) (a0 : List UInt8) : xcall C M unr d 12 [(.str a0)] =
 C.hop [] (.s2b E5 (.v (.str a0))) fun v0 h1 =>
 C.hop h1 (.bk .lenV [(.v v0)]) fun v2 h3 =>
 C.int .i64 (some v2) fun x4 =>
 C.iter (r12R0 C d a0 v0 x4) 1000000000000000000 ⟨[(.str a0), tz, (.int .u32 0), (.int .u32 4294967295), tz, tz, (.str a0), v0, (iz x4), (iz 0), tz, tz, tz, tz, tz, tz, tz, tz, tz, tz, tz], h3⟩ [0] [r12X0_0 C d a0 v0 x4] (r12E0 C d a0 v0 x4) := by kernel_rfl
def r14R0 (C : Cb) (d : Nat) (a1 : List UInt8) (v0 : AV) (x4 : Int) : St → (Ex → St → Ans) → Ans := fun s5 k6 =>
 cnd ((List.length s5.env) == 22)
 (C.int .u16 s5.env[0]? fun x8 =>
 C.same s5.env[1]? (.str a1) <|
 C.same s5.env[2]? tz <|
 C.same s5.env[3]? tz <|
 C.same s5.env[4]? (.int .u16 0) <|
 C.same s5.env[5]? tz <|
 C.any s5.env[6]? fun v9 =>
 C.same s5.env[7]? (.str a1) <|
 C.same s5.env[8]? v0 <|
 C.same s5.env[9]? (iz x4) <|
 C.int .i64 s5.env[10]? fun x10 =>
 C.any s5.env[11]? fun v11 =>
 C.any s5.env[12]? fun v12 =>
 C.any s5.env[13]? fun v13 =>
 C.any s5.env[14]? fun v14 =>
 C.any s5.env[15]? fun v15 =>
 C.any s5.env[16]? fun v16 =>
 C.any s5.env[17]? fun v17 =>
 C.any s5.env[18]? fun v18 =>
 C.any s5.env[19]? fun v19 =>
 C.any s5.env[20]? fun v20 =>
 C.same s5.env[21]? tz <|
 cnd (decide (x10 < x4))
 (C.hop (St.H s5) (.ixAS .any 1 (.v v0) (.v (iz x10))) fun v21 h22 =>
 C.hop h22 (.load false 1 (.v v21)) fun v23 h24 =>
 C.int .u8 (some v23) fun x25 =>
 C.int .u16 (pcall M d 24 [(.int .u16 (bits .xor .u16 x8 (IntKind.wrap .u16 ((IntKind.wrap .u16 x25) * (2 ^ (min (Int.toNat 8) 16))))))]) fun x26 =>
 k6 .normal ⟨[(.int .u16 x26), (.str a1), tz, tz, (.int .u16 0), tz, (.int .u8 x25), (.str a1), v0, (iz x4), (iz (IntKind.wrap .i64 (x10 + 1))), bt, v21, (.int .u8 x25), (.int .u16 x8), (.int .u8 x25), (.int .u16 (IntKind.wrap .u16 x25)), (.int .u16 (IntKind.wrap .u16 ((IntKind.wrap .u16 x25) * (2 ^ (min (Int.toNat 8) 16))))), (.int .u16 (bits .xor .u16 x8 (IntKind.wrap .u16 ((IntKind.wrap .u16 x25) * (2 ^ (min (Int.toNat 8) 16)))))), (.int .u16 x26), (iz (IntKind.wrap .i64 (x10 + 1))), tz], h24⟩)
 (k6 (.exit 0) ⟨[(.int .u16 x8), (.str a1), tz, tz, (.int .u16 0), tz, v9, (.str a1), v0, (iz x4), (iz x10), bf, v12, v13, v14, v15, v16, v17, v18, v19, v20, tz], (St.H s5)⟩))
 (none)
def r14X0_0 (C : Cb) (d : Nat) (a1 : List UInt8) (v0 : AV) (x4 : Int) : St → Ans := fun s27 =>
 cnd ((List.length s27.env) == 22)
 (C.int .u16 s27.env[0]? fun x28 =>
 C.same s27.env[1]? (.str a1) <|
 C.same s27.env[2]? tz <|
 C.same s27.env[3]? tz <|
 C.same s27.env[4]? (.int .u16 0) <|
 C.same s27.env[5]? tz <|
 C.any s27.env[6]? fun v29 =>
 C.same s27.env[7]? (.str a1) <|
 C.same s27.env[8]? v0 <|
 C.same s27.env[9]? (iz x4) <|
 C.int .i64 s27.env[10]? fun x30 =>
 C.any s27.env[11]? fun v31 =>
 C.any s27.env[12]? fun v32 =>
 C.any s27.env[13]? fun v33 =>
 C.any s27.env[14]? fun v34 =>
 C.any s27.env[15]? fun v35 =>
 C.any s27.env[16]? fun v36 =>
 C.any s27.env[17]? fun v37 =>
 C.any s27.env[18]? fun v38 =>
 C.any s27.env[19]? fun v39 =>
 C.any s27.env[20]? fun v40 =>
 C.same s27.env[21]? tz <|
 C.fin (St.H s27) (.int .u16 x28))
 (none)
def r14E0 (C : Cb) (d : Nat) (a1 : List UInt8) (v0 : AV) (x4 : Int) : St → Ans := fun s7 =>
 cnd ((List.length s7.env) == 22)
 (C.int .u16 s7.env[0]? fun x41 =>
 C.same s7.env[1]? (.str a1) <|
 C.same s7.env[2]? tz <|
 C.same s7.env[3]? tz <|
 C.same s7.env[4]? (.int .u16 0) <|
 C.same s7.env[5]? tz <|
 C.any s7.env[6]? fun v42 =>
 C.same s7.env[7]? (.str a1) <|
 C.same s7.env[8]? v0 <|
 C.same s7.env[9]? (iz x4) <|
 C.int .i64 s7.env[10]? fun x43 =>
 C.any s7.env[11]? fun v44 =>
 C.any s7.env[12]? fun v45 =>
 C.any s7.env[13]? fun v46 =>
 C.any s7.env[14]? fun v47 =>
 C.any s7.env[15]? fun v48 =>
 C.any s7.env[16]? fun v49 =>
 C.any s7.env[17]? fun v50 =>
 C.any s7.env[18]? fun v51 =>
 C.any s7.env[19]? fun v52 =>
 C.any s7.env[20]? fun v53 =>
 C.same s7.env[21]? tz <|
 C.fin (St.H s7) (.int .u16 0))
 (none)
/-- apogee/crc.More16 -/
theorem r14 (C : Cb) (d : Nat) (a0 : Int) (a1 : List UInt8) : xcall C M unr d 14 [(.int .u16 a0), (.str a1)] =
 C.hop [] (.s2b E5 (.v (.str a1))) fun v0 h1 =>
 C.hop h1 (.bk .lenV [(.v v0)]) fun v2 h3 =>
 C.int .i64 (some v2) fun x4 =>
 C.iter (r14R0 C d a1 v0 x4) 1000000000000000000 ⟨[(.int .u16 a0), (.str a1), tz, tz, (.int .u16 0), tz, tz, (.str a1), v0, (iz x4), (iz 0), tz, tz, tz, tz, tz, tz, tz, tz, tz, tz, tz], h3⟩ [0] [r14X0_0 C d a1 v0 x4] (r14E0 C d a1 v0 x4) := by kernel_rfl
/-- apogee/crc.New -/
theorem r15 (C : Cb) (d : Nat) (n0 : Nat) (H0 : Heap) (K0 : AV → Heap → Ans) : xmeth C M unr d (n0 + 8) 15 [] H0 K0 =
 C.hop H0 (.box E61 (.v (.agg [(.int .u32 0), (.int .i32 0), (.int .u32 0), (iz 0), (.int .u16 0), (.int .u16 0), (.int .u16 0), (.int .u16 0), (.int .u16 0), (.int .u16 0), (.int .u16 0), (.int .u16 0), (.int .u16 0), (.int .u16 0), (.int .u16 0), (.int .u16 0), (.int .u16 0), (.int .u16 0), (.int .u16 0), (.int .u16 0), (.int .u16 0), (.int .u16 0), (.int .u16 0), (.int .u16 0), (.int .u16 0), (.int .u16 0), (.int .u16 0), (.int .u16 0), (.int .u16 0), (.int .u16 0), (.int .u16 0), (.int .u16 0), (.int .u16 0), (.int .u16 0), (.int .u16 0), (.int .u16 0), (.int .u16 0), (.int .u16 0), (.int .u16 0), (.int .u16 0), (.int .u16 0), (.int .u16 0), (.int .u16 0), (.int .u16 0), (.int .u16 0), (.int .u16 0), (.int .u16 0), (.int .u16 0), (.int .u16 0), (.int .u16 0), (.int .u16 0), (.int .u16 0), (.int .u16 0), (.int .u16 0), (.int .u16 0), (.int .u16 0), (.int .u16 0), (.int .u16 0), (.int .u16 0), (.int .u16 0), (.int .u16 0), (.int .u16 0), (.int .u16 0), (.int .u16 0), (.int .u16 0), (.int .u16 0), (.int .u16 0), (.int .u16 0), (.int .u16 0), (.int .u16 0), (.int .u16 0), (.int .u16 0), (.int .u16 0), (.int .u16 0), (.int .u16 0), (.int .u16 0), (.int .u16 0), (.int .u16 0), (.int .u16 0), (.int .u16 0), (.int .u16 0), (.int .u16 0), (.int .u16 0), (.int .u16 0), (.int .u16 0), (.int .u16 0), (.int .u16 0), (.int .u16 0), (.int .u16 0), (.int .u16 0), (.int .u16 0), (.int .u16 0), (.int .u16 0), (.int .u16 0), (.int .u16 0), (.int .u16 0), (.int .u16 0), (.int .u16 0), (.int .u16 0), (.int .u16 0), (.int .u16 0), (.int .u16 0), (.int .u16 0), (.int .u16 0), (.int .u16 0), (.int .u16 0), (.int .u16 0), (.int .u16 0), (.int .u16 0), (.int .u16 0), (.int .u16 0), (.int .u16 0), (.int .u16 0), (.int .u16 0), (.int .u16 0), (.int .u16 0), (.int .u16 0), (.int .u16 0), (.int .u16 0), (.int .u16 0), (.int .u16 0), (.int .u16 0), (.int .u16 0), (.int .u16 0), (.int .u16 0), (.int .u16 0), (.int .u16 0), (.int .u16 0), (.int .u16 0), (.int .u16 0), (.int .u16 0), (.int .u16 0), (.int .u16 0), (.int .u16 0), (.int .u16 0), (.int .u16 0), (.int .u16 0), (.int .u16 0), (.int .u16 0), (.int .u16 0), (.int .u16 0), (.int .u16 0), (.int .u16 0), (.int .u16 0), (.int .u16 0), (.int .u16 0), (.int .u16 0), (.int .u16 0), (.int .u16 0), (.int .u16 0), (.int .u16 0), (.int .u16 0), (.int .u16 0), (.int .u16 0), (.int .u16 0), (.int .u16 0), (.int .u16 0), (.int .u16 0), (.int .u16 0), (.int .u16 0), (.int .u16 0), (.int .u16 0), (.int .u16 0), (.int .u16 0), (.int .u16 0), (.int .u16 0), (.int .u16 0), (.int .u16 0), (.int .u16 0), (.int .u16 0), (.int .u16 0), (.int .u16 0), (.int .u16 0), (.int .u16 0), (.int .u16 0), (.int .u16 0), (.int .u16 0), (.int .u16 0), (.int .u16 0), (.int .u16 0), (.int .u16 0), (.int .u16 0), (.int .u16 0), (.int .u16 0), (.int .u16 0), (.int .u16 0), (.int .u16 0), (.int .u16 0), (.int .u16 0), (.int .u16 0), (.int .u16 0), (.int .u16 0), (.int .u16 0), (.int .u16 0), (.int .u16 0), (.int .u16 0), (.int .u16 0), (.int .u16 0), (.int .u16 0), (.int .u16 0), (.int .u16 0), (.int .u16 0), (.int .u16 0), (.int .u16 0), (.int .u16 0), (.int .u16 0), (.int .u16 0), (.int .u16 0), (.int .u16 0), (.int .u16 0), (.int .u16 0), (.int .u16 0), (.int .u16 0), (.int .u16 0), (.int .u16 0), (.int .u16 0), (.int .u16 0), (.int .u16 0), (.int .u16 0), (.int .u16 0), (.int .u16 0), (.int .u16 0), (.int .u16 0), (.int .u16 0), (.int .u16 0), (.int .u16 0), (.int .u16 0), (.int .u16 0), (.int .u16 0), (.int .u16 0), (.int .u16 0), (.int .u16 0), (.int .u16 0), (.int .u16 0), (.int .u16 0), (.int .u16 0), (.int .u16 0), (.int .u16 0), (.int .u16 0), (.int .u16 0), (.int .u16 0), (.int .u16 0), (.int .u16 0), (.int .u16 0), (.int .u16 0), (.int .u16 0), (.int .u16 0), (.int .u16 0), (.int .u16 0), (.int .u16 0), (.int .u16 0), (.int .u16 0), (.int .u16 0), (.int .u16 0), (.int .u16 0), (.int .u16 0), (.int .u16 0), (.int .u16 0), (.int .u16 0), (.int .u16 0), (.int .u32 0), (.int .u32 0), (.int .u32 0), (.int .u32 0), (.int .u32 0), (.int .u32 0), (.int .u32 0), (.int .u32 0), (.int .u32 0), (.int .u32 0), (.int .u32 0), (.int .u32 0), (.int .u32 0), (.int .u32 0), (.int .u32 0), (.int .u32 0), (.int .u32 0), (.int .u32 0), (.int .u32 0), (.int .u32 0), (.int .u32 0), (.int .u32 0), (.int .u32 0), (.int .u32 0), (.int .u32 0), (.int .u32 0), (.int .u32 0), (.int .u32 0), (.int .u32 0), (.int .u32 0), (.int .u32 0), (.int .u32 0), (.int .u32 0), (.int .u32 0), (.int .u32 0), (.int .u32 0), (.int .u32 0), (.int .u32 0), (.int .u32 0), (.int .u32 0), (.int .u32 0), (.int .u32 0), (.int .u32 0), (.int .u32 0), (.int .u32 0), (.int .u32 0), (.int .u32 0), (.int .u32 0), (.int .u32 0), (.int .u32 0), (.int .u32 0), (.int .u32 0), (.int .u32 0), (.int .u32 0), (.int .u32 0), (.int .u32 0), (.int .u32 0), (.int .u32 0), (.int .u32 0), (.int .u32 0), (.int .u32 0), (.int .u32 0), (.int .u32 0), (.int .u32 0), (.int .u32 0), (.int .u32 0), (.int .u32 0), (.int .u32 0), (.int .u32 0), (.int .u32 0), (.int .u32 0), (.int .u32 0), (.int .u32 0), (.int .u32 0), (.int .u32 0), (.int .u32 0), (.int .u32 0), (.int .u32 0), (.int .u32 0), (.int .u32 0), (.int .u32 0), (.int .u32 0), (.int .u32 0), (.int .u32 0), (.int .u32 0), (.int .u32 0), (.int .u32 0), (.int .u32 0), (.int .u32 0), (.int .u32 0), (.int .u32 0), (.int .u32 0), (.int .u32 0), (.int .u32 0), (.int .u32 0), (.int .u32 0), (.int .u32 0), (.int .u32 0), (.int .u32 0), (.int .u32 0), (.int .u32 0), (.int .u32 0), (.int .u32 0), (.int .u32 0), (.int .u32 0), (.int .u32 0), (.int .u32 0), (.int .u32 0), (.int .u32 0), (.int .u32 0), (.int .u32 0), (.int .u32 0), (.int .u32 0), (.int .u32 0), (.int .u32 0), (.int .u32 0), (.int .u32 0), (.int .u32 0), (.int .u32 0), (.int .u32 0), (.int .u32 0), (.int .u32 0), (.int .u32 0), (.int .u32 0), (.int .u32 0), (.int .u32 0), (.int .u32 0), (.int .u32 0), (.int .u32 0), (.int .u32 0), (.int .u32 0), (.int .u32 0), (.int .u32 0), (.int .u32 0), (.int .u32 0), (.int .u32 0), (.int .u32 0), (.int .u32 0), (.int .u32 0), (.int .u32 0), (.int .u32 0), (.int .u32 0), (.int .u32 0), (.int .u32 0), (.int .u32 0), (.int .u32 0), (.int .u32 0), (.int .u32 0), (.int .u32 0), (.int .u32 0), (.int .u32 0), (.int .u32 0), (.int .u32 0), (.int .u32 0), (.int .u32 0), (.int .u32 0), (.int .u32 0), (.int .u32 0), (.int .u32 0), (.int .u32 0), (.int .u32 0), (.int .u32 0), (.int .u32 0), (.int .u32 0), (.int .u32 0), (.int .u32 0), (.int .u32 0), (.int .u32 0), (.int .u32 0), (.int .u32 0), (.int .u32 0), (.int .u32 0), (.int .u32 0), (.int .u32 0), (.int .u32 0), (.int .u32 0), (.int .u32 0), (.int .u32 0), (.int .u32 0), (.int .u32 0), (.int .u32 0), (.int .u32 0), (.int .u32 0), (.int .u32 0), (.int .u32 0), (.int .u32 0), (.int .u32 0), (.int .u32 0), (.int .u32 0), (.int .u32 0), (.int .u32 0), (.int .u32 0), (.int .u32 0), (.int .u32 0), (.int .u32 0), (.int .u32 0), (.int .u32 0), (.int .u32 0), (.int .u32 0), (.int .u32 0), (.int .u32 0), (.int .u32 0), (.int .u32 0), (.int .u32 0), (.int .u32 0), (.int .u32 0), (.int .u32 0), (.int .u32 0), (.int .u32 0), (.int .u32 0), (.int .u32 0), (.int .u32 0), (.int .u32 0), (.int .u32 0), (.int .u32 0), (.int .u32 0), (.int .u32 0), (.int .u32 0), (.int .u32 0), (.int .u32 0), (.int .u32 0), (.int .u32 0), (.int .u32 0), (.int .u32 0), (.int .u32 0), (.int .u32 0), (.int .u32 0), (.int .u32 0), (.int .u32 0), (.int .u32 0), (.int .u32 0), (.int .u32 0), (.int .u32 0), (.int .u32 0), (.int .u32 0), (.int .u32 0), (.int .u32 0), (.int .u32 0), (.int .u32 0), (.int .u32 0), (.int .u32 0), (.int .u32 0), (.int .u32 0), (.int .u32 0), (.int .u32 0), (.int .u32 0), (.int .u32 0), (.int .u32 0), (.int .u32 0), (.int .u32 0), (.int .u32 0), (.int .u32 0), (.int .u32 0), (.int .u32 0), (.int .u32 0), (.int .u32 0)]))) fun v0 h1 =>
 K0 v0 h1 := by kernel_rfl
/-- (*apogee/crc.Table).Row16 -/
theorem r16 (C : Cb) (d : Nat) (a0 : AV) (a1 : Int) (n0 : Nat) (H0 : Heap) (K0 : AV → Heap → Ans) : xmeth C M unr d (n0 + 8) 16 [a0, (iz a1)] H0 K0 =
 C.hop H0 (.eqv false 1 [] (.v a0) (.v .nilp)) fun v0 h1 =>
 C.bool (some v0) fun b2 =>
 cnd b2
 (K0 (.int .u16 0) h1)
 (cnd (decide (a1 < 0))
 (K0 (.int .u16 0) h1)
 (cnd (decide (a1 ≥ 256))
 (K0 (.int .u16 0) h1)
 (C.hop h1 (.nilck (.v a0)) fun v3 h4 =>
 C.hop h4 (.fldA 0 (.v v3)) fun v5 h6 =>
 C.cal M (pcall M d) (n0 + 8) true 25 [v5, (.fn 26 [a0] [])] h6 fun v7 h8 =>
 C.tup 0 (some v7) fun l9 =>
 C.hop h8 (.nilck (.v a0)) fun v10 h11 =>
 C.hop h11 (.fldA 4 (.v v10)) fun v12 h13 =>
 C.hop h13 (.ixAA 256 1 (.v v12) (.v (iz a1))) fun v14 h15 =>
 C.hop h15 (.load false 1 (.v v14)) fun v16 h17 =>
 C.int .u16 (some v16) fun x18 =>
 K0 (.int .u16 x18) h17))) := by kernel_rfl
/-- (*apogee/crc.Table).Row32 -/
theorem r17 (C : Cb) (d : Nat) (a0 : AV) (a1 : Int) (n0 : Nat) (H0 : Heap) (K0 : AV → Heap → Ans) : xmeth C M unr d (n0 + 8) 17 [a0, (iz a1)] H0 K0 =
 C.hop H0 (.eqv false 1 [] (.v a0) (.v .nilp)) fun v0 h1 =>
 C.bool (some v0) fun b2 =>
 cnd b2
 (K0 (.int .u32 0) h1)
 (cnd (decide (a1 < 0))
 (K0 (.int .u32 0) h1)
 (cnd (decide (a1 ≥ 256))
 (K0 (.int .u32 0) h1)
 (C.hop h1 (.nilck (.v a0)) fun v3 h4 =>
 C.hop h4 (.fldA 0 (.v v3)) fun v5 h6 =>
 C.cal M (pcall M d) (n0 + 8) true 25 [v5, (.fn 26 [a0] [])] h6 fun v7 h8 =>
 C.tup 0 (some v7) fun l9 =>
 C.hop h8 (.nilck (.v a0)) fun v10 h11 =>
 C.hop h11 (.fldA 260 (.v v10)) fun v12 h13 =>
 C.hop h13 (.ixAA 256 1 (.v v12) (.v (iz a1))) fun v14 h15 =>
 C.hop h15 (.load false 1 (.v v14)) fun v16 h17 =>
 C.int .u32 (some v16) fun x18 =>
 K0 (.int .u32 x18) h17))) := by kernel_rfl
/-- (*apogee/crc.Table).Made -/
theorem r20 (C : Cb) (d : Nat) (a0 : AV) (n0 : Nat) (H0 : Heap) (K0 : AV → Heap → Ans) : xmeth C M unr d (n0 + 8) 20 [a0] H0 K0 =
 C.hop H0 (.eqv false 1 [] (.v a0) (.v .nilp)) fun v0 h1 =>
 C.bool (some v0) fun b2 =>
 cnd b2
 (K0 (iz 0) h1)
 (C.hop h1 (.nilck (.v a0)) fun v3 h4 =>
 C.hop h4 (.fldA 3 (.v v3)) fun v5 h6 =>
 C.hop h6 (.nilck (.v v5)) fun v7 h8 =>
 C.hop h8 (.fldA 0 (.v v7)) fun v9 h10 =>
 C.hop h10 (.load false 1 (.v v9)) fun v11 h12 =>
 C.int .i64 (some v11) fun x13 =>
 K0 (iz x13) h12) := by kernel_rfl
def r21R0 (C : Cb) (d : Nat) (a0 : AV) (a1 : List UInt8) (K0 : AV → Heap → Ans) (v3 v5 v10 : AV) (x14 : Int) : St → (Ex → St → Ans) → Ans := fun s15 k16 =>
 cnd ((List.length s15.env) == 38)
 (C.same s15.env[0]? a0 <|
 C.same s15.env[1]? (.str a1) <|
 C.same s15.env[2]? tz <|
 C.same s15.env[3]? tz <|
 C.same s15.env[4]? (.int .u16 0) <|
 C.int .u16 s15.env[5]? fun x18 =>
 C.same s15.env[6]? tz <|
 C.any s15.env[7]? fun v19 =>
 C.same s15.env[8]? a0 <|
 C.same s15.env[9]? bf <|
 C.same s15.env[10]? a0 <|
 C.same s15.env[11]? v3 <|
 C.same s15.env[12]? v5 <|
 C.same s15.env[13]? a0 <|
 C.same s15.env[14]? (.fn 26 [a0] []) <|
 C.same s15.env[15]? tz <|
 C.same s15.env[16]? (.str a1) <|
 C.same s15.env[17]? v10 <|
 C.same s15.env[18]? (iz x14) <|
 C.int .i64 s15.env[19]? fun x20 =>
 C.any s15.env[20]? fun v21 =>
 C.any s15.env[21]? fun v22 =>
 C.any s15.env[22]? fun v23 =>
 C.any s15.env[23]? fun v24 =>
 C.any s15.env[24]? fun v25 =>
 C.any s15.env[25]? fun v26 =>
 C.any s15.env[26]? fun v27 =>
 C.any s15.env[27]? fun v28 =>
 C.any s15.env[28]? fun v29 =>
 C.any s15.env[29]? fun v30 =>
 C.any s15.env[30]? fun v31 =>
 C.any s15.env[31]? fun v32 =>
 C.any s15.env[32]? fun v33 =>
 C.any s15.env[33]? fun v34 =>
 C.any s15.env[34]? fun v35 =>
 C.any s15.env[35]? fun v36 =>
 C.any s15.env[36]? fun v37 =>
 C.same s15.env[37]? tz <|
 cnd (decide (x20 < x14))
 (C.hop (St.H s15) (.ixAS .any 1 (.v v10) (.v (iz x20))) fun v38 h39 =>
 C.hop h39 (.load false 1 (.v v38)) fun v40 h41 =>
 C.int .u8 (some v40) fun x42 =>
 C.hop h41 (.nilck (.v a0)) fun v43 h44 =>
 C.hop h44 (.fldA 4 (.v v43)) fun v45 h46 =>
 C.hop h46 (.ixAA 256 1 (.v v45) (.v (.int .u8 (bits .xor .u8 (IntKind.wrap .u8 (Int.fdiv x18 (2 ^ (min (Int.toNat 8) 16)))) x42)))) fun v47 h48 =>
 C.hop h48 (.load false 1 (.v v47)) fun v49 h50 =>
 C.int .u16 (some v49) fun x51 =>
 k16 .normal ⟨[a0, (.str a1), tz, tz, (.int .u16 0), (.int .u16 (bits .xor .u16 (IntKind.wrap .u16 (x18 * (2 ^ (min (Int.toNat 8) 16)))) x51)), tz, (.int .u8 x42), a0, bf, a0, v3, v5, a0, (.fn 26 [a0] []), tz, (.str a1), v10, (iz x14), (iz (IntKind.wrap .i64 (x20 + 1))), bt, v38, (.int .u8 x42), (.int .u16 x18), (.int .u16 (IntKind.wrap .u16 (x18 * (2 ^ (min (Int.toNat 8) 16))))), a0, (.int .u16 x18), (.int .u16 (Int.fdiv x18 (2 ^ (min (Int.toNat 8) 16)))), (.int .u8 (IntKind.wrap .u8 (Int.fdiv x18 (2 ^ (min (Int.toNat 8) 16))))), (.int .u8 x42), (.int .u8 (bits .xor .u8 (IntKind.wrap .u8 (Int.fdiv x18 (2 ^ (min (Int.toNat 8) 16)))) x42)), v43, v45, v47, (.int .u16 x51), (.int .u16 (bits .xor .u16 (IntKind.wrap .u16 (x18 * (2 ^ (min (Int.toNat 8) 16)))) x51)), (iz (IntKind.wrap .i64 (x20 + 1))), tz], h50⟩)
 (k16 (.exit 0) ⟨[a0, (.str a1), tz, tz, (.int .u16 0), (.int .u16 x18), tz, v19, a0, bf, a0, v3, v5, a0, (.fn 26 [a0] []), tz, (.str a1), v10, (iz x14), (iz x20), bf, v22, v23, v24, v25, v26, v27, v28, v29, v30, v31, v32, v33, v34, v35, v36, v37, tz], (St.H s15)⟩))
 (none)
def r21X0_0 (C : Cb) (d : Nat) (a0 : AV) (a1 : List UInt8) (K0 : AV → Heap → Ans) (v3 v5 v10 : AV) (x14 : Int) : St → Ans := fun s52 =>
 cnd ((List.length s52.env) == 38)
 (C.same s52.env[0]? a0 <|
 C.same s52.env[1]? (.str a1) <|
 C.same s52.env[2]? tz <|
 C.same s52.env[3]? tz <|
 C.same s52.env[4]? (.int .u16 0) <|
 C.int .u16 s52.env[5]? fun x53 =>
 C.same s52.env[6]? tz <|
 C.any s52.env[7]? fun v54 =>
 C.same s52.env[8]? a0 <|
 C.same s52.env[9]? bf <|
 C.same s52.env[10]? a0 <|
 C.same s52.env[11]? v3 <|
 C.same s52.env[12]? v5 <|
 C.same s52.env[13]? a0 <|
 C.same s52.env[14]? (.fn 26 [a0] []) <|
 C.same s52.env[15]? tz <|
 C.same s52.env[16]? (.str a1) <|
 C.same s52.env[17]? v10 <|
 C.same s52.env[18]? (iz x14) <|
 C.int .i64 s52.env[19]? fun x55 =>
 C.any s52.env[20]? fun v56 =>
 C.any s52.env[21]? fun v57 =>
 C.any s52.env[22]? fun v58 =>
 C.any s52.env[23]? fun v59 =>
 C.any s52.env[24]? fun v60 =>
 C.any s52.env[25]? fun v61 =>
 C.any s52.env[26]? fun v62 =>
 C.any s52.env[27]? fun v63 =>
 C.any s52.env[28]? fun v64 =>
 C.any s52.env[29]? fun v65 =>
 C.any s52.env[30]? fun v66 =>
 C.any s52.env[31]? fun v67 =>
 C.any s52.env[32]? fun v68 =>
 C.any s52.env[33]? fun v69 =>
 C.any s52.env[34]? fun v70 =>
 C.any s52.env[35]? fun v71 =>
 C.any s52.env[36]? fun v72 =>
 C.same s52.env[37]? tz <|
 K0 (.int .u16 x53) (St.H s52))
 (none)
def r21E0 (C : Cb) (d : Nat) (a0 : AV) (a1 : List UInt8) (K0 : AV → Heap → Ans) (v3 v5 v10 : AV) (x14 : Int) : St → Ans := fun s17 =>
 cnd ((List.length s17.env) == 38)
 (C.same s17.env[0]? a0 <|
 C.same s17.env[1]? (.str a1) <|
 C.same s17.env[2]? tz <|
 C.same s17.env[3]? tz <|
 C.same s17.env[4]? (.int .u16 0) <|
 C.int .u16 s17.env[5]? fun x73 =>
 C.same s17.env[6]? tz <|
 C.any s17.env[7]? fun v74 =>
 C.same s17.env[8]? a0 <|
 C.same s17.env[9]? bf <|
 C.same s17.env[10]? a0 <|
 C.same s17.env[11]? v3 <|
 C.same s17.env[12]? v5 <|
 C.same s17.env[13]? a0 <|
 C.same s17.env[14]? (.fn 26 [a0] []) <|
 C.same s17.env[15]? tz <|
 C.same s17.env[16]? (.str a1) <|
 C.same s17.env[17]? v10 <|
 C.same s17.env[18]? (iz x14) <|
 C.int .i64 s17.env[19]? fun x75 =>
 C.any s17.env[20]? fun v76 =>
 C.any s17.env[21]? fun v77 =>
 C.any s17.env[22]? fun v78 =>
 C.any s17.env[23]? fun v79 =>
 C.any s17.env[24]? fun v80 =>
 C.any s17.env[25]? fun v81 =>
 C.any s17.env[26]? fun v82 =>
 C.any s17.env[27]? fun v83 =>
 C.any s17.env[28]? fun v84 =>
 C.any s17.env[29]? fun v85 =>
 C.any s17.env[30]? fun v86 =>
 C.any s17.env[31]? fun v87 =>
 C.any s17.env[32]? fun v88 =>
 C.any s17.env[33]? fun v89 =>
 C.any s17.env[34]? fun v90 =>
 C.any s17.env[35]? fun v91 =>
 C.any s17.env[36]? fun v92 =>
 C.same s17.env[37]? tz <|
 K0 (.int .u16 0) (St.H s17))
 (none)
/-- (*apogee/crc.Table).Sum16 -/
theorem r21 (C : Cb) (d : Nat) (a0 : AV) (a1 : List UInt8) (n0 : Nat) (H0 : Heap) (K0 : AV → Heap → Ans) : xmeth C M unr d (n0 + 8) 21 [a0, (.str a1)] H0 K0 =
 C.hop H0 (.eqv false 1 [] (.v a0) (.v .nilp)) fun v0 h1 =>
 C.bool (some v0) fun b2 =>
 cnd b2
 (K0 (.int .u16 0) h1)
 (C.hop h1 (.nilck (.v a0)) fun v3 h4 =>
 C.hop h4 (.fldA 0 (.v v3)) fun v5 h6 =>
 C.cal M (pcall M d) (n0 + 8) true 25 [v5, (.fn 26 [a0] [])] h6 fun v7 h8 =>
 C.tup 0 (some v7) fun l9 =>
 C.hop h8 (.s2b E5 (.v (.str a1))) fun v10 h11 =>
 C.hop h11 (.bk .lenV [(.v v10)]) fun v12 h13 =>
 C.int .i64 (some v12) fun x14 =>
 C.iter (r21R0 C d a0 a1 K0 v3 v5 v10 x14) 1000000000000000000 ⟨[a0, (.str a1), tz, tz, (.int .u16 0), (.int .u16 65535), tz, tz, a0, bf, a0, v3, v5, a0, (.fn 26 [a0] []), tz, (.str a1), v10, (iz x14), (iz 0), tz, tz, tz, tz, tz, tz, tz, tz, tz, tz, tz, tz, tz, tz, tz, tz, tz, tz], h13⟩ [0] [r21X0_0 C d a0 a1 K0 v3 v5 v10 x14] (r21E0 C d a0 a1 K0 v3 v5 v10 x14)) := by kernel_rfl
def r23R0 (C : Cb) (d : Nat) : St → (Ex → St → Ans) → Ans := fun s0 k1 =>
 cnd ((List.length s0.env) == 16)
 (C.int .u32 s0.env[0]? fun x3 =>
 C.same s0.env[1]? tz <|
 C.same s0.env[2]? (.int .u32 0) <|
 C.any s0.env[3]? fun v4 =>
 C.int .i64 s0.env[4]? fun x5 =>
 C.any s0.env[5]? fun v6 =>
 C.any s0.env[6]? fun v7 =>
 C.any s0.env[7]? fun v8 =>
 C.any s0.env[8]? fun v9 =>
 C.any s0.env[9]? fun v10 =>
 C.any s0.env[10]? fun v11 =>
 C.any s0.env[11]? fun v12 =>
 C.any s0.env[12]? fun v13 =>
 C.any s0.env[13]? fun v14 =>
 C.any s0.env[14]? fun v15 =>
 C.same s0.env[15]? tz <|
 C.sameH (St.H s0) [] <|
 cnd (decide (x5 < 8))
 (cnd ((bits .and .u32 x3 1) != 0)
 (k1 .normal ⟨[(.int .u32 (bits .xor .u32 (Int.fdiv x3 (2 ^ (min (Int.toNat 1) 32))) 3988292384)), tz, (.int .u32 0), (.bool ((bits .and .u32 x3 1) != 0)), (iz (IntKind.wrap .i64 (x5 + 1))), bt, (.int .u32 x3), (.int .u32 (bits .and .u32 x3 1)), (.bool ((bits .and .u32 x3 1) != 0)), (.int .u32 x3), (.int .u32 (Int.fdiv x3 (2 ^ (min (Int.toNat 1) 32)))), bt, (.int .u32 (Int.fdiv x3 (2 ^ (min (Int.toNat 1) 32)))), (.int .u32 (bits .xor .u32 (Int.fdiv x3 (2 ^ (min (Int.toNat 1) 32))) 3988292384)), (iz (IntKind.wrap .i64 (x5 + 1))), tz], []⟩)
 (k1 .normal ⟨[(.int .u32 (Int.fdiv x3 (2 ^ (min (Int.toNat 1) 32)))), tz, (.int .u32 0), (.bool ((bits .and .u32 x3 1) != 0)), (iz (IntKind.wrap .i64 (x5 + 1))), bt, (.int .u32 x3), (.int .u32 (bits .and .u32 x3 1)), (.bool ((bits .and .u32 x3 1) != 0)), (.int .u32 x3), (.int .u32 (Int.fdiv x3 (2 ^ (min (Int.toNat 1) 32)))), bf, v13, v14, (iz (IntKind.wrap .i64 (x5 + 1))), tz], []⟩))
 (k1 (.exit 0) ⟨[(.int .u32 x3), tz, (.int .u32 0), v4, (iz x5), bf, v7, v8, v9, v10, v11, v12, v13, v14, v15, tz], []⟩))
 (none)
def r23X0_0 (C : Cb) (d : Nat) : St → Ans := fun s16 =>
 cnd ((List.length s16.env) == 16)
 (C.int .u32 s16.env[0]? fun x17 =>
 C.same s16.env[1]? tz <|
 C.same s16.env[2]? (.int .u32 0) <|
 C.any s16.env[3]? fun v18 =>
 C.int .i64 s16.env[4]? fun x19 =>
 C.bool s16.env[5]? fun b20 =>
 C.any s16.env[6]? fun v21 =>
 C.any s16.env[7]? fun v22 =>
 C.any s16.env[8]? fun v23 =>
 C.any s16.env[9]? fun v24 =>
 C.any s16.env[10]? fun v25 =>
 C.any s16.env[11]? fun v26 =>
 C.any s16.env[12]? fun v27 =>
 C.any s16.env[13]? fun v28 =>
 C.any s16.env[14]? fun v29 =>
 C.same s16.env[15]? tz <|
 C.sameH (St.H s16) [] <|
 some (.int .u32 x17))
 (none)
def r23E0 (C : Cb) (d : Nat) : St → Ans := fun s2 =>
 cnd ((List.length s2.env) == 16)
 (C.int .u32 s2.env[0]? fun x30 =>
 C.same s2.env[1]? tz <|
 C.same s2.env[2]? (.int .u32 0) <|
 C.any s2.env[3]? fun v31 =>
 C.int .i64 s2.env[4]? fun x32 =>
 C.any s2.env[5]? fun v33 =>
 C.any s2.env[6]? fun v34 =>
 C.any s2.env[7]? fun v35 =>
 C.any s2.env[8]? fun v36 =>
 C.any s2.env[9]? fun v37 =>
 C.any s2.env[10]? fun v38 =>
 C.any s2.env[11]? fun v39 =>
 C.any s2.env[12]? fun v40 =>
 C.any s2.env[13]? fun v41 =>
 C.any s2.env[14]? fun v42 =>
 C.same s2.env[15]? tz <|
 C.sameH (St.H s2) [] <|
 some (.int .u32 0))
 (none)
/-- apogee/crc.step32 -/
theorem r23 (C : Cb) (d : Nat) (a0 : Int) : xcall C M unr d 23 [(.int .u32 a0)] =
 C.iter (r23R0 C d) 1000000000000000000 ⟨[(.int .u32 a0), tz, (.int .u32 0), tz, (iz 0), tz, tz, tz, tz, tz, tz, tz, tz, tz, tz, tz], []⟩ [0] [r23X0_0 C d] (r23E0 C d) := by kernel_rfl
def r24R0 (C : Cb) (d : Nat) : St → (Ex → St → Ans) → Ans := fun s0 k1 =>
 cnd ((List.length s0.env) == 16)
 (C.int .u16 s0.env[0]? fun x3 =>
 C.same s0.env[1]? tz <|
 C.same s0.env[2]? (.int .u16 0) <|
 C.any s0.env[3]? fun v4 =>
 C.int .i64 s0.env[4]? fun x5 =>
 C.any s0.env[5]? fun v6 =>
 C.any s0.env[6]? fun v7 =>
 C.any s0.env[7]? fun v8 =>
 C.any s0.env[8]? fun v9 =>
 C.any s0.env[9]? fun v10 =>
 C.any s0.env[10]? fun v11 =>
 C.any s0.env[11]? fun v12 =>
 C.any s0.env[12]? fun v13 =>
 C.any s0.env[13]? fun v14 =>
 C.any s0.env[14]? fun v15 =>
 C.same s0.env[15]? tz <|
 C.sameH (St.H s0) [] <|
 cnd (decide (x5 < 8))
 (cnd ((bits .and .u16 x3 32768) != 0)
 (k1 .normal ⟨[(.int .u16 (bits .xor .u16 (IntKind.wrap .u16 (x3 * (2 ^ (min (Int.toNat 1) 16)))) 4129)), tz, (.int .u16 0), (.bool ((bits .and .u16 x3 32768) != 0)), (iz (IntKind.wrap .i64 (x5 + 1))), bt, (.int .u16 x3), (.int .u16 (bits .and .u16 x3 32768)), (.bool ((bits .and .u16 x3 32768) != 0)), (.int .u16 x3), (.int .u16 (IntKind.wrap .u16 (x3 * (2 ^ (min (Int.toNat 1) 16))))), bt, (.int .u16 (IntKind.wrap .u16 (x3 * (2 ^ (min (Int.toNat 1) 16))))), (.int .u16 (bits .xor .u16 (IntKind.wrap .u16 (x3 * (2 ^ (min (Int.toNat 1) 16)))) 4129)), (iz (IntKind.wrap .i64 (x5 + 1))), tz], []⟩)
 (k1 .normal ⟨[(.int .u16 (IntKind.wrap .u16 (x3 * (2 ^ (min (Int.toNat 1) 16))))), tz, (.int .u16 0), (.bool ((bits .and .u16 x3 32768) != 0)), (iz (IntKind.wrap .i64 (x5 + 1))), bt, (.int .u16 x3), (.int .u16 (bits .and .u16 x3 32768)), (.bool ((bits .and .u16 x3 32768) != 0)), (.int .u16 x3), (.int .u16 (IntKind.wrap .u16 (x3 * (2 ^ (min (Int.toNat 1) 16))))), bf, v13, v14, (iz (IntKind.wrap .i64 (x5 + 1))), tz], []⟩))
 (k1 (.exit 0) ⟨[(.int .u16 x3), tz, (.int .u16 0), v4, (iz x5), bf, v7, v8, v9, v10, v11, v12, v13, v14, v15, tz], []⟩))
 (none)
def r24X0_0 (C : Cb) (d : Nat) : St → Ans := fun s16 =>
 cnd ((List.length s16.env) == 16)
 (C.int .u16 s16.env[0]? fun x17 =>
 C.same s16.env[1]? tz <|
 C.same s16.env[2]? (.int .u16 0) <|
 C.any s16.env[3]? fun v18 =>
 C.int .i64 s16.env[4]? fun x19 =>
 C.bool s16.env[5]? fun b20 =>
 C.any s16.env[6]? fun v21 =>
 C.any s16.env[7]? fun v22 =>
 C.any s16.env[8]? fun v23 =>
 C.any s16.env[9]? fun v24 =>
 C.any s16.env[10]? fun v25 =>
 C.any s16.env[11]? fun v26 =>
 C.any s16.env[12]? fun v27 =>
 C.any s16.env[13]? fun v28 =>
 C.any s16.env[14]? fun v29 =>
 C.same s16.env[15]? tz <|
 C.sameH (St.H s16) [] <|
 some (.int .u16 x17))
 (none)
def r24E0 (C : Cb) (d : Nat) : St → Ans := fun s2 =>
 cnd ((List.length s2.env) == 16)
 (C.int .u16 s2.env[0]? fun x30 =>
 C.same s2.env[1]? tz <|
 C.same s2.env[2]? (.int .u16 0) <|
 C.any s2.env[3]? fun v31 =>
 C.int .i64 s2.env[4]? fun x32 =>
 C.any s2.env[5]? fun v33 =>
 C.any s2.env[6]? fun v34 =>
 C.any s2.env[7]? fun v35 =>
 C.any s2.env[8]? fun v36 =>
 C.any s2.env[9]? fun v37 =>
 C.any s2.env[10]? fun v38 =>
 C.any s2.env[11]? fun v39 =>
 C.any s2.env[12]? fun v40 =>
 C.any s2.env[13]? fun v41 =>
 C.any s2.env[14]? fun v42 =>
 C.same s2.env[15]? tz <|
 C.sameH (St.H s2) [] <|
 some (.int .u16 0))
 (none)
/-- apogee/crc.step16 -/
theorem r24 (C : Cb) (d : Nat) (a0 : Int) : xcall C M unr d 24 [(.int .u16 a0)] =
 C.iter (r24R0 C d) 1000000000000000000 ⟨[(.int .u16 a0), tz, (.int .u16 0), tz, (iz 0), tz, tz, tz, tz, tz, tz, tz, tz, tz, tz, tz], []⟩ [0] [r24X0_0 C d] (r24E0 C d) := by kernel_rfl
/-- (*sync.Once).Do -/
theorem r25f26 (C : Cb) (d : Nat) (a0 a1 a2 : AV) (n0 : Nat) (H0 : Heap) (K0 : AV → Heap → Ans) : xmeth C M unr d (n0 + 8) 25 [a0, (.fn 26 [a2] [])] H0 K0 =
 C.hop H0 (.nilck (.v a0)) fun v0 h1 =>
 C.hop h1 (.fldA 0 (.v v0)) fun v2 h3 =>
 C.hop h3 (.nilck (.v v2)) fun v4 h5 =>
 C.hop h5 (.fldA 0 (.v v4)) fun v6 h7 =>
 C.hop h7 (.load false 1 (.v v6)) fun v8 h9 =>
 C.int .u32 (some v8) fun x10 =>
 cnd (!(x10 != 0))
 (C.hop h9 (.fldA 1 (.v a0)) fun v11 h12 =>
 C.hop h12 (.load false 1 (.v v11)) fun v13 h14 =>
 C.int .i32 (some v13) fun x15 =>
 C.hop h14 (.load false 1 (.v a0)) fun v16 h17 =>
 C.int .u32 (some v16) fun x18 =>
 cnd (x15 == 0)
 (cnd (x18 == 0)
 (C.hop h17 (.store 1 (.v v11) (.v (.int .i32 1))) fun v19 h20 =>
 C.cal M (pcall M d) (n0 + 7) true 26 [a2] h20 fun v21 h22 =>
 C.tup 0 (some v21) fun l23 =>
 C.hop h22 (.load false 1 (.v v11)) fun v24 h25 =>
 C.int .i32 (some v24) fun x26 =>
 cnd (x26 == 1)
 (C.hop h25 (.store 1 (.v a0) (.v (.int .u32 1))) fun v27 h28 =>
 C.hop h28 (.store 1 (.v v11) (.v (.int .i32 0))) fun v29 h30 =>
 K0 tz h30)
 (C.hop h25 (.nilck (.v .nilp)) fun v31 h32 =>
 C.hop h32 (.store 1 (.v a0) (.v (.int .u32 1))) fun v33 h34 =>
 C.hop h34 (.store 1 (.v v11) (.v (.int .i32 0))) fun v35 h36 =>
 K0 tz h36))
 (C.hop h17 (.nilck (.v .nilp)) fun v37 h38 =>
 C.hop h38 (.store 1 (.v v11) (.v (.int .i32 1))) fun v39 h40 =>
 C.cal M (pcall M d) (n0 + 7) true 26 [a2] h40 fun v41 h42 =>
 C.tup 0 (some v41) fun l43 =>
 C.hop h42 (.load false 1 (.v v11)) fun v44 h45 =>
 C.int .i32 (some v44) fun x46 =>
 cnd (x46 == 1)
 (C.hop h45 (.store 1 (.v a0) (.v (.int .u32 1))) fun v47 h48 =>
 C.hop h48 (.store 1 (.v v11) (.v (.int .i32 0))) fun v49 h50 =>
 K0 tz h50)
 (C.hop h45 (.nilck (.v .nilp)) fun v51 h52 =>
 C.hop h52 (.store 1 (.v a0) (.v (.int .u32 1))) fun v53 h54 =>
 C.hop h54 (.store 1 (.v v11) (.v (.int .i32 0))) fun v55 h56 =>
 K0 tz h56)))
 (C.hop h17 (.nilck (.v .nilp)) fun v57 h58 =>
 cnd (x18 == 0)
 (C.hop h58 (.store 1 (.v v11) (.v (.int .i32 1))) fun v59 h60 =>
 C.cal M (pcall M d) (n0 + 7) true 26 [a2] h60 fun v61 h62 =>
 C.tup 0 (some v61) fun l63 =>
 C.hop h62 (.load false 1 (.v v11)) fun v64 h65 =>
 C.int .i32 (some v64) fun x66 =>
 cnd (x66 == 1)
 (C.hop h65 (.store 1 (.v a0) (.v (.int .u32 1))) fun v67 h68 =>
 C.hop h68 (.store 1 (.v v11) (.v (.int .i32 0))) fun v69 h70 =>
 K0 tz h70)
 (C.hop h65 (.nilck (.v .nilp)) fun v71 h72 =>
 C.hop h72 (.store 1 (.v a0) (.v (.int .u32 1))) fun v73 h74 =>
 C.hop h74 (.store 1 (.v v11) (.v (.int .i32 0))) fun v75 h76 =>
 K0 tz h76))
 (C.hop h58 (.nilck (.v .nilp)) fun v77 h78 =>
 C.hop h78 (.store 1 (.v v11) (.v (.int .i32 1))) fun v79 h80 =>
 C.cal M (pcall M d) (n0 + 7) true 26 [a2] h80 fun v81 h82 =>
 C.tup 0 (some v81) fun l83 =>
 C.hop h82 (.load false 1 (.v v11)) fun v84 h85 =>
 C.int .i32 (some v84) fun x86 =>
 cnd (x86 == 1)
 (C.hop h85 (.store 1 (.v a0) (.v (.int .u32 1))) fun v87 h88 =>
 C.hop h88 (.store 1 (.v v11) (.v (.int .i32 0))) fun v89 h90 =>
 K0 tz h90)
 (C.hop h85 (.nilck (.v .nilp)) fun v91 h92 =>
 C.hop h92 (.store 1 (.v a0) (.v (.int .u32 1))) fun v93 h94 =>
 C.hop h94 (.store 1 (.v v11) (.v (.int .i32 0))) fun v95 h96 =>
 K0 tz h96))))
 (K0 tz h9) := by kernel_rfl
def r26R0 (C : Cb) (d : Nat) (a0 : AV) (K0 : AV → Heap → Ans) (v0 v2 : AV) (x10 : Int) : St → (Ex → St → Ans) → Ans := fun s13 k14 =>
 cnd ((List.length s13.env) == 28)
 (C.same s13.env[0]? a0 <|
 C.same s13.env[1]? tz <|
 C.any s13.env[2]? fun v16 =>
 C.same s13.env[3]? a0 <|
 C.same s13.env[4]? v0 <|
 C.same s13.env[5]? v2 <|
 C.same s13.env[6]? (iz (IntKind.wrap .i64 (x10 + 1))) <|
 C.int .i64 s13.env[7]? fun x17 =>
 C.any s13.env[8]? fun v18 =>
 C.any s13.env[9]? fun v19 =>
 C.any s13.env[10]? fun v20 =>
 C.any s13.env[11]? fun v21 =>
 C.any s13.env[12]? fun v22 =>
 C.any s13.env[13]? fun v23 =>
 C.any s13.env[14]? fun v24 =>
 C.any s13.env[15]? fun v25 =>
 C.any s13.env[16]? fun v26 =>
 C.any s13.env[17]? fun v27 =>
 C.any s13.env[18]? fun v28 =>
 C.any s13.env[19]? fun v29 =>
 C.any s13.env[20]? fun v30 =>
 C.any s13.env[21]? fun v31 =>
 C.any s13.env[22]? fun v32 =>
 C.any s13.env[23]? fun v33 =>
 C.any s13.env[24]? fun v34 =>
 C.any s13.env[25]? fun v35 =>
 C.any s13.env[26]? fun v36 =>
 C.any s13.env[27]? fun v37 =>
 cnd (decide (x17 < 256))
 (C.int .u16 (pcall M d 24 [(.int .u16 (IntKind.wrap .u16 ((IntKind.wrap .u16 x17) * (2 ^ (min (Int.toNat 8) 16)))))]) fun x38 =>
 C.int .u32 (pcall M d 23 [(.int .u32 (IntKind.wrap .u32 x17))]) fun x39 =>
 C.hop (St.H s13) (.nilck (.v a0)) fun v40 h41 =>
 C.hop h41 (.fldA 4 (.v v40)) fun v42 h43 =>
 C.hop h43 (.ixAA 256 1 (.v v42) (.v (iz x17))) fun v44 h45 =>
 C.hop h45 (.store 1 (.v v44) (.v (.int .u16 x38))) fun v46 h47 =>
 C.hop h47 (.nilck (.v a0)) fun v48 h49 =>
 C.hop h49 (.fldA 260 (.v v48)) fun v50 h51 =>
 C.hop h51 (.ixAA 256 1 (.v v50) (.v (iz x17))) fun v52 h53 =>
 C.hop h53 (.store 1 (.v v52) (.v (.int .u32 x39))) fun v54 h55 =>
 k14 .normal ⟨[a0, tz, (iz x17), a0, v0, v2, (iz (IntKind.wrap .i64 (x10 + 1))), (iz (IntKind.wrap .i64 (x17 + 1))), bt, (iz x17), a0, (iz x17), a0, (iz x17), (iz x17), (.int .u16 (IntKind.wrap .u16 x17)), (.int .u16 (IntKind.wrap .u16 ((IntKind.wrap .u16 x17) * (2 ^ (min (Int.toNat 8) 16))))), (.int .u16 x38), (iz x17), (.int .u32 (IntKind.wrap .u32 x17)), (.int .u32 x39), v40, v42, v44, v48, v50, v52, (iz (IntKind.wrap .i64 (x17 + 1)))], h55⟩)
 (k14 (.exit 0) ⟨[a0, tz, v16, a0, v0, v2, (iz (IntKind.wrap .i64 (x10 + 1))), (iz x17), bf, v19, v20, v21, v22, v23, v24, v25, v26, v27, v28, v29, v30, v31, v32, v33, v34, v35, v36, v37], (St.H s13)⟩))
 (none)
def r26X0_0 (C : Cb) (d : Nat) (a0 : AV) (K0 : AV → Heap → Ans) (v0 v2 : AV) (x10 : Int) : St → Ans := fun s56 =>
 cnd ((List.length s56.env) == 28)
 (C.same s56.env[0]? a0 <|
 C.same s56.env[1]? tz <|
 C.any s56.env[2]? fun v57 =>
 C.same s56.env[3]? a0 <|
 C.same s56.env[4]? v0 <|
 C.same s56.env[5]? v2 <|
 C.same s56.env[6]? (iz (IntKind.wrap .i64 (x10 + 1))) <|
 C.int .i64 s56.env[7]? fun x58 =>
 C.bool s56.env[8]? fun b59 =>
 C.any s56.env[9]? fun v60 =>
 C.any s56.env[10]? fun v61 =>
 C.any s56.env[11]? fun v62 =>
 C.any s56.env[12]? fun v63 =>
 C.any s56.env[13]? fun v64 =>
 C.any s56.env[14]? fun v65 =>
 C.any s56.env[15]? fun v66 =>
 C.any s56.env[16]? fun v67 =>
 C.any s56.env[17]? fun v68 =>
 C.any s56.env[18]? fun v69 =>
 C.any s56.env[19]? fun v70 =>
 C.any s56.env[20]? fun v71 =>
 C.any s56.env[21]? fun v72 =>
 C.any s56.env[22]? fun v73 =>
 C.any s56.env[23]? fun v74 =>
 C.any s56.env[24]? fun v75 =>
 C.any s56.env[25]? fun v76 =>
 C.any s56.env[26]? fun v77 =>
 C.any s56.env[27]? fun v78 =>
 K0 tz (St.H s56))
 (none)
def r26E0 (C : Cb) (d : Nat) (a0 : AV) (K0 : AV → Heap → Ans) (v0 v2 : AV) (x10 : Int) : St → Ans := fun s15 =>
 cnd ((List.length s15.env) == 28)
 (C.same s15.env[0]? a0 <|
 C.same s15.env[1]? tz <|
 C.any s15.env[2]? fun v79 =>
 C.same s15.env[3]? a0 <|
 C.same s15.env[4]? v0 <|
 C.same s15.env[5]? v2 <|
 C.same s15.env[6]? (iz (IntKind.wrap .i64 (x10 + 1))) <|
 C.int .i64 s15.env[7]? fun x80 =>
 C.any s15.env[8]? fun v81 =>
 C.any s15.env[9]? fun v82 =>
 C.any s15.env[10]? fun v83 =>
 C.any s15.env[11]? fun v84 =>
 C.any s15.env[12]? fun v85 =>
 C.any s15.env[13]? fun v86 =>
 C.any s15.env[14]? fun v87 =>
 C.any s15.env[15]? fun v88 =>
 C.any s15.env[16]? fun v89 =>
 C.any s15.env[17]? fun v90 =>
 C.any s15.env[18]? fun v91 =>
 C.any s15.env[19]? fun v92 =>
 C.any s15.env[20]? fun v93 =>
 C.any s15.env[21]? fun v94 =>
 C.any s15.env[22]? fun v95 =>
 C.any s15.env[23]? fun v96 =>
 C.any s15.env[24]? fun v97 =>
 C.any s15.env[25]? fun v98 =>
 C.any s15.env[26]? fun v99 =>
 C.any s15.env[27]? fun v100 =>
 K0 tz (St.H s15))
 (none)
/-- (*apogee/crc.Table).fill -/
theorem r26 (C : Cb) (d : Nat) (a0 : AV) (n0 : Nat) (H0 : Heap) (K0 : AV → Heap → Ans) : xmeth C M unr d (n0 + 8) 26 [a0] H0 K0 =
 C.hop H0 (.nilck (.v a0)) fun v0 h1 =>
 C.hop h1 (.fldA 3 (.v v0)) fun v2 h3 =>
 C.hop h3 (.nilck (.v v2)) fun v4 h5 =>
 C.hop h5 (.fldA 0 (.v v4)) fun v6 h7 =>
 C.hop h7 (.load false 1 (.v v6)) fun v8 h9 =>
 C.int .i64 (some v8) fun x10 =>
 C.hop h9 (.store 1 (.v v6) (.v (iz (IntKind.wrap .i64 (x10 + 1))))) fun v11 h12 =>
 C.iter (r26R0 C d a0 K0 v0 v2 x10) 1000000000000000000 ⟨[a0, tz, tz, a0, v0, v2, (iz (IntKind.wrap .i64 (x10 + 1))), (iz 0), tz, tz, tz, tz, tz, tz, tz, tz, tz, tz, tz, tz, tz, tz, tz, tz, tz, tz, tz, tz], h12⟩ [0] [r26X0_0 C d a0 K0 v0 v2 x10] (r26E0 C d a0 K0 v0 v2 x10) := by kernel_rfl
end Go.Proofs.Ytcegcmjkkflhhaa.AE

namespace Go.Proofs.Ytcegcmjkkflhhaa.AE
set_option linter.unusedVariables false
set_option linter.unusedSimpArgs false
set_option linter.constructorNameAsVariable false
open Go
set_option maxRecDepth 100000
set_option maxHeartbeats 0
noncomputable def X12_0_0 (d : Nat) (v0 : AV) (x4 x27 : Int) (H : Heap) : Ans :=
  C0.fin H (.int .u32 (bits .xor .u32 x27 4294967295))
theorem X12_0_0_ok (d : Nat) (a0 : List UInt8) (v0 : AV) (x4 x27 : Int) (v28 : AV) (x29 : Int) (v30 v31 v32 v33 v34 v35 v36 v37 v38 : AV) (H : Heap) : r12X0_0 C0 d a0 v0 x4 ⟨[(.str a0), tz, (.int .u32 0), (.int .u32 x27), tz, v28, (.str a0), v0, (iz x4), (iz x29), v30, v31, v32, v33, v34, v35, v36, v37, v38, tz, tz], H⟩ = X12_0_0 d v0 x4 x27 H := by
  unfold r12X0_0; refine Eq.trans (pl_len (by rfl)) ?_; (iterate 3 (refine yt yS ?_)); refine yt yI ?_; refine yt yS ?_; refine yt yA ?_; (iterate 3 (refine yt yS ?_)); refine yt yI ?_; (iterate 9 (refine yt yA ?_)); (iterate 2 (refine yt yS ?_))
  rfl
noncomputable def E12_0 (d : Nat) (v0 : AV) (x4 : Int) (H : Heap) : Ans :=
  C0.fin H (.int .u32 0)
theorem E12_0_ok (d : Nat) (a0 : List UInt8) (v0 : AV) (x4 x39 : Int) (v40 : AV) (x41 : Int) (v42 v43 v44 v45 v46 v47 v48 v49 v50 : AV) (H : Heap) : r12E0 C0 d a0 v0 x4 ⟨[(.str a0), tz, (.int .u32 0), (.int .u32 x39), tz, v40, (.str a0), v0, (iz x4), (iz x41), v42, v43, v44, v45, v46, v47, v48, v49, v50, tz, tz], H⟩ = E12_0 d v0 x4 H := by
  unfold r12E0; refine Eq.trans (pl_len (by rfl)) ?_; (iterate 3 (refine yt yS ?_)); refine yt yI ?_; refine yt yS ?_; refine yt yA ?_; (iterate 3 (refine yt yS ?_)); refine yt yI ?_; (iterate 9 (refine yt yA ?_)); (iterate 2 (refine yt yS ?_))
  rfl
noncomputable def L12_0 (d : Nat) (v0 : AV) (x4 : Int) : Nat → Int → Int → Heap → Ans
  | 0, _, _, _ => none
  | n + 1, x8, x10, H =>
  cnd (decide (x10 < x4))
   (C0.hop H (.ixAS .any 1 (.v v0) (.v (iz x10))) fun v20 h21 =>
   C0.hop h21 (.load false 1 (.v v20)) fun v22 h23 =>
   C0.int .u8 (some v22) fun x24 =>
   C0.int .u32 (pcall M d 23 [(.int .u32 (bits .xor .u32 x8 (IntKind.wrap .u32 x24)))]) fun x25 =>
   L12_0 d v0 x4 n x25 (IntKind.wrap .i64 (x10 + 1)) h23)
   (X12_0_0 d v0 x4 x8 H)
theorem L12_0_s (d : Nat) (v0 : AV) (x4 : Int) (n : Nat) (x8 x10 : Int) (H : Heap) : L12_0 d v0 x4 (n + 1) x8 x10 H = (cnd (decide (x10 < x4))
   (C0.hop H (.ixAS .any 1 (.v v0) (.v (iz x10))) fun v20 h21 =>
   C0.hop h21 (.load false 1 (.v v20)) fun v22 h23 =>
   C0.int .u8 (some v22) fun x24 =>
   C0.int .u32 (pcall M d 23 [(.int .u32 (bits .xor .u32 x8 (IntKind.wrap .u32 x24)))]) fun x25 =>
   L12_0 d v0 x4 n x25 (IntKind.wrap .i64 (x10 + 1)) h23)
   (X12_0_0 d v0 x4 x8 H)) := by kernel_rfl
theorem it12_0 (d : Nat) (a0 : List UInt8) (v0 : AV) (x4 : Int)   : ∀ (n : Nat) (x8 : Int) (v9 : AV) (x10 : Int) (v11 v12 v13 v14 v15 v16 v17 v18 v19 : AV) (H : Heap), C0.iter (r12R0 C0 d a0 v0 x4) n ⟨[(.str a0), tz, (.int .u32 0), (.int .u32 x8), tz, v9, (.str a0), v0, (iz x4), (iz x10), v11, v12, v13, v14, v15, v16, v17, v18, v19, tz, tz], H⟩ [0] [r12X0_0 C0 d a0 v0 x4] (r12E0 C0 d a0 v0 x4) = L12_0 d v0 x4 n x8 x10 H := by
  generalize hR : r12R0 C0 d a0 v0 x4 = R
  intro n
  induction n with
  | zero => intros; rfl
  | succ n ih =>
    intro x8 v9 x10 v11 v12 v13 v14 v15 v16 v17 v18 v19 H
    simp only [it_ret] at ih
    rw [it_ret, xiter_s]
    refine Eq.trans (congrFun (congrFun hR.symm _) _) ?_
    unfold r12R0
    refine Eq.trans (pl_len (by rfl)) ?_; (iterate 3 (refine yt yS ?_)); refine yt yI ?_; refine yt yS ?_; refine yt yA ?_; (iterate 3 (refine yt yS ?_)); refine yt yI ?_; (iterate 9 (refine yt yA ?_)); (iterate 2 (refine yt yS ?_))
    simp only [kIter_n, kIter_x, kIter_r, kOut_x, kOut_r, xgo_hit, xgo_miss, ih, X12_0_0_ok d a0 v0 x4  , E12_0_ok d a0 v0 x4  ]
    exact (L12_0_s d v0 x4 n x8 x10 H).symm
/-- apogee/crc.Sum32 -/
theorem q12 (d : Nat) (a0 : List UInt8) : xcall C0 M unr d 12 [(.str a0)] =
  C0.hop [] (.s2b E5 (.v (.str a0))) fun v0 h1 =>
  C0.hop h1 (.bk .lenV [(.v v0)]) fun v2 h3 =>
  C0.int .i64 (some v2) fun x4 =>
  L12_0 d v0 x4 1000000000000000000 4294967295 0 h3 := (r12 C0 d a0).trans (by simp only [it12_0])
noncomputable def X14_0_0 (d : Nat) (v0 : AV) (x4 x28 : Int) (H : Heap) : Ans :=
  C0.fin H (.int .u16 x28)
theorem X14_0_0_ok (d : Nat) (a1 : List UInt8) (v0 : AV) (x4 x28 : Int) (v29 : AV) (x30 : Int) (v31 v32 v33 v34 v35 v36 v37 v38 v39 v40 : AV) (H : Heap) : r14X0_0 C0 d a1 v0 x4 ⟨[(.int .u16 x28), (.str a1), tz, tz, (.int .u16 0), tz, v29, (.str a1), v0, (iz x4), (iz x30), v31, v32, v33, v34, v35, v36, v37, v38, v39, v40, tz], H⟩ = X14_0_0 d v0 x4 x28 H := by
  unfold r14X0_0; refine Eq.trans (pl_len (by rfl)) ?_; refine yt yI ?_; (iterate 5 (refine yt yS ?_)); refine yt yA ?_; (iterate 3 (refine yt yS ?_)); refine yt yI ?_; (iterate 10 (refine yt yA ?_)); refine yt yS ?_
  rfl
noncomputable def E14_0 (d : Nat) (v0 : AV) (x4 : Int) (H : Heap) : Ans :=
  C0.fin H (.int .u16 0)
theorem E14_0_ok (d : Nat) (a1 : List UInt8) (v0 : AV) (x4 x41 : Int) (v42 : AV) (x43 : Int) (v44 v45 v46 v47 v48 v49 v50 v51 v52 v53 : AV) (H : Heap) : r14E0 C0 d a1 v0 x4 ⟨[(.int .u16 x41), (.str a1), tz, tz, (.int .u16 0), tz, v42, (.str a1), v0, (iz x4), (iz x43), v44, v45, v46, v47, v48, v49, v50, v51, v52, v53, tz], H⟩ = E14_0 d v0 x4 H := by
  unfold r14E0; refine Eq.trans (pl_len (by rfl)) ?_; refine yt yI ?_; (iterate 5 (refine yt yS ?_)); refine yt yA ?_; (iterate 3 (refine yt yS ?_)); refine yt yI ?_; (iterate 10 (refine yt yA ?_)); refine yt yS ?_
  rfl
noncomputable def L14_0 (d : Nat) (v0 : AV) (x4 : Int) : Nat → Int → Int → Heap → Ans
  | 0, _, _, _ => none
  | n + 1, x8, x10, H =>
  cnd (decide (x10 < x4))
   (C0.hop H (.ixAS .any 1 (.v v0) (.v (iz x10))) fun v21 h22 =>
   C0.hop h22 (.load false 1 (.v v21)) fun v23 h24 =>
   C0.int .u8 (some v23) fun x25 =>
   C0.int .u16 (pcall M d 24 [(.int .u16 (bits .xor .u16 x8 (IntKind.wrap .u16 ((IntKind.wrap .u16 x25) * (2 ^ (min (Int.toNat 8) 16))))))]) fun x26 =>
   L14_0 d v0 x4 n x26 (IntKind.wrap .i64 (x10 + 1)) h24)
   (X14_0_0 d v0 x4 x8 H)
theorem L14_0_s (d : Nat) (v0 : AV) (x4 : Int) (n : Nat) (x8 x10 : Int) (H : Heap) : L14_0 d v0 x4 (n + 1) x8 x10 H = (cnd (decide (x10 < x4))
   (C0.hop H (.ixAS .any 1 (.v v0) (.v (iz x10))) fun v21 h22 =>
   C0.hop h22 (.load false 1 (.v v21)) fun v23 h24 =>
   C0.int .u8 (some v23) fun x25 =>
   C0.int .u16 (pcall M d 24 [(.int .u16 (bits .xor .u16 x8 (IntKind.wrap .u16 ((IntKind.wrap .u16 x25) * (2 ^ (min (Int.toNat 8) 16))))))]) fun x26 =>
   L14_0 d v0 x4 n x26 (IntKind.wrap .i64 (x10 + 1)) h24)
   (X14_0_0 d v0 x4 x8 H)) := by kernel_rfl
theorem it14_0 (d : Nat) (a1 : List UInt8) (v0 : AV) (x4 : Int)   : ∀ (n : Nat) (x8 : Int) (v9 : AV) (x10 : Int) (v11 v12 v13 v14 v15 v16 v17 v18 v19 v20 : AV) (H : Heap), C0.iter (r14R0 C0 d a1 v0 x4) n ⟨[(.int .u16 x8), (.str a1), tz, tz, (.int .u16 0), tz, v9, (.str a1), v0, (iz x4), (iz x10), v11, v12, v13, v14, v15, v16, v17, v18, v19, v20, tz], H⟩ [0] [r14X0_0 C0 d a1 v0 x4] (r14E0 C0 d a1 v0 x4) = L14_0 d v0 x4 n x8 x10 H := by
  generalize hR : r14R0 C0 d a1 v0 x4 = R
  intro n
  induction n with
  | zero => intros; rfl
  | succ n ih =>
    intro x8 v9 x10 v11 v12 v13 v14 v15 v16 v17 v18 v19 v20 H
    simp only [it_ret] at ih
    rw [it_ret, xiter_s]
    refine Eq.trans (congrFun (congrFun hR.symm _) _) ?_
    unfold r14R0
    refine Eq.trans (pl_len (by rfl)) ?_; refine yt yI ?_; (iterate 5 (refine yt yS ?_)); refine yt yA ?_; (iterate 3 (refine yt yS ?_)); refine yt yI ?_; (iterate 10 (refine yt yA ?_)); refine yt yS ?_
    simp only [kIter_n, kIter_x, kIter_r, kOut_x, kOut_r, xgo_hit, xgo_miss, ih, X14_0_0_ok d a1 v0 x4  , E14_0_ok d a1 v0 x4  ]
    exact (L14_0_s d v0 x4 n x8 x10 H).symm
/-- apogee/crc.More16 -/
theorem q14 (d : Nat) (a0 : Int) (a1 : List UInt8) : xcall C0 M unr d 14 [(.int .u16 a0), (.str a1)] =
  C0.hop [] (.s2b E5 (.v (.str a1))) fun v0 h1 =>
  C0.hop h1 (.bk .lenV [(.v v0)]) fun v2 h3 =>
  C0.int .i64 (some v2) fun x4 =>
  L14_0 d v0 x4 1000000000000000000 a0 0 h3 := (r14 C0 d a0 a1).trans (by simp only [it14_0])
noncomputable def X21_0_0 (d : Nat) (a0 : AV) (K0 : AV → Heap → Ans) (v10 : AV) (x14 x53 : Int) (H : Heap) : Ans :=
  K0 (.int .u16 x53) H
theorem X21_0_0_ok (d : Nat) (a0 : AV) (a1 : List UInt8) (K0 : AV → Heap → Ans) (v3 v5 v10 : AV) (x14 x53 : Int) (v54 : AV) (x55 : Int) (v56 v57 v58 v59 v60 v61 v62 v63 v64 v65 v66 v67 v68 v69 v70 v71 v72 : AV) (H : Heap) : r21X0_0 C0 d a0 a1 K0 v3 v5 v10 x14 ⟨[a0, (.str a1), tz, tz, (.int .u16 0), (.int .u16 x53), tz, v54, a0, bf, a0, v3, v5, a0, (.fn 26 [a0] []), tz, (.str a1), v10, (iz x14), (iz x55), v56, v57, v58, v59, v60, v61, v62, v63, v64, v65, v66, v67, v68, v69, v70, v71, v72, tz], H⟩ = X21_0_0 d a0 K0 v10 x14 x53 H := by
  unfold r21X0_0; refine Eq.trans (pl_len (by rfl)) ?_; (iterate 5 (refine yt yS ?_)); refine yt yI ?_; refine yt yS ?_; refine yt yA ?_; (iterate 11 (refine yt yS ?_)); refine yt yI ?_; (iterate 17 (refine yt yA ?_)); refine yt yS ?_
  rfl
noncomputable def E21_0 (d : Nat) (a0 : AV) (K0 : AV → Heap → Ans) (v10 : AV) (x14 : Int) (H : Heap) : Ans :=
  K0 (.int .u16 0) H
theorem E21_0_ok (d : Nat) (a0 : AV) (a1 : List UInt8) (K0 : AV → Heap → Ans) (v3 v5 v10 : AV) (x14 x73 : Int) (v74 : AV) (x75 : Int) (v76 v77 v78 v79 v80 v81 v82 v83 v84 v85 v86 v87 v88 v89 v90 v91 v92 : AV) (H : Heap) : r21E0 C0 d a0 a1 K0 v3 v5 v10 x14 ⟨[a0, (.str a1), tz, tz, (.int .u16 0), (.int .u16 x73), tz, v74, a0, bf, a0, v3, v5, a0, (.fn 26 [a0] []), tz, (.str a1), v10, (iz x14), (iz x75), v76, v77, v78, v79, v80, v81, v82, v83, v84, v85, v86, v87, v88, v89, v90, v91, v92, tz], H⟩ = E21_0 d a0 K0 v10 x14 H := by
  unfold r21E0; refine Eq.trans (pl_len (by rfl)) ?_; (iterate 5 (refine yt yS ?_)); refine yt yI ?_; refine yt yS ?_; refine yt yA ?_; (iterate 11 (refine yt yS ?_)); refine yt yI ?_; (iterate 17 (refine yt yA ?_)); refine yt yS ?_
  rfl
noncomputable def L21_0 (d : Nat) (a0 : AV) (K0 : AV → Heap → Ans) (v10 : AV) (x14 : Int) : Nat → Int → Int → Heap → Ans
  | 0, _, _, _ => none
  | n + 1, x18, x20, H =>
  cnd (decide (x20 < x14))
   (C0.hop H (.ixAS .any 1 (.v v10) (.v (iz x20))) fun v38 h39 =>
   C0.hop h39 (.load false 1 (.v v38)) fun v40 h41 =>
   C0.int .u8 (some v40) fun x42 =>
   C0.hop h41 (.nilck (.v a0)) fun v43 h44 =>
   C0.hop h44 (.fldA 4 (.v v43)) fun v45 h46 =>
   C0.hop h46 (.ixAA 256 1 (.v v45) (.v (.int .u8 (bits .xor .u8 (IntKind.wrap .u8 (Int.fdiv x18 (2 ^ (min (Int.toNat 8) 16)))) x42)))) fun v47 h48 =>
   C0.hop h48 (.load false 1 (.v v47)) fun v49 h50 =>
   C0.int .u16 (some v49) fun x51 =>
   L21_0 d a0 K0 v10 x14 n (bits .xor .u16 (IntKind.wrap .u16 (x18 * (2 ^ (min (Int.toNat 8) 16)))) x51) (IntKind.wrap .i64 (x20 + 1)) h50)
   (X21_0_0 d a0 K0 v10 x14 x18 H)
theorem L21_0_s (d : Nat) (a0 : AV) (K0 : AV → Heap → Ans) (v10 : AV) (x14 : Int) (n : Nat) (x18 x20 : Int) (H : Heap) : L21_0 d a0 K0 v10 x14 (n + 1) x18 x20 H = (cnd (decide (x20 < x14))
   (C0.hop H (.ixAS .any 1 (.v v10) (.v (iz x20))) fun v38 h39 =>
   C0.hop h39 (.load false 1 (.v v38)) fun v40 h41 =>
   C0.int .u8 (some v40) fun x42 =>
   C0.hop h41 (.nilck (.v a0)) fun v43 h44 =>
   C0.hop h44 (.fldA 4 (.v v43)) fun v45 h46 =>
   C0.hop h46 (.ixAA 256 1 (.v v45) (.v (.int .u8 (bits .xor .u8 (IntKind.wrap .u8 (Int.fdiv x18 (2 ^ (min (Int.toNat 8) 16)))) x42)))) fun v47 h48 =>
   C0.hop h48 (.load false 1 (.v v47)) fun v49 h50 =>
   C0.int .u16 (some v49) fun x51 =>
   L21_0 d a0 K0 v10 x14 n (bits .xor .u16 (IntKind.wrap .u16 (x18 * (2 ^ (min (Int.toNat 8) 16)))) x51) (IntKind.wrap .i64 (x20 + 1)) h50)
   (X21_0_0 d a0 K0 v10 x14 x18 H)) := by kernel_rfl
theorem it21_0 (d : Nat) (a0 : AV) (a1 : List UInt8) (K0 : AV → Heap → Ans) (v3 v5 v10 : AV) (x14 : Int)   : ∀ (n : Nat) (x18 : Int) (v19 : AV) (x20 : Int) (v21 v22 v23 v24 v25 v26 v27 v28 v29 v30 v31 v32 v33 v34 v35 v36 v37 : AV) (H : Heap), C0.iter (r21R0 C0 d a0 a1 K0 v3 v5 v10 x14) n ⟨[a0, (.str a1), tz, tz, (.int .u16 0), (.int .u16 x18), tz, v19, a0, bf, a0, v3, v5, a0, (.fn 26 [a0] []), tz, (.str a1), v10, (iz x14), (iz x20), v21, v22, v23, v24, v25, v26, v27, v28, v29, v30, v31, v32, v33, v34, v35, v36, v37, tz], H⟩ [0] [r21X0_0 C0 d a0 a1 K0 v3 v5 v10 x14] (r21E0 C0 d a0 a1 K0 v3 v5 v10 x14) = L21_0 d a0 K0 v10 x14 n x18 x20 H := by
  generalize hR : r21R0 C0 d a0 a1 K0 v3 v5 v10 x14 = R
  intro n
  induction n with
  | zero => intros; rfl
  | succ n ih =>
    intro x18 v19 x20 v21 v22 v23 v24 v25 v26 v27 v28 v29 v30 v31 v32 v33 v34 v35 v36 v37 H
    simp only [it_ret] at ih
    rw [it_ret, xiter_s]
    refine Eq.trans (congrFun (congrFun hR.symm _) _) ?_
    unfold r21R0
    refine Eq.trans (pl_len (by rfl)) ?_; (iterate 5 (refine yt yS ?_)); refine yt yI ?_; refine yt yS ?_; refine yt yA ?_; (iterate 11 (refine yt yS ?_)); refine yt yI ?_; (iterate 17 (refine yt yA ?_)); refine yt yS ?_
    simp only [kIter_n, kIter_x, kIter_r, kOut_x, kOut_r, xgo_hit, xgo_miss, ih, X21_0_0_ok d a0 a1 K0 v3 v5 v10 x14  , E21_0_ok d a0 a1 K0 v3 v5 v10 x14  ]
    exact (L21_0_s d a0 K0 v10 x14 n x18 x20 H).symm
/-- (*apogee/crc.Table).Sum16 -/
theorem q21 (d : Nat) (a0 : AV) (a1 : List UInt8) (n0 : Nat) (H0 : Heap) (K0 : AV → Heap → Ans) : xmeth C0 M unr d (n0 + 8) 21 [a0, (.str a1)] H0 K0 =
  C0.hop H0 (.eqv false 1 [] (.v a0) (.v .nilp)) fun v0 h1 =>
  C0.bool (some v0) fun b2 =>
  cnd b2
   (K0 (.int .u16 0) h1)
   (C0.hop h1 (.nilck (.v a0)) fun v3 h4 =>
   C0.hop h4 (.fldA 0 (.v v3)) fun v5 h6 =>
   C0.cal M (pcall M d) (n0 + 8) true 25 [v5, (.fn 26 [a0] [])] h6 fun v7 h8 =>
   C0.tup 0 (some v7) fun l9 =>
   C0.hop h8 (.s2b E5 (.v (.str a1))) fun v10 h11 =>
   C0.hop h11 (.bk .lenV [(.v v10)]) fun v12 h13 =>
   C0.int .i64 (some v12) fun x14 =>
   L21_0 d a0 K0 v10 x14 1000000000000000000 65535 0 h13) := (r21 C0 d a0 a1 n0 H0 K0).trans (by simp only [it21_0])
noncomputable def X23_0_0 (d : Nat)  (x17 : Int) : Ans :=
  some (.int .u32 x17)
theorem X23_0_0_ok (d : Nat)    (x17 : Int) (v18 : AV) (x19 : Int) (b20 : Bool) (v21 v22 v23 v24 v25 v26 v27 v28 v29 : AV) : r23X0_0 C0 d  ⟨[(.int .u32 x17), tz, (.int .u32 0), v18, (iz x19), (.bool b20), v21, v22, v23, v24, v25, v26, v27, v28, v29, tz], []⟩ = X23_0_0 d  x17 := by
  unfold r23X0_0; refine Eq.trans (pl_len (by rfl)) ?_; refine yt yI ?_; (iterate 2 (refine yt yS ?_)); refine yt yA ?_; refine yt yI ?_; refine yt yB ?_; (iterate 9 (refine yt yA ?_)); refine yt yS ?_; refine Eq.trans (pl_sameH) ?_
  rfl
noncomputable def E23_0 (d : Nat)   : Ans :=
  some (.int .u32 0)
theorem E23_0_ok (d : Nat)    (x30 : Int) (v31 : AV) (x32 : Int) (v33 v34 v35 v36 v37 v38 v39 v40 v41 v42 : AV) : r23E0 C0 d  ⟨[(.int .u32 x30), tz, (.int .u32 0), v31, (iz x32), v33, v34, v35, v36, v37, v38, v39, v40, v41, v42, tz], []⟩ = E23_0 d   := by
  unfold r23E0; refine Eq.trans (pl_len (by rfl)) ?_; refine yt yI ?_; (iterate 2 (refine yt yS ?_)); refine yt yA ?_; refine yt yI ?_; (iterate 10 (refine yt yA ?_)); refine yt yS ?_; refine Eq.trans (pl_sameH) ?_
  rfl
noncomputable def L23_0 (d : Nat)  : Nat → Int → Int → Ans
  | 0, _, _ => none
  | n + 1, x3, x5 =>
  cnd (decide (x5 < 8))
   (cnd ((bits .and .u32 x3 1) != 0)
   (L23_0 d n (bits .xor .u32 (Int.fdiv x3 (2 ^ (min (Int.toNat 1) 32))) 3988292384) (IntKind.wrap .i64 (x5 + 1)))
   (L23_0 d n (Int.fdiv x3 (2 ^ (min (Int.toNat 1) 32))) (IntKind.wrap .i64 (x5 + 1))))
   (X23_0_0 d x3)
theorem L23_0_s (d : Nat)  (n : Nat) (x3 x5 : Int) : L23_0 d  (n + 1) x3 x5 = (cnd (decide (x5 < 8))
   (cnd ((bits .and .u32 x3 1) != 0)
   (L23_0 d n (bits .xor .u32 (Int.fdiv x3 (2 ^ (min (Int.toNat 1) 32))) 3988292384) (IntKind.wrap .i64 (x5 + 1)))
   (L23_0 d n (Int.fdiv x3 (2 ^ (min (Int.toNat 1) 32))) (IntKind.wrap .i64 (x5 + 1))))
   (X23_0_0 d x3)) := by kernel_rfl
theorem it23_0 (d : Nat)    : ∀ (n : Nat) (x3 : Int) (v4 : AV) (x5 : Int) (v6 v7 v8 v9 v10 v11 v12 v13 v14 v15 : AV), C0.iter (r23R0 C0 d ) n ⟨[(.int .u32 x3), tz, (.int .u32 0), v4, (iz x5), v6, v7, v8, v9, v10, v11, v12, v13, v14, v15, tz], []⟩ [0] [r23X0_0 C0 d ] (r23E0 C0 d ) = L23_0 d  n x3 x5 := by
  generalize hR : r23R0 C0 d  = R
  intro n
  induction n with
  | zero => intros; rfl
  | succ n ih =>
    intro x3 v4 x5 v6 v7 v8 v9 v10 v11 v12 v13 v14 v15
    simp only [it_ret] at ih
    rw [it_ret, xiter_s]
    refine Eq.trans (congrFun (congrFun hR.symm _) _) ?_
    unfold r23R0
    refine Eq.trans (pl_len (by rfl)) ?_; refine yt yI ?_; (iterate 2 (refine yt yS ?_)); refine yt yA ?_; refine yt yI ?_; (iterate 10 (refine yt yA ?_)); refine yt yS ?_; refine Eq.trans (pl_sameH) ?_
    simp only [kIter_n, kIter_x, kIter_r, kOut_x, kOut_r, xgo_hit, xgo_miss, ih, X23_0_0_ok d   , E23_0_ok d   ]
    exact (L23_0_s d  n x3 x5).symm
/-- apogee/crc.step32 -/
theorem q23 (d : Nat) (a0 : Int) : xcall C0 M unr d 23 [(.int .u32 a0)] =
  L23_0 d 1000000000000000000 a0 0 := (r23 C0 d a0).trans (by simp only [it23_0])
noncomputable def X24_0_0 (d : Nat)  (x17 : Int) : Ans :=
  some (.int .u16 x17)
theorem X24_0_0_ok (d : Nat)    (x17 : Int) (v18 : AV) (x19 : Int) (b20 : Bool) (v21 v22 v23 v24 v25 v26 v27 v28 v29 : AV) : r24X0_0 C0 d  ⟨[(.int .u16 x17), tz, (.int .u16 0), v18, (iz x19), (.bool b20), v21, v22, v23, v24, v25, v26, v27, v28, v29, tz], []⟩ = X24_0_0 d  x17 := by
  unfold r24X0_0; refine Eq.trans (pl_len (by rfl)) ?_; refine yt yI ?_; (iterate 2 (refine yt yS ?_)); refine yt yA ?_; refine yt yI ?_; refine yt yB ?_; (iterate 9 (refine yt yA ?_)); refine yt yS ?_; refine Eq.trans (pl_sameH) ?_
  rfl
noncomputable def E24_0 (d : Nat)   : Ans :=
  some (.int .u16 0)
theorem E24_0_ok (d : Nat)    (x30 : Int) (v31 : AV) (x32 : Int) (v33 v34 v35 v36 v37 v38 v39 v40 v41 v42 : AV) : r24E0 C0 d  ⟨[(.int .u16 x30), tz, (.int .u16 0), v31, (iz x32), v33, v34, v35, v36, v37, v38, v39, v40, v41, v42, tz], []⟩ = E24_0 d   := by
  unfold r24E0; refine Eq.trans (pl_len (by rfl)) ?_; refine yt yI ?_; (iterate 2 (refine yt yS ?_)); refine yt yA ?_; refine yt yI ?_; (iterate 10 (refine yt yA ?_)); refine yt yS ?_; refine Eq.trans (pl_sameH) ?_
  rfl
noncomputable def L24_0 (d : Nat)  : Nat → Int → Int → Ans
  | 0, _, _ => none
  | n + 1, x3, x5 =>
  cnd (decide (x5 < 8))
   (cnd ((bits .and .u16 x3 32768) != 0)
   (L24_0 d n (bits .xor .u16 (IntKind.wrap .u16 (x3 * (2 ^ (min (Int.toNat 1) 16)))) 4129) (IntKind.wrap .i64 (x5 + 1)))
   (L24_0 d n (IntKind.wrap .u16 (x3 * (2 ^ (min (Int.toNat 1) 16)))) (IntKind.wrap .i64 (x5 + 1))))
   (X24_0_0 d x3)
theorem L24_0_s (d : Nat)  (n : Nat) (x3 x5 : Int) : L24_0 d  (n + 1) x3 x5 = (cnd (decide (x5 < 8))
   (cnd ((bits .and .u16 x3 32768) != 0)
   (L24_0 d n (bits .xor .u16 (IntKind.wrap .u16 (x3 * (2 ^ (min (Int.toNat 1) 16)))) 4129) (IntKind.wrap .i64 (x5 + 1)))
   (L24_0 d n (IntKind.wrap .u16 (x3 * (2 ^ (min (Int.toNat 1) 16)))) (IntKind.wrap .i64 (x5 + 1))))
   (X24_0_0 d x3)) := by kernel_rfl
theorem it24_0 (d : Nat)    : ∀ (n : Nat) (x3 : Int) (v4 : AV) (x5 : Int) (v6 v7 v8 v9 v10 v11 v12 v13 v14 v15 : AV), C0.iter (r24R0 C0 d ) n ⟨[(.int .u16 x3), tz, (.int .u16 0), v4, (iz x5), v6, v7, v8, v9, v10, v11, v12, v13, v14, v15, tz], []⟩ [0] [r24X0_0 C0 d ] (r24E0 C0 d ) = L24_0 d  n x3 x5 := by
  generalize hR : r24R0 C0 d  = R
  intro n
  induction n with
  | zero => intros; rfl
  | succ n ih =>
    intro x3 v4 x5 v6 v7 v8 v9 v10 v11 v12 v13 v14 v15
    simp only [it_ret] at ih
    rw [it_ret, xiter_s]
    refine Eq.trans (congrFun (congrFun hR.symm _) _) ?_
    unfold r24R0
    refine Eq.trans (pl_len (by rfl)) ?_; refine yt yI ?_; (iterate 2 (refine yt yS ?_)); refine yt yA ?_; refine yt yI ?_; (iterate 10 (refine yt yA ?_)); refine yt yS ?_; refine Eq.trans (pl_sameH) ?_
    simp only [kIter_n, kIter_x, kIter_r, kOut_x, kOut_r, xgo_hit, xgo_miss, ih, X24_0_0_ok d   , E24_0_ok d   ]
    exact (L24_0_s d  n x3 x5).symm
/-- apogee/crc.step16 -/
theorem q24 (d : Nat) (a0 : Int) : xcall C0 M unr d 24 [(.int .u16 a0)] =
  L24_0 d 1000000000000000000 a0 0 := (r24 C0 d a0).trans (by simp only [it24_0])
noncomputable def X26_0_0 (d : Nat) (a0 : AV) (K0 : AV → Heap → Ans) (H : Heap) : Ans :=
  K0 tz H
theorem X26_0_0_ok (d : Nat) (a0 : AV) (K0 : AV → Heap → Ans) (v0 v2 : AV) (x10 : Int) (v57 : AV) (x58 : Int) (b59 : Bool) (v60 v61 v62 v63 v64 v65 v66 v67 v68 v69 v70 v71 v72 v73 v74 v75 v76 v77 v78 : AV) (H : Heap) : r26X0_0 C0 d a0 K0 v0 v2 x10 ⟨[a0, tz, v57, a0, v0, v2, (iz (IntKind.wrap .i64 (x10 + 1))), (iz x58), (.bool b59), v60, v61, v62, v63, v64, v65, v66, v67, v68, v69, v70, v71, v72, v73, v74, v75, v76, v77, v78], H⟩ = X26_0_0 d a0 K0 H := by
  unfold r26X0_0; refine Eq.trans (pl_len (by rfl)) ?_; (iterate 2 (refine yt yS ?_)); refine yt yA ?_; (iterate 4 (refine yt yS ?_)); refine yt yI ?_; refine yt yB ?_; (iterate 19 (refine yt yA ?_))
  rfl
noncomputable def E26_0 (d : Nat) (a0 : AV) (K0 : AV → Heap → Ans) (H : Heap) : Ans :=
  K0 tz H
theorem E26_0_ok (d : Nat) (a0 : AV) (K0 : AV → Heap → Ans) (v0 v2 : AV) (x10 : Int) (v79 : AV) (x80 : Int) (v81 v82 v83 v84 v85 v86 v87 v88 v89 v90 v91 v92 v93 v94 v95 v96 v97 v98 v99 v100 : AV) (H : Heap) : r26E0 C0 d a0 K0 v0 v2 x10 ⟨[a0, tz, v79, a0, v0, v2, (iz (IntKind.wrap .i64 (x10 + 1))), (iz x80), v81, v82, v83, v84, v85, v86, v87, v88, v89, v90, v91, v92, v93, v94, v95, v96, v97, v98, v99, v100], H⟩ = E26_0 d a0 K0 H := by
  unfold r26E0; refine Eq.trans (pl_len (by rfl)) ?_; (iterate 2 (refine yt yS ?_)); refine yt yA ?_; (iterate 4 (refine yt yS ?_)); refine yt yI ?_; (iterate 20 (refine yt yA ?_))
  rfl
noncomputable def L26_0 (d : Nat) (a0 : AV) (K0 : AV → Heap → Ans) : Nat → Int → Heap → Ans
  | 0, _, _ => none
  | n + 1, x17, H =>
  cnd (decide (x17 < 256))
   (C0.int .u16 (pcall M d 24 [(.int .u16 (IntKind.wrap .u16 ((IntKind.wrap .u16 x17) * (2 ^ (min (Int.toNat 8) 16)))))]) fun x38 =>
   C0.int .u32 (pcall M d 23 [(.int .u32 (IntKind.wrap .u32 x17))]) fun x39 =>
   C0.hop H (.nilck (.v a0)) fun v40 h41 =>
   C0.hop h41 (.fldA 4 (.v v40)) fun v42 h43 =>
   C0.hop h43 (.ixAA 256 1 (.v v42) (.v (iz x17))) fun v44 h45 =>
   C0.hop h45 (.store 1 (.v v44) (.v (.int .u16 x38))) fun v46 h47 =>
   C0.hop h47 (.nilck (.v a0)) fun v48 h49 =>
   C0.hop h49 (.fldA 260 (.v v48)) fun v50 h51 =>
   C0.hop h51 (.ixAA 256 1 (.v v50) (.v (iz x17))) fun v52 h53 =>
   C0.hop h53 (.store 1 (.v v52) (.v (.int .u32 x39))) fun v54 h55 =>
   L26_0 d a0 K0 n (IntKind.wrap .i64 (x17 + 1)) h55)
   (X26_0_0 d a0 K0 H)
theorem L26_0_s (d : Nat) (a0 : AV) (K0 : AV → Heap → Ans) (n : Nat) (x17 : Int) (H : Heap) : L26_0 d a0 K0 (n + 1) x17 H = (cnd (decide (x17 < 256))
   (C0.int .u16 (pcall M d 24 [(.int .u16 (IntKind.wrap .u16 ((IntKind.wrap .u16 x17) * (2 ^ (min (Int.toNat 8) 16)))))]) fun x38 =>
   C0.int .u32 (pcall M d 23 [(.int .u32 (IntKind.wrap .u32 x17))]) fun x39 =>
   C0.hop H (.nilck (.v a0)) fun v40 h41 =>
   C0.hop h41 (.fldA 4 (.v v40)) fun v42 h43 =>
   C0.hop h43 (.ixAA 256 1 (.v v42) (.v (iz x17))) fun v44 h45 =>
   C0.hop h45 (.store 1 (.v v44) (.v (.int .u16 x38))) fun v46 h47 =>
   C0.hop h47 (.nilck (.v a0)) fun v48 h49 =>
   C0.hop h49 (.fldA 260 (.v v48)) fun v50 h51 =>
   C0.hop h51 (.ixAA 256 1 (.v v50) (.v (iz x17))) fun v52 h53 =>
   C0.hop h53 (.store 1 (.v v52) (.v (.int .u32 x39))) fun v54 h55 =>
   L26_0 d a0 K0 n (IntKind.wrap .i64 (x17 + 1)) h55)
   (X26_0_0 d a0 K0 H)) := by kernel_rfl
theorem it26_0 (d : Nat) (a0 : AV) (K0 : AV → Heap → Ans) (v0 v2 : AV) (x10 : Int)   : ∀ (n : Nat) (v16 : AV) (x17 : Int) (v18 v19 v20 v21 v22 v23 v24 v25 v26 v27 v28 v29 v30 v31 v32 v33 v34 v35 v36 v37 : AV) (H : Heap), C0.iter (r26R0 C0 d a0 K0 v0 v2 x10) n ⟨[a0, tz, v16, a0, v0, v2, (iz (IntKind.wrap .i64 (x10 + 1))), (iz x17), v18, v19, v20, v21, v22, v23, v24, v25, v26, v27, v28, v29, v30, v31, v32, v33, v34, v35, v36, v37], H⟩ [0] [r26X0_0 C0 d a0 K0 v0 v2 x10] (r26E0 C0 d a0 K0 v0 v2 x10) = L26_0 d a0 K0 n x17 H := by
  generalize hR : r26R0 C0 d a0 K0 v0 v2 x10 = R
  intro n
  induction n with
  | zero => intros; rfl
  | succ n ih =>
    intro v16 x17 v18 v19 v20 v21 v22 v23 v24 v25 v26 v27 v28 v29 v30 v31 v32 v33 v34 v35 v36 v37 H
    simp only [it_ret] at ih
    rw [it_ret, xiter_s]
    refine Eq.trans (congrFun (congrFun hR.symm _) _) ?_
    unfold r26R0
    refine Eq.trans (pl_len (by rfl)) ?_; (iterate 2 (refine yt yS ?_)); refine yt yA ?_; (iterate 4 (refine yt yS ?_)); refine yt yI ?_; (iterate 20 (refine yt yA ?_))
    simp only [kIter_n, kIter_x, kIter_r, kOut_x, kOut_r, xgo_hit, xgo_miss, ih, X26_0_0_ok d a0 K0 v0 v2 x10  , E26_0_ok d a0 K0 v0 v2 x10  ]
    exact (L26_0_s d a0 K0 n x17 H).symm
/-- (*apogee/crc.Table).fill -/
theorem q26 (d : Nat) (a0 : AV) (n0 : Nat) (H0 : Heap) (K0 : AV → Heap → Ans) : xmeth C0 M unr d (n0 + 8) 26 [a0] H0 K0 =
  C0.hop H0 (.nilck (.v a0)) fun v0 h1 =>
  C0.hop h1 (.fldA 3 (.v v0)) fun v2 h3 =>
  C0.hop h3 (.nilck (.v v2)) fun v4 h5 =>
  C0.hop h5 (.fldA 0 (.v v4)) fun v6 h7 =>
  C0.hop h7 (.load false 1 (.v v6)) fun v8 h9 =>
  C0.int .i64 (some v8) fun x10 =>
  C0.hop h9 (.store 1 (.v v6) (.v (iz (IntKind.wrap .i64 (x10 + 1))))) fun v11 h12 =>
  L26_0 d a0 K0 1000000000000000000 0 h12 := (r26 C0 d a0 n0 H0 K0).trans (by simp only [it26_0])
end Go.Proofs.Ytcegcmjkkflhhaa.AE

namespace Go.Proofs.Ytcegcmjkkflhhaa.AE
set_option linter.unusedVariables false
set_option linter.unusedSimpArgs false
set_option linter.constructorNameAsVariable false
open Go Go.Proofs.Ytcegcmjkkflhhaa.Geo
attribute [local irreducible] pcall C0
set_option maxRecDepth 100000
/-- A word as a number. -/
abbrev w32 (x : BitVec 32) : Int := (x.toNat : Int)
theorem w32_and1 (x : BitVec 32) : (Go.bits .and .u32 (w32 x) 1 != 0) = x.getLsbD 0 := by
  rw [show (1 : Int) = w32 1#32 from rfl, u32_and, lsb]
  have : (x &&& 1#32).toNat = x.toNat % 2 := by rw [BitVec.toNat_and]; exact Nat.and_one_is_mod _
  rw [this]
  by_cases h : x.toNat % 2 = 1
  · rw [h, decide_eq_true rfl]; rfl
  · have h0 : x.toNat % 2 = 0 := by omega
    rw [h0, decide_eq_false (by omega)]; rfl
theorem w32_half (x : BitVec 32) : Int.fdiv (w32 x) (2 ^ (min (Int.toNat 1) 32)) = w32 (x >>> 1) := by
  show Int.fdiv (x.toNat : Int) _ = ((x >>> 1).toNat : Int)
  rw [shr1, show (2 ^ (min (Int.toNat 1) 32) : Int) = 2 from rfl, Int.fdiv_eq_ediv_of_nonneg _ (by decide)]
theorem w32_poly (x : BitVec 32) : Go.bits .xor .u32 (w32 x) 3988292384 = w32 (x ^^^ 0xedb88320#32) := u32_xor x 0xedb88320#32
theorem w32_all (x : BitVec 32) : Go.bits .xor .u32 (w32 x) 4294967295 = w32 (x ^^^ 0xffffffff#32) := u32_xor x 0xffffffff#32
theorem w32_byte (x : BitVec 32) (b : UInt8) : Go.bits .xor .u32 (w32 x) (IntKind.wrap .u32 (b.toNat : Int)) = w32 (x ^^^ b32 b) := by
  have hb := b.toNat_lt
  rw [u32w, show (b.toNat : Int) % 4294967296 = (b.toNat : Int) by omega, ← byte_nat, u32_xor]
theorem i64_up {i : Nat} (h : i < 9223372036854775807) : IntKind.wrap .i64 (((i : Nat) : Int) + 1) = ((i + 1 : Nat) : Int) := by rw [i64w]; omega
theorem step_go (d : Nat) : ∀ (k i : Nat), i + k = 8 → ∀ (x : BitVec 32) f, k < f → L23_0 d f (w32 x) (i : Nat) = some (.int .u32 (w32 (stN k x)))
  | 0, i, h, x, f + 1, _ => by
    rw [L23_0, decide_eq_false (by omega), cnd_f]; rfl
  | k + 1, i, h, x, f + 1, hf => by
    rw [L23_0, decide_eq_true (by omega), cnd_t, w32_and1, w32_half, w32_poly, i64_up (by omega)]
    rw [stN]
    have e : st x = bif x.getLsbD 0 then (x >>> 1) ^^^ 0xedb88320#32 else x >>> 1 := by
      unfold st; cases x.getLsbD 0 <;> simp
    rw [e]
    cases x.getLsbD 0
    · rw [cnd_f, cond_false]; exact step_go d k (i + 1) (by omega) _ f (by omega)
    · rw [cnd_t, cond_true]; exact step_go d k (i + 1) (by omega) _ f (by omega)
theorem s23 (d : Nat) (x : BitVec 32) : pcall M (d + 1) 23 [.int .u32 (w32 x)] = some (.int .u32 (w32 (stN 8 x))) := told (q23 d _) (step_go d 8 0 rfl x 1000000000000000000 (by omega))
theorem s2b_h {H : Heap} {e : ETy} {s : List UInt8} {K : AV → Heap → Ans} : C0.hop H (.s2b e (.v (.str s))) K = K (.slc H.length 0 s.length) (H ++ [some ⟨e, bytesAV s⟩]) := hop_eq rfl
theorem len_slc {H : Heap} {id o n : Nat} {b : Blk} {K : AV → Heap → Ans} (h : hget H id = some b) : C0.hop H (.bk .lenV [.v (.slc id o n)]) K = K (.int .i64 n) H := hop_eq (by simp [aop, evO, lenOf, h])
theorem bytes_at {s : List UInt8} {i : Nat} (h : i < s.length) : (bytesAV s)[i]? = some (.int .u8 (s[i].toNat : Int)) := by simp [bytesAV, List.getElem?_map, List.getElem?_eq_getElem h]
theorem sum_go (d : Nat) (s : List UInt8) (hl : s.length < 9223372036854775807) : ∀ (k i : Nat), i + k = s.length → ∀ (x : BitVec 32) f, k < f →
    L12_0 (d + 1) (.slc 0 0 s.length) (s.length : Nat) f (w32 x) (i : Nat) [some ⟨E5, bytesAV s⟩] = some (.int .u32 (w32 ((s.drop i).foldl byteF x ^^^ 0xffffffff#32)))
  | 0, i, h, x, f + 1, _ => by
    rw [L12_0, decide_eq_false (by omega), cnd_f, List.drop_of_length_le (by omega), List.foldl_nil]
    unfold X12_0_0
    rw [w32_all]
    exact f_free rfl
  | k + 1, i, h, x, f + 1, hf => by
    have hi : i < s.length := by omega
    rw [L12_0, decide_eq_true (by omega), cnd_t]
    refine Eq.trans (ix_slc (b := ⟨E5, bytesAV s⟩) rfl (by omega) (by omega) rfl) ?_
    refine Eq.trans (ld_ptr (b := ⟨E5, bytesAV s⟩) (v := .int .u8 (s[i].toNat : Int)) rfl (show (bytesAV s)[0 + ((i : Nat) : Int).toNat]? = _ by rw [show 0 + ((i : Nat) : Int).toNat = i by omega]; exact bytes_at hi) rfl) ?_
    refine Eq.trans (pl_int rfl) ?_
    rw [w32_byte]
    refine Eq.trans (pl_int (s23 d _)) ?_
    rw [i64_up (by omega), List.drop_eq_getElem_cons hi, List.foldl_cons]
    exact sum_go d s hl k (i + 1) (by omega) _ f (by omega)
theorem s12 (d : Nat) (s : List UInt8) (hl : s.length < 1000000000000000000) : pcall M (d + 2) 12 [.str s] = some (.int .u32 (w32 (crcF s))) := told (q12 (d + 1) _) (by
  refine Eq.trans s2b_h ?_
  refine Eq.trans (len_slc (b := ⟨E5, bytesAV s⟩) rfl) ?_
  refine Eq.trans (pl_int rfl) ?_
  exact sum_go d s (by omega) s.length 0 (by omega) 0xffffffff#32 1000000000000000000 (by omega))
end Go.Proofs.Ytcegcmjkkflhhaa.AE

namespace Go.Proofs.Ytcegcmjkkflhhaa.Geo
set_option linter.unusedVariables false
/-- A step of the sum of 16 bits. -/
def sh (x : BitVec 16) : BitVec 16 := (x <<< 1) ^^^ (bif x.getLsbD 15 then 0x1021#16 else 0#16)
theorem xlh (x y z : BitVec 16) : x ^^^ (y ^^^ z) = y ^^^ (x ^^^ z) := by rw [← BitVec.xor_assoc, BitVec.xor_comm x y, BitVec.xor_assoc]
theorem sh_xor (x y : BitVec 16) : sh (x ^^^ y) = sh x ^^^ sh y := by
  unfold sh
  rw [BitVec.shiftLeft_xor_distrib, BitVec.getLsbD_xor]
  cases x.getLsbD 15 <;> cases y.getLsbD 15 <;> simp [BitVec.xor_assoc, BitVec.xor_comm, xlh]
theorem sh_zero : sh 0#16 = 0#16 := by decide
theorem sh_inj {x : BitVec 16} (h : sh x = 0#16) : x = 0#16 := by
  unfold sh at h
  cases hb : x.getLsbD 15
  · rw [hb, cond_false, BitVec.xor_zero] at h
    apply BitVec.eq_of_getLsbD_eq
    intro i hi
    by_cases h15 : i = 15
    · subst h15; rw [hb]; rfl
    · have := congrArg (fun v => v.getLsbD (i + 1)) h
      simp only [BitVec.getLsbD_shiftLeft] at this
      have e1 : decide (i + 1 < 16) = true := by rw [decide_eq_true_iff]; omega
      have e2 : decide (i + 1 < 1) = false := by rw [decide_eq_false_iff_not]; omega
      rw [e1, e2] at this
      simpa using this
  · rw [hb, cond_true] at h
    have := congrArg (fun v => v.getLsbD 0) h
    simp only [BitVec.getLsbD_xor, BitVec.getLsbD_shiftLeft] at this
    simp at this
def shN : Nat → BitVec 16 → BitVec 16
  | 0, x => x
  | n + 1, x => shN n (sh x)
theorem shN_xor : ∀ (n : Nat) (x y : BitVec 16), shN n (x ^^^ y) = shN n x ^^^ shN n y
  | 0, x, y => rfl
  | n + 1, x, y => by simp only [shN, sh_xor, shN_xor n]
theorem shN_succ : ∀ (n : Nat) (x : BitVec 16), shN (n + 1) x = sh (shN n x)
  | 0, x => rfl
  | n + 1, x => by rw [shN, shN_succ n (sh x)]; rfl
theorem shN_inj : ∀ (n : Nat) {x : BitVec 16}, shN n x = 0#16 → x = 0#16
  | 0, x, h => h
  | n + 1, x, h => sh_inj (shN_inj n h)
theorem shN_zero : ∀ n : Nat, shN n 0#16 = 0#16
  | 0 => rfl
  | n + 1 => by rw [shN, sh_zero, shN_zero n]
def b16 (b : UInt8) : BitVec 16 := b.toBitVec.setWidth 16
def byteH (x : BitVec 16) (b : UInt8) : BitVec 16 := shN 8 (x ^^^ (b16 b <<< 8))
def moreH (x : BitVec 16) (s : List UInt8) : BitVec 16 := s.foldl byteH x
def sumH (s : List UInt8) : BitVec 16 := moreH 0xffff#16 s
theorem up16 : ∀ b : Fin 256, shN 8 (BitVec.ofNat 16 b.val) = BitVec.ofNat 16 (b.val * 256) := by decide +kernel
end Go.Proofs.Ytcegcmjkkflhhaa.Geo

namespace Go.Proofs.Ytcegcmjkkflhhaa.AE
set_option linter.unusedVariables false
set_option linter.unusedSimpArgs false
set_option linter.constructorNameAsVariable false
open Go Go.Proofs.Ytcegcmjkkflhhaa.Geo
attribute [local irreducible] pcall C0
set_option maxRecDepth 100000
abbrev w16 (x : BitVec 16) : Int := (x.toNat : Int)
theorem ofInt16 (x : BitVec 16) : BitVec.ofInt 16 (x.toNat : Int) = x := by
  apply BitVec.eq_of_toNat_eq
  rw [BitVec.toNat_ofInt]
  have := x.isLt
  omega
theorem u16w (n : Int) : IntKind.u16.wrap n = n % 65536 := by simp [IntKind.wrap, IntKind.bits, IntKind.signed]
theorem u16_xor (x y : BitVec 16) : Go.bits .xor .u16 (w16 x) (w16 y) = w16 (x ^^^ y) := by
  show IntKind.u16.wrap ((BitVec.ofInt 16 (x.toNat : Int) ^^^ BitVec.ofInt 16 (y.toNat : Int)).toNat : Int) = ((x ^^^ y).toNat : Int)
  rw [ofInt16, ofInt16, u16w]; have := (x ^^^ y).isLt; omega
theorem u16_and (x y : BitVec 16) : Go.bits .and .u16 (w16 x) (w16 y) = w16 (x &&& y) := by
  show IntKind.u16.wrap ((BitVec.ofInt 16 (x.toNat : Int) &&& BitVec.ofInt 16 (y.toNat : Int)).toNat : Int) = ((x &&& y).toNat : Int)
  rw [ofInt16, ofInt16, u16w]; have := (x &&& y).isLt; omega
theorem w16_topB (x : BitVec 16) : (Go.bits .and .u16 (w16 x) 32768 != 0) = x.getLsbD 15 := by
  rw [show (32768 : Int) = w16 (BitVec.twoPow 16 15) from rfl, u16_and, BitVec.and_twoPow]
  cases x.getLsbD 15 <;> rfl
theorem w16_dbl (x : BitVec 16) : IntKind.wrap .u16 (w16 x * (2 ^ (min (Int.toNat 1) 16))) = w16 (x <<< 1) := by
  show IntKind.wrap .u16 ((x.toNat : Int) * _) = ((x <<< 1).toNat : Int)
  rw [u16w, show (2 ^ (min (Int.toNat 1) 16) : Int) = 2 from rfl, BitVec.toNat_shiftLeft, Nat.shiftLeft_eq]; omega
theorem w16_poly (x : BitVec 16) : Go.bits .xor .u16 (w16 x) 4129 = w16 (x ^^^ 0x1021#16) := u16_xor x 0x1021#16
theorem w16_up8 (n : Nat) (h : n < 256) : IntKind.wrap .u16 (IntKind.wrap .u16 (n : Int) * (2 ^ (min (Int.toNat 8) 16))) = w16 (BitVec.ofNat 16 (n * 256)) := by
  show _ = ((BitVec.ofNat 16 (n * 256)).toNat : Int)
  rw [u16w, u16w, show (2 ^ (min (Int.toNat 8) 16) : Int) = 256 from rfl, BitVec.toNat_ofNat]; omega
theorem b16_up (b : UInt8) : b16 b <<< 8 = BitVec.ofNat 16 (b.toNat * 256) := by
  have := b.toNat_lt
  apply BitVec.eq_of_toNat_eq
  rw [BitVec.toNat_shiftLeft, BitVec.toNat_ofNat, Nat.shiftLeft_eq]
  simp [b16]
theorem w16_byte (x : BitVec 16) (b : UInt8) : Go.bits .xor .u16 (w16 x) (IntKind.wrap .u16 (IntKind.wrap .u16 (b.toNat : Int) * (2 ^ (min (Int.toNat 8) 16)))) = w16 (x ^^^ (b16 b <<< 8)) := by
  rw [w16_up8 _ b.toNat_lt, b16_up, u16_xor]
theorem sh_eq (x : BitVec 16) : sh x = bif x.getLsbD 15 then (x <<< 1) ^^^ 0x1021#16 else x <<< 1 := by
  unfold sh; cases x.getLsbD 15 <;> simp
theorem hstep_go (d : Nat) : ∀ (k i : Nat), i + k = 8 → ∀ (x : BitVec 16) f, k < f → L24_0 d f (w16 x) (i : Nat) = some (.int .u16 (w16 (shN k x)))
  | 0, i, h, x, f + 1, _ => by
    rw [L24_0_s, decide_eq_false (by omega), cnd_f]; rfl
  | k + 1, i, h, x, f + 1, hf => by
    rw [L24_0_s, decide_eq_true (by omega), cnd_t, w16_topB, w16_dbl, w16_poly, i64_up (by omega), shN, sh_eq]
    cases x.getLsbD 15
    · rw [cnd_f, cond_false]; exact hstep_go d k (i + 1) (by omega) _ f (by omega)
    · rw [cnd_t, cond_true]; exact hstep_go d k (i + 1) (by omega) _ f (by omega)
theorem s24 (d : Nat) (x : BitVec 16) : pcall M (d + 1) 24 [.int .u16 (w16 x)] = some (.int .u16 (w16 (shN 8 x))) := told (q24 d _) (hstep_go d 8 0 rfl x 1000000000000000000 (by omega))
theorem more_go (d : Nat) (s : List UInt8) (hl : s.length < 9223372036854775807) : ∀ (k i : Nat), i + k = s.length → ∀ (x : BitVec 16) f, k < f →
    L14_0 (d + 1) (.slc 0 0 s.length) (s.length : Nat) f (w16 x) (i : Nat) [some ⟨E5, bytesAV s⟩] = some (.int .u16 (w16 (moreH x (s.drop i))))
  | 0, i, h, x, f + 1, _ => by
    rw [L14_0_s, decide_eq_false (by omega), cnd_f, List.drop_of_length_le (by omega)]
    unfold X14_0_0
    exact f_free rfl
  | k + 1, i, h, x, f + 1, hf => by
    have hi : i < s.length := by omega
    rw [L14_0_s, decide_eq_true (by omega), cnd_t]
    refine Eq.trans (ix_slc (b := ⟨E5, bytesAV s⟩) rfl (by omega) (by omega) rfl) ?_
    refine Eq.trans (ld_ptr (b := ⟨E5, bytesAV s⟩) (v := .int .u8 (s[i].toNat : Int)) rfl (show (bytesAV s)[0 + ((i : Nat) : Int).toNat]? = _ by rw [show 0 + ((i : Nat) : Int).toNat = i by omega]; exact bytes_at hi) rfl) ?_
    refine Eq.trans (pl_int rfl) ?_
    rw [w16_byte]
    refine Eq.trans (pl_int (s24 d _)) ?_
    rw [i64_up (by omega), List.drop_eq_getElem_cons hi]
    exact more_go d s hl k (i + 1) (by omega) _ f (by omega)
theorem s14 (d : Nat) (x : BitVec 16) (s : List UInt8) (hl : s.length < 1000000000000000000) : pcall M (d + 2) 14 [.int .u16 (w16 x), .str s] = some (.int .u16 (w16 (moreH x s))) := told (q14 (d + 1) _ _) (by
  refine Eq.trans s2b_h ?_
  refine Eq.trans (len_slc (b := ⟨E5, bytesAV s⟩) rfl) ?_
  refine Eq.trans (pl_int rfl) ?_
  exact more_go d s (by omega) s.length 0 (by omega) x 1000000000000000000 (by omega))
theorem s10 (d : Nat) (s : List UInt8) (hl : s.length < 1000000000000000000) : pcall M (d + 3) 10 [.str s] = some (.int .u16 (w16 (sumH s))) := told (r10 C0 (d + 2) _) (Eq.trans (pl_int (s14 d 0xffff#16 s hl)) rfl)
end Go.Proofs.Ytcegcmjkkflhhaa.AE

namespace Go.Proofs.Ytcegcmjkkflhhaa.AE
set_option linter.unusedVariables false
set_option linter.unusedSimpArgs false
set_option linter.constructorNameAsVariable false
open Go Go.Proofs.Ytcegcmjkkflhhaa.Geo
attribute [local irreducible] pcall C0 callB
set_option maxRecDepth 100000
abbrev TE : ETy := E61
def R16 (i : Nat) : BitVec 16 := shN 8 (BitVec.ofNat 16 (i * 256))
def R32 (i : Nat) : BitVec 32 := stN 8 (BitVec.ofNat 32 i)
theorem t_ld {H : Heap} {id j : Nat} {e : ETy} {cs : List AV} {v : AV} {K : AV → Heap → Ans} (h : hget H id = some ⟨e, [.agg cs]⟩) (hv : cs[j]? = some v) : C0.hop H (.load false 1 (.v (.ptr id 0 j))) K = K v H := ld_ptr h rfl hv
theorem t_st {H : Heap} {id j : Nat} {e : ETy} {cs : List AV} {x : AV} {K : AV → Heap → Ans} (h : hget H id = some ⟨e, [.agg cs]⟩) (hj : j < cs.length) (h1 : x.cells = [x]) (hs : isSc x = true) : C0.hop H (.store 1 (.v (.ptr id 0 j)) (.v x)) K = K .undef (H.set id (some ⟨e, [.agg (cs.set j x)]⟩)) := by
  have : putSub 1 j x (.agg cs) = some (.agg (cs.set j x)) := by
    unfold putSub
    have hc : j + 1 ≤ cs.length ∧ [x].length = 1 ∧ [x].all isSc = true := ⟨hj, rfl, by simp [hs]⟩
    simp only [h1]
    rw [if_pos hc, List.set_eq_take_append_cons_drop, if_pos hj]; simp
  exact (st_ptr h rfl this)
theorem t_ix {H : Heap} {len es id i j : Nat} {k : IntKind} {q : Int} {K : AV → Heap → Ans} (h0 : 0 ≤ q) (h1 : q < (len : Int)) : C0.hop H (.ixAA len es (.v (.ptr id i j)) (.v (.int k q))) K = K (.ptr id i (j + q.toNat * es)) H := by
  refine hop_eq ?_
  simp only [aop, evO, aInt, aShift]; rw [if_pos ⟨h0, h1⟩]
theorem t_nil {H : Heap} {id i j : Nat} {K : AV → Heap → Ans} : C0.hop H (.eqv false 1 [] (.v (.ptr id i j)) (.v .nilp)) K = K (.bool false) H := hop_eq rfl
theorem t_set {H : Heap} {id : Nat} {b b' : Blk} (h : hget H id = some b) : hget (H.set id (some b')) id = some b' := hget_set (hg_lt h)
/-- Rows put. -/
def fillT (cs : List AV) (i : Nat) : Nat → List AV
  | 0 => cs
  | k + 1 => fillT ((cs.set (4 + i) (.int .u16 (w16 (R16 i)))).set (260 + i) (.int .u32 (w32 (R32 i)))) (i + 1) k
theorem fillT_len : ∀ (k i : Nat) (cs : List AV), (fillT cs i k).length = cs.length
  | 0, i, cs => rfl
  | k + 1, i, cs => by rw [fillT, fillT_len k]; simp
theorem fillT_lo : ∀ (k i : Nat) (cs : List AV) (j : Nat), j < 4 → (fillT cs i k)[j]? = cs[j]?
  | 0, i, cs, j, _ => rfl
  | k + 1, i, cs, j, h => by rw [fillT, fillT_lo k _ _ j h, List.getElem?_set_ne (by omega), List.getElem?_set_ne (by omega)]
theorem fillT_old : ∀ (k i : Nat) (cs : List AV) (j : Nat), i + k ≤ 256 → j < i → (fillT cs i k)[4 + j]? = cs[4 + j]? ∧ (fillT cs i k)[260 + j]? = cs[260 + j]?
  | 0, i, cs, j, _, _ => ⟨rfl, rfl⟩
  | k + 1, i, cs, j, h, hj => by
    obtain ⟨h1, h2⟩ := fillT_old k (i + 1) ((cs.set (4 + i) (.int .u16 (w16 (R16 i)))).set (260 + i) (.int .u32 (w32 (R32 i)))) j (by omega) (by omega)
    rw [fillT, h1, h2, List.getElem?_set_ne (by omega), List.getElem?_set_ne (by omega), List.getElem?_set_ne (by omega), List.getElem?_set_ne (by omega)]
    exact ⟨rfl, rfl⟩
theorem fillT_at : ∀ (k i : Nat) (cs : List AV) (j : Nat), cs.length = 516 → i + k ≤ 256 → i ≤ j → j < i + k → (fillT cs i k)[4 + j]? = some (.int .u16 (w16 (R16 j))) ∧ (fillT cs i k)[260 + j]? = some (.int .u32 (w32 (R32 j)))
  | 0, i, cs, j, _, _, h1, h2 => by omega
  | k + 1, i, cs, j, hl, h, h1, h2 => by
    rw [fillT]
    by_cases hj : j = i
    · subst hj
      obtain ⟨q1, q2⟩ := fillT_old k (j + 1) ((cs.set (4 + j) (.int .u16 (w16 (R16 j)))).set (260 + j) (.int .u32 (w32 (R32 j)))) j (by omega) (by omega)
      rw [q1, q2, List.getElem?_set_ne (by omega), List.getElem?_set_self (by omega), List.getElem?_set_self (by simp; omega)]
      exact ⟨rfl, rfl⟩
    · exact fillT_at k (i + 1) _ j (by simp [hl]) (by omega) (by omega) (by omega)
theorem fill_go (d : Nat) (K0 : AV → Heap → Ans) (id : Nat) (e : ETy) : ∀ (k i : Nat), i + k = 256 → ∀ (H : Heap) (cs : List AV) f, hget H id = some ⟨e, [.agg cs]⟩ → cs.length = 516 → k < f →
    L26_0 (d + 1) (.ptr id 0 0) K0 f (i : Nat) H = K0 (.tup []) (H.set id (some ⟨e, [.agg (fillT cs i k)]⟩))
  | 0, i, h, H, cs, f + 1, hg, hl, _ => by
    rw [L26_0_s, decide_eq_false (by omega), cnd_f]
    unfold X26_0_0
    have : H.set id (some ⟨e, [.agg cs]⟩) = H := by
      have hk := agree_of hg
      apply List.ext_getElem?
      intro j
      by_cases hj : id = j
      · subst hj; rw [List.getElem?_set_self (hg_lt hg), hk]
      · rw [List.getElem?_set_ne hj]
    rw [fillT, this]
  | k + 1, i, h, H, cs, f + 1, hg, hl, hf => by
    have hi : i < 256 := by omega
    rw [L26_0_s, decide_eq_true (by omega), cnd_t]
    have e16 : IntKind.wrap .u16 ((IntKind.wrap .u16 ((i : Nat) : Int)) * (2 ^ (min (Int.toNat 8) 16))) = w16 (BitVec.ofNat 16 (i * 256)) := w16_up8 i hi
    have e32 : IntKind.wrap .u32 ((i : Nat) : Int) = w32 (BitVec.ofNat 32 i) := by
      show _ = ((BitVec.ofNat 32 i).toNat : Int)
      rw [u32w, BitVec.toNat_ofNat]; omega
    rw [e16, e32]
    refine Eq.trans (pl_int (s24 d _)) ?_
    refine Eq.trans (pl_int (s23 d _)) ?_
    refine Eq.trans nil_ptr ?_
    refine Eq.trans sh_ptr ?_
    refine Eq.trans (t_ix (by omega) (by omega)) ?_
    rw [show 0 + 4 + ((i : Nat) : Int).toNat * 1 = 4 + i by omega]
    refine Eq.trans (t_st hg (by omega) rfl rfl) ?_
    refine Eq.trans nil_ptr ?_
    refine Eq.trans sh_ptr ?_
    refine Eq.trans (t_ix (by omega) (by omega)) ?_
    rw [show 0 + 260 + ((i : Nat) : Int).toNat * 1 = 260 + i by omega]
    refine Eq.trans (t_st (t_set hg) (by simp; omega) rfl rfl) ?_
    rw [i64_up (by omega), List.set_set]
    refine Eq.trans (fill_go d K0 id e k (i + 1) (by omega) _ _ f (t_set hg) (by simp [hl]) (by omega)) ?_
    rw [List.set_set]; rfl
theorem fill_ok (d k : Nat) {H : Heap} {id : Nat} {cs : List AV} {m : Int} (hg : hget H id = some ⟨TE, [.agg cs]⟩) (hl : cs.length = 516) (h3 : cs[3]? = some (.int .i64 m)) (hm : 0 ≤ m) (hm' : m < 1000) :
    callB M (pcall M (d + 1)) (k + 9) true 26 [.ptr id 0 0] H = some (.tup [], H.set id (some ⟨TE, [.agg (fillT (cs.set 3 (.int .i64 (m + 1))) 0 256)]⟩)) := by
  refine xmeth_ok (U := unr) (n := k + 8) rfl rfl rfl fun K => ?_
  refine (q26 (d + 1) _ k _ K).trans ?_
  refine Eq.trans nil_ptr ?_
  refine Eq.trans sh_ptr ?_
  refine Eq.trans nil_ptr ?_
  refine Eq.trans sh_ptr ?_
  refine Eq.trans (t_ld hg h3) ?_
  refine Eq.trans (pl_int rfl) ?_
  refine Eq.trans (t_st hg (by omega) rfl rfl) ?_
  rw [i64_small (by omega) (by omega)]
  refine Eq.trans (fill_go d K id TE 256 0 rfl _ _ 1000000000000000000 (t_set hg) (by simp [hl]) (by omega)) ?_
  rw [List.set_set]
/-- A table: made (m) or not. -/
def TabS (H : Heap) (id : Nat) (m : Bool) : Prop := ∃ cs, hget H id = some ⟨TE, [.agg cs]⟩ ∧ cs.length = 516 ∧ cs[0]? = some (.int .u32 (bif m then 1 else 0)) ∧ cs[1]? = some (.int .i32 0) ∧ cs[3]? = some (.int .i64 (bif m then 1 else 0)) ∧
  (m = true → ∀ i, i < 256 → cs[4 + i]? = some (.int .u16 (w16 (R16 i))) ∧ cs[260 + i]? = some (.int .u32 (w32 (R32 i))))
/-- Other memory stays. -/
def Stays (H H' : Heap) (id : Nat) : Prop := H'.length = H.length ∧ ∀ id' b, id' ≠ id → hget H id' = some b → hget H' id' = some b
theorem stays_set {H : Heap} {id : Nat} {b : Option Blk} : Stays H (H.set id b) id := ⟨by simp, fun id' c hne h => by rw [hget_set_ne (Ne.symm hne)]; exact h⟩
theorem do_ok (d k : Nat) {H : Heap} {id : Nat} {m : Bool} (h : TabS H id m) : ∃ H', callB M (pcall M (d + 1)) (k + 11) true 25 [.ptr id 0 0, .fn 26 [.ptr id 0 0] []] H = some (.tup [], H') ∧ TabS H' id true ∧ Stays H H' id := by
  obtain ⟨cs, hg, hl, h0, h1, h3, hr⟩ := h
  cases m with
  | true =>
    refine ⟨H, ?_, ⟨cs, hg, hl, h0, h1, h3, hr⟩, rfl, fun _ _ _ h => h⟩
    refine xmeth_ok (U := unr) (n := k + 10) rfl rfl rfl fun K => ?_
    refine (r25f26 C0 (d + 1) (.ptr id 0 0) .undef (.ptr id 0 0) (k + 2) _ K).trans ?_
    refine Eq.trans nil_ptr ?_
    refine Eq.trans sh_ptr ?_
    refine Eq.trans nil_ptr ?_
    refine Eq.trans sh_ptr ?_
    refine Eq.trans (t_ld hg h0) ?_
    refine Eq.trans (pl_int rfl) ?_
    rfl
  | false =>
    have hg1 : hget (H.set id (some ⟨TE, [.agg (cs.set 1 (.int .i32 1))]⟩)) id = some ⟨TE, [.agg (cs.set 1 (.int .i32 1))]⟩ := t_set hg
    have hf := fill_ok d k hg1 (by simp [hl]) (m := 0) (by rw [List.getElem?_set_ne (by omega)]; exact h3) (by decide) (by decide)
    rw [List.set_set] at hf
    generalize hc : fillT ((cs.set 1 (.int .i32 1)).set 3 (.int .i64 (0 + 1))) 0 256 = c2 at hf
    have l2 : c2.length = 516 := by rw [← hc, fillT_len]; simp [hl]
    have q1 : c2[1]? = some (.int .i32 1) := by rw [← hc, fillT_lo _ _ _ _ (by omega), List.getElem?_set_ne (by omega), List.getElem?_set_self (by omega)]
    have q3 : c2[3]? = some (.int .i64 1) := by rw [← hc, fillT_lo _ _ _ _ (by omega), List.getElem?_set_self (by simp; omega)]; rfl
    have qr : ∀ i, i < 256 → c2[4 + i]? = some (.int .u16 (w16 (R16 i))) ∧ c2[260 + i]? = some (.int .u32 (w32 (R32 i))) := fun i hi => by
      rw [← hc]; exact fillT_at 256 0 _ i (by simp [hl]) (by omega) (by omega) (by omega)
    have hg2 : hget (H.set id (some ⟨TE, [.agg c2]⟩)) id = some ⟨TE, [.agg c2]⟩ := t_set hg
    refine ⟨H.set id (some ⟨TE, [.agg ((c2.set 0 (.int .u32 1)).set 1 (.int .i32 0))]⟩), ?_, ⟨_, t_set hg, by simp [l2], ?_, ?_, ?_, fun _ i hi => ?_⟩, stays_set⟩
    · refine xmeth_ok (U := unr) (n := k + 10) rfl rfl rfl fun K => ?_
      refine (r25f26 C0 (d + 1) (.ptr id 0 0) .undef (.ptr id 0 0) (k + 2) _ K).trans ?_
      refine Eq.trans nil_ptr ?_
      refine Eq.trans sh_ptr ?_
      refine Eq.trans nil_ptr ?_
      refine Eq.trans sh_ptr ?_
      refine Eq.trans (t_ld hg h0) ?_
      refine Eq.trans (pl_int rfl) ?_
      refine Eq.trans (pl_len (by rfl)) ?_
      refine Eq.trans sh_ptr ?_
      refine Eq.trans (t_ld hg h1) ?_
      refine Eq.trans (pl_int rfl) ?_
      refine Eq.trans (t_ld hg h0) ?_
      refine Eq.trans (pl_int rfl) ?_
      refine Eq.trans (pl_len (by rfl)) ?_
      refine Eq.trans (pl_len (by rfl)) ?_
      refine Eq.trans (t_st hg (by omega) rfl rfl) ?_
      refine Eq.trans (cal_eq hf) ?_
      refine Eq.trans (pl_tup rfl rfl) ?_
      refine Eq.trans (t_ld hg2 q1) ?_
      refine Eq.trans (pl_int rfl) ?_
      refine Eq.trans (pl_len (by rfl)) ?_
      refine Eq.trans (t_st hg2 (by omega) rfl rfl) ?_
      refine Eq.trans (t_st (t_set hg2) (by simp; omega) rfl rfl) ?_
      rw [List.set_set, List.set_set]
    · rw [List.getElem?_set_ne (by omega), List.getElem?_set_self (by omega)]; rfl
    · rw [List.getElem?_set_self (by simp; omega)]
    · rw [List.getElem?_set_ne (by omega), List.getElem?_set_ne (by omega)]; exact q3
    · rw [List.getElem?_set_ne (by omega), List.getElem?_set_ne (by omega), List.getElem?_set_ne (by omega), List.getElem?_set_ne (by omega)]; exact qr i hi
end Go.Proofs.Ytcegcmjkkflhhaa.AE

namespace Go.Proofs.Ytcegcmjkkflhhaa.Geo
set_option linter.unusedVariables false
theorem half16 (x : BitVec 16) : x = BitVec.ofNat 16 (x.toNat / 256) <<< 8 ^^^ BitVec.ofNat 16 (x.toNat % 256) := by
  have hx := x.isLt
  apply BitVec.eq_of_toNat_eq
  rw [BitVec.toNat_xor, BitVec.toNat_shiftLeft, BitVec.toNat_ofNat, BitVec.toNat_ofNat, Nat.shiftLeft_eq, Nat.mod_eq_of_lt (a := x.toNat / 256) (by omega), Nat.mod_eq_of_lt (a := x.toNat % 256) (by omega), Nat.mod_eq_of_lt (by omega)]
  have h1 := Nat.two_pow_add_eq_or_of_lt (i := 8) (b := x.toNat % 256) (by omega) (x.toNat / 256)
  have h2 : x.toNat / 256 * 2 ^ 8 ^^^ x.toNat % 256 = x.toNat / 256 * 2 ^ 8 ||| x.toNat % 256 := by
    apply Nat.eq_of_testBit_eq
    intro i
    rw [Nat.testBit_xor, Nat.testBit_or]
    rcases Nat.lt_or_ge i 8 with hi | hi
    · have : (x.toNat / 256 * 2 ^ 8).testBit i = false := by
        rw [Nat.mul_comm, Nat.testBit_two_pow_mul]; simp; omega
      rw [this]; simp
    · have : (x.toNat % 256).testBit i = false := Nat.testBit_lt_two_pow (Nat.lt_of_lt_of_le (Nat.mod_lt _ (by decide)) (show 2 ^ 8 ≤ 2 ^ i from Nat.pow_le_pow_right (by decide) hi))
      rw [this]; simp
  rw [h2, Nat.mul_comm, ← h1]; omega
theorem up8_16 (n : Nat) : BitVec.ofNat 16 (n * 256) = BitVec.ofNat 16 n <<< 8 := by
  apply BitVec.eq_of_toNat_eq
  rw [BitVec.toNat_shiftLeft, BitVec.toNat_ofNat, BitVec.toNat_ofNat, Nat.shiftLeft_eq]; omega
theorem ofNat_xor (w : Nat) (m n : Nat) : BitVec.ofNat w m ^^^ BitVec.ofNat w n = BitVec.ofNat w (m ^^^ n) := by
  apply BitVec.eq_of_toNat_eq
  rw [BitVec.toNat_xor, BitVec.toNat_ofNat, BitVec.toNat_ofNat, BitVec.toNat_ofNat, Nat.xor_mod_two_pow]
/-- A byte's step by the row. -/
theorem byte_row16 (x : BitVec 16) (b : UInt8) : byteH x b = (x <<< 8) ^^^ shN 8 (BitVec.ofNat 16 ((x.toNat / 256 ^^^ b.toNat) * 256)) := by
  have hb : b16 b = BitVec.ofNat 16 b.toNat := by
    apply BitVec.eq_of_toNat_eq
    simp [b16]
  have hl : shN 8 (BitVec.ofNat 16 (x.toNat % 256)) = x <<< 8 := by
    have := up16 ⟨x.toNat % 256, Nat.mod_lt _ (by decide)⟩
    simp only at this
    rw [this]
    apply BitVec.eq_of_toNat_eq
    rw [BitVec.toNat_shiftLeft, BitVec.toNat_ofNat, Nat.shiftLeft_eq]; omega
  unfold byteH
  conv => lhs; arg 2; lhs; rw [half16 x]
  rw [hb, up8_16, ← ofNat_xor, BitVec.shiftLeft_xor_distrib, BitVec.xor_assoc, BitVec.xor_comm (BitVec.ofNat 16 (x.toNat % 256)), ← BitVec.xor_assoc, shN_xor, hl, BitVec.xor_comm]
end Go.Proofs.Ytcegcmjkkflhhaa.Geo

namespace Go.Proofs.Ytcegcmjkkflhhaa.AE
set_option linter.unusedVariables false
set_option linter.unusedSimpArgs false
set_option linter.constructorNameAsVariable false
open Go Go.Proofs.Ytcegcmjkkflhhaa.Geo
attribute [local irreducible] pcall C0 callB
set_option maxRecDepth 100000
theorem new_ok (d : Nat) (H : Heap) : ∃ H', callB M (pcall M d) 12 true 15 [] H = some (.ptr H.length 0 0, H') ∧ TabS H' H.length false ∧ ∀ id' b, hget H id' = some b → hget H' id' = some b := by
  obtain ⟨cs, e1, e2, e3, e4, e5, e6⟩ : ∃ cs, (∀ K, xmeth C0 M unr d 11 15 [] H K = C0.hop H (.box TE (.v (.agg cs))) K) ∧ elOk TE (.agg cs) = true ∧ cs.length = 516 ∧ cs[0]? = some (.int .u32 0) ∧ cs[1]? = some (.int .i32 0) ∧ cs[3]? = some (.int .i64 0) :=
    ⟨_, fun K => r15 C0 d 3 H K, by kernel_rfl, by kernel_rfl, rfl, rfl, rfl⟩
  refine ⟨H ++ [some ⟨TE, [.agg cs]⟩], xmeth_ok (U := unr) (n := 11) rfl rfl rfl fun K => (e1 K).trans (hop_eq ?_), ⟨cs, hget_new, e3, e4, e5, e6, fun h => by cases h⟩, fun _ _ h => hget_app h⟩
  simp only [aop, evO, e2, if_true]
theorem made_ok (d : Nat) {H : Heap} {id : Nat} {m : Bool} (h : TabS H id m) : callB M (pcall M d) 12 true 20 [.ptr id 0 0] H = some (.int .i64 (bif m then 1 else 0), H) := by
  obtain ⟨cs, hg, hl, h0, h1, h3, hr⟩ := h
  refine xmeth_ok (U := unr) (n := 11) rfl rfl rfl fun K => ?_
  refine (r20 C0 d _ 3 _ K).trans ?_
  refine Eq.trans t_nil ?_
  refine Eq.trans (pl_bool rfl) ?_
  refine Eq.trans (pl_f rfl) ?_
  refine Eq.trans nil_ptr ?_
  refine Eq.trans sh_ptr ?_
  refine Eq.trans nil_ptr ?_
  refine Eq.trans sh_ptr ?_
  refine Eq.trans (t_ld hg h3) ?_
  exact pl_int rfl
theorem row16_in (d : Nat) {H : Heap} {id : Nat} {m : Bool} (h : TabS H id m) {a : Int} (h0 : 0 ≤ a) (h1 : a < 256) : ∃ H', callB M (pcall M (d + 1)) 12 true 16 [.ptr id 0 0, .int .i64 a] H = some (.int .u16 (w16 (R16 a.toNat)), H') ∧ TabS H' id true ∧ Stays H H' id := by
  obtain ⟨H', e1, e2, e3⟩ := do_ok d 0 h
  refine ⟨H', ?_, e2, e3⟩
  obtain ⟨cs, hg, hl, _, _, _, hr⟩ := e2
  refine xmeth_ok (U := unr) (n := 11) rfl rfl rfl fun K => ?_
  refine (r16 C0 (d + 1) _ _ 3 _ K).trans ?_
  refine Eq.trans t_nil ?_
  refine Eq.trans (pl_bool rfl) ?_
  refine Eq.trans (pl_f rfl) ?_
  rw [decide_eq_false (by omega), cnd_f, decide_eq_false (by omega), cnd_f]
  refine Eq.trans nil_ptr ?_
  refine Eq.trans sh_ptr ?_
  refine Eq.trans (cal_eq e1) ?_
  refine Eq.trans (pl_tup rfl rfl) ?_
  refine Eq.trans nil_ptr ?_
  refine Eq.trans sh_ptr ?_
  refine Eq.trans (t_ix h0 h1) ?_
  rw [show 0 + 4 + a.toNat * 1 = 4 + a.toNat by omega]
  refine Eq.trans (t_ld hg (hr rfl a.toNat (by omega)).1) ?_
  exact pl_int rfl
theorem row32_in (d : Nat) {H : Heap} {id : Nat} {m : Bool} (h : TabS H id m) {a : Int} (h0 : 0 ≤ a) (h1 : a < 256) : ∃ H', callB M (pcall M (d + 1)) 12 true 17 [.ptr id 0 0, .int .i64 a] H = some (.int .u32 (w32 (R32 a.toNat)), H') ∧ TabS H' id true ∧ Stays H H' id := by
  obtain ⟨H', e1, e2, e3⟩ := do_ok d 0 h
  refine ⟨H', ?_, e2, e3⟩
  obtain ⟨cs, hg, hl, _, _, _, hr⟩ := e2
  refine xmeth_ok (U := unr) (n := 11) rfl rfl rfl fun K => ?_
  refine (r17 C0 (d + 1) _ _ 3 _ K).trans ?_
  refine Eq.trans t_nil ?_
  refine Eq.trans (pl_bool rfl) ?_
  refine Eq.trans (pl_f rfl) ?_
  rw [decide_eq_false (by omega), cnd_f, decide_eq_false (by omega), cnd_f]
  refine Eq.trans nil_ptr ?_
  refine Eq.trans sh_ptr ?_
  refine Eq.trans (cal_eq e1) ?_
  refine Eq.trans (pl_tup rfl rfl) ?_
  refine Eq.trans nil_ptr ?_
  refine Eq.trans sh_ptr ?_
  refine Eq.trans (t_ix h0 h1) ?_
  rw [show 0 + 260 + a.toNat * 1 = 260 + a.toNat by omega]
  refine Eq.trans (t_ld hg (hr rfl a.toNat (by omega)).2) ?_
  exact pl_int rfl
theorem row16_out (d : Nat) {H : Heap} {id : Nat} {a : Int} (h : ¬ (0 ≤ a ∧ a < 256)) : callB M (pcall M d) 12 true 16 [.ptr id 0 0, .int .i64 a] H = some (.int .u16 0, H) := by
  refine xmeth_ok (U := unr) (n := 11) rfl rfl rfl fun K => ?_
  refine (r16 C0 d _ _ 3 _ K).trans ?_
  refine Eq.trans t_nil ?_
  refine Eq.trans (pl_bool rfl) ?_
  refine Eq.trans (pl_f rfl) ?_
  by_cases h0 : a < 0
  · rw [decide_eq_true h0, cnd_t]
  · rw [decide_eq_false h0, cnd_f, decide_eq_true (by omega), cnd_t]
theorem row32_out (d : Nat) {H : Heap} {id : Nat} {a : Int} (h : ¬ (0 ≤ a ∧ a < 256)) : callB M (pcall M d) 12 true 17 [.ptr id 0 0, .int .i64 a] H = some (.int .u32 0, H) := by
  refine xmeth_ok (U := unr) (n := 11) rfl rfl rfl fun K => ?_
  refine (r17 C0 d _ _ 3 _ K).trans ?_
  refine Eq.trans t_nil ?_
  refine Eq.trans (pl_bool rfl) ?_
  refine Eq.trans (pl_f rfl) ?_
  by_cases h0 : a < 0
  · rw [decide_eq_true h0, cnd_t]
  · rw [decide_eq_false h0, cnd_f, decide_eq_true (by omega), cnd_t]
theorem u8_xor {a b : Nat} (ha : a < 256) (hb : b < 256) : Go.bits .xor .u8 (a : Int) (b : Int) = ((a ^^^ b : Nat) : Int) := by
  show IntKind.u8.wrap ((BitVec.ofInt 8 (a : Int) ^^^ BitVec.ofInt 8 (b : Int)).toNat : Int) = _
  have e : IntKind.u8.wrap = fun n => n % 256 := by funext n; simp [IntKind.wrap, IntKind.bits, IntKind.signed]
  rw [BitVec.ofInt_natCast, BitVec.ofInt_natCast, BitVec.toNat_xor, BitVec.toNat_ofNat, BitVec.toNat_ofNat, Nat.mod_eq_of_lt ha, Nat.mod_eq_of_lt hb, e]
  have := Nat.xor_lt_two_pow (n := 8) ha hb
  simp only
  omega
theorem u8wr (n : Int) : IntKind.u8.wrap n = n % 256 := by simp [IntKind.wrap, IntKind.bits, IntKind.signed]
theorem hi16 (x : BitVec 16) : IntKind.wrap .u8 (Int.fdiv (w16 x) (2 ^ (min (Int.toNat 8) 16))) = ((x.toNat / 256 : Nat) : Int) := by
  have := x.isLt
  show IntKind.wrap .u8 (Int.fdiv (x.toNat : Int) _) = _
  rw [show (2 ^ (min (Int.toNat 8) 16) : Int) = 256 from rfl, Int.fdiv_eq_ediv_of_nonneg _ (by decide), u8wr]; omega
theorem sh8_16 (x : BitVec 16) : IntKind.wrap .u16 (w16 x * (2 ^ (min (Int.toNat 8) 16))) = w16 (x <<< 8) := by
  show IntKind.wrap .u16 ((x.toNat : Int) * _) = ((x <<< 8).toNat : Int)
  rw [u16w, show (2 ^ (min (Int.toNat 8) 16) : Int) = 256 from rfl, BitVec.toNat_shiftLeft, Nat.shiftLeft_eq]; omega
theorem tsum16_go (d : Nat) (K : AV → Heap → Ans) (s : List UInt8) (hl : s.length < 9223372036854775807) {H : Heap} {id bid : Nat} {cs : List AV} (hg : hget H id = some ⟨TE, [.agg cs]⟩) (hb : hget H bid = some ⟨E5, bytesAV s⟩)
    (hr : ∀ i, i < 256 → cs[4 + i]? = some (.int .u16 (w16 (R16 i)))) : ∀ (k i : Nat), i + k = s.length → ∀ (x : BitVec 16) f, k < f →
    L21_0 d (.ptr id 0 0) K (.slc bid 0 s.length) (s.length : Nat) f (w16 x) (i : Nat) H = K (.int .u16 (w16 (moreH x (s.drop i)))) H
  | 0, i, h, x, f + 1, _ => by
    rw [L21_0_s, decide_eq_false (by omega), cnd_f, List.drop_of_length_le (by omega)]; rfl
  | k + 1, i, h, x, f + 1, hf => by
    have hi : i < s.length := by omega
    rw [L21_0_s, decide_eq_true (by omega), cnd_t]
    refine Eq.trans (ix_slc hb (by omega) (by omega) rfl) ?_
    refine Eq.trans (ld_ptr (v := .int .u8 (s[i].toNat : Int)) hb (show (bytesAV s)[0 + ((i : Nat) : Int).toNat]? = _ by rw [show 0 + ((i : Nat) : Int).toNat = i by omega]; exact bytes_at hi) rfl) ?_
    refine Eq.trans (pl_int rfl) ?_
    refine Eq.trans nil_ptr ?_
    refine Eq.trans sh_ptr ?_
    have hx := x.isLt
    have hby := s[i].toNat_lt
    have hxo := Nat.xor_lt_two_pow (n := 8) (x := x.toNat / 256) (y := s[i].toNat) (by omega) hby
    rw [hi16, u8_xor (by omega) hby]
    refine Eq.trans (t_ix (by omega) (by omega)) ?_
    rw [show 0 + 4 + ((x.toNat / 256 ^^^ s[i].toNat : Nat) : Int).toNat * 1 = 4 + (x.toNat / 256 ^^^ s[i].toNat) by omega]
    refine Eq.trans (t_ld hg (hr _ hxo)) ?_
    refine Eq.trans (pl_int rfl) ?_
    rw [sh8_16, u16_xor, i64_up (by omega), List.drop_eq_getElem_cons hi]
    have e : (x <<< 8) ^^^ R16 (x.toNat / 256 ^^^ s[i].toNat) = byteH x s[i] := (byte_row16 x s[i]).symm
    rw [e]
    exact tsum16_go d K s hl hg hb hr k (i + 1) (by omega) _ f (by omega)
theorem tsum16_ok (d : Nat) {H : Heap} {id : Nat} {m : Bool} (h : TabS H id m) (s : List UInt8) (hl : s.length < 1000000000000000000) : ∃ H', callB M (pcall M (d + 1)) 12 true 21 [.ptr id 0 0, .str s] H = some (.int .u16 (w16 (sumH s)), H') ∧ TabS H' id true := by
  obtain ⟨H1, e1, e2, e3⟩ := do_ok d 0 h
  have e2' := e2
  obtain ⟨cs, hg, hlc, q0, q1, q3, hr⟩ := e2
  have hgA : hget (H1 ++ [some ⟨E5, bytesAV s⟩]) id = some ⟨TE, [.agg cs]⟩ := hget_app hg
  refine ⟨H1 ++ [some ⟨E5, bytesAV s⟩], ?_, cs, hgA, hlc, q0, q1, q3, hr⟩
  refine xmeth_ok (U := unr) (n := 11) rfl rfl rfl fun K => ?_
  refine (q21 (d + 1) _ _ 3 _ K).trans ?_
  refine Eq.trans t_nil ?_
  refine Eq.trans (pl_bool rfl) ?_
  refine Eq.trans (pl_f rfl) ?_
  refine Eq.trans nil_ptr ?_
  refine Eq.trans sh_ptr ?_
  refine Eq.trans (cal_eq e1) ?_
  refine Eq.trans (pl_tup rfl rfl) ?_
  refine Eq.trans s2b_h ?_
  refine Eq.trans (len_slc hget_new) ?_
  refine Eq.trans (pl_int rfl) ?_
  exact tsum16_go (d + 1) K s (by omega) hgA hget_new (fun i hi => (hr rfl i hi).1) s.length 0 (by omega) 0xffff#16 1000000000000000000 (by omega)
end Go.Proofs.Ytcegcmjkkflhhaa.AE

namespace Go.Proofs.Ytcegcmjkkflhhaa.AE
set_option linter.unusedVariables false
set_option linter.unusedSimpArgs false
set_option linter.constructorNameAsVariable false
open Go
set_option maxRecDepth 100000
/-- apogee/apogeelaw04.awake -/
theorem r9 (C : Cb) (d : Nat)  : xcall C M unr d 9 [] =
 C.cal M (pcall M d) 12 true 15 [] [] fun v0 h1 =>
 C.any (some v0) fun v2 =>
 C.int .u16 (pcall M d 10 [(.str [49, 50, 51, 52, 53, 54, 55, 56, 57])]) fun x3 =>
 cnd (x3 == 10673)
 (C.int .u32 (pcall M d 12 [(.str [49, 50, 51, 52, 53, 54, 55, 56, 57])]) fun x4 =>
 cnd (x4 == 3421780262)
 (C.int .u16 (pcall M d 10 [(.str [])]) fun x5 =>
 cnd (x5 == 65535)
 (C.int .u32 (pcall M d 12 [(.str [])]) fun x6 =>
 cnd (x6 == 0)
 (C.hop h1 (.eqv true 1 [] (.v v2) (.v .nilp)) fun v7 h8 =>
 C.bool (some v7) fun b9 =>
 cnd b9
 (C.cal M (pcall M d) 12 true 20 [v2] h8 fun v10 h11 =>
 C.int .i64 (some v10) fun x12 =>
 cnd (x12 == 0)
 (C.cal M (pcall M d) 12 true 16 [v2, (iz 1)] h11 fun v13 h14 =>
 C.int .u16 (some v13) fun x15 =>
 cnd (x15 == 4129)
 (C.cal M (pcall M d) 12 true 17 [v2, (iz 1)] h14 fun v16 h17 =>
 C.int .u32 (some v16) fun x18 =>
 cnd (x18 == 1996959894)
 (C.cal M (pcall M d) 12 true 16 [v2, (iz (-1))] h17 fun v19 h20 =>
 C.int .u16 (some v19) fun x21 =>
 cnd (x21 == 0)
 (C.cal M (pcall M d) 12 true 17 [v2, (iz 256)] h20 fun v22 h23 =>
 C.int .u32 (some v22) fun x24 =>
 cnd (x24 == 0)
 (C.cal M (pcall M d) 12 true 20 [v2] h23 fun v25 h26 =>
 C.int .i64 (some v25) fun x27 =>
 cnd (x27 == 1)
 (C.cal M (pcall M d) 12 true 21 [v2, (.str [49, 50, 51, 52, 53, 54, 55, 56, 57])] h26 fun v28 h29 =>
 C.int .u16 (some v28) fun x30 =>
 C.fin h29 (.bool (x30 == 10673)))
 (C.fin h26 bf))
 (C.fin h23 bf))
 (C.fin h20 bf))
 (C.fin h17 bf))
 (C.fin h14 bf))
 (C.fin h11 bf))
 (C.fin h8 bf))
 (C.fin h1 bf))
 (C.fin h1 bf))
 (C.fin h1 bf))
 (C.fin h1 bf) := by kernel_rfl
end Go.Proofs.Ytcegcmjkkflhhaa.AE

namespace Go.Proofs.Ytcegcmjkkflhhaa.AE
set_option linter.unusedVariables false
set_option linter.unusedSimpArgs false
set_option linter.constructorNameAsVariable false
open Go Go.Proofs.Ytcegcmjkkflhhaa.Geo
attribute [local irreducible] pcall C0 callB
set_option maxRecDepth 100000
theorem k16 : w16 (sumH [49, 50, 51, 52, 53, 54, 55, 56, 57]) = 10673 := by decide +kernel
theorem k32 : w32 (crcF [49, 50, 51, 52, 53, 54, 55, 56, 57]) = 3421780262 := by decide +kernel
theorem k16e : w16 (sumH []) = 65535 := by decide +kernel
theorem k32e : w32 (crcF []) = 0 := by decide +kernel
theorem kr16 : w16 (R16 1) = 4129 := by decide +kernel
theorem kr32 : w32 (R32 1) = 1996959894 := by decide +kernel
theorem t_nen {H : Heap} {id i j : Nat} {K : AV → Heap → Ans} : C0.hop H (.eqv true 1 [] (.v (.ptr id i j)) (.v .nilp)) K = K (.bool true) H := hop_eq rfl
theorem fin_b {H : Heap} {b : Bool} : C0.fin H (.bool b) = some (.bool b) := f_free rfl
theorem awake : pcall M 40 9 [] = some (.bool true) := told (r9 C0 39) (by
  obtain ⟨H1, n1, t1, _⟩ := new_ok 39 []
  refine Eq.trans (cal_eq n1) ?_
  refine Eq.trans (pl_any rfl) ?_
  refine Eq.trans (pl_int (s10 36 _ (by simp))) ?_
  rw [k16]
  refine Eq.trans (pl_len rfl) ?_
  refine Eq.trans (pl_int (s12 37 _ (by simp))) ?_
  rw [k32]
  refine Eq.trans (pl_len rfl) ?_
  refine Eq.trans (pl_int (s10 36 _ (by simp))) ?_
  rw [k16e]
  refine Eq.trans (pl_len rfl) ?_
  refine Eq.trans (pl_int (s12 37 _ (by simp))) ?_
  rw [k32e]
  refine Eq.trans (pl_len rfl) ?_
  refine Eq.trans t_nen ?_
  refine Eq.trans (pl_bool rfl) ?_
  refine Eq.trans (pl_len rfl) ?_
  refine Eq.trans (cal_eq (made_ok 39 t1)) ?_
  refine Eq.trans (pl_int rfl) ?_
  refine Eq.trans (pl_len rfl) ?_
  obtain ⟨H2, e2, t2, _⟩ := row16_in 38 t1 (a := 1) (by decide) (by decide)
  refine Eq.trans (cal_eq e2) ?_
  refine Eq.trans (pl_int rfl) ?_
  rw [show (1 : Int).toNat = 1 from rfl, kr16]
  refine Eq.trans (pl_len rfl) ?_
  obtain ⟨H3, e3, t3, _⟩ := row32_in 38 t2 (a := 1) (by decide) (by decide)
  refine Eq.trans (cal_eq e3) ?_
  refine Eq.trans (pl_int rfl) ?_
  rw [show (1 : Int).toNat = 1 from rfl, kr32]
  refine Eq.trans (pl_len rfl) ?_
  refine Eq.trans (cal_eq (row16_out 39 (by decide))) ?_
  refine Eq.trans (pl_int rfl) ?_
  refine Eq.trans (pl_len rfl) ?_
  refine Eq.trans (cal_eq (row32_out 39 (by decide))) ?_
  refine Eq.trans (pl_int rfl) ?_
  refine Eq.trans (pl_len rfl) ?_
  refine Eq.trans (cal_eq (made_ok 39 t3)) ?_
  refine Eq.trans (pl_int rfl) ?_
  refine Eq.trans (pl_len rfl) ?_
  obtain ⟨H4, e4, t4⟩ := tsum16_ok 38 t3 [49, 50, 51, 52, 53, 54, 55, 56, 57] (by simp)
  refine Eq.trans (cal_eq e4) ?_
  refine Eq.trans (pl_int rfl) ?_
  rw [k16]
  exact fin_b)
end Go.Proofs.Ytcegcmjkkflhhaa.AE

namespace Go.Proofs.Ytcegcmjkkflhhaa.AE
set_option linter.unusedVariables false
set_option linter.unusedSimpArgs false
set_option linter.constructorNameAsVariable false
open Go
set_option maxRecDepth 100000
def r6R0 (C : Cb) (d : Nat) (a0 : List UInt8) (a1 a2 : Int) (b0 : Bool) (v4 v6 : AV) : St → (Ex → St → Ans) → Ans := fun s8 k9 =>
 cnd ((List.length s8.env) == 97)
 (C.same s8.env[0]? (.str a0) <|
 C.same s8.env[1]? (iz (IntKind.wrap .i64 (Int.tmod (IntKind.wrap .u64 a1) (IntKind.wrap .u64 (IntKind.wrap .i64 (8 * (((List.length a0) : Nat) : Int))))))) <|
 C.same s8.env[2]? (.int .u32 a2) <|
 C.same s8.env[3]? tz <|
 C.same s8.env[4]? tz <|
 C.same s8.env[5]? tz <|
 C.same s8.env[6]? bf <|
 C.same s8.env[7]? v4 <|
 C.same s8.env[8]? v6 <|
 C.bool s8.env[9]? fun b11 =>
 C.bool s8.env[10]? fun b12 =>
 C.any s8.env[11]? fun v13 =>
 C.any s8.env[12]? fun v14 =>
 C.same s8.env[13]? (.bool b0) <|
 C.same s8.env[14]? (.bool (!b0)) <|
 C.same s8.env[15]? bf <|
 C.same s8.env[16]? (.str a0) <|
 C.same s8.env[17]? (iz (((List.length a0) : Nat) : Int)) <|
 C.same s8.env[18]? (.bool (decide ((((List.length a0) : Nat) : Int) < 1))) <|
 C.same s8.env[19]? (.bool (decide ((((List.length a0) : Nat) : Int) < 1))) <|
 C.same s8.env[20]? bf <|
 C.same s8.env[21]? (.str a0) <|
 C.same s8.env[22]? (iz (((List.length a0) : Nat) : Int)) <|
 C.same s8.env[23]? (.bool (decide ((((List.length a0) : Nat) : Int) > 300))) <|
 C.same s8.env[24]? bf <|
 C.same s8.env[25]? tz <|
 C.same s8.env[26]? (iz a1) <|
 C.same s8.env[27]? (.int .u64 (IntKind.wrap .u64 a1)) <|
 C.same s8.env[28]? (.str a0) <|
 C.same s8.env[29]? (iz (((List.length a0) : Nat) : Int)) <|
 C.same s8.env[30]? (iz (IntKind.wrap .i64 (8 * (((List.length a0) : Nat) : Int)))) <|
 C.same s8.env[31]? (.int .u64 (IntKind.wrap .u64 (IntKind.wrap .i64 (8 * (((List.length a0) : Nat) : Int))))) <|
 C.same s8.env[32]? (.int .u64 (Int.tmod (IntKind.wrap .u64 a1) (IntKind.wrap .u64 (IntKind.wrap .i64 (8 * (((List.length a0) : Nat) : Int)))))) <|
 C.same s8.env[33]? (iz (IntKind.wrap .i64 (Int.tmod (IntKind.wrap .u64 a1) (IntKind.wrap .u64 (IntKind.wrap .i64 (8 * (((List.length a0) : Nat) : Int))))))) <|
 C.same s8.env[34]? (.str a0) <|
 C.same s8.env[35]? v4 <|
 C.same s8.env[36]? (.str a0) <|
 C.same s8.env[37]? v6 <|
 C.int .i64 s8.env[38]? fun x15 =>
 C.any s8.env[39]? fun v16 =>
 C.any s8.env[40]? fun v17 =>
 C.any s8.env[41]? fun v18 =>
 C.any s8.env[42]? fun v19 =>
 C.any s8.env[43]? fun v20 =>
 C.any s8.env[44]? fun v21 =>
 C.any s8.env[45]? fun v22 =>
 C.any s8.env[46]? fun v23 =>
 C.any s8.env[47]? fun v24 =>
 C.any s8.env[48]? fun v25 =>
 C.any s8.env[49]? fun v26 =>
 C.any s8.env[50]? fun v27 =>
 C.any s8.env[51]? fun v28 =>
 C.any s8.env[52]? fun v29 =>
 C.any s8.env[53]? fun v30 =>
 C.any s8.env[54]? fun v31 =>
 C.any s8.env[55]? fun v32 =>
 C.any s8.env[56]? fun v33 =>
 C.any s8.env[57]? fun v34 =>
 C.any s8.env[58]? fun v35 =>
 C.any s8.env[59]? fun v36 =>
 C.any s8.env[60]? fun v37 =>
 C.any s8.env[61]? fun v38 =>
 C.any s8.env[62]? fun v39 =>
 C.any s8.env[63]? fun v40 =>
 C.any s8.env[64]? fun v41 =>
 C.any s8.env[65]? fun v42 =>
 C.any s8.env[66]? fun v43 =>
 C.any s8.env[67]? fun v44 =>
 C.any s8.env[68]? fun v45 =>
 C.any s8.env[69]? fun v46 =>
 C.any s8.env[70]? fun v47 =>
 C.any s8.env[71]? fun v48 =>
 C.any s8.env[72]? fun v49 =>
 C.any s8.env[73]? fun v50 =>
 C.any s8.env[74]? fun v51 =>
 C.any s8.env[75]? fun v52 =>
 C.any s8.env[76]? fun v53 =>
 C.any s8.env[77]? fun v54 =>
 C.any s8.env[78]? fun v55 =>
 C.same s8.env[79]? tz <|
 C.same s8.env[80]? tz <|
 C.same s8.env[81]? tz <|
 C.same s8.env[82]? tz <|
 C.same s8.env[83]? tz <|
 C.same s8.env[84]? tz <|
 C.same s8.env[85]? tz <|
 C.same s8.env[86]? tz <|
 C.same s8.env[87]? tz <|
 C.same s8.env[88]? tz <|
 C.same s8.env[89]? tz <|
 C.same s8.env[90]? tz <|
 C.same s8.env[91]? tz <|
 C.same s8.env[92]? tz <|
 C.same s8.env[93]? tz <|
 C.same s8.env[94]? tz <|
 C.same s8.env[95]? tz <|
 C.same s8.env[96]? tz <|
 cnd (decide (x15 < 32))
 (cnd (decide (x15 < 0))
 (none)
 (cnd ((bits .and .u32 (Int.fdiv a2 (2 ^ (min (Int.toNat x15) 32))) 1) == 0)
 (k9 .normal ⟨[(.str a0), (iz (IntKind.wrap .i64 (Int.tmod (IntKind.wrap .u64 a1) (IntKind.wrap .u64 (IntKind.wrap .i64 (8 * (((List.length a0) : Nat) : Int))))))), (.int .u32 a2), tz, tz, tz, bf, v4, v6, (.bool b11), (.bool b12), (iz x15), (iz (IntKind.wrap .i64 ((IntKind.wrap .i64 (Int.tmod (IntKind.wrap .u64 a1) (IntKind.wrap .u64 (IntKind.wrap .i64 (8 * (((List.length a0) : Nat) : Int)))))) + x15))), (.bool b0), (.bool (!b0)), bf, (.str a0), (iz (((List.length a0) : Nat) : Int)), (.bool (decide ((((List.length a0) : Nat) : Int) < 1))), (.bool (decide ((((List.length a0) : Nat) : Int) < 1))), bf, (.str a0), (iz (((List.length a0) : Nat) : Int)), (.bool (decide ((((List.length a0) : Nat) : Int) > 300))), bf, tz, (iz a1), (.int .u64 (IntKind.wrap .u64 a1)), (.str a0), (iz (((List.length a0) : Nat) : Int)), (iz (IntKind.wrap .i64 (8 * (((List.length a0) : Nat) : Int)))), (.int .u64 (IntKind.wrap .u64 (IntKind.wrap .i64 (8 * (((List.length a0) : Nat) : Int))))), (.int .u64 (Int.tmod (IntKind.wrap .u64 a1) (IntKind.wrap .u64 (IntKind.wrap .i64 (8 * (((List.length a0) : Nat) : Int)))))), (iz (IntKind.wrap .i64 (Int.tmod (IntKind.wrap .u64 a1) (IntKind.wrap .u64 (IntKind.wrap .i64 (8 * (((List.length a0) : Nat) : Int))))))), (.str a0), v4, (.str a0), v6, (iz (IntKind.wrap .i64 (x15 + 1))), bt, (iz x15), (iz (IntKind.wrap .i64 (Int.tmod (IntKind.wrap .u64 a1) (IntKind.wrap .u64 (IntKind.wrap .i64 (8 * (((List.length a0) : Nat) : Int))))))), (iz x15), (iz (IntKind.wrap .i64 ((IntKind.wrap .i64 (Int.tmod (IntKind.wrap .u64 a1) (IntKind.wrap .u64 (IntKind.wrap .i64 (8 * (((List.length a0) : Nat) : Int)))))) + x15))), (.int .u32 a2), (iz x15), (.int .u32 (Int.fdiv a2 (2 ^ (min (Int.toNat x15) 32)))), (.int .u32 (bits .and .u32 (Int.fdiv a2 (2 ^ (min (Int.toNat x15) 32))) 1)), (.bool ((bits .and .u32 (Int.fdiv a2 (2 ^ (min (Int.toNat x15) 32))) 1) == 0)), bt, tz, tz, tz, tz, tz, bt, v33, v34, v35, v36, v37, v38, v39, v40, v41, v42, v43, v44, v45, v46, v47, v48, v49, v50, v51, v52, v53, v54, (iz (IntKind.wrap .i64 (x15 + 1))), tz, tz, tz, tz, tz, tz, tz, tz, tz, tz, tz, tz, tz, tz, tz, tz, tz, tz], (St.H s8)⟩)
 (cnd (decide ((IntKind.wrap .i64 ((IntKind.wrap .i64 (Int.tmod (IntKind.wrap .u64 a1) (IntKind.wrap .u64 (IntKind.wrap .i64 (8 * (((List.length a0) : Nat) : Int)))))) + x15)) ≥ (IntKind.wrap .i64 (8 * (((List.length a0) : Nat) : Int)))))
 (k9 .normal ⟨[(.str a0), (iz (IntKind.wrap .i64 (Int.tmod (IntKind.wrap .u64 a1) (IntKind.wrap .u64 (IntKind.wrap .i64 (8 * (((List.length a0) : Nat) : Int))))))), (.int .u32 a2), tz, tz, tz, bf, v4, v6, (.bool b11), (.bool b12), (iz x15), (iz (IntKind.wrap .i64 ((IntKind.wrap .i64 (Int.tmod (IntKind.wrap .u64 a1) (IntKind.wrap .u64 (IntKind.wrap .i64 (8 * (((List.length a0) : Nat) : Int)))))) + x15))), (.bool b0), (.bool (!b0)), bf, (.str a0), (iz (((List.length a0) : Nat) : Int)), (.bool (decide ((((List.length a0) : Nat) : Int) < 1))), (.bool (decide ((((List.length a0) : Nat) : Int) < 1))), bf, (.str a0), (iz (((List.length a0) : Nat) : Int)), (.bool (decide ((((List.length a0) : Nat) : Int) > 300))), bf, tz, (iz a1), (.int .u64 (IntKind.wrap .u64 a1)), (.str a0), (iz (((List.length a0) : Nat) : Int)), (iz (IntKind.wrap .i64 (8 * (((List.length a0) : Nat) : Int)))), (.int .u64 (IntKind.wrap .u64 (IntKind.wrap .i64 (8 * (((List.length a0) : Nat) : Int))))), (.int .u64 (Int.tmod (IntKind.wrap .u64 a1) (IntKind.wrap .u64 (IntKind.wrap .i64 (8 * (((List.length a0) : Nat) : Int)))))), (iz (IntKind.wrap .i64 (Int.tmod (IntKind.wrap .u64 a1) (IntKind.wrap .u64 (IntKind.wrap .i64 (8 * (((List.length a0) : Nat) : Int))))))), (.str a0), v4, (.str a0), v6, (iz (IntKind.wrap .i64 (x15 + 1))), bt, (iz x15), (iz (IntKind.wrap .i64 (Int.tmod (IntKind.wrap .u64 a1) (IntKind.wrap .u64 (IntKind.wrap .i64 (8 * (((List.length a0) : Nat) : Int))))))), (iz x15), (iz (IntKind.wrap .i64 ((IntKind.wrap .i64 (Int.tmod (IntKind.wrap .u64 a1) (IntKind.wrap .u64 (IntKind.wrap .i64 (8 * (((List.length a0) : Nat) : Int)))))) + x15))), (.int .u32 a2), (iz x15), (.int .u32 (Int.fdiv a2 (2 ^ (min (Int.toNat x15) 32)))), (.int .u32 (bits .and .u32 (Int.fdiv a2 (2 ^ (min (Int.toNat x15) 32))) 1)), (.bool ((bits .and .u32 (Int.fdiv a2 (2 ^ (min (Int.toNat x15) 32))) 1) == 0)), bf, (iz (IntKind.wrap .i64 ((IntKind.wrap .i64 (Int.tmod (IntKind.wrap .u64 a1) (IntKind.wrap .u64 (IntKind.wrap .i64 (8 * (((List.length a0) : Nat) : Int)))))) + x15))), (.str a0), (iz (((List.length a0) : Nat) : Int)), (iz (IntKind.wrap .i64 (8 * (((List.length a0) : Nat) : Int)))), (.bool (decide ((IntKind.wrap .i64 ((IntKind.wrap .i64 (Int.tmod (IntKind.wrap .u64 a1) (IntKind.wrap .u64 (IntKind.wrap .i64 (8 * (((List.length a0) : Nat) : Int)))))) + x15)) ≥ (IntKind.wrap .i64 (8 * (((List.length a0) : Nat) : Int)))))), bt, v33, v34, v35, v36, v37, v38, v39, v40, v41, v42, v43, v44, v45, v46, v47, v48, v49, v50, v51, v52, v53, v54, (iz (IntKind.wrap .i64 (x15 + 1))), tz, tz, tz, tz, tz, tz, tz, tz, tz, tz, tz, tz, tz, tz, tz, tz, tz, tz], (St.H s8)⟩)
 (cnd (decide (x15 < 16))
 (C.hop (St.H s8) (.ixAS .any 1 (.v v4) (.v (iz (IntKind.wrap .i64 (Int.tdiv (IntKind.wrap .i64 ((IntKind.wrap .i64 (Int.tmod (IntKind.wrap .u64 a1) (IntKind.wrap .u64 (IntKind.wrap .i64 (8 * (((List.length a0) : Nat) : Int)))))) + x15)) 8))))) fun v56 h57 =>
 C.hop h57 (.load false 1 (.v v56)) fun v58 h59 =>
 C.int .u8 (some v58) fun x60 =>
 cnd (decide ((Int.tmod (IntKind.wrap .i64 ((IntKind.wrap .i64 (Int.tmod (IntKind.wrap .u64 a1) (IntKind.wrap .u64 (IntKind.wrap .i64 (8 * (((List.length a0) : Nat) : Int)))))) + x15)) 8) < 0))
 (none)
 (C.hop h59 (.ixAS .any 1 (.v v4) (.v (iz (IntKind.wrap .i64 (Int.tdiv (IntKind.wrap .i64 ((IntKind.wrap .i64 (Int.tmod (IntKind.wrap .u64 a1) (IntKind.wrap .u64 (IntKind.wrap .i64 (8 * (((List.length a0) : Nat) : Int)))))) + x15)) 8))))) fun v61 h62 =>
 C.hop h62 (.store 1 (.v v61) (.v (.int .u8 (bits .xor .u8 x60 (Int.fdiv 128 (2 ^ (min (Int.toNat (Int.tmod (IntKind.wrap .i64 ((IntKind.wrap .i64 (Int.tmod (IntKind.wrap .u64 a1) (IntKind.wrap .u64 (IntKind.wrap .i64 (8 * (((List.length a0) : Nat) : Int)))))) + x15)) 8)) 8))))))) fun v63 h64 =>
 C.hop h64 (.ixAS .any 1 (.v v6) (.v (iz (IntKind.wrap .i64 (Int.tdiv (IntKind.wrap .i64 ((IntKind.wrap .i64 (Int.tmod (IntKind.wrap .u64 a1) (IntKind.wrap .u64 (IntKind.wrap .i64 (8 * (((List.length a0) : Nat) : Int)))))) + x15)) 8))))) fun v65 h66 =>
 C.hop h66 (.load false 1 (.v v65)) fun v67 h68 =>
 C.int .u8 (some v67) fun x69 =>
 cnd (decide ((Int.tmod (IntKind.wrap .i64 ((IntKind.wrap .i64 (Int.tmod (IntKind.wrap .u64 a1) (IntKind.wrap .u64 (IntKind.wrap .i64 (8 * (((List.length a0) : Nat) : Int)))))) + x15)) 8) < 0))
 (none)
 (C.hop h68 (.ixAS .any 1 (.v v6) (.v (iz (IntKind.wrap .i64 (Int.tdiv (IntKind.wrap .i64 ((IntKind.wrap .i64 (Int.tmod (IntKind.wrap .u64 a1) (IntKind.wrap .u64 (IntKind.wrap .i64 (8 * (((List.length a0) : Nat) : Int)))))) + x15)) 8))))) fun v70 h71 =>
 C.hop h71 (.store 1 (.v v70) (.v (.int .u8 (bits .xor .u8 x69 (IntKind.wrap .u8 (1 * (2 ^ (min (Int.toNat (Int.tmod (IntKind.wrap .i64 ((IntKind.wrap .i64 (Int.tmod (IntKind.wrap .u64 a1) (IntKind.wrap .u64 (IntKind.wrap .i64 (8 * (((List.length a0) : Nat) : Int)))))) + x15)) 8)) 8)))))))) fun v72 h73 =>
 k9 .normal ⟨[(.str a0), (iz (IntKind.wrap .i64 (Int.tmod (IntKind.wrap .u64 a1) (IntKind.wrap .u64 (IntKind.wrap .i64 (8 * (((List.length a0) : Nat) : Int))))))), (.int .u32 a2), tz, tz, tz, bf, v4, v6, bt, bt, (iz x15), (iz (IntKind.wrap .i64 ((IntKind.wrap .i64 (Int.tmod (IntKind.wrap .u64 a1) (IntKind.wrap .u64 (IntKind.wrap .i64 (8 * (((List.length a0) : Nat) : Int)))))) + x15))), (.bool b0), (.bool (!b0)), bf, (.str a0), (iz (((List.length a0) : Nat) : Int)), (.bool (decide ((((List.length a0) : Nat) : Int) < 1))), (.bool (decide ((((List.length a0) : Nat) : Int) < 1))), bf, (.str a0), (iz (((List.length a0) : Nat) : Int)), (.bool (decide ((((List.length a0) : Nat) : Int) > 300))), bf, tz, (iz a1), (.int .u64 (IntKind.wrap .u64 a1)), (.str a0), (iz (((List.length a0) : Nat) : Int)), (iz (IntKind.wrap .i64 (8 * (((List.length a0) : Nat) : Int)))), (.int .u64 (IntKind.wrap .u64 (IntKind.wrap .i64 (8 * (((List.length a0) : Nat) : Int))))), (.int .u64 (Int.tmod (IntKind.wrap .u64 a1) (IntKind.wrap .u64 (IntKind.wrap .i64 (8 * (((List.length a0) : Nat) : Int)))))), (iz (IntKind.wrap .i64 (Int.tmod (IntKind.wrap .u64 a1) (IntKind.wrap .u64 (IntKind.wrap .i64 (8 * (((List.length a0) : Nat) : Int))))))), (.str a0), v4, (.str a0), v6, (iz (IntKind.wrap .i64 (x15 + 1))), bt, (iz x15), (iz (IntKind.wrap .i64 (Int.tmod (IntKind.wrap .u64 a1) (IntKind.wrap .u64 (IntKind.wrap .i64 (8 * (((List.length a0) : Nat) : Int))))))), (iz x15), (iz (IntKind.wrap .i64 ((IntKind.wrap .i64 (Int.tmod (IntKind.wrap .u64 a1) (IntKind.wrap .u64 (IntKind.wrap .i64 (8 * (((List.length a0) : Nat) : Int)))))) + x15))), (.int .u32 a2), (iz x15), (.int .u32 (Int.fdiv a2 (2 ^ (min (Int.toNat x15) 32)))), (.int .u32 (bits .and .u32 (Int.fdiv a2 (2 ^ (min (Int.toNat x15) 32))) 1)), (.bool ((bits .and .u32 (Int.fdiv a2 (2 ^ (min (Int.toNat x15) 32))) 1) == 0)), bf, (iz (IntKind.wrap .i64 ((IntKind.wrap .i64 (Int.tmod (IntKind.wrap .u64 a1) (IntKind.wrap .u64 (IntKind.wrap .i64 (8 * (((List.length a0) : Nat) : Int)))))) + x15))), (.str a0), (iz (((List.length a0) : Nat) : Int)), (iz (IntKind.wrap .i64 (8 * (((List.length a0) : Nat) : Int)))), (.bool (decide ((IntKind.wrap .i64 ((IntKind.wrap .i64 (Int.tmod (IntKind.wrap .u64 a1) (IntKind.wrap .u64 (IntKind.wrap .i64 (8 * (((List.length a0) : Nat) : Int)))))) + x15)) ≥ (IntKind.wrap .i64 (8 * (((List.length a0) : Nat) : Int)))))), bf, (iz x15), bt, v4, (iz (IntKind.wrap .i64 ((IntKind.wrap .i64 (Int.tmod (IntKind.wrap .u64 a1) (IntKind.wrap .u64 (IntKind.wrap .i64 (8 * (((List.length a0) : Nat) : Int)))))) + x15))), (iz (IntKind.wrap .i64 (Int.tdiv (IntKind.wrap .i64 ((IntKind.wrap .i64 (Int.tmod (IntKind.wrap .u64 a1) (IntKind.wrap .u64 (IntKind.wrap .i64 (8 * (((List.length a0) : Nat) : Int)))))) + x15)) 8))), v56, (.int .u8 x60), (iz (IntKind.wrap .i64 ((IntKind.wrap .i64 (Int.tmod (IntKind.wrap .u64 a1) (IntKind.wrap .u64 (IntKind.wrap .i64 (8 * (((List.length a0) : Nat) : Int)))))) + x15))), (iz (Int.tmod (IntKind.wrap .i64 ((IntKind.wrap .i64 (Int.tmod (IntKind.wrap .u64 a1) (IntKind.wrap .u64 (IntKind.wrap .i64 (8 * (((List.length a0) : Nat) : Int)))))) + x15)) 8)), (.int .u8 (Int.fdiv 128 (2 ^ (min (Int.toNat (Int.tmod (IntKind.wrap .i64 ((IntKind.wrap .i64 (Int.tmod (IntKind.wrap .u64 a1) (IntKind.wrap .u64 (IntKind.wrap .i64 (8 * (((List.length a0) : Nat) : Int)))))) + x15)) 8)) 8)))), (.int .u8 (bits .xor .u8 x60 (Int.fdiv 128 (2 ^ (min (Int.toNat (Int.tmod (IntKind.wrap .i64 ((IntKind.wrap .i64 (Int.tmod (IntKind.wrap .u64 a1) (IntKind.wrap .u64 (IntKind.wrap .i64 (8 * (((List.length a0) : Nat) : Int)))))) + x15)) 8)) 8))))), v61, v6, (iz (IntKind.wrap .i64 ((IntKind.wrap .i64 (Int.tmod (IntKind.wrap .u64 a1) (IntKind.wrap .u64 (IntKind.wrap .i64 (8 * (((List.length a0) : Nat) : Int)))))) + x15))), (iz (IntKind.wrap .i64 (Int.tdiv (IntKind.wrap .i64 ((IntKind.wrap .i64 (Int.tmod (IntKind.wrap .u64 a1) (IntKind.wrap .u64 (IntKind.wrap .i64 (8 * (((List.length a0) : Nat) : Int)))))) + x15)) 8))), v65, (.int .u8 x69), (iz (IntKind.wrap .i64 ((IntKind.wrap .i64 (Int.tmod (IntKind.wrap .u64 a1) (IntKind.wrap .u64 (IntKind.wrap .i64 (8 * (((List.length a0) : Nat) : Int)))))) + x15))), (iz (Int.tmod (IntKind.wrap .i64 ((IntKind.wrap .i64 (Int.tmod (IntKind.wrap .u64 a1) (IntKind.wrap .u64 (IntKind.wrap .i64 (8 * (((List.length a0) : Nat) : Int)))))) + x15)) 8)), (.int .u8 (IntKind.wrap .u8 (1 * (2 ^ (min (Int.toNat (Int.tmod (IntKind.wrap .i64 ((IntKind.wrap .i64 (Int.tmod (IntKind.wrap .u64 a1) (IntKind.wrap .u64 (IntKind.wrap .i64 (8 * (((List.length a0) : Nat) : Int)))))) + x15)) 8)) 8))))), (.int .u8 (bits .xor .u8 x69 (IntKind.wrap .u8 (1 * (2 ^ (min (Int.toNat (Int.tmod (IntKind.wrap .i64 ((IntKind.wrap .i64 (Int.tmod (IntKind.wrap .u64 a1) (IntKind.wrap .u64 (IntKind.wrap .i64 (8 * (((List.length a0) : Nat) : Int)))))) + x15)) 8)) 8)))))), v70, (iz (IntKind.wrap .i64 (x15 + 1))), tz, tz, tz, tz, tz, tz, tz, tz, tz, tz, tz, tz, tz, tz, tz, tz, tz, tz], h73⟩)))
 (C.hop (St.H s8) (.ixAS .any 1 (.v v6) (.v (iz (IntKind.wrap .i64 (Int.tdiv (IntKind.wrap .i64 ((IntKind.wrap .i64 (Int.tmod (IntKind.wrap .u64 a1) (IntKind.wrap .u64 (IntKind.wrap .i64 (8 * (((List.length a0) : Nat) : Int)))))) + x15)) 8))))) fun v74 h75 =>
 C.hop h75 (.load false 1 (.v v74)) fun v76 h77 =>
 C.int .u8 (some v76) fun x78 =>
 cnd (decide ((Int.tmod (IntKind.wrap .i64 ((IntKind.wrap .i64 (Int.tmod (IntKind.wrap .u64 a1) (IntKind.wrap .u64 (IntKind.wrap .i64 (8 * (((List.length a0) : Nat) : Int)))))) + x15)) 8) < 0))
 (none)
 (C.hop h77 (.ixAS .any 1 (.v v6) (.v (iz (IntKind.wrap .i64 (Int.tdiv (IntKind.wrap .i64 ((IntKind.wrap .i64 (Int.tmod (IntKind.wrap .u64 a1) (IntKind.wrap .u64 (IntKind.wrap .i64 (8 * (((List.length a0) : Nat) : Int)))))) + x15)) 8))))) fun v79 h80 =>
 C.hop h80 (.store 1 (.v v79) (.v (.int .u8 (bits .xor .u8 x78 (IntKind.wrap .u8 (1 * (2 ^ (min (Int.toNat (Int.tmod (IntKind.wrap .i64 ((IntKind.wrap .i64 (Int.tmod (IntKind.wrap .u64 a1) (IntKind.wrap .u64 (IntKind.wrap .i64 (8 * (((List.length a0) : Nat) : Int)))))) + x15)) 8)) 8)))))))) fun v81 h82 =>
 k9 .normal ⟨[(.str a0), (iz (IntKind.wrap .i64 (Int.tmod (IntKind.wrap .u64 a1) (IntKind.wrap .u64 (IntKind.wrap .i64 (8 * (((List.length a0) : Nat) : Int))))))), (.int .u32 a2), tz, tz, tz, bf, v4, v6, (.bool b11), bt, (iz x15), (iz (IntKind.wrap .i64 ((IntKind.wrap .i64 (Int.tmod (IntKind.wrap .u64 a1) (IntKind.wrap .u64 (IntKind.wrap .i64 (8 * (((List.length a0) : Nat) : Int)))))) + x15))), (.bool b0), (.bool (!b0)), bf, (.str a0), (iz (((List.length a0) : Nat) : Int)), (.bool (decide ((((List.length a0) : Nat) : Int) < 1))), (.bool (decide ((((List.length a0) : Nat) : Int) < 1))), bf, (.str a0), (iz (((List.length a0) : Nat) : Int)), (.bool (decide ((((List.length a0) : Nat) : Int) > 300))), bf, tz, (iz a1), (.int .u64 (IntKind.wrap .u64 a1)), (.str a0), (iz (((List.length a0) : Nat) : Int)), (iz (IntKind.wrap .i64 (8 * (((List.length a0) : Nat) : Int)))), (.int .u64 (IntKind.wrap .u64 (IntKind.wrap .i64 (8 * (((List.length a0) : Nat) : Int))))), (.int .u64 (Int.tmod (IntKind.wrap .u64 a1) (IntKind.wrap .u64 (IntKind.wrap .i64 (8 * (((List.length a0) : Nat) : Int)))))), (iz (IntKind.wrap .i64 (Int.tmod (IntKind.wrap .u64 a1) (IntKind.wrap .u64 (IntKind.wrap .i64 (8 * (((List.length a0) : Nat) : Int))))))), (.str a0), v4, (.str a0), v6, (iz (IntKind.wrap .i64 (x15 + 1))), bt, (iz x15), (iz (IntKind.wrap .i64 (Int.tmod (IntKind.wrap .u64 a1) (IntKind.wrap .u64 (IntKind.wrap .i64 (8 * (((List.length a0) : Nat) : Int))))))), (iz x15), (iz (IntKind.wrap .i64 ((IntKind.wrap .i64 (Int.tmod (IntKind.wrap .u64 a1) (IntKind.wrap .u64 (IntKind.wrap .i64 (8 * (((List.length a0) : Nat) : Int)))))) + x15))), (.int .u32 a2), (iz x15), (.int .u32 (Int.fdiv a2 (2 ^ (min (Int.toNat x15) 32)))), (.int .u32 (bits .and .u32 (Int.fdiv a2 (2 ^ (min (Int.toNat x15) 32))) 1)), (.bool ((bits .and .u32 (Int.fdiv a2 (2 ^ (min (Int.toNat x15) 32))) 1) == 0)), bf, (iz (IntKind.wrap .i64 ((IntKind.wrap .i64 (Int.tmod (IntKind.wrap .u64 a1) (IntKind.wrap .u64 (IntKind.wrap .i64 (8 * (((List.length a0) : Nat) : Int)))))) + x15))), (.str a0), (iz (((List.length a0) : Nat) : Int)), (iz (IntKind.wrap .i64 (8 * (((List.length a0) : Nat) : Int)))), (.bool (decide ((IntKind.wrap .i64 ((IntKind.wrap .i64 (Int.tmod (IntKind.wrap .u64 a1) (IntKind.wrap .u64 (IntKind.wrap .i64 (8 * (((List.length a0) : Nat) : Int)))))) + x15)) ≥ (IntKind.wrap .i64 (8 * (((List.length a0) : Nat) : Int)))))), bf, (iz x15), bf, v35, v36, v37, v38, v39, v40, v41, v42, v43, v44, v6, (iz (IntKind.wrap .i64 ((IntKind.wrap .i64 (Int.tmod (IntKind.wrap .u64 a1) (IntKind.wrap .u64 (IntKind.wrap .i64 (8 * (((List.length a0) : Nat) : Int)))))) + x15))), (iz (IntKind.wrap .i64 (Int.tdiv (IntKind.wrap .i64 ((IntKind.wrap .i64 (Int.tmod (IntKind.wrap .u64 a1) (IntKind.wrap .u64 (IntKind.wrap .i64 (8 * (((List.length a0) : Nat) : Int)))))) + x15)) 8))), v74, (.int .u8 x78), (iz (IntKind.wrap .i64 ((IntKind.wrap .i64 (Int.tmod (IntKind.wrap .u64 a1) (IntKind.wrap .u64 (IntKind.wrap .i64 (8 * (((List.length a0) : Nat) : Int)))))) + x15))), (iz (Int.tmod (IntKind.wrap .i64 ((IntKind.wrap .i64 (Int.tmod (IntKind.wrap .u64 a1) (IntKind.wrap .u64 (IntKind.wrap .i64 (8 * (((List.length a0) : Nat) : Int)))))) + x15)) 8)), (.int .u8 (IntKind.wrap .u8 (1 * (2 ^ (min (Int.toNat (Int.tmod (IntKind.wrap .i64 ((IntKind.wrap .i64 (Int.tmod (IntKind.wrap .u64 a1) (IntKind.wrap .u64 (IntKind.wrap .i64 (8 * (((List.length a0) : Nat) : Int)))))) + x15)) 8)) 8))))), (.int .u8 (bits .xor .u8 x78 (IntKind.wrap .u8 (1 * (2 ^ (min (Int.toNat (Int.tmod (IntKind.wrap .i64 ((IntKind.wrap .i64 (Int.tmod (IntKind.wrap .u64 a1) (IntKind.wrap .u64 (IntKind.wrap .i64 (8 * (((List.length a0) : Nat) : Int)))))) + x15)) 8)) 8)))))), v79, (iz (IntKind.wrap .i64 (x15 + 1))), tz, tz, tz, tz, tz, tz, tz, tz, tz, tz, tz, tz, tz, tz, tz, tz, tz, tz], h82⟩))))))
 (k9 (.exit 0) ⟨[(.str a0), (iz (IntKind.wrap .i64 (Int.tmod (IntKind.wrap .u64 a1) (IntKind.wrap .u64 (IntKind.wrap .i64 (8 * (((List.length a0) : Nat) : Int))))))), (.int .u32 a2), tz, tz, tz, bf, v4, v6, (.bool b11), (.bool b12), v13, v14, (.bool b0), (.bool (!b0)), bf, (.str a0), (iz (((List.length a0) : Nat) : Int)), (.bool (decide ((((List.length a0) : Nat) : Int) < 1))), (.bool (decide ((((List.length a0) : Nat) : Int) < 1))), bf, (.str a0), (iz (((List.length a0) : Nat) : Int)), (.bool (decide ((((List.length a0) : Nat) : Int) > 300))), bf, tz, (iz a1), (.int .u64 (IntKind.wrap .u64 a1)), (.str a0), (iz (((List.length a0) : Nat) : Int)), (iz (IntKind.wrap .i64 (8 * (((List.length a0) : Nat) : Int)))), (.int .u64 (IntKind.wrap .u64 (IntKind.wrap .i64 (8 * (((List.length a0) : Nat) : Int))))), (.int .u64 (Int.tmod (IntKind.wrap .u64 a1) (IntKind.wrap .u64 (IntKind.wrap .i64 (8 * (((List.length a0) : Nat) : Int)))))), (iz (IntKind.wrap .i64 (Int.tmod (IntKind.wrap .u64 a1) (IntKind.wrap .u64 (IntKind.wrap .i64 (8 * (((List.length a0) : Nat) : Int))))))), (.str a0), v4, (.str a0), v6, (iz x15), bf, v17, v18, v19, v20, v21, v22, v23, v24, v25, v26, v27, v28, v29, v30, v31, v32, v33, v34, v35, v36, v37, v38, v39, v40, v41, v42, v43, v44, v45, v46, v47, v48, v49, v50, v51, v52, v53, v54, v55, tz, tz, tz, tz, tz, tz, tz, tz, tz, tz, tz, tz, tz, tz, tz, tz, tz, tz], (St.H s8)⟩))
 (none)
def r6X0_0 (C : Cb) (d : Nat) (a0 : List UInt8) (a1 a2 : Int) (b0 : Bool) (v4 v6 : AV) : St → Ans := fun s83 =>
 cnd ((List.length s83.env) == 97)
 (C.same s83.env[0]? (.str a0) <|
 C.same s83.env[1]? (iz (IntKind.wrap .i64 (Int.tmod (IntKind.wrap .u64 a1) (IntKind.wrap .u64 (IntKind.wrap .i64 (8 * (((List.length a0) : Nat) : Int))))))) <|
 C.same s83.env[2]? (.int .u32 a2) <|
 C.same s83.env[3]? tz <|
 C.same s83.env[4]? tz <|
 C.same s83.env[5]? tz <|
 C.same s83.env[6]? bf <|
 C.same s83.env[7]? v4 <|
 C.same s83.env[8]? v6 <|
 C.bool s83.env[9]? fun b84 =>
 C.bool s83.env[10]? fun b85 =>
 C.any s83.env[11]? fun v86 =>
 C.any s83.env[12]? fun v87 =>
 C.same s83.env[13]? (.bool b0) <|
 C.same s83.env[14]? (.bool (!b0)) <|
 C.same s83.env[15]? bf <|
 C.same s83.env[16]? (.str a0) <|
 C.same s83.env[17]? (iz (((List.length a0) : Nat) : Int)) <|
 C.same s83.env[18]? (.bool (decide ((((List.length a0) : Nat) : Int) < 1))) <|
 C.same s83.env[19]? (.bool (decide ((((List.length a0) : Nat) : Int) < 1))) <|
 C.same s83.env[20]? bf <|
 C.same s83.env[21]? (.str a0) <|
 C.same s83.env[22]? (iz (((List.length a0) : Nat) : Int)) <|
 C.same s83.env[23]? (.bool (decide ((((List.length a0) : Nat) : Int) > 300))) <|
 C.same s83.env[24]? bf <|
 C.same s83.env[25]? tz <|
 C.same s83.env[26]? (iz a1) <|
 C.same s83.env[27]? (.int .u64 (IntKind.wrap .u64 a1)) <|
 C.same s83.env[28]? (.str a0) <|
 C.same s83.env[29]? (iz (((List.length a0) : Nat) : Int)) <|
 C.same s83.env[30]? (iz (IntKind.wrap .i64 (8 * (((List.length a0) : Nat) : Int)))) <|
 C.same s83.env[31]? (.int .u64 (IntKind.wrap .u64 (IntKind.wrap .i64 (8 * (((List.length a0) : Nat) : Int))))) <|
 C.same s83.env[32]? (.int .u64 (Int.tmod (IntKind.wrap .u64 a1) (IntKind.wrap .u64 (IntKind.wrap .i64 (8 * (((List.length a0) : Nat) : Int)))))) <|
 C.same s83.env[33]? (iz (IntKind.wrap .i64 (Int.tmod (IntKind.wrap .u64 a1) (IntKind.wrap .u64 (IntKind.wrap .i64 (8 * (((List.length a0) : Nat) : Int))))))) <|
 C.same s83.env[34]? (.str a0) <|
 C.same s83.env[35]? v4 <|
 C.same s83.env[36]? (.str a0) <|
 C.same s83.env[37]? v6 <|
 C.int .i64 s83.env[38]? fun x88 =>
 C.bool s83.env[39]? fun b89 =>
 C.any s83.env[40]? fun v90 =>
 C.any s83.env[41]? fun v91 =>
 C.any s83.env[42]? fun v92 =>
 C.any s83.env[43]? fun v93 =>
 C.any s83.env[44]? fun v94 =>
 C.any s83.env[45]? fun v95 =>
 C.any s83.env[46]? fun v96 =>
 C.any s83.env[47]? fun v97 =>
 C.any s83.env[48]? fun v98 =>
 C.any s83.env[49]? fun v99 =>
 C.any s83.env[50]? fun v100 =>
 C.any s83.env[51]? fun v101 =>
 C.any s83.env[52]? fun v102 =>
 C.any s83.env[53]? fun v103 =>
 C.any s83.env[54]? fun v104 =>
 C.any s83.env[55]? fun v105 =>
 C.any s83.env[56]? fun v106 =>
 C.any s83.env[57]? fun v107 =>
 C.any s83.env[58]? fun v108 =>
 C.any s83.env[59]? fun v109 =>
 C.any s83.env[60]? fun v110 =>
 C.any s83.env[61]? fun v111 =>
 C.any s83.env[62]? fun v112 =>
 C.any s83.env[63]? fun v113 =>
 C.any s83.env[64]? fun v114 =>
 C.any s83.env[65]? fun v115 =>
 C.any s83.env[66]? fun v116 =>
 C.any s83.env[67]? fun v117 =>
 C.any s83.env[68]? fun v118 =>
 C.any s83.env[69]? fun v119 =>
 C.any s83.env[70]? fun v120 =>
 C.any s83.env[71]? fun v121 =>
 C.any s83.env[72]? fun v122 =>
 C.any s83.env[73]? fun v123 =>
 C.any s83.env[74]? fun v124 =>
 C.any s83.env[75]? fun v125 =>
 C.any s83.env[76]? fun v126 =>
 C.any s83.env[77]? fun v127 =>
 C.any s83.env[78]? fun v128 =>
 C.same s83.env[79]? tz <|
 C.same s83.env[80]? tz <|
 C.same s83.env[81]? tz <|
 C.same s83.env[82]? tz <|
 C.same s83.env[83]? tz <|
 C.same s83.env[84]? tz <|
 C.same s83.env[85]? tz <|
 C.same s83.env[86]? tz <|
 C.same s83.env[87]? tz <|
 C.same s83.env[88]? tz <|
 C.same s83.env[89]? tz <|
 C.same s83.env[90]? tz <|
 C.same s83.env[91]? tz <|
 C.same s83.env[92]? tz <|
 C.same s83.env[93]? tz <|
 C.same s83.env[94]? tz <|
 C.same s83.env[95]? tz <|
 C.same s83.env[96]? tz <|
 C.hop (St.H s83) (.b2s (.v v4)) fun v129 h130 =>
 C.str (some v129) fun s131 =>
 C.int .u16 (pcall M d 10 [(.str s131)]) fun x132 =>
 C.int .u16 (pcall M d 10 [(.str a0)]) fun x133 =>
 cnd (xor true ((x132 == x133) == b84))
 (C.hop h130 (.b2s (.v v6)) fun v134 h135 =>
 C.str (some v134) fun s136 =>
 C.int .u32 (pcall M d 12 [(.str s136)]) fun x137 =>
 C.int .u32 (pcall M d 12 [(.str a0)]) fun x138 =>
 C.fin h135 (.bool (xor true ((x137 == x138) == b85))))
 (C.fin h130 bf))
 (none)
def r6E0 (C : Cb) (d : Nat) (a0 : List UInt8) (a1 a2 : Int) (b0 : Bool) (v4 v6 : AV) : St → Ans := fun s10 =>
 cnd ((List.length s10.env) == 97)
 (C.same s10.env[0]? (.str a0) <|
 C.same s10.env[1]? (iz (IntKind.wrap .i64 (Int.tmod (IntKind.wrap .u64 a1) (IntKind.wrap .u64 (IntKind.wrap .i64 (8 * (((List.length a0) : Nat) : Int))))))) <|
 C.same s10.env[2]? (.int .u32 a2) <|
 C.same s10.env[3]? tz <|
 C.same s10.env[4]? tz <|
 C.same s10.env[5]? tz <|
 C.same s10.env[6]? bf <|
 C.same s10.env[7]? v4 <|
 C.same s10.env[8]? v6 <|
 C.bool s10.env[9]? fun b139 =>
 C.bool s10.env[10]? fun b140 =>
 C.any s10.env[11]? fun v141 =>
 C.any s10.env[12]? fun v142 =>
 C.same s10.env[13]? (.bool b0) <|
 C.same s10.env[14]? (.bool (!b0)) <|
 C.same s10.env[15]? bf <|
 C.same s10.env[16]? (.str a0) <|
 C.same s10.env[17]? (iz (((List.length a0) : Nat) : Int)) <|
 C.same s10.env[18]? (.bool (decide ((((List.length a0) : Nat) : Int) < 1))) <|
 C.same s10.env[19]? (.bool (decide ((((List.length a0) : Nat) : Int) < 1))) <|
 C.same s10.env[20]? bf <|
 C.same s10.env[21]? (.str a0) <|
 C.same s10.env[22]? (iz (((List.length a0) : Nat) : Int)) <|
 C.same s10.env[23]? (.bool (decide ((((List.length a0) : Nat) : Int) > 300))) <|
 C.same s10.env[24]? bf <|
 C.same s10.env[25]? tz <|
 C.same s10.env[26]? (iz a1) <|
 C.same s10.env[27]? (.int .u64 (IntKind.wrap .u64 a1)) <|
 C.same s10.env[28]? (.str a0) <|
 C.same s10.env[29]? (iz (((List.length a0) : Nat) : Int)) <|
 C.same s10.env[30]? (iz (IntKind.wrap .i64 (8 * (((List.length a0) : Nat) : Int)))) <|
 C.same s10.env[31]? (.int .u64 (IntKind.wrap .u64 (IntKind.wrap .i64 (8 * (((List.length a0) : Nat) : Int))))) <|
 C.same s10.env[32]? (.int .u64 (Int.tmod (IntKind.wrap .u64 a1) (IntKind.wrap .u64 (IntKind.wrap .i64 (8 * (((List.length a0) : Nat) : Int)))))) <|
 C.same s10.env[33]? (iz (IntKind.wrap .i64 (Int.tmod (IntKind.wrap .u64 a1) (IntKind.wrap .u64 (IntKind.wrap .i64 (8 * (((List.length a0) : Nat) : Int))))))) <|
 C.same s10.env[34]? (.str a0) <|
 C.same s10.env[35]? v4 <|
 C.same s10.env[36]? (.str a0) <|
 C.same s10.env[37]? v6 <|
 C.int .i64 s10.env[38]? fun x143 =>
 C.any s10.env[39]? fun v144 =>
 C.any s10.env[40]? fun v145 =>
 C.any s10.env[41]? fun v146 =>
 C.any s10.env[42]? fun v147 =>
 C.any s10.env[43]? fun v148 =>
 C.any s10.env[44]? fun v149 =>
 C.any s10.env[45]? fun v150 =>
 C.any s10.env[46]? fun v151 =>
 C.any s10.env[47]? fun v152 =>
 C.any s10.env[48]? fun v153 =>
 C.any s10.env[49]? fun v154 =>
 C.any s10.env[50]? fun v155 =>
 C.any s10.env[51]? fun v156 =>
 C.any s10.env[52]? fun v157 =>
 C.any s10.env[53]? fun v158 =>
 C.any s10.env[54]? fun v159 =>
 C.any s10.env[55]? fun v160 =>
 C.any s10.env[56]? fun v161 =>
 C.any s10.env[57]? fun v162 =>
 C.any s10.env[58]? fun v163 =>
 C.any s10.env[59]? fun v164 =>
 C.any s10.env[60]? fun v165 =>
 C.any s10.env[61]? fun v166 =>
 C.any s10.env[62]? fun v167 =>
 C.any s10.env[63]? fun v168 =>
 C.any s10.env[64]? fun v169 =>
 C.any s10.env[65]? fun v170 =>
 C.any s10.env[66]? fun v171 =>
 C.any s10.env[67]? fun v172 =>
 C.any s10.env[68]? fun v173 =>
 C.any s10.env[69]? fun v174 =>
 C.any s10.env[70]? fun v175 =>
 C.any s10.env[71]? fun v176 =>
 C.any s10.env[72]? fun v177 =>
 C.any s10.env[73]? fun v178 =>
 C.any s10.env[74]? fun v179 =>
 C.any s10.env[75]? fun v180 =>
 C.any s10.env[76]? fun v181 =>
 C.any s10.env[77]? fun v182 =>
 C.any s10.env[78]? fun v183 =>
 C.same s10.env[79]? tz <|
 C.same s10.env[80]? tz <|
 C.same s10.env[81]? tz <|
 C.same s10.env[82]? tz <|
 C.same s10.env[83]? tz <|
 C.same s10.env[84]? tz <|
 C.same s10.env[85]? tz <|
 C.same s10.env[86]? tz <|
 C.same s10.env[87]? tz <|
 C.same s10.env[88]? tz <|
 C.same s10.env[89]? tz <|
 C.same s10.env[90]? tz <|
 C.same s10.env[91]? tz <|
 C.same s10.env[92]? tz <|
 C.same s10.env[93]? tz <|
 C.same s10.env[94]? tz <|
 C.same s10.env[95]? tz <|
 C.same s10.env[96]? tz <|
 C.fin (St.H s10) bf)
 (none)
/-- apogee/apogeelaw04.CrcBits -/
theorem r6 (C : Cb) (d : Nat) (a0 : List UInt8) (a1 a2 : Int) : xcall C M unr d 6 [(.str a0), (iz a1), (.int .u32 a2)] =
 C.bool (pcall M d 9 []) fun b0 =>
 cnd (!b0)
 (C.bool (pcall M d 9 []) fun b1 =>
 C.fin [] (.bool b1))
 (cnd (decide ((((List.length a0) : Nat) : Int) < 1))
 (C.bool (pcall M d 9 []) fun b2 =>
 C.fin [] (.bool b2))
 (cnd (decide ((((List.length a0) : Nat) : Int) > 300))
 (C.bool (pcall M d 9 []) fun b3 =>
 C.fin [] (.bool b3))
 (cnd (decide ((IntKind.wrap .u64 (IntKind.wrap .i64 (8 * (((List.length a0) : Nat) : Int)))) = 0))
 (none)
 (C.hop [] (.s2b E5 (.v (.str a0))) fun v4 h5 =>
 C.hop h5 (.s2b E5 (.v (.str a0))) fun v6 h7 =>
 C.iter (r6R0 C d a0 a1 a2 b0 v4 v6) 1000000000000000000 ⟨[(.str a0), (iz (IntKind.wrap .i64 (Int.tmod (IntKind.wrap .u64 a1) (IntKind.wrap .u64 (IntKind.wrap .i64 (8 * (((List.length a0) : Nat) : Int))))))), (.int .u32 a2), tz, tz, tz, bf, v4, v6, bf, bf, tz, tz, (.bool b0), (.bool (!b0)), bf, (.str a0), (iz (((List.length a0) : Nat) : Int)), (.bool (decide ((((List.length a0) : Nat) : Int) < 1))), (.bool (decide ((((List.length a0) : Nat) : Int) < 1))), bf, (.str a0), (iz (((List.length a0) : Nat) : Int)), (.bool (decide ((((List.length a0) : Nat) : Int) > 300))), bf, tz, (iz a1), (.int .u64 (IntKind.wrap .u64 a1)), (.str a0), (iz (((List.length a0) : Nat) : Int)), (iz (IntKind.wrap .i64 (8 * (((List.length a0) : Nat) : Int)))), (.int .u64 (IntKind.wrap .u64 (IntKind.wrap .i64 (8 * (((List.length a0) : Nat) : Int))))), (.int .u64 (Int.tmod (IntKind.wrap .u64 a1) (IntKind.wrap .u64 (IntKind.wrap .i64 (8 * (((List.length a0) : Nat) : Int)))))), (iz (IntKind.wrap .i64 (Int.tmod (IntKind.wrap .u64 a1) (IntKind.wrap .u64 (IntKind.wrap .i64 (8 * (((List.length a0) : Nat) : Int))))))), (.str a0), v4, (.str a0), v6, (iz 0), tz, tz, tz, tz, tz, tz, tz, tz, tz, tz, tz, tz, tz, tz, tz, tz, tz, tz, tz, tz, tz, tz, tz, tz, tz, tz, tz, tz, tz, tz, tz, tz, tz, tz, tz, tz, tz, tz, tz, tz, tz, tz, tz, tz, tz, tz, tz, tz, tz, tz, tz, tz, tz, tz, tz, tz, tz, tz], h7⟩ [0] [r6X0_0 C d a0 a1 a2 b0 v4 v6] (r6E0 C d a0 a1 a2 b0 v4 v6))))) := by kernel_rfl
end Go.Proofs.Ytcegcmjkkflhhaa.AE

namespace Go.Proofs.Ytcegcmjkkflhhaa.AE
set_option linter.unusedVariables false
set_option linter.unusedSimpArgs false
set_option linter.constructorNameAsVariable false
open Go
set_option maxRecDepth 100000
set_option maxHeartbeats 0
noncomputable def X6_0_0 (d : Nat) (a0 : List UInt8) (a1 a2 : Int) (v4 v6 : AV) (b84 b85 : Bool) (H : Heap) : Ans :=
  C0.hop H (.b2s (.v v4)) fun v129 h130 =>
   C0.str (some v129) fun s131 =>
   C0.int .u16 (pcall M d 10 [(.str s131)]) fun x132 =>
   C0.int .u16 (pcall M d 10 [(.str a0)]) fun x133 =>
   cnd (xor true ((x132 == x133) == b84))
   (C0.hop h130 (.b2s (.v v6)) fun v134 h135 =>
   C0.str (some v134) fun s136 =>
   C0.int .u32 (pcall M d 12 [(.str s136)]) fun x137 =>
   C0.int .u32 (pcall M d 12 [(.str a0)]) fun x138 =>
   C0.fin h135 (.bool (xor true ((x137 == x138) == b85))))
   (C0.fin h130 bf)
theorem X6_0_0_ok (d : Nat) (a0 : List UInt8) (a1 a2 : Int) (b0 : Bool) (v4 v6 : AV) (b84 b85 : Bool) (v86 v87 : AV) (x88 : Int) (b89 : Bool) (v90 v91 v92 v93 v94 v95 v96 v97 v98 v99 v100 v101 v102 v103 v104 v105 v106 v107 v108 v109 v110 v111 v112 v113 v114 v115 v116 v117 v118 v119 v120 v121 v122 v123 v124 v125 v126 v127 v128 : AV) (H : Heap) : r6X0_0 C0 d a0 a1 a2 b0 v4 v6 ⟨[(.str a0), (iz (IntKind.wrap .i64 (Int.tmod (IntKind.wrap .u64 a1) (IntKind.wrap .u64 (IntKind.wrap .i64 (8 * (((List.length a0) : Nat) : Int))))))), (.int .u32 a2), tz, tz, tz, bf, v4, v6, (.bool b84), (.bool b85), v86, v87, (.bool b0), (.bool (!b0)), bf, (.str a0), (iz (((List.length a0) : Nat) : Int)), (.bool (decide ((((List.length a0) : Nat) : Int) < 1))), (.bool (decide ((((List.length a0) : Nat) : Int) < 1))), bf, (.str a0), (iz (((List.length a0) : Nat) : Int)), (.bool (decide ((((List.length a0) : Nat) : Int) > 300))), bf, tz, (iz a1), (.int .u64 (IntKind.wrap .u64 a1)), (.str a0), (iz (((List.length a0) : Nat) : Int)), (iz (IntKind.wrap .i64 (8 * (((List.length a0) : Nat) : Int)))), (.int .u64 (IntKind.wrap .u64 (IntKind.wrap .i64 (8 * (((List.length a0) : Nat) : Int))))), (.int .u64 (Int.tmod (IntKind.wrap .u64 a1) (IntKind.wrap .u64 (IntKind.wrap .i64 (8 * (((List.length a0) : Nat) : Int)))))), (iz (IntKind.wrap .i64 (Int.tmod (IntKind.wrap .u64 a1) (IntKind.wrap .u64 (IntKind.wrap .i64 (8 * (((List.length a0) : Nat) : Int))))))), (.str a0), v4, (.str a0), v6, (iz x88), (.bool b89), v90, v91, v92, v93, v94, v95, v96, v97, v98, v99, v100, v101, v102, v103, v104, v105, v106, v107, v108, v109, v110, v111, v112, v113, v114, v115, v116, v117, v118, v119, v120, v121, v122, v123, v124, v125, v126, v127, v128, tz, tz, tz, tz, tz, tz, tz, tz, tz, tz, tz, tz, tz, tz, tz, tz, tz, tz], H⟩ = X6_0_0 d a0 a1 a2 v4 v6 b84 b85 H := by
  unfold r6X0_0; refine Eq.trans (pl_len (by rfl)) ?_; (iterate 9 (refine yt yS ?_)); (iterate 2 (refine yt yB ?_)); (iterate 2 (refine yt yA ?_)); (iterate 25 (refine yt yS ?_)); refine yt yI ?_; refine yt yB ?_; (iterate 39 (refine yt yA ?_)); (iterate 18 (refine yt yS ?_))
  rfl
noncomputable def E6_0 (d : Nat) (a0 : List UInt8) (a1 a2 : Int) (v4 v6 : AV) (H : Heap) : Ans :=
  C0.fin H bf
theorem E6_0_ok (d : Nat) (a0 : List UInt8) (a1 a2 : Int) (b0 : Bool) (v4 v6 : AV) (b139 b140 : Bool) (v141 v142 : AV) (x143 : Int) (v144 v145 v146 v147 v148 v149 v150 v151 v152 v153 v154 v155 v156 v157 v158 v159 v160 v161 v162 v163 v164 v165 v166 v167 v168 v169 v170 v171 v172 v173 v174 v175 v176 v177 v178 v179 v180 v181 v182 v183 : AV) (H : Heap) : r6E0 C0 d a0 a1 a2 b0 v4 v6 ⟨[(.str a0), (iz (IntKind.wrap .i64 (Int.tmod (IntKind.wrap .u64 a1) (IntKind.wrap .u64 (IntKind.wrap .i64 (8 * (((List.length a0) : Nat) : Int))))))), (.int .u32 a2), tz, tz, tz, bf, v4, v6, (.bool b139), (.bool b140), v141, v142, (.bool b0), (.bool (!b0)), bf, (.str a0), (iz (((List.length a0) : Nat) : Int)), (.bool (decide ((((List.length a0) : Nat) : Int) < 1))), (.bool (decide ((((List.length a0) : Nat) : Int) < 1))), bf, (.str a0), (iz (((List.length a0) : Nat) : Int)), (.bool (decide ((((List.length a0) : Nat) : Int) > 300))), bf, tz, (iz a1), (.int .u64 (IntKind.wrap .u64 a1)), (.str a0), (iz (((List.length a0) : Nat) : Int)), (iz (IntKind.wrap .i64 (8 * (((List.length a0) : Nat) : Int)))), (.int .u64 (IntKind.wrap .u64 (IntKind.wrap .i64 (8 * (((List.length a0) : Nat) : Int))))), (.int .u64 (Int.tmod (IntKind.wrap .u64 a1) (IntKind.wrap .u64 (IntKind.wrap .i64 (8 * (((List.length a0) : Nat) : Int)))))), (iz (IntKind.wrap .i64 (Int.tmod (IntKind.wrap .u64 a1) (IntKind.wrap .u64 (IntKind.wrap .i64 (8 * (((List.length a0) : Nat) : Int))))))), (.str a0), v4, (.str a0), v6, (iz x143), v144, v145, v146, v147, v148, v149, v150, v151, v152, v153, v154, v155, v156, v157, v158, v159, v160, v161, v162, v163, v164, v165, v166, v167, v168, v169, v170, v171, v172, v173, v174, v175, v176, v177, v178, v179, v180, v181, v182, v183, tz, tz, tz, tz, tz, tz, tz, tz, tz, tz, tz, tz, tz, tz, tz, tz, tz, tz], H⟩ = E6_0 d a0 a1 a2 v4 v6 H := by
  unfold r6E0; refine Eq.trans (pl_len (by rfl)) ?_; (iterate 9 (refine yt yS ?_)); (iterate 2 (refine yt yB ?_)); (iterate 2 (refine yt yA ?_)); (iterate 25 (refine yt yS ?_)); refine yt yI ?_; (iterate 40 (refine yt yA ?_)); (iterate 18 (refine yt yS ?_))
  rfl
noncomputable def L6_0 (d : Nat) (a0 : List UInt8) (a1 a2 : Int) (v4 v6 : AV) : Nat → Bool → Bool → Int → Heap → Ans
  | 0, _, _, _, _ => none
  | n + 1, b11, b12, x15, H =>
  cnd (decide (x15 < 32))
   (cnd (decide (x15 < 0))
   (none)
   (cnd ((bits .and .u32 (Int.fdiv a2 (2 ^ (min (Int.toNat x15) 32))) 1) == 0)
   (L6_0 d a0 a1 a2 v4 v6 n b11 b12 (IntKind.wrap .i64 (x15 + 1)) H)
   (cnd (decide ((IntKind.wrap .i64 ((IntKind.wrap .i64 (Int.tmod (IntKind.wrap .u64 a1) (IntKind.wrap .u64 (IntKind.wrap .i64 (8 * (((List.length a0) : Nat) : Int)))))) + x15)) ≥ (IntKind.wrap .i64 (8 * (((List.length a0) : Nat) : Int)))))
   (L6_0 d a0 a1 a2 v4 v6 n b11 b12 (IntKind.wrap .i64 (x15 + 1)) H)
   (cnd (decide (x15 < 16))
   (C0.hop H (.ixAS .any 1 (.v v4) (.v (iz (IntKind.wrap .i64 (Int.tdiv (IntKind.wrap .i64 ((IntKind.wrap .i64 (Int.tmod (IntKind.wrap .u64 a1) (IntKind.wrap .u64 (IntKind.wrap .i64 (8 * (((List.length a0) : Nat) : Int)))))) + x15)) 8))))) fun v56 h57 =>
   C0.hop h57 (.load false 1 (.v v56)) fun v58 h59 =>
   C0.int .u8 (some v58) fun x60 =>
   cnd (decide ((Int.tmod (IntKind.wrap .i64 ((IntKind.wrap .i64 (Int.tmod (IntKind.wrap .u64 a1) (IntKind.wrap .u64 (IntKind.wrap .i64 (8 * (((List.length a0) : Nat) : Int)))))) + x15)) 8) < 0))
   (none)
   (C0.hop h59 (.ixAS .any 1 (.v v4) (.v (iz (IntKind.wrap .i64 (Int.tdiv (IntKind.wrap .i64 ((IntKind.wrap .i64 (Int.tmod (IntKind.wrap .u64 a1) (IntKind.wrap .u64 (IntKind.wrap .i64 (8 * (((List.length a0) : Nat) : Int)))))) + x15)) 8))))) fun v61 h62 =>
   C0.hop h62 (.store 1 (.v v61) (.v (.int .u8 (bits .xor .u8 x60 (Int.fdiv 128 (2 ^ (min (Int.toNat (Int.tmod (IntKind.wrap .i64 ((IntKind.wrap .i64 (Int.tmod (IntKind.wrap .u64 a1) (IntKind.wrap .u64 (IntKind.wrap .i64 (8 * (((List.length a0) : Nat) : Int)))))) + x15)) 8)) 8))))))) fun v63 h64 =>
   C0.hop h64 (.ixAS .any 1 (.v v6) (.v (iz (IntKind.wrap .i64 (Int.tdiv (IntKind.wrap .i64 ((IntKind.wrap .i64 (Int.tmod (IntKind.wrap .u64 a1) (IntKind.wrap .u64 (IntKind.wrap .i64 (8 * (((List.length a0) : Nat) : Int)))))) + x15)) 8))))) fun v65 h66 =>
   C0.hop h66 (.load false 1 (.v v65)) fun v67 h68 =>
   C0.int .u8 (some v67) fun x69 =>
   cnd (decide ((Int.tmod (IntKind.wrap .i64 ((IntKind.wrap .i64 (Int.tmod (IntKind.wrap .u64 a1) (IntKind.wrap .u64 (IntKind.wrap .i64 (8 * (((List.length a0) : Nat) : Int)))))) + x15)) 8) < 0))
   (none)
   (C0.hop h68 (.ixAS .any 1 (.v v6) (.v (iz (IntKind.wrap .i64 (Int.tdiv (IntKind.wrap .i64 ((IntKind.wrap .i64 (Int.tmod (IntKind.wrap .u64 a1) (IntKind.wrap .u64 (IntKind.wrap .i64 (8 * (((List.length a0) : Nat) : Int)))))) + x15)) 8))))) fun v70 h71 =>
   C0.hop h71 (.store 1 (.v v70) (.v (.int .u8 (bits .xor .u8 x69 (IntKind.wrap .u8 (1 * (2 ^ (min (Int.toNat (Int.tmod (IntKind.wrap .i64 ((IntKind.wrap .i64 (Int.tmod (IntKind.wrap .u64 a1) (IntKind.wrap .u64 (IntKind.wrap .i64 (8 * (((List.length a0) : Nat) : Int)))))) + x15)) 8)) 8)))))))) fun v72 h73 =>
   L6_0 d a0 a1 a2 v4 v6 n true true (IntKind.wrap .i64 (x15 + 1)) h73)))
   (C0.hop H (.ixAS .any 1 (.v v6) (.v (iz (IntKind.wrap .i64 (Int.tdiv (IntKind.wrap .i64 ((IntKind.wrap .i64 (Int.tmod (IntKind.wrap .u64 a1) (IntKind.wrap .u64 (IntKind.wrap .i64 (8 * (((List.length a0) : Nat) : Int)))))) + x15)) 8))))) fun v74 h75 =>
   C0.hop h75 (.load false 1 (.v v74)) fun v76 h77 =>
   C0.int .u8 (some v76) fun x78 =>
   cnd (decide ((Int.tmod (IntKind.wrap .i64 ((IntKind.wrap .i64 (Int.tmod (IntKind.wrap .u64 a1) (IntKind.wrap .u64 (IntKind.wrap .i64 (8 * (((List.length a0) : Nat) : Int)))))) + x15)) 8) < 0))
   (none)
   (C0.hop h77 (.ixAS .any 1 (.v v6) (.v (iz (IntKind.wrap .i64 (Int.tdiv (IntKind.wrap .i64 ((IntKind.wrap .i64 (Int.tmod (IntKind.wrap .u64 a1) (IntKind.wrap .u64 (IntKind.wrap .i64 (8 * (((List.length a0) : Nat) : Int)))))) + x15)) 8))))) fun v79 h80 =>
   C0.hop h80 (.store 1 (.v v79) (.v (.int .u8 (bits .xor .u8 x78 (IntKind.wrap .u8 (1 * (2 ^ (min (Int.toNat (Int.tmod (IntKind.wrap .i64 ((IntKind.wrap .i64 (Int.tmod (IntKind.wrap .u64 a1) (IntKind.wrap .u64 (IntKind.wrap .i64 (8 * (((List.length a0) : Nat) : Int)))))) + x15)) 8)) 8)))))))) fun v81 h82 =>
   L6_0 d a0 a1 a2 v4 v6 n b11 true (IntKind.wrap .i64 (x15 + 1)) h82))))))
   (X6_0_0 d a0 a1 a2 v4 v6 b11 b12 H)
theorem L6_0_s (d : Nat) (a0 : List UInt8) (a1 a2 : Int) (v4 v6 : AV) (n : Nat) (b11 b12 : Bool) (x15 : Int) (H : Heap) : L6_0 d a0 a1 a2 v4 v6 (n + 1) b11 b12 x15 H = (cnd (decide (x15 < 32))
   (cnd (decide (x15 < 0))
   (none)
   (cnd ((bits .and .u32 (Int.fdiv a2 (2 ^ (min (Int.toNat x15) 32))) 1) == 0)
   (L6_0 d a0 a1 a2 v4 v6 n b11 b12 (IntKind.wrap .i64 (x15 + 1)) H)
   (cnd (decide ((IntKind.wrap .i64 ((IntKind.wrap .i64 (Int.tmod (IntKind.wrap .u64 a1) (IntKind.wrap .u64 (IntKind.wrap .i64 (8 * (((List.length a0) : Nat) : Int)))))) + x15)) ≥ (IntKind.wrap .i64 (8 * (((List.length a0) : Nat) : Int)))))
   (L6_0 d a0 a1 a2 v4 v6 n b11 b12 (IntKind.wrap .i64 (x15 + 1)) H)
   (cnd (decide (x15 < 16))
   (C0.hop H (.ixAS .any 1 (.v v4) (.v (iz (IntKind.wrap .i64 (Int.tdiv (IntKind.wrap .i64 ((IntKind.wrap .i64 (Int.tmod (IntKind.wrap .u64 a1) (IntKind.wrap .u64 (IntKind.wrap .i64 (8 * (((List.length a0) : Nat) : Int)))))) + x15)) 8))))) fun v56 h57 =>
   C0.hop h57 (.load false 1 (.v v56)) fun v58 h59 =>
   C0.int .u8 (some v58) fun x60 =>
   cnd (decide ((Int.tmod (IntKind.wrap .i64 ((IntKind.wrap .i64 (Int.tmod (IntKind.wrap .u64 a1) (IntKind.wrap .u64 (IntKind.wrap .i64 (8 * (((List.length a0) : Nat) : Int)))))) + x15)) 8) < 0))
   (none)
   (C0.hop h59 (.ixAS .any 1 (.v v4) (.v (iz (IntKind.wrap .i64 (Int.tdiv (IntKind.wrap .i64 ((IntKind.wrap .i64 (Int.tmod (IntKind.wrap .u64 a1) (IntKind.wrap .u64 (IntKind.wrap .i64 (8 * (((List.length a0) : Nat) : Int)))))) + x15)) 8))))) fun v61 h62 =>
   C0.hop h62 (.store 1 (.v v61) (.v (.int .u8 (bits .xor .u8 x60 (Int.fdiv 128 (2 ^ (min (Int.toNat (Int.tmod (IntKind.wrap .i64 ((IntKind.wrap .i64 (Int.tmod (IntKind.wrap .u64 a1) (IntKind.wrap .u64 (IntKind.wrap .i64 (8 * (((List.length a0) : Nat) : Int)))))) + x15)) 8)) 8))))))) fun v63 h64 =>
   C0.hop h64 (.ixAS .any 1 (.v v6) (.v (iz (IntKind.wrap .i64 (Int.tdiv (IntKind.wrap .i64 ((IntKind.wrap .i64 (Int.tmod (IntKind.wrap .u64 a1) (IntKind.wrap .u64 (IntKind.wrap .i64 (8 * (((List.length a0) : Nat) : Int)))))) + x15)) 8))))) fun v65 h66 =>
   C0.hop h66 (.load false 1 (.v v65)) fun v67 h68 =>
   C0.int .u8 (some v67) fun x69 =>
   cnd (decide ((Int.tmod (IntKind.wrap .i64 ((IntKind.wrap .i64 (Int.tmod (IntKind.wrap .u64 a1) (IntKind.wrap .u64 (IntKind.wrap .i64 (8 * (((List.length a0) : Nat) : Int)))))) + x15)) 8) < 0))
   (none)
   (C0.hop h68 (.ixAS .any 1 (.v v6) (.v (iz (IntKind.wrap .i64 (Int.tdiv (IntKind.wrap .i64 ((IntKind.wrap .i64 (Int.tmod (IntKind.wrap .u64 a1) (IntKind.wrap .u64 (IntKind.wrap .i64 (8 * (((List.length a0) : Nat) : Int)))))) + x15)) 8))))) fun v70 h71 =>
   C0.hop h71 (.store 1 (.v v70) (.v (.int .u8 (bits .xor .u8 x69 (IntKind.wrap .u8 (1 * (2 ^ (min (Int.toNat (Int.tmod (IntKind.wrap .i64 ((IntKind.wrap .i64 (Int.tmod (IntKind.wrap .u64 a1) (IntKind.wrap .u64 (IntKind.wrap .i64 (8 * (((List.length a0) : Nat) : Int)))))) + x15)) 8)) 8)))))))) fun v72 h73 =>
   L6_0 d a0 a1 a2 v4 v6 n true true (IntKind.wrap .i64 (x15 + 1)) h73)))
   (C0.hop H (.ixAS .any 1 (.v v6) (.v (iz (IntKind.wrap .i64 (Int.tdiv (IntKind.wrap .i64 ((IntKind.wrap .i64 (Int.tmod (IntKind.wrap .u64 a1) (IntKind.wrap .u64 (IntKind.wrap .i64 (8 * (((List.length a0) : Nat) : Int)))))) + x15)) 8))))) fun v74 h75 =>
   C0.hop h75 (.load false 1 (.v v74)) fun v76 h77 =>
   C0.int .u8 (some v76) fun x78 =>
   cnd (decide ((Int.tmod (IntKind.wrap .i64 ((IntKind.wrap .i64 (Int.tmod (IntKind.wrap .u64 a1) (IntKind.wrap .u64 (IntKind.wrap .i64 (8 * (((List.length a0) : Nat) : Int)))))) + x15)) 8) < 0))
   (none)
   (C0.hop h77 (.ixAS .any 1 (.v v6) (.v (iz (IntKind.wrap .i64 (Int.tdiv (IntKind.wrap .i64 ((IntKind.wrap .i64 (Int.tmod (IntKind.wrap .u64 a1) (IntKind.wrap .u64 (IntKind.wrap .i64 (8 * (((List.length a0) : Nat) : Int)))))) + x15)) 8))))) fun v79 h80 =>
   C0.hop h80 (.store 1 (.v v79) (.v (.int .u8 (bits .xor .u8 x78 (IntKind.wrap .u8 (1 * (2 ^ (min (Int.toNat (Int.tmod (IntKind.wrap .i64 ((IntKind.wrap .i64 (Int.tmod (IntKind.wrap .u64 a1) (IntKind.wrap .u64 (IntKind.wrap .i64 (8 * (((List.length a0) : Nat) : Int)))))) + x15)) 8)) 8)))))))) fun v81 h82 =>
   L6_0 d a0 a1 a2 v4 v6 n b11 true (IntKind.wrap .i64 (x15 + 1)) h82))))))
   (X6_0_0 d a0 a1 a2 v4 v6 b11 b12 H)) := by kernel_rfl
theorem it6_0 (d : Nat) (a0 : List UInt8) (a1 a2 : Int) (b0 : Bool) (v4 v6 : AV)   : ∀ (n : Nat) (b11 b12 : Bool) (v13 v14 : AV) (x15 : Int) (v16 v17 v18 v19 v20 v21 v22 v23 v24 v25 v26 v27 v28 v29 v30 v31 v32 v33 v34 v35 v36 v37 v38 v39 v40 v41 v42 v43 v44 v45 v46 v47 v48 v49 v50 v51 v52 v53 v54 v55 : AV) (H : Heap), C0.iter (r6R0 C0 d a0 a1 a2 b0 v4 v6) n ⟨[(.str a0), (iz (IntKind.wrap .i64 (Int.tmod (IntKind.wrap .u64 a1) (IntKind.wrap .u64 (IntKind.wrap .i64 (8 * (((List.length a0) : Nat) : Int))))))), (.int .u32 a2), tz, tz, tz, bf, v4, v6, (.bool b11), (.bool b12), v13, v14, (.bool b0), (.bool (!b0)), bf, (.str a0), (iz (((List.length a0) : Nat) : Int)), (.bool (decide ((((List.length a0) : Nat) : Int) < 1))), (.bool (decide ((((List.length a0) : Nat) : Int) < 1))), bf, (.str a0), (iz (((List.length a0) : Nat) : Int)), (.bool (decide ((((List.length a0) : Nat) : Int) > 300))), bf, tz, (iz a1), (.int .u64 (IntKind.wrap .u64 a1)), (.str a0), (iz (((List.length a0) : Nat) : Int)), (iz (IntKind.wrap .i64 (8 * (((List.length a0) : Nat) : Int)))), (.int .u64 (IntKind.wrap .u64 (IntKind.wrap .i64 (8 * (((List.length a0) : Nat) : Int))))), (.int .u64 (Int.tmod (IntKind.wrap .u64 a1) (IntKind.wrap .u64 (IntKind.wrap .i64 (8 * (((List.length a0) : Nat) : Int)))))), (iz (IntKind.wrap .i64 (Int.tmod (IntKind.wrap .u64 a1) (IntKind.wrap .u64 (IntKind.wrap .i64 (8 * (((List.length a0) : Nat) : Int))))))), (.str a0), v4, (.str a0), v6, (iz x15), v16, v17, v18, v19, v20, v21, v22, v23, v24, v25, v26, v27, v28, v29, v30, v31, v32, v33, v34, v35, v36, v37, v38, v39, v40, v41, v42, v43, v44, v45, v46, v47, v48, v49, v50, v51, v52, v53, v54, v55, tz, tz, tz, tz, tz, tz, tz, tz, tz, tz, tz, tz, tz, tz, tz, tz, tz, tz], H⟩ [0] [r6X0_0 C0 d a0 a1 a2 b0 v4 v6] (r6E0 C0 d a0 a1 a2 b0 v4 v6) = L6_0 d a0 a1 a2 v4 v6 n b11 b12 x15 H := by
  generalize hR : r6R0 C0 d a0 a1 a2 b0 v4 v6 = R
  intro n
  induction n with
  | zero => intros; rfl
  | succ n ih =>
    intro b11 b12 v13 v14 x15 v16 v17 v18 v19 v20 v21 v22 v23 v24 v25 v26 v27 v28 v29 v30 v31 v32 v33 v34 v35 v36 v37 v38 v39 v40 v41 v42 v43 v44 v45 v46 v47 v48 v49 v50 v51 v52 v53 v54 v55 H
    simp only [it_ret] at ih
    rw [it_ret, xiter_s]
    refine Eq.trans (congrFun (congrFun hR.symm _) _) ?_
    unfold r6R0
    refine Eq.trans (pl_len (by rfl)) ?_; (iterate 9 (refine yt yS ?_)); (iterate 2 (refine yt yB ?_)); (iterate 2 (refine yt yA ?_)); (iterate 25 (refine yt yS ?_)); refine yt yI ?_; (iterate 40 (refine yt yA ?_)); (iterate 18 (refine yt yS ?_))
    simp only [kIter_n, kIter_x, kIter_r, kOut_x, kOut_r, xgo_hit, xgo_miss, ih, X6_0_0_ok d a0 a1 a2 b0 v4 v6  , E6_0_ok d a0 a1 a2 b0 v4 v6  ]
    exact (L6_0_s d a0 a1 a2 v4 v6 n b11 b12 x15 H).symm
/-- apogee/apogeelaw04.CrcBits -/
theorem q6 (d : Nat) (a0 : List UInt8) (a1 a2 : Int) : xcall C0 M unr d 6 [(.str a0), (iz a1), (.int .u32 a2)] =
  C0.bool (pcall M d 9 []) fun b0 =>
  cnd (!b0)
   (C0.bool (pcall M d 9 []) fun b1 =>
   C0.fin [] (.bool b1))
   (cnd (decide ((((List.length a0) : Nat) : Int) < 1))
   (C0.bool (pcall M d 9 []) fun b2 =>
   C0.fin [] (.bool b2))
   (cnd (decide ((((List.length a0) : Nat) : Int) > 300))
   (C0.bool (pcall M d 9 []) fun b3 =>
   C0.fin [] (.bool b3))
   (cnd (decide ((IntKind.wrap .u64 (IntKind.wrap .i64 (8 * (((List.length a0) : Nat) : Int)))) = 0))
   (none)
   (C0.hop [] (.s2b E5 (.v (.str a0))) fun v4 h5 =>
   C0.hop h5 (.s2b E5 (.v (.str a0))) fun v6 h7 =>
   L6_0 d a0 a1 a2 v4 v6 1000000000000000000 false false 0 h7)))) := (r6 C0 d a0 a1 a2).trans (by simp only [it6_0])
end Go.Proofs.Ytcegcmjkkflhhaa.AE

namespace Go.Proofs.Ytcegcmjkkflhhaa.AE
set_option linter.unusedVariables false
set_option linter.unusedSimpArgs false
set_option linter.constructorNameAsVariable false
open Go Go.WideShapes

/-- The form of a cell. -/
inductive CT where
  | i (k : IntKind)
  | b
  | s
  | sl (ag : Bool) (es : List CT)
mutual
def CTok : CT → AV → Prop
  | .i k, v => ∃ n, v = .int k n ∧ (Lit.int k n).wf = true
  | .b, v => ∃ x, v = .bool x
  | .s, v => ∃ x, v = .str x ∧ x.length ≤ maxLen
  | .sl ag es, v => ∃ l, v = .lst l ∧ l.length ≤ maxLen ∧ ∀ x ∈ l, ∃ cs, (match ag with
    | true => x = .agg cs
    | false => cs = [x]) ∧ CTall es cs
def CTall : List CT → List AV → Prop
  | [], l => l = []
  | c :: cs, l => ∃ x t, l = x :: t ∧ CTok c x ∧ CTall cs t
end
/-- An argument of a form: is it a struct or an array; its cells. -/
def TyOK (ag : Bool) (cs : List CT) (v : AV) : Prop := ∃ l, (match ag with
  | true => v = .agg l
  | false => l = [v]) ∧ CTall cs l
theorem CTall_len : ∀ {cs : List CT} {l : List AV}, CTall cs l → l.length = cs.length
  | [], l, h => by simp only [CTall] at h; subst h; rfl
  | c :: cs, l, h => by
    simp only [CTall] at h
    obtain ⟨x, t, rfl, _, h⟩ := h
    simp [CTall_len h]
theorem CTall_app : ∀ {a b : List CT} {l m : List AV}, CTall a l → CTall b m → CTall (a ++ b) (l ++ m)
  | [], b, l, m, h, h' => by simp only [CTall] at h; subst h; exact h'
  | c :: cs, b, l, m, h, h' => by
    simp only [CTall] at h
    obtain ⟨x, t, rfl, h1, h⟩ := h
    simp only [List.cons_append, CTall]
    exact ⟨x, t ++ m, rfl, h1, CTall_app h h'⟩

section
variable (P : Program)
def ctFs (g : TypeId → Option (List CT)) : List Field → Nat → Option (List CT)
  | [], _ => some []
  | f :: fs, off => if f.offset = off then match g f.type with
      | some l => if P.cellsOf f.type = l.length then match ctFs g fs (off + l.length) with
          | some m => some (l ++ m)
          | none => none
        else none
      | none => none
    else none
def ctOf : Nat → TypeId → Option (List CT)
  | 0, _ => none
  | d + 1, t => match P.underlying t with
    | some (.int k) => some [.i k]
    | some .bool => some [.b]
    | some .string => some [.s]
    | some (.slice e) => match ctOf d e, agB P e with
      | some l, some ag => if P.cellsOf e = l.length ∧ 0 < l.length ∧ (ag || l.length == 1) = true then some [.sl ag l] else none
      | _, _ => none
    | some (.struct fs) => match ctFs P (ctOf d) fs.toList 0 with
      | some l => if P.cellsOf t = l.length then some l else none
      | none => none
    | some (.array n e) => match ctOf d e with
      | some l => if P.cellsOf e = l.length ∧ P.cellsOf t = n * l.length then some (List.replicate n l).flatten else none
      | none => none
    | _ => none
end

section
variable {H : Type} {enc : TypeId × Value → H} {P : Program} {w : World} {base : Nat} {spare : Nat → Bool} {held : Bool}
abbrev noBad : Nat → Prop := fun _ => False

/-- Each cell is told. -/
def Cells (w : World) (avs : List AV) (cs : List Value) : Prop := ∀ (i : Nat) (c : AV) (u : Value), avs[i]? = some c → cs[i]? = some u → FRep w noBad c u

theorem cells_one {c : AV} {u : Value} (h : FRep w noBad c u) : Cells w [c] [u] := by
  intro i a b ha hb
  match i with
  | 0 => cases ha; cases hb; exact h
  | i + 1 => cases ha

theorem ctFs_open {g : TypeId → Option (List CT)} {cs : List Value} (hg : ∀ t l (ds : List Value) fuel x, g t = some l → DataW.trod enc P w base spare held fuel t ds = some x → ∃ avs, avs.length = ds.length ∧ CTall l avs ∧ Cells w avs ds) :
    ∀ (fs : List Field) (off : Nat) (l : List CT), ctFs P g fs off = some l → (∀ f ∈ fs, ∃ fuel y, DataW.trod enc P w base spare held fuel f.type ((cs.drop f.offset).take (P.cellsOf f.type)) = some y) →
      ∃ avs, CTall l avs ∧ Cells w avs (cs.drop off)
  | [], off, l, h, _ => by
    simp only [ctFs] at h; cases h
    exact ⟨[], rfl, fun i c u hc _ => by cases hc⟩
  | f :: fs, off, l, h, ht => by
    simp only [ctFs] at h
    split at h
    · rename_i ho
      split at h <;> (try (cases h; done))
      rename_i l1 h1
      split at h
      · rename_i hn
        split at h <;> (try (cases h; done))
        rename_i m hm
        cases h
        obtain ⟨fuel, y, hy⟩ := ht f (List.mem_cons_self ..)
        obtain ⟨a1, e1, e2, e3⟩ := hg _ _ _ _ _ h1 hy
        obtain ⟨a2, q1, q2⟩ := ctFs_open hg fs (off + l1.length) m hm (fun f hf => ht f (List.mem_cons_of_mem _ hf))
        refine ⟨a1 ++ a2, CTall_app e2 q1, ?_⟩
        have hl : a1.length = l1.length := CTall_len e2
        intro i c u hc hu
        by_cases hi : i < a1.length
        · rw [List.getElem?_append_left hi] at hc
          refine e3 i c u hc ?_
          rw [ho, hn, List.getElem?_take, if_pos (by omega)]; exact hu
        · rw [List.getElem?_append_right (by omega)] at hc
          refine q2 (i - a1.length) c u hc ?_
          rw [List.getElem?_drop] at hu ⊢
          rw [← hu]; congr 1; omega
      · cases h
    · cases h

theorem cells?_at {a : Addr} {n : Nat} {cs : List Value} (h : w.cells? base a n = some cs) : cs.length = n ∧ ∀ j u, cs[j]? = some u → w.cell? (a.add j) = some u := by
  unfold World.cells? at h
  split at h
  · have hl : cs.length = n := by simpa using mapM_some_length h
    refine ⟨hl, fun j u hu => ?_⟩
    have hj : j < n := by
      rcases Nat.lt_or_ge j n with h1 | h1
      · exact h1
      · rw [List.getElem?_eq_none (by omega)] at hu; cases hu
    have := mapM_some_get h j j (by simp [hj])
    rw [hu] at this
    exact this
  · cases h

theorem rng_at {n i j : Nat} (h : (List.range n)[i]? = some j) : i < n ∧ i = j := by
  rcases Nat.lt_or_ge i n with h1 | h1
  · rw [List.getElem?_range h1] at h; exact ⟨h1, Option.some.inj h⟩
  · rw [List.getElem?_eq_none (by simpa using h1)] at h; cases h
theorem add_pl (b o n : Nat) : (⟨b, o, none⟩ : Addr).add n = ⟨b, o + n, none⟩ := by
  unfold Addr.add; split <;> simp_all

theorem open_cells : ∀ (d : Nat) (t : TypeId) (l : List CT) (cs : List Value) (fuel : Nat) (x : DataW H × List MemPlace), ctOf P d t = some l → DataW.trod enc P w base spare held fuel t cs = some x →
    ∃ avs, avs.length = cs.length ∧ CTall l avs ∧ Cells w avs cs
  | 0, t, l, cs, fuel, x, h, _ => by cases h
  | d + 1, t, l, cs, fuel, x, h, ht => by
    simp only [ctOf] at h
    split at h <;> (try (cases h; done))
    · rename_i k hu
      cases h
      obtain ⟨n, rfl, _, hw⟩ := DataW.trod_int hu ht
      exact ⟨[.int k n], rfl, ⟨_, _, rfl, ⟨n, rfl, hw⟩, rfl⟩, cells_one (.int k n)⟩
    · rename_i hu
      cases h
      obtain ⟨b, rfl, _⟩ := DataW.trod_bool hu ht
      exact ⟨[.bool b], rfl, ⟨_, _, rfl, ⟨b, rfl⟩, rfl⟩, cells_one (.bool b)⟩
    · rename_i hu
      cases h
      obtain ⟨s, rfl, _, hs⟩ := DataW.trod_string hu ht
      refine ⟨[.str s.data.toList], rfl, ⟨_, _, rfl, ⟨_, rfl, by simpa using hs⟩, rfl⟩, cells_one ?_⟩
      have := FRep.str (w := w) (bad := noBad) s.data.toList
      simpa using this
    · rename_i e hu
      split at h <;> (try (cases h; done))
      rename_i le ag hle hag
      split at h
      · rename_i hc
        obtain ⟨hc1, hc2, hc3⟩ := hc
        cases h
        rcases DataW.trod_slice hu ht with ⟨rfl, _⟩ | ⟨a, len, cap, elems, rest, n, _, rfl, _, hb, hl, hm, hel, hat, _, _⟩
        · exact ⟨[.lst []], rfl, ⟨_, _, rfl, ⟨[], rfl, by simp, fun x hx => by cases hx⟩, rfl⟩, cells_one (.lst0 none 0 fun _ => rfl)⟩
        · have each : ∀ i, i < len → ∃ ex : List AV × List Value, w.cells? base (a.add (i * P.cellsOf e)) (P.cellsOf e) = some ex.2 ∧ CTall le ex.1 ∧ Cells w ex.1 ex.2 := by
            intro i hi
            have h1 := hat i hi
            rw [List.getElem?_eq_getElem (by omega)] at h1
            obtain ⟨ds, h2, h3⟩ := Option.bind_eq_some_iff.mp h1
            obtain ⟨avs, _, q2, q3⟩ := open_cells d e le ds n _ hle h3
            exact ⟨(avs, ds), h2, q2, q3⟩
          obtain ⟨f, hf⟩ := Go.Deep.choose_lt each
          let el : List AV → AV := fun cs => match ag with
            | true => .agg cs
            | false => cs.headD .undef
          have elc : ∀ cs, CTall le cs → (el cs).cells = cs ∨ (ag = false ∧ ∃ v, cs = [v] ∧ el cs = v) := by
            intro cs hcs
            cases ag with
            | true => exact .inl rfl
            | false =>
              have hl1 : le.length = 1 := by simpa using hc3
              have := CTall_len hcs
              match cs, this.trans hl1 with
              | [v], _ => exact .inr ⟨rfl, v, rfl, rfl⟩
          have scal : ∀ cs, CTall le cs → (el cs).cells = cs := by
            intro cs hcs
            rcases elc cs hcs with h1 | ⟨hag', v, rfl, h2⟩
            · exact h1
            · rw [h2]
              match v, hcs with
              | .agg l', hcs =>
                exfalso
                cases le with
                | nil => simp only [CTall] at hcs; cases hcs
                | cons c cs' =>
                  simp only [CTall] at hcs
                  obtain ⟨x', t', hx', hok, _⟩ := hcs
                  injection hx' with hx1 _
                  subst hx1
                  cases c <;> simp [CTok] at hok
              | .int .., _ | .bool _, _ | .str _, _ | .nilp, _ | .zsl _, _ | .ptr .., _ | .slc .., _ | .lst _, _ | .fptr .., _ | .tup _, _ | .fn .., _ | .nilf, _ | .undef, _ | .emp, _ => rfl
          have hlen : ∀ i, i < len → ((f i).1).length = P.cellsOf e := fun i hi => by rw [CTall_len (hf i hi).2.1, hc1]
          refine ⟨[.lst ((List.range len).map fun i => el (f i).1)], rfl, ⟨_, _, rfl, ⟨_, rfl, by simp; omega, ?_⟩, rfl⟩, cells_one ?_⟩
          · intro y hy
            obtain ⟨i, hi, rfl⟩ := List.mem_map.mp hy
            have hi := List.mem_range.mp hi
            refine ⟨(f i).1, ?_, (hf i hi).2.1⟩
            cases ag with
            | true => rfl
            | false =>
              rcases elc _ (hf i hi).2.1 with h1 | ⟨_, v, h1, h2⟩
              · have h3 := scal _ (hf i hi).2.1
                have hl1 : le.length = 1 := by simpa using hc3
                have h4 := (CTall_len (hf i hi).2.1).trans hl1
                show (f i).1 = [(f i).1.headD .undef]
                match (f i).1, h4 with
                | [v], _ => rfl
              · show (f i).1 = [(f i).1.headD .undef]
                rw [h1]; rfl
          · by_cases h0 : len = 0
            · subst h0; exact .lst0 (some a) cap (fun h => by cases h)
            · have hsp : a.spot = none ∧ a.block < w.heap.size := by
                obtain ⟨g1, g2, g3⟩ := hf 0 (by omega)
                obtain ⟨g4, g5⟩ := cells?_at g1
                have h6 : ∃ u, (f 0).2[0]? = some u := ⟨_, List.getElem?_eq_getElem (by omega)⟩
                obtain ⟨u, hu0⟩ := h6
                have := g5 0 u hu0
                rw [Nat.zero_mul, show (a.add 0).add 0 = a by simp [Addr.add]] at this
                unfold World.cell? at this
                split at this
                · rename_i c _ _ hh
                  split at this
                  · cases this
                  · rename_i hs
                    refine ⟨by simpa using hs, ?_⟩
                    rcases Nat.lt_or_ge a.block w.heap.size with h7 | h7
                    · exact h7
                    · rw [Array.getElem?_eq_none h7] at hh; cases hh
                · cases this
              obtain ⟨b, o, sp⟩ := a
              obtain ⟨hsp1, hsp2⟩ := hsp
              simp only at hsp1 hsp2
              subst hsp1
              have hlm : ((List.range len).map fun i => el (f i).1).length = len := by simp
              have key := FRep.lst (w := w) (bad := noBad) ((List.range len).map fun i => el (f i).1) b o (P.cellsOf e) cap (fun i j => (f i).2.getD j (.bool false)) (by rw [hlm]; exact hl) (by omega) (fun h => h) hsp2 ?_ ?_ ?_
              · rw [hlm] at key; exact key
              · intro i y hy
                rw [List.getElem?_map] at hy
                obtain ⟨i', h1, rfl⟩ := Option.map_eq_some_iff.mp hy
                obtain ⟨h2, rfl⟩ := rng_at h1
                rw [scal _ (hf _ h2).2.1, hlen _ h2]
              · intro i y j c hy hc
                rw [List.getElem?_map] at hy
                obtain ⟨i', h1, rfl⟩ := Option.map_eq_some_iff.mp hy
                obtain ⟨h2, rfl⟩ := rng_at h1
                rw [scal _ (hf _ h2).2.1] at hc
                obtain ⟨g4, g5⟩ := cells?_at (hf _ h2).1
                have hj : j < (f i).2.length := by
                  rw [g4, ← hlen _ h2]
                  rcases Nat.lt_or_ge j (f i).1.length with h7 | h7
                  · exact h7
                  · rw [List.getElem?_eq_none h7] at hc; cases hc
                have := g5 j _ (List.getElem?_eq_getElem hj)
                rw [add_pl, add_pl] at this
                rw [List.getD_eq_getElem?_getD, List.getElem?_eq_getElem hj]
                simp only [Option.getD_some]
                rw [← Nat.add_assoc]; exact this
              · intro i y j c hy hc
                rw [List.getElem?_map] at hy
                obtain ⟨i', h1, rfl⟩ := Option.map_eq_some_iff.mp hy
                obtain ⟨h2, rfl⟩ := rng_at h1
                rw [scal _ (hf _ h2).2.1] at hc
                obtain ⟨g4, g5⟩ := cells?_at (hf _ h2).1
                have hj : j < (f i).2.length := by
                  rw [g4, ← hlen _ h2]
                  rcases Nat.lt_or_ge j (f i).1.length with h7 | h7
                  · exact h7
                  · rw [List.getElem?_eq_none h7] at hc; cases hc
                refine (hf _ h2).2.2 j c _ hc ?_
                rw [List.getD_eq_getElem?_getD, List.getElem?_eq_getElem hj]; rfl
      · cases h
    · rename_i fs hu
      split at h <;> (try (cases h; done))
      rename_i l' hl'
      split at h
      · rename_i hc
        cases h
        obtain ⟨xs, n, _, _, hlen, hxs, hf⟩ := DataW.trod_struct hu ht
        obtain ⟨avs, q1, q2⟩ := ctFs_open (cs := cs) (enc := enc) (base := base) (spare := spare) (held := held) (fun t l ds fuel x => open_cells d t l ds fuel x) fs.toList 0 l hl' (fun f hfm => by
          obtain ⟨i, hi⟩ := List.getElem?_of_mem hfm
          have h1 := hf i f (by simpa using hi)
          have hi' : i < xs.length := by
            rw [hxs]
            rcases Nat.lt_or_ge i fs.size with h7 | h7
            · exact h7
            · rw [List.getElem?_eq_none (by simpa using h7)] at hi; cases hi
          exact ⟨n, _, h1.trans (List.getElem?_eq_getElem hi')⟩)
        exact ⟨avs, by rw [CTall_len q1, hlen, hc], q1, by simpa using q2⟩
      · cases h
    · rename_i n e hu
      split at h <;> (try (cases h; done))
      rename_i le hle
      split at h
      · rename_i hc
        obtain ⟨hc1, hc2⟩ := hc
        cases h
        obtain ⟨xs, m, _, _, hlen, hxs, hf⟩ := DataW.trod_array hu ht
        have key : ∀ k, k ≤ n → ∃ avs, CTall (List.replicate k le).flatten avs ∧ Cells w avs (cs.drop ((n - k) * le.length)) := by
          intro k
          induction k with
          | zero => intro _; exact ⟨[], rfl, fun i c u hc _ => by cases hc⟩
          | succ k ih =>
            intro hk
            obtain ⟨a2, q1, q2⟩ := ih (by omega)
            have h1 := hf (n - (k + 1)) (by omega)
            rw [List.getElem?_eq_getElem (by omega)] at h1
            obtain ⟨a1, e1, e2, e3⟩ := open_cells d e le _ m _ hle h1
            refine ⟨a1 ++ a2, by rw [List.replicate_succ, List.flatten_cons]; exact CTall_app e2 q1, ?_⟩
            have hl : a1.length = le.length := CTall_len e2
            intro i c u hc hu
            by_cases hi : i < a1.length
            · rw [List.getElem?_append_left hi] at hc
              refine e3 i c u hc ?_
              rw [hc1, List.getElem?_take, if_pos (by omega)]; exact hu
            · rw [List.getElem?_append_right (by omega)] at hc
              refine q2 (i - a1.length) c u hc ?_
              rw [List.getElem?_drop] at hu ⊢
              rw [← hu]; congr 1
              have : n - k = n - (k + 1) + 1 := by omega
              rw [this, Nat.add_mul]; omega
        obtain ⟨avs, q1, q2⟩ := key n (Nat.le_refl _)
        refine ⟨avs, ?_, q1, by simpa using q2⟩
        rw [CTall_len q1, hlen, hc2]; simp
      · cases h

theorem okWide_array {r : Reach} {n : Nat} {t e : TypeId} {v : Value} (ht : P.underlying t = some (.array n e)) (h : Value.okWide P w r base t v) : ∃ cs, v = .agg cs ∧ cs.size = P.cellsOf t := by
  simp only [Value.okWide, ht] at h
  obtain ⟨cs, h1, h2, _⟩ := h
  exact ⟨cs, h1, h2⟩
/-- A scalar argument. -/
theorem open_sc {t : TypeId} {v : Value} {d : DataW H} {ps : List MemPlace} {l : List CT} (hv : v.cells.toList = [v]) (hl : ctOf P 9 t = some l) (h : DataW.Trod enc P w base spare held t v d ps) :
    ∃ a, TyOK false l a ∧ FRep w noBad a v := by
  obtain ⟨fuel, h⟩ := h
  obtain ⟨avs, h1, h2, h3⟩ := open_cells 9 t l _ fuel _ hl h
  rw [hv] at h1 h3
  match avs, h1 with
  | [a], _ => exact ⟨a, ⟨_, rfl, h2⟩, h3 0 a v rfl rfl⟩
/-- A struct, or an array. -/
theorem open_ag {t : TypeId} {cs : Array Value} {d : DataW H} {ps : List MemPlace} {l : List CT} (hl : ctOf P 9 t = some l) (h : DataW.Trod enc P w base spare held t (.agg cs) d ps) :
    ∃ a, TyOK true l a ∧ FRep w noBad a (.agg cs) := by
  obtain ⟨fuel, h⟩ := h
  obtain ⟨avs, h1, h2, h3⟩ := open_cells 9 t l _ fuel _ hl h
  refine ⟨.agg avs, ⟨_, rfl, h2⟩, ?_⟩
  have := FRep.agg (w := w) (bad := noBad) avs cs.toList h1 h3
  simpa using this
end
end Go.Proofs.Ytcegcmjkkflhhaa.AE

namespace Go.Proofs.Ytcegcmjkkflhhaa.Geo
set_option linter.unusedVariables false
set_option linter.unusedSimpArgs false
/-- A text's bits, each byte's lowest first. -/
def tb (s : List UInt8) : List Bool := s.flatMap bitsOf
theorem tb_cons (b : UInt8) (s : List UInt8) : tb (b :: s) = bitsOf b ++ tb s := rfl
theorem tb_len : ∀ s : List UInt8, (tb s).length = 8 * s.length
  | [] => rfl
  | b :: s => by rw [tb_cons, List.length_append, bitsOf_len, tb_len s, List.length_cons]; omega
theorem bitsOf_at (b : UInt8) {i : Nat} (h : i < 8) : (bitsOf b)[i]? = some (b.toBitVec.getLsbD i) := by
  unfold bitsOf
  rw [List.getElem?_map, List.getElem?_range h]; rfl
theorem tb_at : ∀ (s : List UInt8) (q r : Nat), r < 8 → (tb s)[8 * q + r]? = s[q]?.map fun b => b.toBitVec.getLsbD r
  | [], q, r, h => by simp [tb]
  | b :: s, 0, r, h => by
    rw [tb_cons, List.getElem?_append_left (by rw [bitsOf_len]; omega), show 8 * 0 + r = r by omega, bitsOf_at b h]; rfl
  | b :: s, q + 1, r, h => by
    rw [tb_cons, List.getElem?_append_right (by rw [bitsOf_len]; omega), bitsOf_len, show 8 * (q + 1) + r - 8 = 8 * q + r by omega, tb_at s q r h, List.getElem?_cons_succ]
theorem byte_ext {a b : UInt8} (h : ∀ r, r < 8 → a.toBitVec.getLsbD r = b.toBitVec.getLsbD r) : a = b := by
  apply UInt8.eq_of_toBitVec_eq
  apply BitVec.eq_of_getLsbD_eq
  intro i hi
  exact h i hi
theorem tb_inj {s t : List UInt8} (hl : s.length = t.length) (h : ∀ j : Nat, (tb s)[j]? = (tb t)[j]?) : s = t := by
  apply List.ext_getElem?
  intro q
  rcases Nat.lt_or_ge q s.length with hq | hq
  · rw [List.getElem?_eq_getElem hq, List.getElem?_eq_getElem (by omega)]
    congr 1
    apply byte_ext
    intro r hr
    have := h (8 * q + r)
    rw [tb_at s q r hr, tb_at t q r hr, List.getElem?_eq_getElem hq, List.getElem?_eq_getElem (by omega)] at this
    simpa using this
  · rw [List.getElem?_eq_none hq, List.getElem?_eq_none (by omega)]
/-- A bit turned. -/
def flip (s : List UInt8) (k : Nat) : List UInt8 := s.set (k / 8) (s.getD (k / 8) 0 ^^^ UInt8.ofNat (2 ^ (k % 8)))
theorem flip_len (s : List UInt8) (k : Nat) : (flip s k).length = s.length := by simp [flip]
theorem pow_bit : ∀ (j r : Fin 8), (UInt8.ofNat (2 ^ j.val)).toBitVec.getLsbD r.val = decide (r = j) := by decide
theorem flip_bit (b : UInt8) {j r : Nat} (hj : j < 8) (hr : r < 8) : (b ^^^ UInt8.ofNat (2 ^ j)).toBitVec.getLsbD r = xor (b.toBitVec.getLsbD r) (decide (r = j)) := by
  rw [UInt8.toBitVec_xor, BitVec.getLsbD_xor]
  have := pow_bit ⟨j, hj⟩ ⟨r, hr⟩
  simp only [Fin.mk.injEq] at this
  rw [this]
theorem tb_flip (s : List UInt8) {k : Nat} (hk : k < 8 * s.length) (j : Nat) : (tb (flip s k))[j]? = (tb s)[j]?.map fun b => xor b (decide (j = k)) := by
  have hj : j = 8 * (j / 8) + j % 8 := (Nat.div_add_mod j 8).symm
  have hj8 : j % 8 < 8 := Nat.mod_lt _ (by decide)
  rw [hj, tb_at _ _ _ hj8, tb_at _ _ _ hj8, ← hj]
  unfold flip
  by_cases h : k / 8 = j / 8
  · have hlt : k / 8 < s.length := by omega
    rw [← h, List.getElem?_set_self hlt, List.getElem?_eq_getElem hlt, List.getD_eq_getElem?_getD, List.getElem?_eq_getElem hlt]
    simp only [Option.map_some, Option.getD_some]
    rw [flip_bit _ (Nat.mod_lt _ (by decide)) hj8]
    congr 2
    rw [decide_eq_decide]
    omega
  · rw [List.getElem?_set_ne h]
    have hne : decide (j = k) = false := by rw [decide_eq_false_iff_not]; rintro rfl; exact h rfl
    rw [hne]
    simp only [Bool.xor_false, Option.map_map]
    rfl
/-- Where they differ. -/
def offs (s t : List UInt8) (j : Nat) : Prop := (tb s)[j]? ≠ (tb t)[j]?
theorem crc_window {s t : List UInt8} {a : Nat} (hl : s.length = t.length) (h : ∀ j, offs s t j → a ≤ j ∧ j < a + 32) (hne : s ≠ t) : crcF s ≠ crcF t := by
  have hl8 : (tb s).length = (tb t).length := by rw [tb_len, tb_len, hl]
  obtain ⟨j, hj⟩ : ∃ j, offs s t j := by
    refine Classical.byContradiction fun c => hne (tb_inj hl fun j => ?_)
    exact Classical.byContradiction fun k => c ⟨j, k⟩
  have hjl : j < (tb s).length := by
    rcases Nat.lt_or_ge j (tb s).length with h1 | h1
    · exact h1
    · exact absurd (by rw [List.getElem?_eq_none h1, List.getElem?_eq_none (by omega)]) hj
  obtain ⟨j1, j2⟩ := h j hj
  have hd : (List.zipWith xor (tb s) (tb t)).length = (tb s).length := by simp [hl8]
  have hat : ∀ i (hi : i < (tb s).length), (List.zipWith xor (tb s) (tb t))[i]? = some (xor (tb s)[i] ((tb t)[i]'(by omega))) := by
    intro i hi
    rw [List.getElem?_zipWith, List.getElem?_eq_getElem hi, List.getElem?_eq_getElem (by omega)]
  have hfalse : ∀ i, i < (tb s).length → ¬ (a ≤ i ∧ i < a + 32) → (List.zipWith xor (tb s) (tb t))[i]? = some false := by
    intro i hi hn
    have : ¬ offs s t i := fun k => hn (h i k)
    have : (tb s)[i]? = (tb t)[i]? := Classical.byContradiction this
    rw [hat i hi]
    rw [List.getElem?_eq_getElem hi, List.getElem?_eq_getElem (by omega)] at this
    simp only [Option.some.injEq] at this
    rw [this, Bool.xor_self]
  refine crc_burst (a := a) (r := (tb s).length - (a + 32)) (w := ((List.zipWith xor (tb s) (tb t)).drop a).take 32) hl ?_ (by simp; omega) ?_
  · change List.zipWith xor (tb s) (tb t) = _
    apply List.ext_getElem?
    intro i
    have hw : (((List.zipWith xor (tb s) (tb t)).drop a).take 32).length = min 32 ((tb s).length - a) := by simp only [List.length_take, List.length_drop, hd]
    rcases Nat.lt_or_ge i (tb s).length with hi | hi
    · rcases Nat.lt_or_ge i a with h1 | h1
      · rw [hfalse i hi (by omega), List.append_assoc, List.getElem?_append_left (by simpa using h1), List.getElem?_replicate, if_pos h1]
      · rw [List.append_assoc, List.getElem?_append_right (by simpa using h1), List.length_replicate]
        rcases Nat.lt_or_ge i (a + 32) with h2 | h2
        · rw [List.getElem?_append_left (by rw [hw]; omega), List.getElem?_take, if_pos (by omega), List.getElem?_drop]
          congr 1; omega
        · rw [List.getElem?_append_right (by rw [hw]; omega), hw, List.getElem?_replicate, if_pos (by omega), hfalse i hi (by omega)]
    · rw [List.getElem?_eq_none (by rw [hd]; exact hi), List.getElem?_eq_none]
      simp only [List.length_append, List.length_replicate, hw]
      omega
  · have : (List.zipWith xor (tb s) (tb t))[j]? = some true := by
      rw [hat j hjl]
      have hj' : (tb s)[j]? ≠ (tb t)[j]? := hj
      rw [List.getElem?_eq_getElem hjl, List.getElem?_eq_getElem (by omega)] at hj'
      simp only [ne_eq, Option.some.injEq] at hj'
      congr 1
      cases h1 : (tb s)[j] <;> cases h2 : ((tb t)[j]'(by omega)) <;> simp_all
    refine List.mem_of_getElem? (i := j - a) ?_
    rw [List.getElem?_take, if_pos (by omega), List.getElem?_drop, show a + (j - a) = j by omega, this]
/-- Some of the bits from a place on turned: those below n. -/
def turned (s : List UInt8) (from_ n turns : Nat) : Nat → List UInt8
  | 0 => s
  | i + 1 => if turns.testBit i = true ∧ from_ + i < n then flip (turned s from_ n turns i) (from_ + i) else turned s from_ n turns i
def anyT (from_ n turns : Nat) : Nat → Bool
  | 0 => false
  | i + 1 => if turns.testBit i = true ∧ from_ + i < n then true else anyT from_ n turns i
theorem turned_len (s : List UInt8) (f n t : Nat) : ∀ m, (turned s f n t m).length = s.length
  | 0 => rfl
  | i + 1 => by unfold turned; split <;> simp [flip_len, turned_len s f n t i]
theorem turned_at (s : List UInt8) (f n t : Nat) (hn : n ≤ 8 * s.length) (j : Nat) : ∀ m, (tb (turned s f n t m))[j]? = (tb s)[j]?.map fun b => xor b (decide (f ≤ j ∧ j < f + m ∧ j < n ∧ t.testBit (j - f) = true))
  | 0 => by
    have : decide (f ≤ j ∧ j < f + 0 ∧ j < n ∧ t.testBit (j - f) = true) = false := by rw [decide_eq_false_iff_not]; omega
    rw [this]; simp [turned]
  | i + 1 => by
    have ih := turned_at s f n t hn j i
    unfold turned
    split
    · rename_i hc
      rw [tb_flip _ (by rw [turned_len]; omega), ih, Option.map_map]
      congr 1
      funext b
      simp only [Function.comp, Bool.xor_assoc]
      congr 1
      by_cases he : j = f + i
      · subst he
        have h1 : decide (f ≤ f + i ∧ f + i < f + i ∧ f + i < n ∧ t.testBit (f + i - f) = true) = false := by rw [decide_eq_false_iff_not]; omega
        have h2 : decide (f ≤ f + i ∧ f + i < f + (i + 1) ∧ f + i < n ∧ t.testBit (f + i - f) = true) = true := by
          rw [decide_eq_true_iff, show f + i - f = i by omega]
          exact ⟨by omega, by omega, hc.2, hc.1⟩
        rw [h1, h2, decide_eq_true rfl]; rfl
      · rw [decide_eq_false he, Bool.xor_false, decide_eq_decide]
        constructor
        · rintro ⟨a, b, c⟩; exact ⟨a, by omega, c⟩
        · rintro ⟨a, b, c⟩; exact ⟨a, by omega, c⟩
    · rename_i hc
      rw [ih]
      congr 1
      funext b
      congr 1
      rw [decide_eq_decide]
      constructor
      · rintro ⟨a, b, c⟩; exact ⟨a, by omega, c⟩
      · rintro ⟨a, b, c, d⟩
        refine ⟨a, ?_, c, d⟩
        rcases Nat.lt_or_ge j (f + i) with h1 | h1
        · exact h1
        · have : j = f + i := by omega
          subst this
          rw [show f + i - f = i by omega] at d
          exact absurd ⟨d, c⟩ hc
theorem anyT_iff (f n t : Nat) : ∀ m, anyT f n t m = true ↔ ∃ i, i < m ∧ t.testBit i = true ∧ f + i < n
  | 0 => by simp [anyT]
  | m + 1 => by
    unfold anyT
    split
    · rename_i h
      simp only [true_iff]
      exact ⟨m, by omega, h.1, h.2⟩
    · rename_i h
      rw [anyT_iff f n t m]
      constructor
      · rintro ⟨i, h1, h2⟩; exact ⟨i, by omega, h2⟩
      · rintro ⟨i, h1, h2⟩
        refine ⟨i, ?_, h2⟩
        rcases Nat.lt_or_ge i m with h3 | h3
        · exact h3
        · have : i = m := by omega
          subst this; exact absurd h2 h
theorem turned_offs {s : List UInt8} {f n t m j : Nat} (hn : n ≤ 8 * s.length) (h : offs (turned s f n t m) s j) : f ≤ j ∧ j < f + m ∧ j < n ∧ t.testBit (j - f) = true := by
  unfold offs at h
  rw [turned_at s f n t hn j m] at h
  by_cases hc : f ≤ j ∧ j < f + m ∧ j < n ∧ t.testBit (j - f) = true
  · exact hc
  · rw [decide_eq_false hc] at h
    exact absurd (by simp) h
theorem turned_ne {s : List UInt8} {f n t m : Nat} (hn : n ≤ 8 * s.length) : turned s f n t m ≠ s ↔ anyT f n t m = true := by
  rw [anyT_iff]
  constructor
  · intro h
    refine Classical.byContradiction fun c => h (tb_inj (turned_len ..) fun j => ?_)
    refine Classical.byContradiction fun k => c ?_
    obtain ⟨h1, h2, h3, h4⟩ := turned_offs hn k
    exact ⟨j - f, by omega, h4, by omega⟩
  · rintro ⟨i, h1, h2, h3⟩ c
    have := turned_at s f n t hn (f + i) m
    rw [c, decide_eq_true ⟨by omega, by omega, h3, by rw [show f + i - f = i by omega]; exact h2⟩] at this
    have hlt : f + i < (tb s).length := by rw [tb_len]; omega
    rw [List.getElem?_eq_getElem hlt] at this
    simp at this
end Go.Proofs.Ytcegcmjkkflhhaa.Geo

namespace Go.Proofs.Ytcegcmjkkflhhaa.Geo
set_option linter.unusedVariables false
set_option linter.unusedSimpArgs false
def bth (e : Bool) : BitVec 16 := bif e then 0x8000#16 else 0#16
theorem bth_xor (e f : Bool) : bth (xor e f) = bth e ^^^ bth f := by cases e <;> cases f <;> decide
def bfh (x : BitVec 16) (e : Bool) : BitVec 16 := sh (x ^^^ bth e)
/-- Bits as a word, the first one highest. -/
def wordH : List Bool → BitVec 16
  | [] => 0#16
  | e :: l => bth e ^^^ (wordH l >>> 1)
theorem upH1 : ∀ k : Fin 16, shN k.val (0x8000#16 >>> k.val) = 0x8000#16 := by decide
theorem upH (k : Nat) (h : k < 16) (e : Bool) : shN k (bth e >>> k) = bth e := by
  cases e
  · rw [show bth false = 0#16 from rfl, BitVec.zero_ushiftRight]; exact shN_zero k
  · exact upH1 ⟨k, h⟩
theorem wordH_snoc : ∀ (l : List Bool) (e : Bool), wordH (l ++ [e]) = wordH l ^^^ (bth e >>> l.length)
  | [], e => by simp [wordH]
  | f :: l, e => by
    rw [List.cons_append, wordH, wordH_snoc l e, BitVec.ushiftRight_xor_distrib, wordH, List.length_cons, ← BitVec.shiftRight_add, BitVec.xor_assoc]
theorem feedH (x : BitVec 16) : ∀ (n : Nat) (l : List Bool), l.length = n → n ≤ 16 → l.foldl bfh x = shN n (x ^^^ wordH l)
  | 0, l, hl, _ => by
    have : l = [] := List.eq_nil_of_length_eq_zero hl
    subst this; simp [wordH, shN]
  | n + 1, l, hl, h => by
    obtain ⟨l', e, rfl⟩ : ∃ l' e, l = l' ++ [e] := ⟨l.dropLast, l.getLast (by intro c; rw [c] at hl; simp at hl), (List.dropLast_concat_getLast _).symm⟩
    have hl' : l'.length = n := by simpa using hl
    rw [List.foldl_append, List.foldl_cons, List.foldl_nil, feedH x n l' hl' (by omega), wordH_snoc, ← BitVec.xor_assoc, shN_succ, shN_xor n _ (bth e >>> _), hl', upH n (by omega)]
    rfl
theorem feedH_xor : ∀ (l m : List Bool) (x y : BitVec 16), l.length = m.length → l.foldl bfh x ^^^ m.foldl bfh y = (List.zipWith xor l m).foldl bfh (x ^^^ y)
  | [], [], x, y, _ => rfl
  | e :: l, f :: m, x, y, h => by
    simp only [List.foldl_cons, List.zipWith_cons_cons]
    rw [feedH_xor l m _ _ (by simpa using h)]
    congr 1
    unfold bfh
    rw [← sh_xor, bth_xor]
    congr 1
    simp only [BitVec.xor_assoc]
    congr 1
    rw [← BitVec.xor_assoc, BitVec.xor_comm (bth e) y, BitVec.xor_assoc]
theorem feedH_none : ∀ (n : Nat) (x : BitVec 16), (List.replicate n false).foldl bfh x = shN n x
  | 0, x => rfl
  | n + 1, x => by
    rw [List.replicate_succ, List.foldl_cons, feedH_none n]
    show shN n (sh (x ^^^ 0#16)) = shN n (sh x)
    rw [BitVec.xor_zero]
theorem wordH_bit : ∀ (l : List Bool) (i : Nat), i < 16 → (wordH l).getLsbD (15 - i) = l.getD i false
  | [], i, _ => by simp [wordH]
  | e :: l, 0, _ => by
    rw [wordH, BitVec.getLsbD_xor, BitVec.getLsbD_ushiftRight, BitVec.getLsbD_of_ge _ (1 + (15 - 0)) (by omega)]
    cases e <;> simp [bth]
  | e :: l, i + 1, h => by
    rw [wordH, BitVec.getLsbD_xor, BitVec.getLsbD_ushiftRight]
    have h0 : ∀ j : Fin 16, j.val < 15 → (0x8000#16).getLsbD j.val = false := by decide
    have : (bth e).getLsbD (15 - (i + 1)) = false := by
      cases e
      · simp [bth]
      · exact h0 ⟨15 - (i + 1), by omega⟩ (by show 15 - (i + 1) < 15; omega)
    rw [this, Bool.false_xor, show 1 + (15 - (i + 1)) = 15 - i by omega, wordH_bit l i (by omega)]
    simp
theorem wordH_ne {l : List Bool} (hl : l.length ≤ 16) (h : true ∈ l) : wordH l ≠ 0#16 := by
  intro c
  obtain ⟨i, hi, he⟩ := List.mem_iff_getElem.mp h
  have := wordH_bit l i (by omega)
  rw [c, List.getD_eq_getElem?_getD, List.getElem?_eq_getElem hi, he] at this
  simp at this
theorem burstH {l m w : List Bool} {a r : Nat} (x : BitVec 16) (hlm : l.length = m.length) (hw : List.zipWith xor l m = List.replicate a false ++ w ++ List.replicate r false) (h16 : w.length ≤ 16) (ht : true ∈ w) : l.foldl bfh x ≠ m.foldl bfh x := by
  intro c
  have k := feedH_xor l m x x hlm
  rw [c, BitVec.xor_self, BitVec.xor_self, hw, List.foldl_append, List.foldl_append, feedH_none r, feedH_none a, shN_zero, feedH _ w.length w rfl h16, BitVec.zero_xor] at k
  exact wordH_ne h16 ht (shN_inj _ (shN_inj _ k.symm))
/-- A byte backwards. -/
def rb (b : UInt8) : UInt8 := UInt8.ofNat ((List.range 8).foldl (fun a i => 2 * a + (b.toBitVec.getLsbD i).toNat) 0)
theorem rb_rb1 : ∀ b : Fin 256, rb (rb (UInt8.ofNat b.val)) = UInt8.ofNat b.val := by decide +kernel
theorem wordH_byte1 : ∀ b : Fin 256, wordH (bitsOf (rb (UInt8.ofNat b.val))) = b16 (UInt8.ofNat b.val) <<< 8 := by decide +kernel
theorem fin_byte (b : UInt8) : ∃ i : Fin 256, b = UInt8.ofNat i.val := ⟨⟨b.toNat, b.toNat_lt⟩, by simp⟩
theorem rb_rb (b : UInt8) : rb (rb b) = b := by obtain ⟨i, rfl⟩ := fin_byte b; exact rb_rb1 i
theorem wordH_byte (b : UInt8) : wordH (bitsOf (rb b)) = b16 b <<< 8 := by obtain ⟨i, rfl⟩ := fin_byte b; exact wordH_byte1 i
theorem rb_bit1 : ∀ b : Fin 256, ∀ r : Fin 8, (rb (UInt8.ofNat b.val)).toBitVec.getLsbD r.val = (UInt8.ofNat b.val).toBitVec.getLsbD (7 - r.val) := by decide +kernel
theorem rb_xor (a b : UInt8) : rb (a ^^^ b) = rb a ^^^ rb b := by
  have k : ∀ b : UInt8, ∀ r, r < 8 → (rb b).toBitVec.getLsbD r = b.toBitVec.getLsbD (7 - r) := by
    intro b r hr
    obtain ⟨i, rfl⟩ := fin_byte b; exact rb_bit1 i ⟨r, hr⟩
  apply byte_ext
  intro r hr
  rw [k _ r hr, UInt8.toBitVec_xor, UInt8.toBitVec_xor, BitVec.getLsbD_xor, BitVec.getLsbD_xor, k _ r hr, k _ r hr]
theorem rb_pow : ∀ j : Fin 8, rb (UInt8.ofNat (128 / 2 ^ j.val)) = UInt8.ofNat (2 ^ j.val) := by decide +kernel
theorem byteH_bits (x : BitVec 16) (b : UInt8) : byteH x b = (bitsOf (rb b)).foldl bfh x := by
  rw [feedH x 8 _ (bitsOf_len _) (by decide), wordH_byte]; rfl
theorem moreH_bits : ∀ (s : List UInt8) (x : BitVec 16), moreH x s = (tb (s.map rb)).foldl bfh x
  | [], x => rfl
  | b :: s, x => by
    rw [List.map_cons, tb_cons, List.foldl_append, ← byteH_bits, ← moreH_bits s]; rfl
/-- Where texts differ, as a window. -/
theorem window {s t : List UInt8} {a W : Nat} (hl : s.length = t.length) (h : ∀ j, offs s t j → a ≤ j ∧ j < a + W) (hne : s ≠ t) : ∃ w r, List.zipWith xor (tb s) (tb t) = List.replicate a false ++ w ++ List.replicate r false ∧ w.length ≤ W ∧ true ∈ w := by
  have hl8 : (tb s).length = (tb t).length := by rw [tb_len, tb_len, hl]
  obtain ⟨j, hj⟩ : ∃ j, offs s t j := by
    refine Classical.byContradiction fun c => hne (tb_inj hl fun j => ?_)
    exact Classical.byContradiction fun k => c ⟨j, k⟩
  have hjl : j < (tb s).length := by
    rcases Nat.lt_or_ge j (tb s).length with h1 | h1
    · exact h1
    · exact absurd (by rw [List.getElem?_eq_none h1, List.getElem?_eq_none (by omega)]) hj
  obtain ⟨j1, j2⟩ := h j hj
  have hd : (List.zipWith xor (tb s) (tb t)).length = (tb s).length := by simp [hl8]
  have hat : ∀ i (hi : i < (tb s).length), (List.zipWith xor (tb s) (tb t))[i]? = some (xor (tb s)[i] ((tb t)[i]'(by omega))) := by
    intro i hi
    rw [List.getElem?_zipWith, List.getElem?_eq_getElem hi, List.getElem?_eq_getElem (by omega)]
  have hfalse : ∀ i, i < (tb s).length → ¬ (a ≤ i ∧ i < a + W) → (List.zipWith xor (tb s) (tb t))[i]? = some false := by
    intro i hi hn
    have : ¬ offs s t i := fun k => hn (h i k)
    have : (tb s)[i]? = (tb t)[i]? := Classical.byContradiction this
    rw [hat i hi]
    rw [List.getElem?_eq_getElem hi, List.getElem?_eq_getElem (by omega)] at this
    simp only [Option.some.injEq] at this
    rw [this, Bool.xor_self]
  refine ⟨((List.zipWith xor (tb s) (tb t)).drop a).take W, (tb s).length - (a + W), ?_, by simp; omega, ?_⟩
  · apply List.ext_getElem?
    intro i
    have hw : (((List.zipWith xor (tb s) (tb t)).drop a).take W).length = min W ((tb s).length - a) := by simp only [List.length_take, List.length_drop, hd]
    rcases Nat.lt_or_ge i (tb s).length with hi | hi
    · rcases Nat.lt_or_ge i a with h1 | h1
      · rw [hfalse i hi (by omega), List.append_assoc, List.getElem?_append_left (by simpa using h1), List.getElem?_replicate, if_pos h1]
      · rw [List.append_assoc, List.getElem?_append_right (by simpa using h1), List.length_replicate]
        rcases Nat.lt_or_ge i (a + W) with h2 | h2
        · rw [List.getElem?_append_left (by rw [hw]; omega), List.getElem?_take, if_pos (by omega), List.getElem?_drop]
          congr 1; omega
        · rw [List.getElem?_append_right (by rw [hw]; omega), hw, List.getElem?_replicate, if_pos (by omega), hfalse i hi (by omega)]
    · rw [List.getElem?_eq_none (by rw [hd]; exact hi), List.getElem?_eq_none]
      simp only [List.length_append, List.length_replicate, hw]
      omega
  · have : (List.zipWith xor (tb s) (tb t))[j]? = some true := by
      rw [hat j hjl]
      have hj' : (tb s)[j]? ≠ (tb t)[j]? := hj
      rw [List.getElem?_eq_getElem hjl, List.getElem?_eq_getElem (by omega)] at hj'
      simp only [ne_eq, Option.some.injEq] at hj'
      congr 1
      cases h1 : (tb s)[j] <;> cases h2 : ((tb t)[j]'(by omega)) <;> simp_all
    refine List.mem_of_getElem? (i := j - a) ?_
    rw [List.getElem?_take, if_pos (by omega), List.getElem?_drop, show a + (j - a) = j by omega, this]
theorem rbs_inj {s t : List UInt8} (h : s.map rb = t.map rb) : s = t := by
  have k : ∀ s : List UInt8, (s.map rb).map rb = s := by
    intro s
    rw [List.map_map]
    conv => rhs; rw [← List.map_id s]
    apply List.map_congr_left
    intro b _; exact rb_rb b
  rw [← k s, h, k t]
theorem sumH_window {s t : List UInt8} {a : Nat} (hl : s.length = t.length) (h : ∀ j, offs (s.map rb) (t.map rb) j → a ≤ j ∧ j < a + 16) (hne : s ≠ t) : sumH s ≠ sumH t := by
  obtain ⟨w, r, h1, h2, h3⟩ := window (s := s.map rb) (t := t.map rb) (by simpa using hl) h (fun c => hne (rbs_inj c))
  unfold sumH
  rw [moreH_bits, moreH_bits]
  exact burstH _ (by rw [tb_len, tb_len, List.length_map, List.length_map, hl]) h1 h2 h3
/-- A bit turned, counted from the highest one. -/
def flipH (s : List UInt8) (k : Nat) : List UInt8 := s.set (k / 8) (s.getD (k / 8) 0 ^^^ UInt8.ofNat (128 / 2 ^ (k % 8)))
theorem rb_zero : rb 0 = 0 := by decide +kernel
theorem flipH_rb (s : List UInt8) (k : Nat) : (flipH s k).map rb = flip (s.map rb) k := by
  unfold flipH flip
  rw [List.map_set, rb_xor, rb_pow ⟨k % 8, Nat.mod_lt _ (by decide)⟩]
  congr 2
  rw [List.getD_eq_getElem?_getD, List.getD_eq_getElem?_getD, List.getElem?_map]
  cases s[k / 8]? with
  | none => exact rb_zero
  | some b => rfl
def turnedH (s : List UInt8) (from_ n turns : Nat) : Nat → List UInt8
  | 0 => s
  | i + 1 => if turns.testBit i = true ∧ from_ + i < n then flipH (turnedH s from_ n turns i) (from_ + i) else turnedH s from_ n turns i
theorem turnedH_rb (s : List UInt8) (f n t : Nat) : ∀ m, (turnedH s f n t m).map rb = turned (s.map rb) f n t m
  | 0 => rfl
  | i + 1 => by
    unfold turnedH turned
    split
    · rw [flipH_rb, turnedH_rb s f n t i]
    · exact turnedH_rb s f n t i
theorem turnedH_len (s : List UInt8) (f n t m : Nat) : (turnedH s f n t m).length = s.length := by
  have := congrArg List.length (turnedH_rb s f n t m)
  rw [turned_len, List.length_map, List.length_map] at this
  exact this
/-- The sums of 16 bits. -/
theorem bits16 (s : List UInt8) (f t : Nat) : (decide (sumH (turnedH s f (8 * s.length) t 16) = sumH s)) = !anyT f (8 * s.length) t 16 := by
  have hn : 8 * s.length ≤ 8 * (s.map rb).length := by simp
  have hiff := turned_ne (s := s.map rb) (f := f) (n := 8 * s.length) (t := t) (m := 16) hn
  cases ha : anyT f (8 * s.length) t 16
  · rw [ha] at hiff
    have : turned (s.map rb) f (8 * s.length) t 16 = s.map rb := Classical.byContradiction fun c => Bool.noConfusion (hiff.mp c)
    rw [← turnedH_rb] at this
    rw [rbs_inj this]; simp
  · have hne := hiff.mpr ha
    rw [← turnedH_rb] at hne
    rw [decide_eq_false]; · rfl
    refine sumH_window (a := f) (turnedH_len ..) (fun j hj => ?_) (fun c => hne (by rw [c]))
    rw [turnedH_rb] at hj
    obtain ⟨a, b, _, _⟩ := turned_offs hn hj
    exact ⟨a, b⟩
/-- The sums of 32 bits. -/
theorem bits32 (s : List UInt8) (f t : Nat) : (decide (crcF (turned s f (8 * s.length) t 32) = crcF s)) = !anyT f (8 * s.length) t 32 := by
  have hiff := turned_ne (s := s) (f := f) (n := 8 * s.length) (t := t) (m := 32) (Nat.le_refl _)
  cases ha : anyT f (8 * s.length) t 32
  · rw [ha] at hiff
    have : turned s f (8 * s.length) t 32 = s := Classical.byContradiction fun c => Bool.noConfusion (hiff.mp c)
    rw [this]; simp
  · have hne := hiff.mpr ha
    rw [decide_eq_false]; · rfl
    refine crc_window (a := f) (turned_len ..) (fun j hj => ?_) hne
    obtain ⟨a, b, _, _⟩ := turned_offs (Nat.le_refl _) hj
    exact ⟨a, b⟩
end Go.Proofs.Ytcegcmjkkflhhaa.Geo

namespace Go.Proofs.Ytcegcmjkkflhhaa.AE
set_option linter.unusedVariables false
set_option linter.unusedSimpArgs false
set_option linter.constructorNameAsVariable false
open Go Go.Proofs.Ytcegcmjkkflhhaa.Geo
attribute [local irreducible] pcall C0
set_option maxRecDepth 100000
theorem b2sL_bytes : ∀ s : List UInt8, b2sL (bytesAV s) = some s
  | [] => rfl
  | b :: s => by
    show (match b2sL (bytesAV s) with | some s => some (UInt8.ofNat ((b.toNat : Int)).toNat :: s) | none => none) = _
    rw [b2sL_bytes s]
    simp
theorem b2s_h {H : Heap} {id : Nat} {e : ETy} {s : List UInt8} {n : Nat} {K : AV → Heap → Ans} (h : hget H id = some ⟨e, bytesAV s⟩) (hn : n = s.length) : C0.hop H (.b2s (.v (.slc id 0 n))) K = K (.str s) H := hop_eq (by
  subst hn
  have : elsOf H (.slc id 0 s.length) = some (bytesAV s) := by
    show (match hget H id with | some b => if 0 + s.length ≤ b.els.length then some ((b.els.drop 0).take s.length) else none | none => none) = _
    rw [h]
    have hl : (bytesAV s).length = s.length := by simp [bytesAV]
    simp only [List.drop_zero, Nat.zero_add]
    rw [if_pos (by rw [hl]; exact Nat.le_refl _), List.take_of_length_le (by rw [hl]; exact Nat.le_refl _)]
  simp only [aop, evO, this, b2sL_bytes])
theorem bit_at (x : BitVec 32) (i : Nat) (hi : i < 32) : ((Go.bits .and .u32 (Int.fdiv (w32 x) (2 ^ (min (Int.toNat ((i : Nat) : Int)) 32))) 1) == 0) = !x.toNat.testBit i := by
  have e : Int.fdiv (w32 x) (2 ^ (min (Int.toNat ((i : Nat) : Int)) 32)) = w32 (x >>> i) := by
    show Int.fdiv (x.toNat : Int) _ = ((x >>> i).toNat : Int)
    have : (2 : Int) ^ (min (Int.toNat ((i : Nat) : Int)) 32) = ((2 ^ i : Nat) : Int) := by
      rw [show min (Int.toNat ((i : Nat) : Int)) 32 = i by omega]; exact (Int.natCast_pow 2 i).symm
    rw [this, Int.fdiv_eq_ediv_of_nonneg _ (Int.natCast_nonneg _), BitVec.toNat_ushiftRight, Nat.shiftRight_eq_div_pow]; rfl
  have k := w32_and1 (x >>> i)
  rw [e]
  have : ∀ z : Int, (z == 0) = !(z != 0) := fun z => by cases h : (z == 0) <;> simp [bne, h]
  rw [this, k, BitVec.getLsbD_ushiftRight]; rfl
theorem hi_mask : ∀ r : Fin 8, Int.fdiv 128 (2 ^ (min (Int.toNat ((r.val : Nat) : Int)) 8)) = (((UInt8.ofNat (128 / 2 ^ r.val)).toNat : Nat) : Int) := by decide
theorem lo_mask : ∀ r : Fin 8, IntKind.wrap .u8 (1 * (2 ^ (min (Int.toNat ((r.val : Nat) : Int)) 8))) = (((UInt8.ofNat (2 ^ r.val)).toNat : Nat) : Int) := by decide
theorem xor_u8 (a b : UInt8) : Go.bits .xor .u8 (a.toNat : Int) (b.toNat : Int) = ((a ^^^ b).toNat : Int) := by
  rw [u8_xor a.toNat_lt b.toNat_lt, UInt8.toNat_xor]
theorem set_bytes (s : List UInt8) (q : Nat) (b : UInt8) : (bytesAV s).set q (.int .u8 (b.toNat : Int)) = bytesAV (s.set q b) := by simp [bytesAV, List.map_set]
theorem byte_ge {s : List UInt8} {q : Nat} (h : q < s.length) : (bytesAV s)[q]? = some (.int .u8 ((s.getD q 0).toNat : Int)) := by rw [bytes_at h, List.getD_eq_getElem?_getD, List.getElem?_eq_getElem h]; rfl
theorem w16_beq (x y : BitVec 16) : (w16 x == w16 y) = decide (x = y) := by
  by_cases h : x = y
  · subst h; rw [beq_self_eq_true, decide_eq_true rfl]
  · rw [decide_eq_false h]
    refine beq_eq_false_iff_ne.mpr fun c => h (BitVec.eq_of_toNat_eq ?_)
    have : (x.toNat : Int) = (y.toNat : Int) := c
    omega
theorem w32_beq (x y : BitVec 32) : (w32 x == w32 y) = decide (x = y) := by
  by_cases h : x = y
  · subst h; rw [beq_self_eq_true, decide_eq_true rfl]
  · rw [decide_eq_false h]
    refine beq_eq_false_iff_ne.mpr fun c => h (BitVec.eq_of_toNat_eq ?_)
    have : (x.toNat : Int) = (y.toNat : Int) := c
    omega
/-- Two texts in memory. -/
abbrev two (b c : List UInt8) : Heap := [some ⟨E5, bytesAV b⟩, some ⟨E5, bytesAV c⟩]
theorem bits_end (s : List UInt8) (hs : s.length ≤ 300) (a : Int) (f : Nat) (x : BitVec 32) : X6_0_0 40 s a (w32 x) (.slc 0 0 s.length) (.slc 1 0 s.length) (anyT f (8 * s.length) x.toNat 16) (anyT f (8 * s.length) x.toNat 32)
    (two (turnedH s f (8 * s.length) x.toNat 16) (turned s f (8 * s.length) x.toNat 32)) = some (.bool true) := by
  unfold X6_0_0
  refine Eq.trans (b2s_h (s := turnedH s f (8 * s.length) x.toNat 16) rfl (turnedH_len ..).symm) ?_
  refine Eq.trans (pl_str rfl) ?_
  refine Eq.trans (pl_int (s10 37 _ (by rw [turnedH_len]; omega))) ?_
  refine Eq.trans (pl_int (s10 37 _ (by omega))) ?_
  rw [w16_beq, bits16]
  have e1 : ∀ b : Bool, (xor true ((!b) == b)) = true := by decide
  rw [e1, cnd_t]
  refine Eq.trans (b2s_h (s := turned s f (8 * s.length) x.toNat 32) rfl (turned_len ..).symm) ?_
  refine Eq.trans (pl_str rfl) ?_
  refine Eq.trans (pl_int (s12 38 _ (by rw [turned_len]; omega))) ?_
  refine Eq.trans (pl_int (s12 38 _ (by omega))) ?_
  rw [w32_beq, bits32, e1]
  exact fin_b
theorem bits_go (s : List UInt8) (hs : s.length ≤ 300) (a : Int) (f : Nat) (x : BitVec 32) (hfl : f < 8 * s.length)
    (hf : IntKind.wrap .i64 (Int.tmod (IntKind.wrap .u64 a) (IntKind.wrap .u64 (IntKind.wrap .i64 (8 * ((s.length : Nat) : Int))))) = ((f : Nat) : Int)) : ∀ (k i : Nat), i + k = 32 → ∀ F, k < F →
    L6_0 40 s a (w32 x) (.slc 0 0 s.length) (.slc 1 0 s.length) F (anyT f (8 * s.length) x.toNat (min i 16)) (anyT f (8 * s.length) x.toNat i) ((i : Nat) : Int)
      (two (turnedH s f (8 * s.length) x.toNat (min i 16)) (turned s f (8 * s.length) x.toNat i)) = some (.bool true)
  | 0, i, h, F + 1, _ => by
    have : i = 32 := by omega
    subst this
    rw [L6_0_s, decide_eq_false (by omega), cnd_f]
    exact bits_end s hs a f x
  | k + 1, i, h, F + 1, hF => by
    have ih := bits_go s hs a f x hfl hf k (i + 1) (by omega) F (by omega)
    rw [L6_0_s, decide_eq_true (by omega), cnd_t, decide_eq_false (by omega), cnd_f, bit_at x i (by omega), hf, i64_up (by omega)]
    have e8 : IntKind.wrap .i64 (8 * ((s.length : Nat) : Int)) = ((8 * s.length : Nat) : Int) := by rw [i64_small (by omega) (by omega)]; omega
    have ek : IntKind.wrap .i64 (((f : Nat) : Int) + ((i : Nat) : Int)) = ((f + i : Nat) : Int) := by rw [i64_small (by omega) (by omega)]; omega
    have eq : IntKind.wrap .i64 (Int.tdiv ((f + i : Nat) : Int) 8) = (((f + i) / 8 : Nat) : Int) := by rw [Int.tdiv_eq_ediv_of_nonneg (by omega), i64_small (by omega) (by omega)]; omega
    have er : Int.tmod ((f + i : Nat) : Int) 8 = (((f + i) % 8 : Nat) : Int) := by rw [Int.tmod_eq_emod_of_nonneg (by omega)]; omega
    simp only [e8, ek, eq, er]
    by_cases hc : x.toNat.testBit i = true ∧ f + i < 8 * s.length
    · obtain ⟨c1, c2⟩ := hc
      rw [c1, Bool.not_true, cnd_f, decide_eq_false (by omega), cnd_f]
      have r8 : (f + i) % 8 < 8 := Nat.mod_lt _ (by decide)
      have q8 : (f + i) / 8 < s.length := by omega
      have m1 := hi_mask ⟨(f + i) % 8, r8⟩
      have m2 := lo_mask ⟨(f + i) % 8, r8⟩
      simp only at m1 m2
      rw [m1, m2]
      have t32 : turned s f (8 * s.length) x.toNat (i + 1) = flip (turned s f (8 * s.length) x.toNat i) (f + i) := if_pos ⟨c1, c2⟩
      have n32 : anyT f (8 * s.length) x.toNat (i + 1) = true := if_pos ⟨c1, c2⟩
      have l32 := turned_len s f (8 * s.length) x.toNat i
      have lH := turnedH_len s f (8 * s.length) x.toNat (min i 16)
      rw [t32, n32] at ih
      generalize turned s f (8 * s.length) x.toNat i = c at *
      by_cases hi : i < 16
      · rw [decide_eq_true (by omega), cnd_t]
        have tH : turnedH s f (8 * s.length) x.toNat (min (i + 1) 16) = flipH (turnedH s f (8 * s.length) x.toNat (min i 16)) (f + i) := by
          rw [Nat.min_eq_left (show i + 1 ≤ 16 by omega), Nat.min_eq_left (show i ≤ 16 by omega)]; exact if_pos ⟨c1, c2⟩
        have nH : anyT f (8 * s.length) x.toNat (min (i + 1) 16) = true := by rw [Nat.min_eq_left (show i + 1 ≤ 16 by omega)]; exact if_pos ⟨c1, c2⟩
        rw [tH, nH] at ih
        generalize turnedH s f (8 * s.length) x.toNat (min i 16) = b at *
        refine Eq.trans (ix_slc (b := ⟨E5, bytesAV b⟩) rfl (by omega) (by omega) rfl) ?_
        refine Eq.trans (ld_ptr (b := ⟨E5, bytesAV b⟩) (v := .int .u8 ((b.getD ((f + i) / 8) 0).toNat : Int)) rfl (by rw [Nat.zero_add, Int.toNat_natCast]; exact byte_ge (by omega)) rfl) ?_
        refine Eq.trans (pl_int rfl) ?_
        rw [decide_eq_false (by omega), cnd_f]
        refine Eq.trans (ix_slc (b := ⟨E5, bytesAV b⟩) rfl (by omega) (by omega) rfl) ?_
        rw [xor_u8]
        refine Eq.trans (st_ptr (b := ⟨E5, bytesAV b⟩) (el := .int .u8 ((b.getD ((f + i) / 8) 0).toNat : Int)) (el' := .int .u8 ((b.getD ((f + i) / 8) 0 ^^^ UInt8.ofNat (128 / 2 ^ ((f + i) % 8))).toNat : Int)) rfl (by rw [Nat.zero_add, Int.toNat_natCast]; exact byte_ge (by omega)) rfl) ?_
        rw [Nat.zero_add, Int.toNat_natCast]
        have sb : List.set (two b c) 0 (some { (⟨E5, bytesAV b⟩ : Blk) with els := (bytesAV b).set ((f + i) / 8) (.int .u8 ((b.getD ((f + i) / 8) 0 ^^^ UInt8.ofNat (128 / 2 ^ ((f + i) % 8))).toNat : Int)) }) = two (flipH b (f + i)) c := by
          rw [set_bytes]; rfl
        rw [sb]
        refine Eq.trans (ix_slc (b := ⟨E5, bytesAV c⟩) rfl (by omega) (by omega) rfl) ?_
        refine Eq.trans (ld_ptr (b := ⟨E5, bytesAV c⟩) (v := .int .u8 ((c.getD ((f + i) / 8) 0).toNat : Int)) rfl (by rw [Nat.zero_add, Int.toNat_natCast]; exact byte_ge (by omega)) rfl) ?_
        refine Eq.trans (pl_int rfl) ?_
        rw [cnd_f]
        refine Eq.trans (ix_slc (b := ⟨E5, bytesAV c⟩) rfl (by omega) (by omega) rfl) ?_
        rw [xor_u8]
        refine Eq.trans (st_ptr (b := ⟨E5, bytesAV c⟩) (el := .int .u8 ((c.getD ((f + i) / 8) 0).toNat : Int)) (el' := .int .u8 ((c.getD ((f + i) / 8) 0 ^^^ UInt8.ofNat (2 ^ ((f + i) % 8))).toNat : Int)) rfl (by rw [Nat.zero_add, Int.toNat_natCast]; exact byte_ge (by omega)) rfl) ?_
        rw [Nat.zero_add, Int.toNat_natCast]
        have sc : List.set (two (flipH b (f + i)) c) 1 (some { (⟨E5, bytesAV c⟩ : Blk) with els := (bytesAV c).set ((f + i) / 8) (.int .u8 ((c.getD ((f + i) / 8) 0 ^^^ UInt8.ofNat (2 ^ ((f + i) % 8))).toNat : Int)) }) = two (flipH b (f + i)) (flip c (f + i)) := by
          rw [set_bytes]; rfl
        rw [sc]
        exact ih
      · rw [decide_eq_false (by omega), cnd_f]
        rw [Nat.min_eq_right (show 16 ≤ i + 1 by omega)] at ih
        rw [Nat.min_eq_right (show 16 ≤ i by omega)]
        generalize turnedH s f (8 * s.length) x.toNat 16 = b at *
        refine Eq.trans (ix_slc (b := ⟨E5, bytesAV c⟩) rfl (by omega) (by omega) rfl) ?_
        refine Eq.trans (ld_ptr (b := ⟨E5, bytesAV c⟩) (v := .int .u8 ((c.getD ((f + i) / 8) 0).toNat : Int)) rfl (by rw [Nat.zero_add, Int.toNat_natCast]; exact byte_ge (by omega)) rfl) ?_
        refine Eq.trans (pl_int rfl) ?_
        rw [decide_eq_false (by omega), cnd_f]
        refine Eq.trans (ix_slc (b := ⟨E5, bytesAV c⟩) rfl (by omega) (by omega) rfl) ?_
        rw [xor_u8]
        refine Eq.trans (st_ptr (b := ⟨E5, bytesAV c⟩) (el := .int .u8 ((c.getD ((f + i) / 8) 0).toNat : Int)) (el' := .int .u8 ((c.getD ((f + i) / 8) 0 ^^^ UInt8.ofNat (2 ^ ((f + i) % 8))).toNat : Int)) rfl (by rw [Nat.zero_add, Int.toNat_natCast]; exact byte_ge (by omega)) rfl) ?_
        rw [Nat.zero_add, Int.toNat_natCast]
        have sc : List.set (two b c) 1 (some { (⟨E5, bytesAV c⟩ : Blk) with els := (bytesAV c).set ((f + i) / 8) (.int .u8 ((c.getD ((f + i) / 8) 0 ^^^ UInt8.ofNat (2 ^ ((f + i) % 8))).toNat : Int)) }) = two b (flip c (f + i)) := by
          rw [set_bytes]; rfl
        rw [sc]
        exact ih
    · have t32 : turned s f (8 * s.length) x.toNat (i + 1) = turned s f (8 * s.length) x.toNat i := if_neg hc
      have n32 : anyT f (8 * s.length) x.toNat (i + 1) = anyT f (8 * s.length) x.toNat i := if_neg hc
      have tH : turnedH s f (8 * s.length) x.toNat (min (i + 1) 16) = turnedH s f (8 * s.length) x.toNat (min i 16) := by
        by_cases hi : i < 16
        · rw [Nat.min_eq_left (show i + 1 ≤ 16 by omega), Nat.min_eq_left (show i ≤ 16 by omega)]; exact if_neg hc
        · rw [Nat.min_eq_right (show 16 ≤ i + 1 by omega), Nat.min_eq_right (show 16 ≤ i by omega)]
      have nH : anyT f (8 * s.length) x.toNat (min (i + 1) 16) = anyT f (8 * s.length) x.toNat (min i 16) := by
        by_cases hi : i < 16
        · rw [Nat.min_eq_left (show i + 1 ≤ 16 by omega), Nat.min_eq_left (show i ≤ 16 by omega)]; exact if_neg hc
        · rw [Nat.min_eq_right (show 16 ≤ i + 1 by omega), Nat.min_eq_right (show 16 ≤ i by omega)]
      rw [t32, n32, tH, nH] at ih
      cases hb : x.toNat.testBit i
      · rw [Bool.not_false, cnd_t]; exact ih
      · rw [Bool.not_true, cnd_f, decide_eq_true (by have : ¬ f + i < 8 * s.length := fun k => hc ⟨hb, k⟩; omega), cnd_t]; exact ih
theorem bits_law (s : List UInt8) (a : Int) (x : BitVec 32) : pcall M 41 6 [.str s, .int .i64 a, .int .u32 (w32 x)] = some (.bool true) := told (q6 40 _ _ _) (by
  refine Eq.trans (pl_bool awake) ?_
  refine Eq.trans (pl_f (by rfl)) ?_
  by_cases h1 : s.length < 1
  · rw [decide_eq_true (by omega), cnd_t]; exact Eq.trans (pl_bool awake) fin_b
  rw [decide_eq_false (by omega), cnd_f]
  by_cases h2 : s.length > 300
  · rw [decide_eq_true (by omega), cnd_t]; exact Eq.trans (pl_bool awake) fin_b
  rw [decide_eq_false (by omega), cnd_f]
  have e8 : IntKind.wrap .u64 (IntKind.wrap .i64 (8 * ((s.length : Nat) : Int))) = ((8 * s.length : Nat) : Int) := by
    rw [i64_small (by omega) (by omega), u64_small (by omega) (by omega)]; omega
  obtain ⟨f, hf, hfl⟩ : ∃ f : Nat, IntKind.wrap .i64 (Int.tmod (IntKind.wrap .u64 a) (IntKind.wrap .u64 (IntKind.wrap .i64 (8 * ((s.length : Nat) : Int))))) = ((f : Nat) : Int) ∧ f < 8 * s.length := by
    rw [e8, u64w, Int.tmod_eq_emod_of_nonneg (by omega)]
    have k1 := Int.emod_nonneg (a % 18446744073709551616) (show ((8 * s.length : Nat) : Int) ≠ 0 by omega)
    have k2 := Int.emod_lt_of_pos (a % 18446744073709551616) (show (0 : Int) < ((8 * s.length : Nat) : Int) by omega)
    rw [i64_small (by omega) (by omega)]
    exact ⟨(a % 18446744073709551616 % ((8 * s.length : Nat) : Int)).toNat, by omega, by omega⟩
  rw [e8, decide_eq_false (by omega), cnd_f]
  refine Eq.trans s2b_h ?_
  refine Eq.trans s2b_h ?_
  exact bits_go s (by omega) a f x hfl hf 32 0 (by omega) 1000000000000000000 (by omega))
theorem w32_of {n : Int} (h : (Lit.int .u32 n).wf = true) : ∃ x : BitVec 32, n = w32 x := by
  have h2 : 0 ≤ n ∧ n < 4294967296 := by
    have e1 : IntKind.u32.min = 0 := rfl
    have e2 : IntKind.u32.max = 4294967295 := rfl
    simp [Lit.wf, e1, e2] at h; omega
  refine ⟨BitVec.ofNat 32 n.toNat, ?_⟩
  show n = ((BitVec.ofNat 32 n.toNat).toNat : Int)
  rw [BitVec.toNat_ofNat]; omega
theorem law_CrcBits (a0 : List UInt8) (a1 : Int) (a2 : Int) (w0 : a0.length ≤ maxLen) (w1 : (Lit.int .i64 a1).wf = true) (w2 : (Lit.int .u32 a2).wf = true) :
    pcall M 41 6 [.str a0, .int .i64 a1, .int .u32 a2] = some (.bool true) := by
  obtain ⟨x, rfl⟩ := w32_of w2
  exact bits_law a0 a1 x
end Go.Proofs.Ytcegcmjkkflhhaa.AE

namespace Go.Proofs.Ytcegcmjkkflhhaa.AE
set_option linter.unusedVariables false
set_option linter.unusedSimpArgs false
set_option linter.constructorNameAsVariable false
open Go Go.RowKit

theorem frl_nil {w : World} {bad : Nat → Prop} : ∀ (i : Nat) (c : AV) (u : Value), ([] : List AV)[i]? = some c → ([] : List Value)[i]? = some u → FRep w bad c u := fun _ _ _ h => by cases h
theorem frl_cons {w : World} {bad : Nat → Prop} {c0 : AV} {u0 : Value} {cs : List AV} {us : List Value} (h0 : FRep w bad c0 u0) (h : ∀ (i : Nat) (c : AV) (u : Value), cs[i]? = some c → us[i]? = some u → FRep w bad c u) :
    ∀ (i : Nat) (c : AV) (u : Value), (c0 :: cs)[i]? = some c → (u0 :: us)[i]? = some u → FRep w bad c u
  | 0, c, u, hc, hu => by cases hc; cases hu; exact h0
  | i + 1, c, u, hc, hu => h i c u hc hu
theorem law_calls {d : Nat} {g : FuncId} {args : List AV} {vs : List Value} (h : pcall M d g args = some (.bool true)) (W : World) (hl : args.length = vs.length)
    (hr : ∀ (i : Nat) (c : AV) (u : Value), args[i]? = some c → vs[i]? = some u → FRep W (fun _ => False) c u) (hc : (cFn Try.prog g).isSome = true := by kernel_rfl) : Calls Try.prog g vs.toArray W fun e W' => e = .returned (.bool true) ∧ Below W.heap.size W W' := by
  obtain ⟨fn, hfn⟩ := Option.isSome_iff_exists.mp hc
  rcases pcall_law modOK d g args _ h W (fun _ => False) vs (fun _ h => h.elim) hl hr with ⟨cv, w', h1, _⟩ | ⟨_, h2⟩
  · rw [enter_run hfn] at h1; cases h1
  · refine h2.mono ?_
    rintro e W' ⟨cv, rfl, hf, hb⟩
    cases hf
    exact ⟨rfl, hb⟩
theorem str_size {w : World} {bad : Nat → Prop} {b : List UInt8} {s : ByteArray} (h : FRep w bad (.str b) (.string s)) : s.data.toList.length = b.length := by
  cases h
  rfl
end Go.Proofs.Ytcegcmjkkflhhaa.AE
