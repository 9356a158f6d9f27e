/- What is asked at a value, where it is told: rules. No conditions. -/
import Derived.Test.YtbcbaidnamebkaaAEres
namespace Go.Proofs.Ytbcbaidnamebkaa.AE
set_option linter.unusedVariables false
set_option linter.unusedSimpArgs false
set_option linter.constructorNameAsVariable false
open Go

theorem C0_int (k : IntKind) (n : Int) (K : Int → Ans) : C0.int k (some (.int k n)) K = K n := by simp [C0, isInt]
theorem C0_bool (b : Bool) (K : Bool → Ans) : C0.bool (some (.bool b)) K = K b := by simp [C0, isBool]
theorem C0_str (b : List UInt8) (K : List UInt8 → Ans) : C0.str (some (.str b)) K = K b := by simp [C0, isStr]
theorem C0_lst (l : List AV) (K : List AV → Ans) (Z : Bool → Ans) : C0.lst (some (.lst l)) K Z = K l := rfl
theorem C0_lstz (b : Bool) (K : List AV → Ans) (Z : Bool → Ans) : C0.lst (some (.zsl b)) K Z = Z b := rfl
theorem C0_agg (n : Nat) (l : List AV) (h : l.length = n) (K : List AV → Ans) : C0.agg n (some (.agg l)) K = K l := by simp [C0, isAgg, h]
theorem C0_tup (n : Nat) (l : List AV) (h : l.length = n) (K : List AV → Ans) : C0.tup n (some (.tup l)) K = K l := by simp [C0, isTup, h]
theorem C0_agg2 (a b : AV) (K : List AV → Ans) : C0.agg 2 (some (.agg [a, b])) K = K [a, b] := C0_agg 2 _ rfl K
theorem C0_tup2 (a b : AV) (K : List AV → Ans) : C0.tup 2 (some (.tup [a, b])) K = K [a, b] := C0_tup 2 _ rfl K
theorem C0_any (v : AV) (K : AV → Ans) : C0.any (some v) K = K v := by simp [C0]
theorem C0_same (v : AV) (K : Ans) : C0.same (some v) v K = K := by simp [C0]
theorem C0_sameH (H : Heap) (K : Ans) : C0.sameH H H K = K := by simp [C0]
theorem cnd_t (a b : Ans) : cnd true a b = a := rfl
theorem cnd_f (a b : Ans) : cnd false a b = b := rfl
theorem pl_len {t : Bool} {a b : Ans} (h : t = true) : cnd t a b = a := by subst h; rfl
theorem pl_f {t : Bool} {a b : Ans} (h : t = false) : cnd t a b = b := by subst h; rfl
theorem pl_same {o : Option AV} {v : AV} {K : Ans} (h : o = some v) : C0.same o v K = K := by subst h; simp [C0]
theorem pl_sameH {H : Heap} {K : Ans} : C0.sameH H H K = K := by simp [C0]
theorem pl_int {k : IntKind} {o : Option AV} {n : Int} {K : Int → Ans} (h : o = some (.int k n)) : C0.int k o K = K n := by subst h; simp [C0, isInt]
theorem pl_bool {o : Option AV} {n : Bool} {K : Bool → Ans} (h : o = some (.bool n)) : C0.bool o K = K n := by subst h; simp [C0, isBool]
theorem pl_str {o : Option AV} {n : List UInt8} {K : List UInt8 → Ans} (h : o = some (.str n)) : C0.str o K = K n := by subst h; simp [C0, isStr]
theorem pl_any {o : Option AV} {v : AV} {K : AV → Ans} (h : o = some v) : C0.any o K = K v := by subst h; simp [C0]
theorem pl_agg {n : Nat} {o : Option AV} {l : List AV} {K : List AV → Ans} (h : o = some (.agg l)) (h2 : l.length = n) : C0.agg n o K = K l := by subst h; simp [C0, isAgg, h2]
theorem pl_tup {n : Nat} {o : Option AV} {l : List AV} {K : List AV → Ans} (h : o = some (.tup l)) (h2 : l.length = n) : C0.tup n o K = K l := by subst h; simp [C0, isTup, h2]
theorem pl_lst {o : Option AV} {l : List AV} {K : List AV → Ans} {Z : Bool → Ans} (h : o = some (.lst l)) : C0.lst o K Z = K l := by subst h; rfl
theorem it_ret (R : St → (Ex → St → Ans) → Ans) (n : Nat) (s : St) (ids : List Nat) (ks : List (St → Ans)) (kr : St → Ans) : C0.iter R n s ids ks kr = xiter R n s fun e s' => match e with
    | .ret => kr s'
    | .exit i => xgo i ids ks s'
    | .normal => none := rfl
theorem xiter_s (R : St → (Ex → St → Ans) → Ans) (n : Nat) (s : St) (K : Ex → St → Ans) : xiter R (n + 1) s K = R s fun e s' => match e with
    | .normal => xiter R n s' K
    | .exit i => K (.exit i) s'
    | .ret => K .ret s' := rfl
theorem xgo_hit (i : Nat) (ids : List Nat) (k : St → Ans) (ks : List (St → Ans)) (s : St) : xgo i (i :: ids) (k :: ks) s = k s := by simp [xgo]
theorem xgo_miss {i j : Nat} (ids : List Nat) (k : St → Ans) (ks : List (St → Ans)) (s : St) (h : (i == j) = false) : xgo i (j :: ids) (k :: ks) s = xgo i ids ks s := by
  simp only [xgo]; rw [if_neg]; intro he; subst he; simp at h
theorem C0_hop (H : Heap) (io : IOp) (K : AV → Heap → Ans) : C0.hop H io K = match aop noCall (evO []) H io with
    | some (v, H') => K v H'
    | none => none := rfl
theorem hop_eq {H H' : Heap} {io : IOp} {v : AV} {K : AV → Heap → Ans} (h : aop noCall (evO []) H io = some (v, H')) : C0.hop H io K = K v H' := by rw [C0_hop, h]
theorem snp_free {H : Heap} {args : List AV} {K : List AV → Bool → Ans} (h : args.all (noId DEPTH) = true) : C0.snp H args K = K args true := by simp [C0, h]
theorem snp_id {H : Heap} {args : List AV} {K : List AV → Bool → Ans} (h : args.all (noId DEPTH) = false) : C0.snp H args K = K (args.map (snap DEPTH H)) false := by simp [C0, h]
theorem at0 (a : AV) (l : List AV) : (a :: l)[0]? = some a := rfl
theorem at1 (a b : AV) (l : List AV) : (a :: b :: l)[1]? = some b := rfl
theorem at2 (a b c : AV) (l : List AV) : (a :: b :: c :: l)[2]? = some c := rfl
theorem at3 (a b c d : AV) (l : List AV) : (a :: b :: c :: d :: l)[3]? = some d := rfl
theorem at4 (a b c d e : AV) (l : List AV) : (a :: b :: c :: d :: e :: l)[4]? = some e := rfl
theorem at5 (a b c d e f : AV) (l : List AV) : (a :: b :: c :: d :: e :: f :: l)[5]? = some f := rfl
theorem at6 (a b c d e f g : AV) (l : List AV) : (a :: b :: c :: d :: e :: f :: g :: l)[6]? = some g := rfl
theorem at7 (a b c d e f g h : AV) (l : List AV) : (a :: b :: c :: d :: e :: f :: g :: h :: l)[7]? = some h := rfl
/-- From what is told forwards. -/
theorem told {d g : Nat} {args : List AV} {r : AV} {t : Ans} (h : xcall C0 M unr d g args = t) (h2 : t = some r) : pcall M (d + 1) g args = some r := xcall_ok (h.trans h2)
theorem up {k d : Nat} {p : Nat → Prop} (h : ∀ d, p (d + k)) (hd : k ≤ d) : p d := by
  have := h (d - k)
  rwa [Nat.sub_add_cancel hd] at this
end Go.Proofs.Ytbcbaidnamebkaa.AE
