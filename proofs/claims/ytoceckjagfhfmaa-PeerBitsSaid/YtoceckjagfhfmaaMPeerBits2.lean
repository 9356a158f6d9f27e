/- The texts that the law PeerBits needs, part 2. No conditions. -/
import Derived.Test.YtoceckjagfhfmaaMPeerBits1
namespace Go.Proofs.Ytoceckjagfhfmaa.AE
set_option linter.unusedVariables false
set_option linter.unusedSimpArgs false
set_option linter.constructorNameAsVariable false
open Go
theorem hg_z {Z X : Heap} {k : Nat} {b : Blk} (h : Z[k]? = some (some b)) : hget (Z ++ X) k = some b := by
  unfold hget
  have hk : k < Z.length := by
    rcases Nat.lt_or_ge k Z.length with h1 | h1
    · exact h1
    · rw [List.getElem?_eq_none h1] at h; cases h
  rw [List.getElem?_append_left hk, h]
theorem set_z {Z X : Heap} {k : Nat} {b : Blk} {x : Option Blk} (h : Z[k]? = some (some b)) : (Z ++ X).set k x = Z.set k x ++ X := by
  have hk : k < Z.length := by
    rcases Nat.lt_or_ge k Z.length with h1 | h1
    · exact h1
    · rw [List.getElem?_eq_none h1] at h; cases h
  rw [List.set_append_left _ _ hk]
theorem hg_o {Z G S : Heap} {z k : Nat} {b : Blk} (hz : Z.length = z) (h : S[k]? = some (some b)) : hget (Z ++ (G ++ S)) (z + (G.length + k)) = some b := by
  subst hz
  unfold hget
  rw [List.getElem?_append_right (by omega), show Z.length + (G.length + k) - Z.length = G.length + k by omega, List.getElem?_append_right (by omega), show G.length + k - G.length = k by omega, h]
theorem set_o {Z G S : Heap} {z k : Nat} {x : Option Blk} (hz : Z.length = z) : (Z ++ (G ++ S)).set (z + (G.length + k)) x = Z ++ (G ++ S.set k x) := by
  subst hz
  rw [List.set_append_right _ _ (by omega), show Z.length + (G.length + k) - Z.length = G.length + k by omega, List.set_append_right _ _ (by omega), show G.length + k - G.length = k by omega]
theorem al_o {Z G S : Heap} {z s : Nat} {e : ETy} {K : AV → Heap → Ans} (hz : Z.length = z) (hs : S.length = s) : C0.hop (Z ++ (G ++ S)) (.alloc e) K = K (.ptr (z + (G.length + s)) 0 0) (Z ++ (G ++ (S ++ [some ⟨e, [e.zero]⟩]))) := by
  subst hz hs
  refine (hop_eq rfl).trans ?_
  simp only [evO, List.length_append, List.append_assoc]
theorem bx_o {Z G S : Heap} {z s : Nat} {e : ETy} {x : AV} {K : AV → Heap → Ans} (hz : Z.length = z) (hs : S.length = s) (h : elOk e x = true) : C0.hop (Z ++ (G ++ S)) (.box e (.v x)) K = K (.ptr (z + (G.length + s)) 0 0) (Z ++ (G ++ (S ++ [some ⟨e, [x]⟩]))) := by
  subst hz hs
  refine (hop_eq (v := .ptr (Z ++ (G ++ S)).length 0 0) (H' := (Z ++ (G ++ S)) ++ [some ⟨e, [x]⟩]) (by simp [aop, evO, h])).trans ?_
  simp only [List.length_append, List.append_assoc]
theorem ld_z {Z X : Heap} {k i j n : Nat} {ag : Bool} {b : Blk} {el v : AV} {K : AV → Heap → Ans} (h : Z[k]? = some (some b)) (hi : b.els[i]? = some el) (hs : sub ag n j el = some v) :
    C0.hop (Z ++ X) (.load ag n (.v (.ptr k i j))) K = K v (Z ++ X) := ld_ptr (hg_z h) hi hs
theorem ld_o {Z G S : Heap} {z k i j n : Nat} {ag : Bool} {b : Blk} {el v : AV} {K : AV → Heap → Ans} (hz : Z.length = z) (h : S[k]? = some (some b)) (hi : b.els[i]? = some el) (hs : sub ag n j el = some v) :
    C0.hop (Z ++ (G ++ S)) (.load ag n (.v (.ptr (z + (G.length + k)) i j))) K = K v (Z ++ (G ++ S)) := ld_ptr (hg_o hz h) hi hs
theorem st_z {Z X : Heap} {k i j n : Nat} {b : Blk} {el el' x : AV} {K : AV → Heap → Ans} (h : Z[k]? = some (some b)) (hi : b.els[i]? = some el) (hs : putSub n j x el = some el') :
    C0.hop (Z ++ X) (.store n (.v (.ptr k i j)) (.v x)) K = K .undef (Z.set k (some { b with els := b.els.set i el' }) ++ X) := by
  rw [st_ptr (hg_z h) hi hs, set_z h]
theorem st_o {Z G S : Heap} {z k i j n : Nat} {b : Blk} {el el' x : AV} {K : AV → Heap → Ans} (hz : Z.length = z) (h : S[k]? = some (some b)) (hi : b.els[i]? = some el) (hs : putSub n j x el = some el') :
    C0.hop (Z ++ (G ++ S)) (.store n (.v (.ptr (z + (G.length + k)) i j)) (.v x)) K = K .undef (Z ++ (G ++ S.set k (some { b with els := b.els.set i el' }))) := by
  rw [st_ptr (hg_o hz h) hi hs, set_o hz]
theorem sub_w {cs : List AV} {n : Nat} (h : cs.length = n) : sub true n 0 (.agg cs) = some (.agg cs) := by
  subst h; simp [sub]
theorem ld_zw {Z X : Heap} {k i n : Nat} {b : Blk} {cs : List AV} {K : AV → Heap → Ans} (h : Z[k]? = some (some b)) (hi : b.els[i]? = some (.agg cs)) (hn : cs.length = n) :
    C0.hop (Z ++ X) (.load true n (.v (.ptr k i 0))) K = K (.agg cs) (Z ++ X) := ld_z h hi (sub_w hn)
theorem ld_ow {Z G S : Heap} {z k i n : Nat} {b : Blk} {cs : List AV} {K : AV → Heap → Ans} (hz : Z.length = z) (h : S[k]? = some (some b)) (hi : b.els[i]? = some (.agg cs)) (hn : cs.length = n) :
    C0.hop (Z ++ (G ++ S)) (.load true n (.v (.ptr (z + (G.length + k)) i 0))) K = K (.agg cs) (Z ++ (G ++ S)) := ld_o hz h hi (sub_w hn)
theorem gen_at {l : List AV} {i : Nat} {a : AV} (h : l[i]? = some a) : l[i]? = some a := h
theorem pl_zsl {o : Option AV} {b : Bool} {K : List AV → Ans} {Z : Bool → Ans} (h : o = some (.zsl b)) : C0.lst o K Z = Z b := by subst h; rfl
theorem c_ort {b : Bool} {x y : Ans} : cnd (b || true) x y = x := by cases b <;> rfl
theorem c_nt {x y : Ans} : cnd (!true) x y = y := rfl
theorem c_nf {x y : Ans} : cnd (!false) x y = x := rfl
theorem f_free {H : Heap} {v : AV} (h : snap 12 H v = v) : C0.fin H v = some v := by rw [C0_fin, h]
theorem at8 (a b c d e f g h i : AV) (l : List AV) : (a :: b :: c :: d :: e :: f :: g :: h :: i :: l)[8]? = some i := rfl
theorem at9 (a b c d e f g h i j : AV) (l : List AV) : (a :: b :: c :: d :: e :: f :: g :: h :: i :: j :: l)[9]? = some j := rfl
theorem at10 (a b c d e f g h i j k : AV) (l : List AV) : (a :: b :: c :: d :: e :: f :: g :: h :: i :: j :: k :: l)[10]? = some k := rfl
theorem tt {a b c : Ans} (h : a = b) (k : b = c) : a = c := h.trans k
theorem w2 {k : IntKind} {o : Option AV} {n : Int} {K : Int → Ans} (h : o = some (.int k n) := by first | with_reducible rfl | exact at0 _ _ | exact at1 _ _ _ | exact at2 _ _ _ _ | exact at3 _ _ _ _ _ | exact at4 _ _ _ _ _ _ | exact at5 _ _ _ _ _ _ _ | exact at6 _ _ _ _ _ _ _ _ | exact at7 _ _ _ _ _ _ _ _ _ | exact at8 _ _ _ _ _ _ _ _ _ _ | exact at9 _ _ _ _ _ _ _ _ _ _ _ | exact at10 _ _ _ _ _ _ _ _ _ _ _ _ | exact gen_at (by with_unfolding_all rfl)) : C0.int k o K = K n := pl_int h
theorem w3 {o : Option AV} {n : Bool} {K : Bool → Ans} (h : o = some (.bool n) := by first | with_reducible rfl | exact at0 _ _ | exact at1 _ _ _ | exact at2 _ _ _ _ | exact at3 _ _ _ _ _ | exact at4 _ _ _ _ _ _ | exact at5 _ _ _ _ _ _ _ | exact at6 _ _ _ _ _ _ _ _ | exact at7 _ _ _ _ _ _ _ _ _ | exact at8 _ _ _ _ _ _ _ _ _ _ | exact at9 _ _ _ _ _ _ _ _ _ _ _ | exact at10 _ _ _ _ _ _ _ _ _ _ _ _ | exact gen_at (by with_unfolding_all rfl)) : C0.bool o K = K n := pl_bool h
theorem w4 {o : Option AV} {v : AV} {K : AV → Ans} (h : o = some v := by first | with_reducible rfl | exact at0 _ _ | exact at1 _ _ _ | exact at2 _ _ _ _ | exact at3 _ _ _ _ _ | exact at4 _ _ _ _ _ _ | exact at5 _ _ _ _ _ _ _ | exact at6 _ _ _ _ _ _ _ _ | exact at7 _ _ _ _ _ _ _ _ _ | exact at8 _ _ _ _ _ _ _ _ _ _ | exact at9 _ _ _ _ _ _ _ _ _ _ _ | exact at10 _ _ _ _ _ _ _ _ _ _ _ _ | exact gen_at (by with_unfolding_all rfl)) : C0.any o K = K v := pl_any h
theorem w5 {o : Option AV} {n : List UInt8} {K : List UInt8 → Ans} (h : o = some (.str n) := by first | with_reducible rfl | exact at0 _ _ | exact at1 _ _ _ | exact at2 _ _ _ _ | exact at3 _ _ _ _ _ | exact at4 _ _ _ _ _ _ | exact at5 _ _ _ _ _ _ _ | exact at6 _ _ _ _ _ _ _ _ | exact at7 _ _ _ _ _ _ _ _ _ | exact at8 _ _ _ _ _ _ _ _ _ _ | exact at9 _ _ _ _ _ _ _ _ _ _ _ | exact at10 _ _ _ _ _ _ _ _ _ _ _ _ | exact gen_at (by with_unfolding_all rfl)) : C0.str o K = K n := pl_str h
theorem w6 {o : Option AV} {l : List AV} {K : List AV → Ans} {Z : Bool → Ans} (h : o = some (.lst l) := by first | with_reducible rfl | exact at0 _ _ | exact at1 _ _ _ | exact at2 _ _ _ _ | exact at3 _ _ _ _ _ | exact at4 _ _ _ _ _ _ | exact at5 _ _ _ _ _ _ _ | exact at6 _ _ _ _ _ _ _ _ | exact at7 _ _ _ _ _ _ _ _ _ | exact at8 _ _ _ _ _ _ _ _ _ _ | exact at9 _ _ _ _ _ _ _ _ _ _ _ | exact at10 _ _ _ _ _ _ _ _ _ _ _ _ | exact gen_at (by with_unfolding_all rfl)) : C0.lst o K Z = K l := pl_lst h
theorem w7 {o : Option AV} {b : Bool} {K : List AV → Ans} {Z : Bool → Ans} (h : o = some (.zsl b) := by first | with_reducible rfl | exact at0 _ _ | exact at1 _ _ _ | exact at2 _ _ _ _ | exact at3 _ _ _ _ _ | exact at4 _ _ _ _ _ _ | exact at5 _ _ _ _ _ _ _ | exact at6 _ _ _ _ _ _ _ _ | exact at7 _ _ _ _ _ _ _ _ _ | exact at8 _ _ _ _ _ _ _ _ _ _ | exact at9 _ _ _ _ _ _ _ _ _ _ _ | exact at10 _ _ _ _ _ _ _ _ _ _ _ _ | exact gen_at (by with_unfolding_all rfl)) : C0.lst o K Z = Z b := pl_zsl h
theorem w8 {n : Nat} {o : Option AV} {l : List AV} {K : List AV → Ans} (h : o = some (.agg l) := by first | with_reducible rfl | exact at0 _ _ | exact at1 _ _ _ | exact at2 _ _ _ _ | exact at3 _ _ _ _ _ | exact at4 _ _ _ _ _ _ | exact at5 _ _ _ _ _ _ _ | exact at6 _ _ _ _ _ _ _ _ | exact at7 _ _ _ _ _ _ _ _ _ | exact at8 _ _ _ _ _ _ _ _ _ _ | exact at9 _ _ _ _ _ _ _ _ _ _ _ | exact at10 _ _ _ _ _ _ _ _ _ _ _ _ | exact gen_at (by with_unfolding_all rfl)) (h2 : l.length = n := by with_unfolding_all rfl) : C0.agg n o K = K l := pl_agg h h2
theorem w9 {n : Nat} {o : Option AV} {l : List AV} {K : List AV → Ans} (h : o = some (.tup l) := by first | with_reducible rfl | exact at0 _ _ | exact at1 _ _ _ | exact at2 _ _ _ _ | exact at3 _ _ _ _ _ | exact at4 _ _ _ _ _ _ | exact at5 _ _ _ _ _ _ _ | exact at6 _ _ _ _ _ _ _ _ | exact at7 _ _ _ _ _ _ _ _ _ | exact at8 _ _ _ _ _ _ _ _ _ _ | exact at9 _ _ _ _ _ _ _ _ _ _ _ | exact at10 _ _ _ _ _ _ _ _ _ _ _ _ | exact gen_at (by with_unfolding_all rfl)) (h2 : l.length = n := by with_unfolding_all rfl) : C0.tup n o K = K l := pl_tup h h2
theorem wf {Z X : Heap} {k i n : Nat} {b : Blk} {cs : List AV} {K : AV → Heap → Ans} (h : Z[k]? = some (some b) := by with_unfolding_all rfl) (hi : b.els[i]? = some (.agg cs) := by with_unfolding_all rfl) (hn : cs.length = n := by with_unfolding_all rfl) :
    C0.hop (Z ++ X) (.load true n (.v (.ptr k i 0))) K = K (.agg cs) (Z ++ X) := ld_zw h hi hn
theorem wg {Z G S : Heap} {z k i n : Nat} {b : Blk} {cs : List AV} {K : AV → Heap → Ans} (hz : Z.length = z := by with_unfolding_all rfl) (h : S[k]? = some (some b) := by with_unfolding_all rfl) (hi : b.els[i]? = some (.agg cs) := by with_unfolding_all rfl) (hn : cs.length = n := by with_unfolding_all rfl) :
    C0.hop (Z ++ (G ++ S)) (.load true n (.v (.ptr (z + (G.length + k)) i 0))) K = K (.agg cs) (Z ++ (G ++ S)) := ld_ow hz h hi hn
theorem wh {Z X : Heap} {k i j n : Nat} {ag : Bool} {b : Blk} {el v : AV} {K : AV → Heap → Ans} (h : Z[k]? = some (some b) := by with_unfolding_all rfl) (hi : b.els[i]? = some el := by with_unfolding_all rfl) (hs : sub ag n j el = some v := by with_unfolding_all rfl) :
    C0.hop (Z ++ X) (.load ag n (.v (.ptr k i j))) K = K v (Z ++ X) := ld_z h hi hs
theorem wi {Z G S : Heap} {z k i j n : Nat} {ag : Bool} {b : Blk} {el v : AV} {K : AV → Heap → Ans} (hz : Z.length = z := by with_unfolding_all rfl) (h : S[k]? = some (some b) := by with_unfolding_all rfl) (hi : b.els[i]? = some el := by with_unfolding_all rfl) (hs : sub ag n j el = some v := by with_unfolding_all rfl) :
    C0.hop (Z ++ (G ++ S)) (.load ag n (.v (.ptr (z + (G.length + k)) i j))) K = K v (Z ++ (G ++ S)) := ld_o hz h hi hs
theorem wj {Z X : Heap} {k i j n : Nat} {b : Blk} {el el' x : AV} {K : AV → Heap → Ans} (h : Z[k]? = some (some b) := by with_unfolding_all rfl) (hi : b.els[i]? = some el := by with_unfolding_all rfl) (hs : putSub n j x el = some el' := by with_unfolding_all rfl) :
    C0.hop (Z ++ X) (.store n (.v (.ptr k i j)) (.v x)) K = K .undef (Z.set k (some { b with els := b.els.set i el' }) ++ X) := st_z h hi hs
theorem wk {Z G S : Heap} {z k i j n : Nat} {b : Blk} {el el' x : AV} {K : AV → Heap → Ans} (hz : Z.length = z := by with_unfolding_all rfl) (h : S[k]? = some (some b) := by with_unfolding_all rfl) (hi : b.els[i]? = some el := by with_unfolding_all rfl) (hs : putSub n j x el = some el' := by with_unfolding_all rfl) :
    C0.hop (Z ++ (G ++ S)) (.store n (.v (.ptr (z + (G.length + k)) i j)) (.v x)) K = K .undef (Z ++ (G ++ S.set k (some { b with els := b.els.set i el' }))) := st_o hz h hi hs
theorem wl {Z G S : Heap} {z s : Nat} {e : ETy} {K : AV → Heap → Ans} (hz : Z.length = z := by with_unfolding_all rfl) (hs : S.length = s := by with_unfolding_all rfl) : C0.hop (Z ++ (G ++ S)) (.alloc e) K = K (.ptr (z + (G.length + s)) 0 0) (Z ++ (G ++ (S ++ [some ⟨e, [e.zero]⟩]))) := al_o hz hs
theorem wm {Z G S : Heap} {z s : Nat} {e : ETy} {x : AV} {K : AV → Heap → Ans} (hz : Z.length = z := by with_unfolding_all rfl) (hs : S.length = s := by with_unfolding_all rfl) (h : elOk e x = true := by with_unfolding_all rfl) : C0.hop (Z ++ (G ++ S)) (.box e (.v x)) K = K (.ptr (z + (G.length + s)) 0 0) (Z ++ (G ++ (S ++ [some ⟨e, [x]⟩]))) := bx_o hz hs h
theorem wn {H : Heap} {x v : AV} {j n : Nat} {ag : Bool} {K : AV → Heap → Ans} (hs : sub ag n j x = some v := by with_unfolding_all rfl) : C0.hop H (.load ag n (.v (.fptr x j))) K = K v H := ld_fptr hs
theorem wo {H : Heap} {args : List AV} {K : List AV → Bool → Ans} (h : args.all (noId DEPTH) = true := by with_unfolding_all rfl) : C0.snp H args K = K args true := snp_free h
theorem wx {H : Heap} {len es id i j : Nat} {q : Int} {K : AV → Heap → Ans} (h : (decide (0 ≤ q) && decide (q < (len : Int))) = true := by with_unfolding_all rfl) : C0.hop H (.ixAA len es (.v (.ptr id i j)) (.v (.int .i64 q))) K = K (.ptr id i (j + q.toNat * es)) H := by
  have h' : 0 ≤ q ∧ q < (len : Int) := by simpa using h
  exact hop_eq (by simp only [aop, evO, aInt, aShift]; rw [if_pos h'])
end Go.Proofs.Ytoceckjagfhfmaa.AE

namespace Go.Proofs.Ytoceckjagfhfmaa.AE
set_option linter.unusedVariables false
set_option linter.unusedSimpArgs false
set_option linter.constructorNameAsVariable false
open Go
theorem i64w (n : Int) : IntKind.i64.wrap n = (n + 9223372036854775808) % 18446744073709551616 - 9223372036854775808 := IntKind.wrap_i64 n
theorem u64w (n : Int) : IntKind.u64.wrap n = n % 18446744073709551616 := by simp [IntKind.wrap, IntKind.bits, IntKind.signed]
theorem u64_small {n : Int} (h : 0 ≤ n) (h' : n < 18446744073709551616) : IntKind.u64.wrap n = n := by rw [u64w]; omega
theorem i64_small {n : Int} (h : -9223372036854775808 ≤ n) (h' : n < 9223372036854775808) : IntKind.i64.wrap n = n := by rw [i64w]; omega
def low (v : Int) : Int := v % 18446744073709551616
end Go.Proofs.Ytoceckjagfhfmaa.AE

namespace Go.Proofs.Ytoceckjagfhfmaa.Geo
set_option linter.unusedVariables false
/-- A step of the sum of 32 bits. -/
def st (x : BitVec 32) : BitVec 32 := (x >>> 1) ^^^ (bif x.getLsbD 0 then 0xedb88320#32 else 0#32)
theorem xlc (x y z : BitVec 32) : x ^^^ (y ^^^ z) = y ^^^ (x ^^^ z) := by rw [← BitVec.xor_assoc, BitVec.xor_comm x y, BitVec.xor_assoc]
theorem st_xor (x y : BitVec 32) : st (x ^^^ y) = st x ^^^ st y := by
  unfold st
  rw [BitVec.ushiftRight_xor_distrib, BitVec.getLsbD_xor]
  cases x.getLsbD 0 <;> cases y.getLsbD 0 <;> simp [BitVec.xor_assoc, BitVec.xor_comm, xlc]
theorem st_zero : st 0#32 = 0#32 := by decide
theorem st_inj {x : BitVec 32} (h : st x = 0#32) : x = 0#32 := by
  unfold st at h
  cases hb : x.getLsbD 0
  · rw [hb, cond_false, BitVec.xor_zero] at h
    apply BitVec.eq_of_getLsbD_eq
    intro i hi
    match i with
    | 0 => rw [hb]; rfl
    | i + 1 =>
      have := congrArg (fun v => v.getLsbD i) h
      simp only [BitVec.getLsbD_ushiftRight] at this
      rw [show i + 1 = 1 + i by omega, this]; simp
  · rw [hb, cond_true] at h
    have := congrArg (fun v => v.getLsbD 31) h
    simp only [BitVec.getLsbD_xor, BitVec.getLsbD_ushiftRight] at this
    rw [BitVec.getLsbD_of_ge x (1 + 31) (by omega)] at this
    exact absurd this (by decide)
def stN : Nat → BitVec 32 → BitVec 32
  | 0, x => x
  | n + 1, x => stN n (st x)
theorem stN_xor : ∀ (n : Nat) (x y : BitVec 32), stN n (x ^^^ y) = stN n x ^^^ stN n y
  | 0, x, y => rfl
  | n + 1, x, y => by simp only [stN, st_xor, stN_xor n]
theorem stN_succ : ∀ (n : Nat) (x : BitVec 32), stN (n + 1) x = st (stN n x)
  | 0, x => rfl
  | n + 1, x => by rw [stN, stN_succ n (st x)]; rfl
theorem stN_inj : ∀ (n : Nat) {x : BitVec 32}, stN n x = 0#32 → x = 0#32
  | 0, x, h => h
  | n + 1, x, h => st_inj (stN_inj n h)
theorem stN_zero : ∀ n : Nat, stN n 0#32 = 0#32
  | 0 => rfl
  | n + 1 => by rw [stN, st_zero, stN_zero n]
def bt (e : Bool) : BitVec 32 := bif e then 1#32 else 0#32
theorem bt_xor (e f : Bool) : bt (xor e f) = bt e ^^^ bt f := by cases e <;> cases f <;> decide
/-- A bit is fed. -/
def bf (x : BitVec 32) (e : Bool) : BitVec 32 := st (x ^^^ bt e)
/-- Bits as a word, the first one lowest. -/
def word : List Bool → BitVec 32
  | [] => 0#32
  | e :: l => bt e ^^^ (word l <<< 1)
theorem up1 : ∀ k : Fin 32, stN k.val (1#32 <<< k.val) = 1#32 := by decide
theorem up (k : Nat) (h : k < 32) (e : Bool) : stN k (bt e <<< k) = bt e := by
  cases e
  · rw [show bt false = 0#32 from rfl, BitVec.zero_shiftLeft]; exact stN_zero k
  · exact up1 ⟨k, h⟩
theorem word_snoc : ∀ (l : List Bool) (e : Bool), word (l ++ [e]) = word l ^^^ (bt e <<< l.length)
  | [], e => by simp [word]
  | f :: l, e => by
    rw [List.cons_append, word, word_snoc l e, BitVec.shiftLeft_xor_distrib, word, List.length_cons, ← BitVec.shiftLeft_add, BitVec.xor_assoc]
/-- So many bits at once. -/
theorem feed (x : BitVec 32) : ∀ (n : Nat) (l : List Bool), l.length = n → n ≤ 32 → l.foldl bf x = stN n (x ^^^ word l)
  | 0, l, hl, _ => by
    have : l = [] := List.eq_nil_of_length_eq_zero hl
    subst this; simp [word, stN]
  | n + 1, l, hl, h => by
    obtain ⟨l', e, rfl⟩ : ∃ l' e, l = l' ++ [e] := ⟨l.dropLast, l.getLast (by intro c; rw [c] at hl; simp at hl), (List.dropLast_concat_getLast _).symm⟩
    have hl' : l'.length = n := by simpa using hl
    rw [List.foldl_append, List.foldl_cons, List.foldl_nil, feed x n l' hl' (by omega), word_snoc, ← BitVec.xor_assoc, stN_succ, stN_xor n _ (bt e <<< _), hl', up n (by omega)]
    rfl
theorem feed_xor : ∀ (l m : List Bool) (x y : BitVec 32), l.length = m.length → l.foldl bf x ^^^ m.foldl bf y = (List.zipWith xor l m).foldl bf (x ^^^ y)
  | [], [], x, y, _ => rfl
  | e :: l, f :: m, x, y, h => by
    simp only [List.foldl_cons, List.zipWith_cons_cons]
    rw [feed_xor l m _ _ (by simpa using h)]
    congr 1
    unfold bf
    rw [← st_xor, bt_xor]
    congr 1
    simp only [BitVec.xor_assoc]
    congr 1
    rw [← BitVec.xor_assoc, BitVec.xor_comm (bt e) y, BitVec.xor_assoc]
theorem feed_none : ∀ (n : Nat) (x : BitVec 32), (List.replicate n false).foldl bf x = stN n x
  | 0, x => rfl
  | n + 1, x => by
    rw [List.replicate_succ, List.foldl_cons, feed_none n]
    show stN n (st (x ^^^ 0#32)) = stN n (st x)
    rw [BitVec.xor_zero]
theorem word_bit : ∀ (l : List Bool) (i : Nat), i < 32 → (word l).getLsbD i = l.getD i false
  | [], i, _ => by simp [word]
  | e :: l, 0, _ => by cases e <;> simp [word, bt]
  | e :: l, i + 1, h => by
    rw [word, BitVec.getLsbD_xor, BitVec.getLsbD_shiftLeft]
    have : (bt e).getLsbD (i + 1) = false := by cases e <;> simp [bt]
    rw [this, Bool.false_xor]
    simp [h, word_bit l i (by omega)]
theorem word_ne {l : List Bool} (hl : l.length ≤ 32) (h : true ∈ l) : word l ≠ 0#32 := by
  intro c
  obtain ⟨i, hi, he⟩ := List.mem_iff_getElem.mp h
  have := word_bit l i (by omega)
  rw [c, List.getD_eq_getElem?_getD, List.getElem?_eq_getElem hi, he] at this
  simp at this
/-- Bits that differ in a window of 32 have another sum. -/
theorem burst {l m w : List Bool} {a r : Nat} (x : BitVec 32) (hlm : l.length = m.length) (hw : List.zipWith xor l m = List.replicate a false ++ w ++ List.replicate r false) (h32 : w.length ≤ 32) (ht : true ∈ w) : l.foldl bf x ≠ m.foldl bf x := by
  intro c
  have k := feed_xor l m x x hlm
  rw [c, BitVec.xor_self, BitVec.xor_self, hw, List.foldl_append, List.foldl_append, feed_none r, feed_none a, stN_zero, feed _ w.length w rfl h32, BitVec.zero_xor] at k
  exact word_ne h32 ht (stN_inj _ (stN_inj _ k.symm))
def b32 (b : UInt8) : BitVec 32 := b.toBitVec.setWidth 32
def bitsOf (b : UInt8) : List Bool := (List.range 8).map fun i => b.toBitVec.getLsbD i
theorem bitsOf_len (b : UInt8) : (bitsOf b).length = 8 := by simp [bitsOf]
theorem word_byte (b : UInt8) : word (bitsOf b) = b32 b := by
  apply BitVec.eq_of_getLsbD_eq
  intro i hi
  rw [word_bit _ i hi]
  unfold bitsOf b32
  rw [BitVec.getLsbD_setWidth, List.getD_eq_getElem?_getD, List.getElem?_map]
  by_cases h : i < 8
  · rw [List.getElem?_range h]; simp [hi]
  · rw [List.getElem?_eq_none (by simp; omega), BitVec.getLsbD_of_ge _ _ (by omega)]; simp
def byteF (x : BitVec 32) (b : UInt8) : BitVec 32 := stN 8 (x ^^^ b32 b)
def crcF (s : List UInt8) : BitVec 32 := s.foldl byteF 0xffffffff#32 ^^^ 0xffffffff#32
theorem byte_bits (x : BitVec 32) (b : UInt8) : byteF x b = (bitsOf b).foldl bf x := by
  rw [feed x 8 _ (bitsOf_len b) (by decide), word_byte]; rfl
theorem bytes_bits : ∀ (s : List UInt8) (x : BitVec 32), s.foldl byteF x = (s.flatMap bitsOf).foldl bf x
  | [], x => rfl
  | b :: s, x => by rw [List.foldl_cons, bytes_bits s, List.flatMap_cons, List.foldl_append, byte_bits]
/-- Texts of one length whose bits differ in a window of 32 have unlike sums. -/
theorem crc_burst {s t : List UInt8} {w : List Bool} {a r : Nat} (hl : s.length = t.length) (hw : List.zipWith xor (s.flatMap bitsOf) (t.flatMap bitsOf) = List.replicate a false ++ w ++ List.replicate r false) (h32 : w.length ≤ 32) (ht : true ∈ w) : crcF s ≠ crcF t := by
  have len : ∀ s : List UInt8, (s.flatMap bitsOf).length = 8 * s.length := by
    intro s
    induction s with
    | nil => rfl
    | cons b s ih => rw [List.flatMap_cons, List.length_append, bitsOf_len, ih, List.length_cons]; omega
  intro c
  unfold crcF at c
  have c' : s.foldl byteF 0xffffffff#32 = t.foldl byteF 0xffffffff#32 := by
    have := congrArg (fun v => v ^^^ 0xffffffff#32) c
    simpa [BitVec.xor_assoc] using this
  rw [bytes_bits, bytes_bits] at c'
  exact burst _ (by rw [len, len, hl]) hw h32 ht c'
end Go.Proofs.Ytoceckjagfhfmaa.Geo

namespace Go.Proofs.Ytoceckjagfhfmaa.AE
set_option linter.unusedVariables false
open Go Go.Proofs.Ytoceckjagfhfmaa.Geo
theorem ofInt32 (x : BitVec 32) : BitVec.ofInt 32 (x.toNat : Int) = x := by
  apply BitVec.eq_of_toNat_eq
  rw [BitVec.toNat_ofInt]
  have := x.isLt
  omega
theorem u32w (n : Int) : IntKind.u32.wrap n = n % 4294967296 := by simp [IntKind.wrap, IntKind.bits, IntKind.signed]
theorem u32_xor (x y : BitVec 32) : Go.bits .xor .u32 (x.toNat : Int) (y.toNat : Int) = ((x ^^^ y).toNat : Int) := by
  show IntKind.u32.wrap ((BitVec.ofInt 32 (x.toNat : Int) ^^^ BitVec.ofInt 32 (y.toNat : Int)).toNat : Int) = _
  rw [ofInt32, ofInt32, u32w]; have := (x ^^^ y).isLt; omega
theorem u32_and (x y : BitVec 32) : Go.bits .and .u32 (x.toNat : Int) (y.toNat : Int) = ((x &&& y).toNat : Int) := by
  show IntKind.u32.wrap ((BitVec.ofInt 32 (x.toNat : Int) &&& BitVec.ofInt 32 (y.toNat : Int)).toNat : Int) = _
  rw [ofInt32, ofInt32, u32w]; have := (x &&& y).isLt; omega
theorem shr1 (x : BitVec 32) : ((x >>> 1).toNat : Int) = (x.toNat : Int) / 2 := by
  rw [BitVec.toNat_ushiftRight, Nat.shiftRight_eq_div_pow]; omega
theorem lsb (x : BitVec 32) : x.getLsbD 0 = decide (x.toNat % 2 = 1) := by
  rw [BitVec.getLsbD, Nat.testBit_zero]
theorem byte_nat (b : UInt8) : ((b32 b).toNat : Int) = (b.toNat : Int) := by
  unfold b32
  rw [BitVec.toNat_setWidth]
  have := b.toNat_lt
  rw [Nat.mod_eq_of_lt (by have : b.toBitVec.toNat = b.toNat := rfl; omega)]; rfl
end Go.Proofs.Ytoceckjagfhfmaa.AE

namespace Go.Proofs.Ytoceckjagfhfmaa.AE
set_option linter.unusedVariables false
set_option linter.unusedSimpArgs false
set_option linter.constructorNameAsVariable false
open Go
set_option maxRecDepth 100000
def r38R0 (C : Cb) (d : Nat) (a0 : List UInt8) (v0 : AV) (x4 : Int) : St → (Ex → St → Ans) → Ans := fun s5 k6 =>
 cnd ((List.length s5.env) == 21)
 (C.same s5.env[0]? (.str a0) <|
 C.same s5.env[1]? tz <|
 C.same s5.env[2]? (.int .u32 0) <|
 C.int .u32 s5.env[3]? fun x8 =>
 C.same s5.env[4]? tz <|
 C.any s5.env[5]? fun v9 =>
 C.same s5.env[6]? (.str a0) <|
 C.same s5.env[7]? v0 <|
 C.same s5.env[8]? (iz x4) <|
 C.int .i64 s5.env[9]? fun x10 =>
 C.any s5.env[10]? fun v11 =>
 C.any s5.env[11]? fun v12 =>
 C.any s5.env[12]? fun v13 =>
 C.any s5.env[13]? fun v14 =>
 C.any s5.env[14]? fun v15 =>
 C.any s5.env[15]? fun v16 =>
 C.any s5.env[16]? fun v17 =>
 C.any s5.env[17]? fun v18 =>
 C.any s5.env[18]? fun v19 =>
 C.same s5.env[19]? tz <|
 C.same s5.env[20]? tz <|
 cnd (decide (x10 < x4))
 (C.hop (St.H s5) (.ixAS .any 1 (.v v0) (.v (iz x10))) fun v20 h21 =>
 C.hop h21 (.load false 1 (.v v20)) fun v22 h23 =>
 C.int .u8 (some v22) fun x24 =>
 C.int .u32 (pcall M d 40 [(.int .u32 (bits .xor .u32 x8 (IntKind.wrap .u32 x24)))]) fun x25 =>
 k6 .normal ⟨[(.str a0), tz, (.int .u32 0), (.int .u32 x25), tz, (.int .u8 x24), (.str a0), v0, (iz x4), (iz (IntKind.wrap .i64 (x10 + 1))), bt, v20, (.int .u8 x24), (.int .u32 x8), (.int .u8 x24), (.int .u32 (IntKind.wrap .u32 x24)), (.int .u32 (bits .xor .u32 x8 (IntKind.wrap .u32 x24))), (.int .u32 x25), (iz (IntKind.wrap .i64 (x10 + 1))), tz, tz], h23⟩)
 (k6 (.exit 0) ⟨[(.str a0), tz, (.int .u32 0), (.int .u32 x8), tz, v9, (.str a0), v0, (iz x4), (iz x10), bf, v12, v13, v14, v15, v16, v17, v18, v19, tz, tz], (St.H s5)⟩))
 (none)
def r38X0_0 (C : Cb) (d : Nat) (a0 : List UInt8) (v0 : AV) (x4 : Int) : St → Ans := fun s26 =>
 cnd ((List.length s26.env) == 21)
 (C.same s26.env[0]? (.str a0) <|
 C.same s26.env[1]? tz <|
 C.same s26.env[2]? (.int .u32 0) <|
 C.int .u32 s26.env[3]? fun x27 =>
 C.same s26.env[4]? tz <|
 C.any s26.env[5]? fun v28 =>
 C.same s26.env[6]? (.str a0) <|
 C.same s26.env[7]? v0 <|
 C.same s26.env[8]? (iz x4) <|
 C.int .i64 s26.env[9]? fun x29 =>
 C.any s26.env[10]? fun v30 =>
 C.any s26.env[11]? fun v31 =>
 C.any s26.env[12]? fun v32 =>
 C.any s26.env[13]? fun v33 =>
 C.any s26.env[14]? fun v34 =>
 C.any s26.env[15]? fun v35 =>
 C.any s26.env[16]? fun v36 =>
 C.any s26.env[17]? fun v37 =>
 C.any s26.env[18]? fun v38 =>
 C.same s26.env[19]? tz <|
 C.same s26.env[20]? tz <|
 C.fin (St.H s26) (.int .u32 (bits .xor .u32 x27 4294967295)))
 (none)
def r38E0 (C : Cb) (d : Nat) (a0 : List UInt8) (v0 : AV) (x4 : Int) : St → Ans := fun s7 =>
 cnd ((List.length s7.env) == 21)
 (C.same s7.env[0]? (.str a0) <|
 C.same s7.env[1]? tz <|
 C.same s7.env[2]? (.int .u32 0) <|
 C.int .u32 s7.env[3]? fun x39 =>
 C.same s7.env[4]? tz <|
 C.any s7.env[5]? fun v40 =>
 C.same s7.env[6]? (.str a0) <|
 C.same s7.env[7]? v0 <|
 C.same s7.env[8]? (iz x4) <|
 C.int .i64 s7.env[9]? fun x41 =>
 C.any s7.env[10]? fun v42 =>
 C.any s7.env[11]? fun v43 =>
 C.any s7.env[12]? fun v44 =>
 C.any s7.env[13]? fun v45 =>
 C.any s7.env[14]? fun v46 =>
 C.any s7.env[15]? fun v47 =>
 C.any s7.env[16]? fun v48 =>
 C.any s7.env[17]? fun v49 =>
 C.any s7.env[18]? fun v50 =>
 C.same s7.env[19]? tz <|
 C.same s7.env[20]? tz <|
 C.fin (St.H s7) (.int .u32 0))
 (none)
/-- apogee/crc.Sum32 -/
theorem r38 (C : Cb) (d : Nat) (a0 : List UInt8) : xcall C M unr d 38 [(.str a0)] =
 C.hop [] (.s2b E5 (.v (.str a0))) fun v0 h1 =>
 C.hop h1 (.bk .lenV [(.v v0)]) fun v2 h3 =>
 C.int .i64 (some v2) fun x4 =>
 C.iter (r38R0 C d a0 v0 x4) 1000000000000000000 ⟨[(.str a0), tz, (.int .u32 0), (.int .u32 4294967295), tz, tz, (.str a0), v0, (iz x4), (iz 0), tz, tz, tz, tz, tz, tz, tz, tz, tz, tz, tz], h3⟩ [0] [r38X0_0 C d a0 v0 x4] (r38E0 C d a0 v0 x4) := by kernel_rfl
def r40R0 (C : Cb) (d : Nat) : St → (Ex → St → Ans) → Ans := fun s0 k1 =>
 cnd ((List.length s0.env) == 16)
 (C.int .u32 s0.env[0]? fun x3 =>
 C.same s0.env[1]? tz <|
 C.same s0.env[2]? (.int .u32 0) <|
 C.any s0.env[3]? fun v4 =>
 C.int .i64 s0.env[4]? fun x5 =>
 C.any s0.env[5]? fun v6 =>
 C.any s0.env[6]? fun v7 =>
 C.any s0.env[7]? fun v8 =>
 C.any s0.env[8]? fun v9 =>
 C.any s0.env[9]? fun v10 =>
 C.any s0.env[10]? fun v11 =>
 C.any s0.env[11]? fun v12 =>
 C.any s0.env[12]? fun v13 =>
 C.any s0.env[13]? fun v14 =>
 C.any s0.env[14]? fun v15 =>
 C.same s0.env[15]? tz <|
 C.sameH (St.H s0) [] <|
 cnd (decide (x5 < 8))
 (cnd ((bits .and .u32 x3 1) != 0)
 (k1 .normal ⟨[(.int .u32 (bits .xor .u32 (Int.fdiv x3 (2 ^ (min (Int.toNat 1) 32))) 3988292384)), tz, (.int .u32 0), (.bool ((bits .and .u32 x3 1) != 0)), (iz (IntKind.wrap .i64 (x5 + 1))), bt, (.int .u32 x3), (.int .u32 (bits .and .u32 x3 1)), (.bool ((bits .and .u32 x3 1) != 0)), (.int .u32 x3), (.int .u32 (Int.fdiv x3 (2 ^ (min (Int.toNat 1) 32)))), bt, (.int .u32 (Int.fdiv x3 (2 ^ (min (Int.toNat 1) 32)))), (.int .u32 (bits .xor .u32 (Int.fdiv x3 (2 ^ (min (Int.toNat 1) 32))) 3988292384)), (iz (IntKind.wrap .i64 (x5 + 1))), tz], []⟩)
 (k1 .normal ⟨[(.int .u32 (Int.fdiv x3 (2 ^ (min (Int.toNat 1) 32)))), tz, (.int .u32 0), (.bool ((bits .and .u32 x3 1) != 0)), (iz (IntKind.wrap .i64 (x5 + 1))), bt, (.int .u32 x3), (.int .u32 (bits .and .u32 x3 1)), (.bool ((bits .and .u32 x3 1) != 0)), (.int .u32 x3), (.int .u32 (Int.fdiv x3 (2 ^ (min (Int.toNat 1) 32)))), bf, v13, v14, (iz (IntKind.wrap .i64 (x5 + 1))), tz], []⟩))
 (k1 (.exit 0) ⟨[(.int .u32 x3), tz, (.int .u32 0), v4, (iz x5), bf, v7, v8, v9, v10, v11, v12, v13, v14, v15, tz], []⟩))
 (none)
def r40X0_0 (C : Cb) (d : Nat) : St → Ans := fun s16 =>
 cnd ((List.length s16.env) == 16)
 (C.int .u32 s16.env[0]? fun x17 =>
 C.same s16.env[1]? tz <|
 C.same s16.env[2]? (.int .u32 0) <|
 C.any s16.env[3]? fun v18 =>
 C.int .i64 s16.env[4]? fun x19 =>
 C.bool s16.env[5]? fun b20 =>
 C.any s16.env[6]? fun v21 =>
 C.any s16.env[7]? fun v22 =>
 C.any s16.env[8]? fun v23 =>
 C.any s16.env[9]? fun v24 =>
 C.any s16.env[10]? fun v25 =>
 C.any s16.env[11]? fun v26 =>
 C.any s16.env[12]? fun v27 =>
 C.any s16.env[13]? fun v28 =>
 C.any s16.env[14]? fun v29 =>
 C.same s16.env[15]? tz <|
 C.sameH (St.H s16) [] <|
 some (.int .u32 x17))
 (none)
def r40E0 (C : Cb) (d : Nat) : St → Ans := fun s2 =>
 cnd ((List.length s2.env) == 16)
 (C.int .u32 s2.env[0]? fun x30 =>
 C.same s2.env[1]? tz <|
 C.same s2.env[2]? (.int .u32 0) <|
 C.any s2.env[3]? fun v31 =>
 C.int .i64 s2.env[4]? fun x32 =>
 C.any s2.env[5]? fun v33 =>
 C.any s2.env[6]? fun v34 =>
 C.any s2.env[7]? fun v35 =>
 C.any s2.env[8]? fun v36 =>
 C.any s2.env[9]? fun v37 =>
 C.any s2.env[10]? fun v38 =>
 C.any s2.env[11]? fun v39 =>
 C.any s2.env[12]? fun v40 =>
 C.any s2.env[13]? fun v41 =>
 C.any s2.env[14]? fun v42 =>
 C.same s2.env[15]? tz <|
 C.sameH (St.H s2) [] <|
 some (.int .u32 0))
 (none)
/-- apogee/crc.step32 -/
theorem r40 (C : Cb) (d : Nat) (a0 : Int) : xcall C M unr d 40 [(.int .u32 a0)] =
 C.iter (r40R0 C d) 1000000000000000000 ⟨[(.int .u32 a0), tz, (.int .u32 0), tz, (iz 0), tz, tz, tz, tz, tz, tz, tz, tz, tz, tz, tz], []⟩ [0] [r40X0_0 C d] (r40E0 C d) := by kernel_rfl
end Go.Proofs.Ytoceckjagfhfmaa.AE

namespace Go.Proofs.Ytoceckjagfhfmaa.AE
set_option linter.unusedVariables false
set_option linter.unusedSimpArgs false
set_option linter.constructorNameAsVariable false
open Go
set_option maxRecDepth 100000
set_option maxHeartbeats 0
noncomputable def X38_0_0 (d : Nat) (v0 : AV) (x4 x27 : Int) (H : Heap) : Ans :=
  C0.fin H (.int .u32 (bits .xor .u32 x27 4294967295))
theorem X38_0_0_ok (d : Nat) (a0 : List UInt8) (v0 : AV) (x4 x27 : Int) (v28 : AV) (x29 : Int) (v30 v31 v32 v33 v34 v35 v36 v37 v38 : AV) (H : Heap) : r38X0_0 C0 d a0 v0 x4 ⟨[(.str a0), tz, (.int .u32 0), (.int .u32 x27), tz, v28, (.str a0), v0, (iz x4), (iz x29), v30, v31, v32, v33, v34, v35, v36, v37, v38, tz, tz], H⟩ = X38_0_0 d v0 x4 x27 H := by
  unfold r38X0_0; refine Eq.trans (pl_len (by rfl)) ?_; (iterate 3 (refine yt yS ?_)); refine yt yI ?_; refine yt yS ?_; refine yt yA ?_; (iterate 3 (refine yt yS ?_)); refine yt yI ?_; (iterate 9 (refine yt yA ?_)); (iterate 2 (refine yt yS ?_))
  rfl
noncomputable def E38_0 (d : Nat) (v0 : AV) (x4 : Int) (H : Heap) : Ans :=
  C0.fin H (.int .u32 0)
theorem E38_0_ok (d : Nat) (a0 : List UInt8) (v0 : AV) (x4 x39 : Int) (v40 : AV) (x41 : Int) (v42 v43 v44 v45 v46 v47 v48 v49 v50 : AV) (H : Heap) : r38E0 C0 d a0 v0 x4 ⟨[(.str a0), tz, (.int .u32 0), (.int .u32 x39), tz, v40, (.str a0), v0, (iz x4), (iz x41), v42, v43, v44, v45, v46, v47, v48, v49, v50, tz, tz], H⟩ = E38_0 d v0 x4 H := by
  unfold r38E0; refine Eq.trans (pl_len (by rfl)) ?_; (iterate 3 (refine yt yS ?_)); refine yt yI ?_; refine yt yS ?_; refine yt yA ?_; (iterate 3 (refine yt yS ?_)); refine yt yI ?_; (iterate 9 (refine yt yA ?_)); (iterate 2 (refine yt yS ?_))
  rfl
noncomputable def L38_0 (d : Nat) (v0 : AV) (x4 : Int) : Nat → Int → Int → Heap → Ans
  | 0, _, _, _ => none
  | n + 1, x8, x10, H =>
  cnd (decide (x10 < x4))
   (C0.hop H (.ixAS .any 1 (.v v0) (.v (iz x10))) fun v20 h21 =>
   C0.hop h21 (.load false 1 (.v v20)) fun v22 h23 =>
   C0.int .u8 (some v22) fun x24 =>
   C0.int .u32 (pcall M d 40 [(.int .u32 (bits .xor .u32 x8 (IntKind.wrap .u32 x24)))]) fun x25 =>
   L38_0 d v0 x4 n x25 (IntKind.wrap .i64 (x10 + 1)) h23)
   (X38_0_0 d v0 x4 x8 H)
theorem it38_0 (d : Nat) (a0 : List UInt8) (v0 : AV) (x4 : Int)   : ∀ (n : Nat) (x8 : Int) (v9 : AV) (x10 : Int) (v11 v12 v13 v14 v15 v16 v17 v18 v19 : AV) (H : Heap), C0.iter (r38R0 C0 d a0 v0 x4) n ⟨[(.str a0), tz, (.int .u32 0), (.int .u32 x8), tz, v9, (.str a0), v0, (iz x4), (iz x10), v11, v12, v13, v14, v15, v16, v17, v18, v19, tz, tz], H⟩ [0] [r38X0_0 C0 d a0 v0 x4] (r38E0 C0 d a0 v0 x4) = L38_0 d v0 x4 n x8 x10 H := by
  generalize hR : r38R0 C0 d a0 v0 x4 = R
  intro n
  induction n with
  | zero => intros; rfl
  | succ n ih =>
    intro x8 v9 x10 v11 v12 v13 v14 v15 v16 v17 v18 v19 H
    simp only [it_ret] at ih
    rw [it_ret, xiter_s]
    refine Eq.trans (congrFun (congrFun hR.symm _) _) ?_
    unfold r38R0
    refine Eq.trans (pl_len (by rfl)) ?_; (iterate 3 (refine yt yS ?_)); refine yt yI ?_; refine yt yS ?_; refine yt yA ?_; (iterate 3 (refine yt yS ?_)); refine yt yI ?_; (iterate 9 (refine yt yA ?_)); (iterate 2 (refine yt yS ?_))
    simp only [L38_0, kIter_n, kIter_x, kIter_r, kOut_x, kOut_r, xgo_hit, xgo_miss, ih, X38_0_0_ok d a0 v0 x4  , E38_0_ok d a0 v0 x4  ]
/-- apogee/crc.Sum32 -/
theorem q38 (d : Nat) (a0 : List UInt8) : xcall C0 M unr d 38 [(.str a0)] =
  C0.hop [] (.s2b E5 (.v (.str a0))) fun v0 h1 =>
  C0.hop h1 (.bk .lenV [(.v v0)]) fun v2 h3 =>
  C0.int .i64 (some v2) fun x4 =>
  L38_0 d v0 x4 1000000000000000000 4294967295 0 h3 := (r38 C0 d a0).trans (by simp only [it38_0])
noncomputable def X40_0_0 (d : Nat)  (x17 : Int) : Ans :=
  some (.int .u32 x17)
theorem X40_0_0_ok (d : Nat)    (x17 : Int) (v18 : AV) (x19 : Int) (b20 : Bool) (v21 v22 v23 v24 v25 v26 v27 v28 v29 : AV) : r40X0_0 C0 d  ⟨[(.int .u32 x17), tz, (.int .u32 0), v18, (iz x19), (.bool b20), v21, v22, v23, v24, v25, v26, v27, v28, v29, tz], []⟩ = X40_0_0 d  x17 := by
  unfold r40X0_0; refine Eq.trans (pl_len (by rfl)) ?_; refine yt yI ?_; (iterate 2 (refine yt yS ?_)); refine yt yA ?_; refine yt yI ?_; refine yt yB ?_; (iterate 9 (refine yt yA ?_)); refine yt yS ?_; refine Eq.trans (pl_sameH) ?_
  rfl
noncomputable def E40_0 (d : Nat)   : Ans :=
  some (.int .u32 0)
theorem E40_0_ok (d : Nat)    (x30 : Int) (v31 : AV) (x32 : Int) (v33 v34 v35 v36 v37 v38 v39 v40 v41 v42 : AV) : r40E0 C0 d  ⟨[(.int .u32 x30), tz, (.int .u32 0), v31, (iz x32), v33, v34, v35, v36, v37, v38, v39, v40, v41, v42, tz], []⟩ = E40_0 d   := by
  unfold r40E0; refine Eq.trans (pl_len (by rfl)) ?_; refine yt yI ?_; (iterate 2 (refine yt yS ?_)); refine yt yA ?_; refine yt yI ?_; (iterate 10 (refine yt yA ?_)); refine yt yS ?_; refine Eq.trans (pl_sameH) ?_
  rfl
noncomputable def L40_0 (d : Nat)  : Nat → Int → Int → Ans
  | 0, _, _ => none
  | n + 1, x3, x5 =>
  cnd (decide (x5 < 8))
   (cnd ((bits .and .u32 x3 1) != 0)
   (L40_0 d n (bits .xor .u32 (Int.fdiv x3 (2 ^ (min (Int.toNat 1) 32))) 3988292384) (IntKind.wrap .i64 (x5 + 1)))
   (L40_0 d n (Int.fdiv x3 (2 ^ (min (Int.toNat 1) 32))) (IntKind.wrap .i64 (x5 + 1))))
   (X40_0_0 d x3)
theorem it40_0 (d : Nat)    : ∀ (n : Nat) (x3 : Int) (v4 : AV) (x5 : Int) (v6 v7 v8 v9 v10 v11 v12 v13 v14 v15 : AV), C0.iter (r40R0 C0 d ) n ⟨[(.int .u32 x3), tz, (.int .u32 0), v4, (iz x5), v6, v7, v8, v9, v10, v11, v12, v13, v14, v15, tz], []⟩ [0] [r40X0_0 C0 d ] (r40E0 C0 d ) = L40_0 d  n x3 x5 := by
  generalize hR : r40R0 C0 d  = R
  intro n
  induction n with
  | zero => intros; rfl
  | succ n ih =>
    intro x3 v4 x5 v6 v7 v8 v9 v10 v11 v12 v13 v14 v15
    simp only [it_ret] at ih
    rw [it_ret, xiter_s]
    refine Eq.trans (congrFun (congrFun hR.symm _) _) ?_
    unfold r40R0
    refine Eq.trans (pl_len (by rfl)) ?_; refine yt yI ?_; (iterate 2 (refine yt yS ?_)); refine yt yA ?_; refine yt yI ?_; (iterate 10 (refine yt yA ?_)); refine yt yS ?_; refine Eq.trans (pl_sameH) ?_
    simp only [L40_0, kIter_n, kIter_x, kIter_r, kOut_x, kOut_r, xgo_hit, xgo_miss, ih, X40_0_0_ok d   , E40_0_ok d   ]
/-- apogee/crc.step32 -/
theorem q40 (d : Nat) (a0 : Int) : xcall C0 M unr d 40 [(.int .u32 a0)] =
  L40_0 d 1000000000000000000 a0 0 := (r40 C0 d a0).trans (by simp only [it40_0])
end Go.Proofs.Ytoceckjagfhfmaa.AE

namespace Go.Proofs.Ytoceckjagfhfmaa.AE
set_option linter.unusedVariables false
set_option linter.unusedSimpArgs false
set_option linter.constructorNameAsVariable false
open Go Go.Proofs.Ytoceckjagfhfmaa.Geo
attribute [local irreducible] pcall C0
set_option maxRecDepth 100000
/-- A word as a number. -/
abbrev w32 (x : BitVec 32) : Int := (x.toNat : Int)
theorem w32_and1 (x : BitVec 32) : (Go.bits .and .u32 (w32 x) 1 != 0) = x.getLsbD 0 := by
  rw [show (1 : Int) = w32 1#32 from rfl, u32_and, lsb]
  have : (x &&& 1#32).toNat = x.toNat % 2 := by rw [BitVec.toNat_and]; exact Nat.and_one_is_mod _
  rw [this]
  by_cases h : x.toNat % 2 = 1
  · rw [h, decide_eq_true rfl]; rfl
  · have h0 : x.toNat % 2 = 0 := by omega
    rw [h0, decide_eq_false (by omega)]; rfl
theorem w32_half (x : BitVec 32) : Int.fdiv (w32 x) (2 ^ (min (Int.toNat 1) 32)) = w32 (x >>> 1) := by
  show Int.fdiv (x.toNat : Int) _ = ((x >>> 1).toNat : Int)
  rw [shr1, show (2 ^ (min (Int.toNat 1) 32) : Int) = 2 from rfl, Int.fdiv_eq_ediv_of_nonneg _ (by decide)]
theorem w32_poly (x : BitVec 32) : Go.bits .xor .u32 (w32 x) 3988292384 = w32 (x ^^^ 0xedb88320#32) := u32_xor x 0xedb88320#32
theorem w32_all (x : BitVec 32) : Go.bits .xor .u32 (w32 x) 4294967295 = w32 (x ^^^ 0xffffffff#32) := u32_xor x 0xffffffff#32
theorem w32_byte (x : BitVec 32) (b : UInt8) : Go.bits .xor .u32 (w32 x) (IntKind.wrap .u32 (b.toNat : Int)) = w32 (x ^^^ b32 b) := by
  have hb := b.toNat_lt
  rw [u32w, show (b.toNat : Int) % 4294967296 = (b.toNat : Int) by omega, ← byte_nat, u32_xor]
theorem i64_up {i : Nat} (h : i < 9223372036854775807) : IntKind.wrap .i64 (((i : Nat) : Int) + 1) = ((i + 1 : Nat) : Int) := by rw [i64w]; omega
theorem step_go (d : Nat) : ∀ (k i : Nat), i + k = 8 → ∀ (x : BitVec 32) f, k < f → L40_0 d f (w32 x) (i : Nat) = some (.int .u32 (w32 (stN k x)))
  | 0, i, h, x, f + 1, _ => by
    rw [L40_0, decide_eq_false (by omega), cnd_f]; rfl
  | k + 1, i, h, x, f + 1, hf => by
    rw [L40_0, decide_eq_true (by omega), cnd_t, w32_and1, w32_half, w32_poly, i64_up (by omega)]
    rw [stN]
    have e : st x = bif x.getLsbD 0 then (x >>> 1) ^^^ 0xedb88320#32 else x >>> 1 := by
      unfold st; cases x.getLsbD 0 <;> simp
    rw [e]
    cases x.getLsbD 0
    · rw [cnd_f, cond_false]; exact step_go d k (i + 1) (by omega) _ f (by omega)
    · rw [cnd_t, cond_true]; exact step_go d k (i + 1) (by omega) _ f (by omega)
theorem s40 (d : Nat) (x : BitVec 32) : pcall M (d + 1) 40 [.int .u32 (w32 x)] = some (.int .u32 (w32 (stN 8 x))) := told (q40 d _) (step_go d 8 0 rfl x 1000000000000000000 (by omega))
theorem s2b_h {H : Heap} {e : ETy} {s : List UInt8} {K : AV → Heap → Ans} : C0.hop H (.s2b e (.v (.str s))) K = K (.slc H.length 0 s.length) (H ++ [some ⟨e, bytesAV s⟩]) := hop_eq rfl
theorem len_slc {H : Heap} {id o n : Nat} {b : Blk} {K : AV → Heap → Ans} (h : hget H id = some b) : C0.hop H (.bk .lenV [.v (.slc id o n)]) K = K (.int .i64 n) H := hop_eq (by simp [aop, evO, lenOf, h])
theorem bytes_at {s : List UInt8} {i : Nat} (h : i < s.length) : (bytesAV s)[i]? = some (.int .u8 (s[i].toNat : Int)) := by simp [bytesAV, List.getElem?_map, List.getElem?_eq_getElem h]
theorem sum_go (d : Nat) (s : List UInt8) (hl : s.length < 9223372036854775807) : ∀ (k i : Nat), i + k = s.length → ∀ (x : BitVec 32) f, k < f →
    L38_0 (d + 1) (.slc 0 0 s.length) (s.length : Nat) f (w32 x) (i : Nat) [some ⟨E5, bytesAV s⟩] = some (.int .u32 (w32 ((s.drop i).foldl byteF x ^^^ 0xffffffff#32)))
  | 0, i, h, x, f + 1, _ => by
    rw [L38_0, decide_eq_false (by omega), cnd_f, List.drop_of_length_le (by omega), List.foldl_nil]
    unfold X38_0_0
    rw [w32_all]
    exact f_free rfl
  | k + 1, i, h, x, f + 1, hf => by
    have hi : i < s.length := by omega
    rw [L38_0, decide_eq_true (by omega), cnd_t]
    refine Eq.trans (ix_slc (b := ⟨E5, bytesAV s⟩) rfl (by omega) (by omega) rfl) ?_
    refine Eq.trans (ld_ptr (b := ⟨E5, bytesAV s⟩) (v := .int .u8 (s[i].toNat : Int)) rfl (show (bytesAV s)[0 + ((i : Nat) : Int).toNat]? = _ by rw [show 0 + ((i : Nat) : Int).toNat = i by omega]; exact bytes_at hi) rfl) ?_
    refine Eq.trans (pl_int rfl) ?_
    rw [w32_byte]
    refine Eq.trans (pl_int (s40 d _)) ?_
    rw [i64_up (by omega), List.drop_eq_getElem_cons hi, List.foldl_cons]
    exact sum_go d s hl k (i + 1) (by omega) _ f (by omega)
theorem s38 (d : Nat) (s : List UInt8) (hl : s.length < 1000000000000000000) : pcall M (d + 2) 38 [.str s] = some (.int .u32 (w32 (crcF s))) := told (q38 (d + 1) _) (by
  refine Eq.trans s2b_h ?_
  refine Eq.trans (len_slc (b := ⟨E5, bytesAV s⟩) rfl) ?_
  refine Eq.trans (pl_int rfl) ?_
  exact sum_go d s (by omega) s.length 0 (by omega) 0xffffffff#32 1000000000000000000 (by omega))
end Go.Proofs.Ytoceckjagfhfmaa.AE

namespace Go.Proofs.Ytoceckjagfhfmaa.AE
set_option linter.unusedVariables false
set_option linter.unusedSimpArgs false
open Go Go.Proofs.Ytoceckjagfhfmaa.Geo
attribute [local irreducible] pcall C0
/-- A number's lowest byte. -/
def by8 (n : Int) : UInt8 := UInt8.ofNat (n % 256).toNat
theorem u8w (n : Int) : IntKind.u8.wrap n = n % 256 := by simp [IntKind.wrap, IntKind.bits, IntKind.signed]
theorem by8e (n : Int) : UInt8.ofNat (Int.toNat (IntKind.wrap .u8 n)) = by8 n := by rw [u8w]; rfl
theorem by8_n (n : Int) : ((by8 n).toNat : Int) = n % 256 := by
  unfold by8
  rw [UInt8.toNat_ofNat']
  omega
theorem by8_b (b : UInt8) : by8 (b.toNat : Int) = b := by
  unfold by8
  have h := b.toNat_lt
  rw [show ((b.toNat : Int) % 256).toNat = b.toNat by omega]
  simp
theorem by8_mod (n : Int) : by8 (n % 256) = by8 n := by unfold by8; rw [Int.emod_emod_of_dvd _ (by decide)]
theorem fd24 (n : Int) : Int.fdiv n (2 ^ (min (Int.toNat 24) 32)) = n / 16777216 := by
  rw [show (2 ^ (min (Int.toNat 24) 32) : Int) = 16777216 from rfl, Int.fdiv_eq_ediv_of_nonneg _ (by decide)]
theorem fd16 (n : Int) : Int.fdiv n (2 ^ (min (Int.toNat 16) 32)) = n / 65536 := by
  rw [show (2 ^ (min (Int.toNat 16) 32) : Int) = 65536 from rfl, Int.fdiv_eq_ediv_of_nonneg _ (by decide)]
theorem fd8 (n : Int) : Int.fdiv n (2 ^ (min (Int.toNat 8) 32)) = n / 256 := by
  rw [show (2 ^ (min (Int.toNat 8) 32) : Int) = 256 from rfl, Int.fdiv_eq_ediv_of_nonneg _ (by decide)]
/-- A number's four bytes, the highest first. -/
def be4 (n : Int) : List UInt8 := [by8 (n / 16777216), by8 (n / 65536), by8 (n / 256), by8 n]
theorem be4_len (n : Int) : (be4 n).length = 4 := rfl
/-- The number of four bytes. -/
def num4 (s : List UInt8) : Int := ((s.getD 0 0).toNat : Int) * 16777216 + ((s.getD 1 0).toNat : Int) * 65536 + ((s.getD 2 0).toNat : Int) * 256 + ((s.getD 3 0).toNat : Int)
theorem u8lt (b : UInt8) : (b.toNat : Int) < 256 := by have := b.toNat_lt; omega
theorem num4_bd (s : List UInt8) : 0 ≤ num4 s ∧ num4 s < 4294967296 := by
  unfold num4
  have h0 := u8lt (s.getD 0 0); have h1 := u8lt (s.getD 1 0); have h2 := u8lt (s.getD 2 0); have h3 := u8lt (s.getD 3 0)
  omega
theorem num4_be4 {n : Int} (h : 0 ≤ n) (h' : n < 4294967296) (t : List UInt8) : num4 (be4 n ++ t) = n := by
  unfold num4 be4
  simp only [List.cons_append, List.nil_append, List.getD_cons_zero, List.getD_cons_succ, by8_n]
  omega
theorem be4_num4 {s : List UInt8} (h : s.length = 4) : be4 (num4 s) = s := by
  match s, h with
  | [a, b, c, e], _ =>
    unfold num4 be4
    simp only [List.getD_cons_zero, List.getD_cons_succ]
    have ha := u8lt a; have hb := u8lt b; have hc := u8lt c; have he := u8lt e
    have e1 : ((a.toNat : Int) * 16777216 + b.toNat * 65536 + c.toNat * 256 + e.toNat) / 16777216 = a.toNat := by omega
    rw [e1, by8_b]
    have e2 : ((a.toNat : Int) * 16777216 + b.toNat * 65536 + c.toNat * 256 + e.toNat) / 65536 % 256 = b.toNat := by omega
    have e3 : ((a.toNat : Int) * 16777216 + b.toNat * 65536 + c.toNat * 256 + e.toNat) / 256 % 256 = c.toNat := by omega
    have e4 : ((a.toNat : Int) * 16777216 + b.toNat * 65536 + c.toNat * 256 + e.toNat) % 256 = e.toNat := by omega
    rw [← by8_mod (_ / 65536), e2, by8_b, ← by8_mod (_ / 256), e3, by8_b, ← by8_mod (_ + _), e4, by8_b]
theorem w32_bd (x : BitVec 32) : 0 ≤ w32 x ∧ w32 x < 4294967296 := by have := x.isLt; unfold w32; omega
/-- A text with its sum behind it. -/
def sealF (s : List UInt8) : List UInt8 := s ++ be4 (w32 (crcF s))
theorem sealF_len (s : List UInt8) : (sealF s).length = s.length + 4 := by simp [sealF, be4_len]
/-- What is wrong with a sealed text of so many bytes. -/
def openF (s : List UInt8) (n : Nat) : Int := if s.length < n + 4 then 5 else if s.length > n + 4 then 3 else if w32 (crcF (s.take n)) ≠ num4 (s.drop n) then 4 else 0
theorem open_seal (s : List UInt8) : openF (sealF s) s.length = 0 := by
  unfold openF
  rw [sealF_len, if_neg (by omega), if_neg (by omega)]
  have e1 : (sealF s).take s.length = s := by unfold sealF; rw [List.take_left' rfl]
  have e2 : (sealF s).drop s.length = be4 (w32 (crcF s)) := by unfold sealF; rw [List.drop_left' rfl]
  have := num4_be4 (w32_bd (crcF s)).1 (w32_bd (crcF s)).2 []
  rw [List.append_nil] at this
  rw [e1, e2, this, if_neg (by simp)]
theorem open_is {s : List UInt8} {n : Nat} (h : openF s n = 0) : s.length = n + 4 ∧ sealF (s.take n) = s := by
  unfold openF at h
  split at h
  · cases h
  · split at h
    · cases h
    · split at h
      · cases h
      · rename_i h1 h2 h3
        have hl : s.length = n + 4 := by omega
        refine ⟨hl, ?_⟩
        have h3 : w32 (crcF (s.take n)) = num4 (s.drop n) := Decidable.not_not.mp h3
        unfold sealF
        rw [h3, be4_num4 (by simp; omega), List.take_append_drop]
theorem or_byte {x : Int} {b : UInt8} (h : 0 ≤ x) (h' : x < 16777216) : Go.bits .or .u32 (IntKind.wrap .u32 (x * (2 ^ (min (Int.toNat 8) 32)))) (IntKind.wrap .u32 (b.toNat : Int)) = x * 256 + (b.toNat : Int) := by
  obtain ⟨n, rfl⟩ := Int.eq_ofNat_of_zero_le h
  have hb := b.toNat_lt
  rw [u32w, u32w, show (2 ^ (min (Int.toNat 8) 32) : Int) = 256 from rfl, show ((n : Int) * 256) % 4294967296 = ((n * 256 : Nat) : Int) by omega, show (b.toNat : Int) % 4294967296 = ((b.toNat : Nat) : Int) by omega]
  show IntKind.u32.wrap ((BitVec.ofInt 32 ((n * 256 : Nat) : Int) ||| BitVec.ofInt 32 ((b.toNat : Nat) : Int)).toNat : Int) = _
  rw [BitVec.ofInt_natCast, BitVec.ofInt_natCast, BitVec.toNat_or, BitVec.toNat_ofNat, BitVec.toNat_ofNat, Nat.mod_eq_of_lt (by omega), Nat.mod_eq_of_lt (by omega)]
  have := Nat.two_pow_add_eq_or_of_lt (i := 8) (b := b.toNat) (by omega) n
  rw [show 2 ^ 8 * n = n * 256 by omega] at this
  rw [← this, u32w]
  omega
end Go.Proofs.Ytoceckjagfhfmaa.AE

namespace Go.Proofs.Ytoceckjagfhfmaa.AE
set_option linter.unusedVariables false
set_option linter.unusedSimpArgs false
set_option linter.constructorNameAsVariable false
open Go
set_option maxRecDepth 100000
/-- apogee/peer.PrintWord -/
theorem r9 (C : Cb) (d : Nat) (a0 a1 a2 a3 : Int) : xcall C M unr d 9 [(.agg [(iz a0), (iz a1), (iz a2), (iz a3)])] =
 C.bool (pcall M d 25 [(.agg [(iz a0), (iz a1), (iz a2), (iz a3)])]) fun b0 =>
 cnd (!b0)
 (some (.str []))
 (C.int .u32 (pcall M d 38 [(.str [(UInt8.ofNat (Int.toNat (IntKind.wrap .u8 (Int.fdiv (IntKind.wrap .u32 a0) (2 ^ (min (Int.toNat 24) 32)))))), (UInt8.ofNat (Int.toNat (IntKind.wrap .u8 (Int.fdiv (IntKind.wrap .u32 a0) (2 ^ (min (Int.toNat 16) 32)))))), (UInt8.ofNat (Int.toNat (IntKind.wrap .u8 (Int.fdiv (IntKind.wrap .u32 a0) (2 ^ (min (Int.toNat 8) 32)))))), (UInt8.ofNat (Int.toNat (IntKind.wrap .u8 (IntKind.wrap .u32 a0)))), (UInt8.ofNat (Int.toNat (IntKind.wrap .u8 (IntKind.wrap .i64 (a1 + (IntKind.wrap .i64 (16 * a2))))))), (UInt8.ofNat (Int.toNat (IntKind.wrap .u8 a3)))])]) fun x1 =>
 some (.str [(UInt8.ofNat (Int.toNat (IntKind.wrap .u8 (Int.fdiv (IntKind.wrap .u32 a0) (2 ^ (min (Int.toNat 24) 32)))))), (UInt8.ofNat (Int.toNat (IntKind.wrap .u8 (Int.fdiv (IntKind.wrap .u32 a0) (2 ^ (min (Int.toNat 16) 32)))))), (UInt8.ofNat (Int.toNat (IntKind.wrap .u8 (Int.fdiv (IntKind.wrap .u32 a0) (2 ^ (min (Int.toNat 8) 32)))))), (UInt8.ofNat (Int.toNat (IntKind.wrap .u8 (IntKind.wrap .u32 a0)))), (UInt8.ofNat (Int.toNat (IntKind.wrap .u8 (IntKind.wrap .i64 (a1 + (IntKind.wrap .i64 (16 * a2))))))), (UInt8.ofNat (Int.toNat (IntKind.wrap .u8 a3))), (UInt8.ofNat (Int.toNat (IntKind.wrap .u8 (Int.fdiv x1 (2 ^ (min (Int.toNat 24) 32)))))), (UInt8.ofNat (Int.toNat (IntKind.wrap .u8 (Int.fdiv x1 (2 ^ (min (Int.toNat 16) 32)))))), (UInt8.ofNat (Int.toNat (IntKind.wrap .u8 (Int.fdiv x1 (2 ^ (min (Int.toNat 8) 32)))))), (UInt8.ofNat (Int.toNat (IntKind.wrap .u8 x1)))])) := by kernel_rfl
/-- apogee/peer.ReadWord -/
theorem r10 (C : Cb) (d : Nat) (a0 : List UInt8) : xcall C M unr d 10 [(.str a0)] =
 C.int .i64 (pcall M d 28 [(.str a0), (iz 6)]) fun x0 =>
 cnd (x0 != 0)
 (some (.tup [(.agg [(iz 0), (iz 0), (iz 0), (iz 0)]), (iz x0)]))
 (C.int .u32 (pcall M d 29 [(.str a0)]) fun x1 =>
 C.int .u8 (Option.map (fun b : UInt8 => AV.int .u8 (b.toNat : Int)) a0[4]?) fun x2 =>
 C.int .u8 (Option.map (fun b : UInt8 => AV.int .u8 (b.toNat : Int)) a0[4]?) fun x3 =>
 C.int .u8 (Option.map (fun b : UInt8 => AV.int .u8 (b.toNat : Int)) a0[5]?) fun x4 =>
 C.bool (pcall M d 25 [(.agg [(iz (IntKind.wrap .i64 x1)), (iz (IntKind.wrap .i64 (Int.tmod x2 16))), (iz (IntKind.wrap .i64 (IntKind.wrap .u8 (Int.tdiv x3 16)))), (iz (IntKind.wrap .i64 x4))])]) fun b5 =>
 cnd (!b5)
 (some (.tup [(.agg [(iz 0), (iz 0), (iz 0), (iz 0)]), (iz 3)]))
 (some (.tup [(.agg [(iz (IntKind.wrap .i64 x1)), (iz (IntKind.wrap .i64 (Int.tmod x2 16))), (iz (IntKind.wrap .i64 (IntKind.wrap .u8 (Int.tdiv x3 16)))), (iz (IntKind.wrap .i64 x4))]), (iz 0)]))) := by kernel_rfl
/-- apogee/peer.PrintReport -/
theorem r14 (C : Cb) (d : Nat) (a0 a1 a2 a3 a4 a5 a6 a7 a8 : Int) : xcall C M unr d 14 [(.agg [(iz a0), (iz a1), (iz a2), (iz a3), (iz a4), (iz a5), (iz a6), (iz a7), (iz a8)])] =
 C.bool (pcall M d 34 [(.agg [(iz a0), (iz a1), (iz a2), (iz a3), (iz a4), (iz a5), (iz a6), (iz a7), (iz a8)])]) fun b0 =>
 cnd (!b0)
 (some (.str []))
 (C.int .u32 (pcall M d 38 [(.str [(UInt8.ofNat (Int.toNat (IntKind.wrap .u8 (Int.fdiv (IntKind.wrap .u32 a0) (2 ^ (min (Int.toNat 24) 32)))))), (UInt8.ofNat (Int.toNat (IntKind.wrap .u8 (Int.fdiv (IntKind.wrap .u32 a0) (2 ^ (min (Int.toNat 16) 32)))))), (UInt8.ofNat (Int.toNat (IntKind.wrap .u8 (Int.fdiv (IntKind.wrap .u32 a0) (2 ^ (min (Int.toNat 8) 32)))))), (UInt8.ofNat (Int.toNat (IntKind.wrap .u8 (IntKind.wrap .u32 a0)))), (UInt8.ofNat (Int.toNat (IntKind.wrap .u8 (IntKind.wrap .i64 (a1 + (IntKind.wrap .i64 (16 * a2))))))), (UInt8.ofNat (Int.toNat (IntKind.wrap .u8 a3))), (UInt8.ofNat (Int.toNat (IntKind.wrap .u8 a4))), (UInt8.ofNat (Int.toNat (IntKind.wrap .u8 a5))), (UInt8.ofNat (Int.toNat (IntKind.wrap .u8 (IntKind.wrap .i64 (a6 + (IntKind.wrap .i64 (16 * a7))))))), (UInt8.ofNat (Int.toNat (IntKind.wrap .u8 a8)))])]) fun x1 =>
 some (.str [(UInt8.ofNat (Int.toNat (IntKind.wrap .u8 (Int.fdiv (IntKind.wrap .u32 a0) (2 ^ (min (Int.toNat 24) 32)))))), (UInt8.ofNat (Int.toNat (IntKind.wrap .u8 (Int.fdiv (IntKind.wrap .u32 a0) (2 ^ (min (Int.toNat 16) 32)))))), (UInt8.ofNat (Int.toNat (IntKind.wrap .u8 (Int.fdiv (IntKind.wrap .u32 a0) (2 ^ (min (Int.toNat 8) 32)))))), (UInt8.ofNat (Int.toNat (IntKind.wrap .u8 (IntKind.wrap .u32 a0)))), (UInt8.ofNat (Int.toNat (IntKind.wrap .u8 (IntKind.wrap .i64 (a1 + (IntKind.wrap .i64 (16 * a2))))))), (UInt8.ofNat (Int.toNat (IntKind.wrap .u8 a3))), (UInt8.ofNat (Int.toNat (IntKind.wrap .u8 a4))), (UInt8.ofNat (Int.toNat (IntKind.wrap .u8 a5))), (UInt8.ofNat (Int.toNat (IntKind.wrap .u8 (IntKind.wrap .i64 (a6 + (IntKind.wrap .i64 (16 * a7))))))), (UInt8.ofNat (Int.toNat (IntKind.wrap .u8 a8))), (UInt8.ofNat (Int.toNat (IntKind.wrap .u8 (Int.fdiv x1 (2 ^ (min (Int.toNat 24) 32)))))), (UInt8.ofNat (Int.toNat (IntKind.wrap .u8 (Int.fdiv x1 (2 ^ (min (Int.toNat 16) 32)))))), (UInt8.ofNat (Int.toNat (IntKind.wrap .u8 (Int.fdiv x1 (2 ^ (min (Int.toNat 8) 32)))))), (UInt8.ofNat (Int.toNat (IntKind.wrap .u8 x1)))])) := by kernel_rfl
/-- apogee/peer.ReadReport -/
theorem r15 (C : Cb) (d : Nat) (a0 : List UInt8) : xcall C M unr d 15 [(.str a0)] =
 C.int .i64 (pcall M d 28 [(.str a0), (iz 10)]) fun x0 =>
 cnd (x0 != 0)
 (some (.tup [(.agg [(iz 0), (iz 0), (iz 0), (iz 0), (iz 0), (iz 0), (iz 0), (iz 0), (iz 0)]), (iz x0)]))
 (C.int .u32 (pcall M d 29 [(.str a0)]) fun x1 =>
 C.int .u8 (Option.map (fun b : UInt8 => AV.int .u8 (b.toNat : Int)) a0[4]?) fun x2 =>
 C.int .u8 (Option.map (fun b : UInt8 => AV.int .u8 (b.toNat : Int)) a0[4]?) fun x3 =>
 C.int .u8 (Option.map (fun b : UInt8 => AV.int .u8 (b.toNat : Int)) a0[5]?) fun x4 =>
 C.int .u8 (Option.map (fun b : UInt8 => AV.int .u8 (b.toNat : Int)) a0[6]?) fun x5 =>
 C.int .u8 (Option.map (fun b : UInt8 => AV.int .u8 (b.toNat : Int)) a0[7]?) fun x6 =>
 C.int .u8 (Option.map (fun b : UInt8 => AV.int .u8 (b.toNat : Int)) a0[8]?) fun x7 =>
 C.int .u8 (Option.map (fun b : UInt8 => AV.int .u8 (b.toNat : Int)) a0[8]?) fun x8 =>
 C.int .u8 (Option.map (fun b : UInt8 => AV.int .u8 (b.toNat : Int)) a0[9]?) fun x9 =>
 C.bool (pcall M d 34 [(.agg [(iz (IntKind.wrap .i64 x1)), (iz (IntKind.wrap .i64 (Int.tmod x2 16))), (iz (IntKind.wrap .i64 (IntKind.wrap .u8 (Int.tdiv x3 16)))), (iz (IntKind.wrap .i64 x4)), (iz (IntKind.wrap .i64 x5)), (iz (IntKind.wrap .i64 x6)), (iz (IntKind.wrap .i64 (Int.tmod x7 16))), (iz (IntKind.wrap .i64 (IntKind.wrap .u8 (Int.tdiv x8 16)))), (iz (IntKind.wrap .i64 x9))])]) fun b10 =>
 cnd (!b10)
 (some (.tup [(.agg [(iz 0), (iz 0), (iz 0), (iz 0), (iz 0), (iz 0), (iz 0), (iz 0), (iz 0)]), (iz 3)]))
 (some (.tup [(.agg [(iz (IntKind.wrap .i64 x1)), (iz (IntKind.wrap .i64 (Int.tmod x2 16))), (iz (IntKind.wrap .i64 (IntKind.wrap .u8 (Int.tdiv x3 16)))), (iz (IntKind.wrap .i64 x4)), (iz (IntKind.wrap .i64 x5)), (iz (IntKind.wrap .i64 x6)), (iz (IntKind.wrap .i64 (Int.tmod x7 16))), (iz (IntKind.wrap .i64 (IntKind.wrap .u8 (Int.tdiv x8 16)))), (iz (IntKind.wrap .i64 x9))]), (iz 0)]))) := by kernel_rfl
/-- apogee/peer.PrintCommand -/
theorem r19 (C : Cb) (d : Nat) (a0 : Int) : xcall C M unr d 19 [(iz a0)] =
 cnd (decide (a0 < 1))
 (some (.str []))
 (cnd (decide (a0 > 3))
 (some (.str []))
 (C.int .u32 (pcall M d 38 [(.str [(UInt8.ofNat (Int.toNat (IntKind.wrap .u8 a0))), (UInt8.ofNat (Int.toNat (bits .xor .u8 (IntKind.wrap .u8 a0) 85))), (UInt8.ofNat (Int.toNat (bits .xor .u8 (IntKind.wrap .u8 a0) 170))), (UInt8.ofNat (Int.toNat (bits .xor .u8 (IntKind.wrap .u8 a0) 255)))])]) fun x0 =>
 some (.str [(UInt8.ofNat (Int.toNat (IntKind.wrap .u8 a0))), (UInt8.ofNat (Int.toNat (bits .xor .u8 (IntKind.wrap .u8 a0) 85))), (UInt8.ofNat (Int.toNat (bits .xor .u8 (IntKind.wrap .u8 a0) 170))), (UInt8.ofNat (Int.toNat (bits .xor .u8 (IntKind.wrap .u8 a0) 255))), (UInt8.ofNat (Int.toNat (IntKind.wrap .u8 (Int.fdiv x0 (2 ^ (min (Int.toNat 24) 32)))))), (UInt8.ofNat (Int.toNat (IntKind.wrap .u8 (Int.fdiv x0 (2 ^ (min (Int.toNat 16) 32)))))), (UInt8.ofNat (Int.toNat (IntKind.wrap .u8 (Int.fdiv x0 (2 ^ (min (Int.toNat 8) 32)))))), (UInt8.ofNat (Int.toNat (IntKind.wrap .u8 x0)))]))) := by kernel_rfl
/-- apogee/peer.ReadCommand -/
theorem r20 (C : Cb) (d : Nat) (a0 : List UInt8) : xcall C M unr d 20 [(.str a0)] =
 C.int .i64 (pcall M d 28 [(.str a0), (iz 4)]) fun x0 =>
 cnd (x0 != 0)
 (some (.tup [(iz 0), (iz x0)]))
 (C.int .u8 (Option.map (fun b : UInt8 => AV.int .u8 (b.toNat : Int)) a0[0]?) fun x1 =>
 C.str (pcall M d 19 [(iz (IntKind.wrap .i64 x1))]) fun s2 =>
 cnd (s2 == a0)
 (some (.tup [(iz (IntKind.wrap .i64 x1)), (iz 0)]))
 (some (.tup [(iz 0), (iz 3)]))) := by kernel_rfl
/-- apogee/apogeeref07.RightWord -/
theorem r23 (C : Cb) (d : Nat) (a0 a1 a2 a3 : Int) : xcall C M unr d 23 [(.agg [(iz a0), (iz a1), (iz a2), (iz a3)])] =
 C.bool (pcall M d 35 [(iz a0), (iz 1000000)]) fun b0 =>
 cnd b0
 (C.bool (pcall M d 35 [(iz a1), (iz 3)]) fun b1 =>
 cnd b1
 (C.bool (pcall M d 35 [(iz a2), (iz 2)]) fun b2 =>
 cnd b2
 (C.bool (pcall M d 35 [(iz a3), (iz 15)]) fun b3 =>
 some (.bool b3))
 (some bf))
 (some bf))
 (some bf) := by kernel_rfl
/-- apogee/apogeeref07.RightReport -/
theorem r24 (C : Cb) (d : Nat) (a0 a1 a2 a3 a4 a5 a6 a7 a8 : Int) : xcall C M unr d 24 [(.agg [(iz a0), (iz a1), (iz a2), (iz a3), (iz a4), (iz a5), (iz a6), (iz a7), (iz a8)])] =
 C.bool (pcall M d 35 [(iz a0), (iz 1000000)]) fun b0 =>
 cnd b0
 (C.bool (pcall M d 35 [(iz a1), (iz 3)]) fun b1 =>
 cnd b1
 (C.bool (pcall M d 35 [(iz a2), (iz 2)]) fun b2 =>
 cnd b2
 (C.bool (pcall M d 35 [(iz a3), (iz 255)]) fun b3 =>
 cnd b3
 (C.bool (pcall M d 35 [(iz a4), (iz 255)]) fun b4 =>
 cnd b4
 (C.bool (pcall M d 35 [(iz a5), (iz 255)]) fun b5 =>
 cnd b5
 (C.bool (pcall M d 35 [(iz a6), (iz 4)]) fun b6 =>
 cnd b6
 (C.bool (pcall M d 35 [(iz a7), (iz 4)]) fun b7 =>
 cnd b7
 (C.bool (pcall M d 35 [(iz a8), (iz 255)]) fun b8 =>
 some (.bool b8))
 (some bf))
 (some bf))
 (some bf))
 (some bf))
 (some bf))
 (some bf))
 (some bf))
 (some bf) := by kernel_rfl
/-- (apogee/peer.Word).right -/
theorem r25 (C : Cb) (d : Nat) (a0 a1 a2 a3 : Int) : xcall C M unr d 25 [(.agg [(iz a0), (iz a1), (iz a2), (iz a3)])] =
 C.bool (pcall M d 36 [(iz a0), (iz a1), (iz a2)]) fun b0 =>
 cnd b0
 (C.bool (pcall M d 37 [(iz a3), (iz 15)]) fun b1 =>
 some (.bool b1))
 (some bf) := by kernel_rfl
/-- apogee/peer.open -/
theorem r28 (C : Cb) (d : Nat) (a0 : List UInt8) (a1 : Int) : xcall C M unr d 28 [(.str a0), (iz a1)] =
 cnd (decide ((((List.length a0) : Nat) : Int) < (IntKind.wrap .i64 (a1 + 4))))
 (some (iz 5))
 (cnd (decide ((((List.length a0) : Nat) : Int) > (IntKind.wrap .i64 (a1 + 4))))
 (some (iz 3))
 (cnd (decide (((0 : Int) ≤ a1) ∧ (a1 ≤ (((List.length a0) : Nat) : Int))))
 (C.int .u32 (pcall M d 38 [(.str (List.drop 0 (List.take (Int.toNat a1) a0)))]) fun x0 =>
 cnd (decide (((0 : Int) ≤ a1) ∧ (a1 ≤ (((List.length a0) : Nat) : Int))))
 (C.int .u32 (pcall M d 29 [(.str (List.drop (Int.toNat a1) (List.take (List.length a0) a0)))]) fun x1 =>
 cnd (x0 != x1)
 (some (iz 4))
 (some (iz 0)))
 (none))
 (none))) := by kernel_rfl
def r29R0 (C : Cb) (d : Nat) (a0 : List UInt8) (v0 : AV) (x4 : Int) : St → (Ex → St → Ans) → Ans := fun s5 k6 =>
 cnd ((List.length s5.env) == 21)
 (C.same s5.env[0]? (.str a0) <|
 C.same s5.env[1]? tz <|
 C.same s5.env[2]? (.int .u32 0) <|
 C.int .u32 s5.env[3]? fun x8 =>
 C.same s5.env[4]? tz <|
 C.any s5.env[5]? fun v9 =>
 C.same s5.env[6]? (.str a0) <|
 C.same s5.env[7]? (.str (List.drop 0 (List.take (Int.toNat 4) a0))) <|
 C.same s5.env[8]? v0 <|
 C.same s5.env[9]? (iz x4) <|
 C.int .i64 s5.env[10]? fun x10 =>
 C.any s5.env[11]? fun v11 =>
 C.any s5.env[12]? fun v12 =>
 C.any s5.env[13]? fun v13 =>
 C.any s5.env[14]? fun v14 =>
 C.any s5.env[15]? fun v15 =>
 C.any s5.env[16]? fun v16 =>
 C.any s5.env[17]? fun v17 =>
 C.any s5.env[18]? fun v18 =>
 C.any s5.env[19]? fun v19 =>
 C.same s5.env[20]? tz <|
 cnd (decide (x10 < x4))
 (C.hop (St.H s5) (.ixAS .any 1 (.v v0) (.v (iz x10))) fun v20 h21 =>
 C.hop h21 (.load false 1 (.v v20)) fun v22 h23 =>
 C.int .u8 (some v22) fun x24 =>
 k6 .normal ⟨[(.str a0), tz, (.int .u32 0), (.int .u32 (bits .or .u32 (IntKind.wrap .u32 (x8 * (2 ^ (min (Int.toNat 8) 32)))) (IntKind.wrap .u32 x24))), tz, (.int .u8 x24), (.str a0), (.str (List.drop 0 (List.take (Int.toNat 4) a0))), v0, (iz x4), (iz (IntKind.wrap .i64 (x10 + 1))), bt, v20, (.int .u8 x24), (.int .u32 x8), (.int .u32 (IntKind.wrap .u32 (x8 * (2 ^ (min (Int.toNat 8) 32))))), (.int .u8 x24), (.int .u32 (IntKind.wrap .u32 x24)), (.int .u32 (bits .or .u32 (IntKind.wrap .u32 (x8 * (2 ^ (min (Int.toNat 8) 32)))) (IntKind.wrap .u32 x24))), (iz (IntKind.wrap .i64 (x10 + 1))), tz], h23⟩)
 (k6 (.exit 0) ⟨[(.str a0), tz, (.int .u32 0), (.int .u32 x8), tz, v9, (.str a0), (.str (List.drop 0 (List.take (Int.toNat 4) a0))), v0, (iz x4), (iz x10), bf, v12, v13, v14, v15, v16, v17, v18, v19, tz], (St.H s5)⟩))
 (none)
def r29X0_0 (C : Cb) (d : Nat) (a0 : List UInt8) (v0 : AV) (x4 : Int) : St → Ans := fun s25 =>
 cnd ((List.length s25.env) == 21)
 (C.same s25.env[0]? (.str a0) <|
 C.same s25.env[1]? tz <|
 C.same s25.env[2]? (.int .u32 0) <|
 C.int .u32 s25.env[3]? fun x26 =>
 C.same s25.env[4]? tz <|
 C.any s25.env[5]? fun v27 =>
 C.same s25.env[6]? (.str a0) <|
 C.same s25.env[7]? (.str (List.drop 0 (List.take (Int.toNat 4) a0))) <|
 C.same s25.env[8]? v0 <|
 C.same s25.env[9]? (iz x4) <|
 C.int .i64 s25.env[10]? fun x28 =>
 C.any s25.env[11]? fun v29 =>
 C.any s25.env[12]? fun v30 =>
 C.any s25.env[13]? fun v31 =>
 C.any s25.env[14]? fun v32 =>
 C.any s25.env[15]? fun v33 =>
 C.any s25.env[16]? fun v34 =>
 C.any s25.env[17]? fun v35 =>
 C.any s25.env[18]? fun v36 =>
 C.any s25.env[19]? fun v37 =>
 C.same s25.env[20]? tz <|
 C.fin (St.H s25) (.int .u32 x26))
 (none)
def r29E0 (C : Cb) (d : Nat) (a0 : List UInt8) (v0 : AV) (x4 : Int) : St → Ans := fun s7 =>
 cnd ((List.length s7.env) == 21)
 (C.same s7.env[0]? (.str a0) <|
 C.same s7.env[1]? tz <|
 C.same s7.env[2]? (.int .u32 0) <|
 C.int .u32 s7.env[3]? fun x38 =>
 C.same s7.env[4]? tz <|
 C.any s7.env[5]? fun v39 =>
 C.same s7.env[6]? (.str a0) <|
 C.same s7.env[7]? (.str (List.drop 0 (List.take (Int.toNat 4) a0))) <|
 C.same s7.env[8]? v0 <|
 C.same s7.env[9]? (iz x4) <|
 C.int .i64 s7.env[10]? fun x40 =>
 C.any s7.env[11]? fun v41 =>
 C.any s7.env[12]? fun v42 =>
 C.any s7.env[13]? fun v43 =>
 C.any s7.env[14]? fun v44 =>
 C.any s7.env[15]? fun v45 =>
 C.any s7.env[16]? fun v46 =>
 C.any s7.env[17]? fun v47 =>
 C.any s7.env[18]? fun v48 =>
 C.any s7.env[19]? fun v49 =>
 C.same s7.env[20]? tz <|
 C.fin (St.H s7) (.int .u32 0))
 (none)
/-- apogee/peer.get -/
theorem r29 (C : Cb) (d : Nat) (a0 : List UInt8) : xcall C M unr d 29 [(.str a0)] =
 cnd (decide (((0 : Int) ≤ 4) ∧ ((4 : Int) ≤ (((List.length a0) : Nat) : Int))))
 (C.hop [] (.s2b E5 (.v (.str (List.drop 0 (List.take (Int.toNat 4) a0))))) fun v0 h1 =>
 C.hop h1 (.bk .lenV [(.v v0)]) fun v2 h3 =>
 C.int .i64 (some v2) fun x4 =>
 C.iter (r29R0 C d a0 v0 x4) 1000000000000000000 ⟨[(.str a0), tz, (.int .u32 0), (.int .u32 0), tz, tz, (.str a0), (.str (List.drop 0 (List.take (Int.toNat 4) a0))), v0, (iz x4), (iz 0), tz, tz, tz, tz, tz, tz, tz, tz, tz, tz], h3⟩ [0] [r29X0_0 C d a0 v0 x4] (r29E0 C d a0 v0 x4))
 (none) := by kernel_rfl
/-- (apogee/peer.Report).right -/
theorem r34 (C : Cb) (d : Nat) (a0 a1 a2 a3 a4 a5 a6 a7 a8 : Int) : xcall C M unr d 34 [(.agg [(iz a0), (iz a1), (iz a2), (iz a3), (iz a4), (iz a5), (iz a6), (iz a7), (iz a8)])] =
 C.bool (pcall M d 37 [(iz a3), (iz 255)]) fun b0 =>
 cnd (!b0)
 (some bf)
 (C.bool (pcall M d 37 [(iz a4), (iz 255)]) fun b1 =>
 cnd (!b1)
 (some bf)
 (C.bool (pcall M d 37 [(iz a5), (iz 255)]) fun b2 =>
 cnd (!b2)
 (some bf)
 (C.bool (pcall M d 37 [(iz a8), (iz 255)]) fun b3 =>
 cnd (!b3)
 (some bf)
 (C.bool (pcall M d 36 [(iz a0), (iz a1), (iz a2)]) fun b4 =>
 cnd b4
 (C.bool (pcall M d 37 [(iz a6), (iz 4)]) fun b5 =>
 cnd b5
 (C.bool (pcall M d 37 [(iz a7), (iz 4)]) fun b6 =>
 some (.bool b6))
 (some bf))
 (some bf))))) := by kernel_rfl
/-- apogee/apogeeref07.within -/
theorem r35 (C : Cb) (d : Nat) (a0 a1 : Int) : xcall C M unr d 35 [(iz a0), (iz a1)] =
 cnd (decide (a0 ≥ 0))
 (some (.bool (decide (a0 ≤ a1))))
 (some bf) := by kernel_rfl
/-- apogee/peer.where -/
theorem r36 (C : Cb) (d : Nat) (a0 a1 a2 : Int) : xcall C M unr d 36 [(iz a0), (iz a1), (iz a2)] =
 C.bool (pcall M d 37 [(iz a0), (iz 1000000)]) fun b0 =>
 cnd b0
 (C.bool (pcall M d 37 [(iz a1), (iz 3)]) fun b1 =>
 cnd b1
 (C.bool (pcall M d 37 [(iz a2), (iz 2)]) fun b2 =>
 some (.bool b2))
 (some bf))
 (some bf) := by kernel_rfl
/-- apogee/peer.within -/
theorem r37 (C : Cb) (d : Nat) (a0 a1 : Int) : xcall C M unr d 37 [(iz a0), (iz a1)] =
 cnd (decide (a0 ≥ 0))
 (some (.bool (decide (a0 ≤ a1))))
 (some bf) := by kernel_rfl
end Go.Proofs.Ytoceckjagfhfmaa.AE

namespace Go.Proofs.Ytoceckjagfhfmaa.AE
set_option linter.unusedVariables false
set_option linter.unusedSimpArgs false
set_option linter.constructorNameAsVariable false
open Go
set_option maxRecDepth 100000
set_option maxHeartbeats 0
noncomputable def X29_0_0 (d : Nat) (v0 : AV) (x4 x26 : Int) (H : Heap) : Ans :=
  C0.fin H (.int .u32 x26)
theorem X29_0_0_ok (d : Nat) (a0 : List UInt8) (v0 : AV) (x4 x26 : Int) (v27 : AV) (x28 : Int) (v29 v30 v31 v32 v33 v34 v35 v36 v37 : AV) (H : Heap) : r29X0_0 C0 d a0 v0 x4 ⟨[(.str a0), tz, (.int .u32 0), (.int .u32 x26), tz, v27, (.str a0), (.str (List.drop 0 (List.take (Int.toNat 4) a0))), v0, (iz x4), (iz x28), v29, v30, v31, v32, v33, v34, v35, v36, v37, tz], H⟩ = X29_0_0 d v0 x4 x26 H := by
  unfold r29X0_0; refine Eq.trans (pl_len (by rfl)) ?_; (iterate 3 (refine yt yS ?_)); refine yt yI ?_; refine yt yS ?_; refine yt yA ?_; (iterate 4 (refine yt yS ?_)); refine yt yI ?_; (iterate 9 (refine yt yA ?_)); refine yt yS ?_
  rfl
noncomputable def E29_0 (d : Nat) (v0 : AV) (x4 : Int) (H : Heap) : Ans :=
  C0.fin H (.int .u32 0)
theorem E29_0_ok (d : Nat) (a0 : List UInt8) (v0 : AV) (x4 x38 : Int) (v39 : AV) (x40 : Int) (v41 v42 v43 v44 v45 v46 v47 v48 v49 : AV) (H : Heap) : r29E0 C0 d a0 v0 x4 ⟨[(.str a0), tz, (.int .u32 0), (.int .u32 x38), tz, v39, (.str a0), (.str (List.drop 0 (List.take (Int.toNat 4) a0))), v0, (iz x4), (iz x40), v41, v42, v43, v44, v45, v46, v47, v48, v49, tz], H⟩ = E29_0 d v0 x4 H := by
  unfold r29E0; refine Eq.trans (pl_len (by rfl)) ?_; (iterate 3 (refine yt yS ?_)); refine yt yI ?_; refine yt yS ?_; refine yt yA ?_; (iterate 4 (refine yt yS ?_)); refine yt yI ?_; (iterate 9 (refine yt yA ?_)); refine yt yS ?_
  rfl
noncomputable def L29_0 (d : Nat) (v0 : AV) (x4 : Int) : Nat → Int → Int → Heap → Ans
  | 0, _, _, _ => none
  | n + 1, x8, x10, H =>
  cnd (decide (x10 < x4))
   (C0.hop H (.ixAS .any 1 (.v v0) (.v (iz x10))) fun v20 h21 =>
   C0.hop h21 (.load false 1 (.v v20)) fun v22 h23 =>
   C0.int .u8 (some v22) fun x24 =>
   L29_0 d v0 x4 n (bits .or .u32 (IntKind.wrap .u32 (x8 * (2 ^ (min (Int.toNat 8) 32)))) (IntKind.wrap .u32 x24)) (IntKind.wrap .i64 (x10 + 1)) h23)
   (X29_0_0 d v0 x4 x8 H)
theorem it29_0 (d : Nat) (a0 : List UInt8) (v0 : AV) (x4 : Int)   : ∀ (n : Nat) (x8 : Int) (v9 : AV) (x10 : Int) (v11 v12 v13 v14 v15 v16 v17 v18 v19 : AV) (H : Heap), C0.iter (r29R0 C0 d a0 v0 x4) n ⟨[(.str a0), tz, (.int .u32 0), (.int .u32 x8), tz, v9, (.str a0), (.str (List.drop 0 (List.take (Int.toNat 4) a0))), v0, (iz x4), (iz x10), v11, v12, v13, v14, v15, v16, v17, v18, v19, tz], H⟩ [0] [r29X0_0 C0 d a0 v0 x4] (r29E0 C0 d a0 v0 x4) = L29_0 d v0 x4 n x8 x10 H := by
  generalize hR : r29R0 C0 d a0 v0 x4 = R
  intro n
  induction n with
  | zero => intros; rfl
  | succ n ih =>
    intro x8 v9 x10 v11 v12 v13 v14 v15 v16 v17 v18 v19 H
    simp only [it_ret] at ih
    rw [it_ret, xiter_s]
    refine Eq.trans (congrFun (congrFun hR.symm _) _) ?_
    unfold r29R0
    refine Eq.trans (pl_len (by rfl)) ?_; (iterate 3 (refine yt yS ?_)); refine yt yI ?_; refine yt yS ?_; refine yt yA ?_; (iterate 4 (refine yt yS ?_)); refine yt yI ?_; (iterate 9 (refine yt yA ?_)); refine yt yS ?_
    simp only [L29_0, kIter_n, kIter_x, kIter_r, kOut_x, kOut_r, xgo_hit, xgo_miss, ih, X29_0_0_ok d a0 v0 x4  , E29_0_ok d a0 v0 x4  ]
/-- apogee/peer.get -/
theorem q29 (d : Nat) (a0 : List UInt8) : xcall C0 M unr d 29 [(.str a0)] =
  cnd (decide (((0 : Int) ≤ 4) ∧ ((4 : Int) ≤ (((List.length a0) : Nat) : Int))))
   (C0.hop [] (.s2b E5 (.v (.str (List.drop 0 (List.take (Int.toNat 4) a0))))) fun v0 h1 =>
   C0.hop h1 (.bk .lenV [(.v v0)]) fun v2 h3 =>
   C0.int .i64 (some v2) fun x4 =>
   L29_0 d v0 x4 1000000000000000000 0 0 h3)
   (none) := (r29 C0 d a0).trans (by simp only [it29_0])
end Go.Proofs.Ytoceckjagfhfmaa.AE

namespace Go.Proofs.Ytoceckjagfhfmaa.AE
set_option linter.unusedVariables false
set_option linter.unusedSimpArgs false
set_option linter.constructorNameAsVariable false
open Go
set_option maxRecDepth 100000
/-- apogee/apogeelaw07.likeWord -/
theorem r13 (C : Cb) (d : Nat) (a0 a1 a2 a3 : Int) : xcall C M unr d 13 [(.agg [(iz a0), (iz a1), (iz a2), (iz a3)])] =
 some (.agg [(iz a0), (iz a1), (iz a2), (iz a3)]) := by kernel_rfl
/-- apogee/apogeelaw07.likeReport -/
theorem r18 (C : Cb) (d : Nat) (a0 a1 a2 a3 a4 a5 a6 a7 a8 : Int) : xcall C M unr d 18 [(.agg [(iz a0), (iz a1), (iz a2), (iz a3), (iz a4), (iz a5), (iz a6), (iz a7), (iz a8)])] =
 some (.agg [(iz a0), (iz a1), (iz a2), (iz a3), (iz a4), (iz a5), (iz a6), (iz a7), (iz a8)]) := by kernel_rfl
end Go.Proofs.Ytoceckjagfhfmaa.AE

namespace Go.Proofs.Ytoceckjagfhfmaa.AE
set_option linter.unusedVariables false
set_option linter.unusedSimpArgs false
set_option linter.constructorNameAsVariable false
open Go Go.Proofs.Ytoceckjagfhfmaa.Geo
attribute [local irreducible] pcall C0
set_option maxRecDepth 100000
theorem get_step (d f : Nat) (l : List UInt8) (i : Nat) (hi : i < l.length) (hl : l.length = 4) (x : Int) (h : 0 ≤ x) (h' : x < 16777216) : L29_0 d (.slc 0 0 4) 4 (f + 1) x (i : Nat) [some ⟨E5, bytesAV l⟩] = L29_0 d (.slc 0 0 4) 4 f (x * 256 + (l[i].toNat : Int)) ((i + 1 : Nat) : Int) [some ⟨E5, bytesAV l⟩] := by
  rw [L29_0, decide_eq_true (by omega), cnd_t]
  refine Eq.trans (ix_slc (b := ⟨E5, bytesAV l⟩) rfl (by omega) (by omega) rfl) ?_
  refine Eq.trans (ld_ptr (b := ⟨E5, bytesAV l⟩) (v := .int .u8 (l[i].toNat : Int)) rfl (show (bytesAV l)[0 + ((i : Nat) : Int).toNat]? = _ by rw [show 0 + ((i : Nat) : Int).toNat = i by omega]; exact bytes_at hi) rfl) ?_
  refine Eq.trans (pl_int rfl) ?_
  rw [or_byte h h', i64_up (by omega)]
theorem get_go (d f : Nat) (a b c e : UInt8) : L29_0 d (.slc 0 0 4) 4 (f + 5) 0 0 [some ⟨E5, bytesAV [a, b, c, e]⟩] = some (.int .u32 (num4 [a, b, c, e])) := by
  have ha := u8lt a; have hb := u8lt b; have hc := u8lt c; have he := u8lt e
  refine Eq.trans (get_step d (f + 4) [a, b, c, e] 0 (by simp) rfl 0 (by decide) (by decide)) ?_
  refine Eq.trans (get_step d (f + 3) [a, b, c, e] 1 (by simp) rfl _ (by simp only [List.getElem_cons_zero]; omega) (by simp only [List.getElem_cons_zero]; omega)) ?_
  refine Eq.trans (get_step d (f + 2) [a, b, c, e] 2 (by simp) rfl _ (by simp only [List.getElem_cons_zero, List.getElem_cons_succ]; omega) (by simp only [List.getElem_cons_zero, List.getElem_cons_succ]; omega)) ?_
  refine Eq.trans (get_step d (f + 1) [a, b, c, e] 3 (by simp) rfl _ (by simp only [List.getElem_cons_zero, List.getElem_cons_succ]; omega) (by simp only [List.getElem_cons_zero, List.getElem_cons_succ]; omega)) ?_
  rw [L29_0, decide_eq_false (by decide), cnd_f]
  unfold X29_0_0
  refine (f_free rfl).trans ?_
  congr 2
  unfold num4
  simp only [List.getElem_cons_zero, List.getElem_cons_succ, List.getD_cons_zero, List.getD_cons_succ]
  omega
theorem num4_take (s : List UInt8) (h : 4 ≤ s.length) : ∃ a b c e t, s = a :: b :: c :: e :: t := by
  match s, h with
  | a :: b :: c :: e :: t, _ => exact ⟨a, b, c, e, t, rfl⟩
theorem s29 (d : Nat) (s : List UInt8) (h : 4 ≤ s.length) : pcall M (d + 1) 29 [.str s] = some (.int .u32 (num4 s)) := told (q29 d _) (by
  obtain ⟨a, b, c, e, t, rfl⟩ := num4_take s h
  refine Eq.trans (pl_len (by rw [decide_eq_true_iff]; simp only [List.length_cons]; omega)) ?_
  refine Eq.trans s2b_h ?_
  refine Eq.trans (len_slc (b := ⟨E5, bytesAV [a, b, c, e]⟩) rfl) ?_
  refine Eq.trans (pl_int rfl) ?_
  obtain ⟨f, hf⟩ : ∃ f : Nat, 1000000000000000000 = f + 5 := ⟨999999999999999995, rfl⟩
  rw [hf]
  exact get_go d f a b c e)
theorem str_ge {s : List UInt8} {i : Nat} (h : i < s.length) : Option.map (fun b : UInt8 => AV.int .u8 (b.toNat : Int)) s[i]? = some (.int .u8 ((s.getD i 0).toNat : Int)) := by rw [List.getElem?_eq_getElem h, List.getD_eq_getElem?_getD, List.getElem?_eq_getElem h]; rfl
theorem s28 (d : Nat) (s : List UInt8) (n : Nat) (hl : s.length < 1000000000000000000) (hn : n < 1000000000000000000) : pcall M (d + 3) 28 [.str s, .int .i64 (n : Nat)] = some (.int .i64 (openF s n)) := told (r28 C0 (d + 2) _ _) (by
  rw [i64_small (by omega) (by omega)]
  unfold openF
  by_cases h1 : s.length < n + 4
  · rw [decide_eq_true (by omega), cnd_t, if_pos h1]
  · rw [decide_eq_false (by omega), cnd_f, if_neg h1]
    by_cases h2 : s.length > n + 4
    · rw [decide_eq_true (by omega), cnd_t, if_pos h2]
    · rw [decide_eq_false (by omega), cnd_f, if_neg h2, decide_eq_true (by omega), cnd_t, show ((n : Nat) : Int).toNat = n by omega, List.drop_zero, List.take_length]
      refine Eq.trans (pl_int (s38 d (s.take n) (by simp; omega))) ?_
      rw [cnd_t]
      refine Eq.trans (pl_int (s29 (d + 1) (s.drop n) (by simp; omega))) ?_
      by_cases h3 : w32 (crcF (s.take n)) = num4 (s.drop n)
      · rw [if_neg (by rw [h3]; simp), h3, bne_self_eq_false]; rfl
      · rw [if_pos h3, bne_iff_ne.mpr h3]; rfl)
theorem s35 (d : Nat) (n b : Int) : pcall M (d + 1) 35 [.int .i64 n, .int .i64 b] = some (.bool (decide (0 ≤ n ∧ n ≤ b))) := told (r35 C0 d _ _) (by
  by_cases h : n ≥ 0
  · rw [decide_eq_true h, cnd_t]; congr 2; rw [decide_eq_decide]; omega
  · rw [decide_eq_false h, cnd_f, decide_eq_false (by omega)])
theorem s37 (d : Nat) (n b : Int) : pcall M (d + 1) 37 [.int .i64 n, .int .i64 b] = some (.bool (decide (0 ≤ n ∧ n ≤ b))) := told (r37 C0 d _ _) (by
  by_cases h : n ≥ 0
  · rw [decide_eq_true h, cnd_t]; congr 2; rw [decide_eq_decide]; omega
  · rw [decide_eq_false h, cnd_f, decide_eq_false (by omega)])
theorem cnd_dec {p q : Prop} [Decidable p] [Decidable q] [Decidable (p ∧ q)] {x : Ans} (hx : x = some (.bool (decide q))) : cnd (decide p) x (some (.bool false)) = some (.bool (decide (p ∧ q))) := by
  by_cases h : p
  · rw [decide_eq_true h, cnd_t, hx]; congr 2; rw [decide_eq_decide]; simp [h]
  · rw [decide_eq_false h, cnd_f, decide_eq_false (fun k => h k.1)]
abbrev in0 (n b : Int) : Prop := 0 ≤ n ∧ n ≤ b
def WhereOk (c p s : Int) : Prop := in0 c 1000000 ∧ in0 p 3 ∧ in0 s 2
instance (c p s : Int) : Decidable (WhereOk c p s) := by unfold WhereOk; infer_instance
theorem s36 (d : Nat) (c p s : Int) : pcall M (d + 2) 36 [.int .i64 c, .int .i64 p, .int .i64 s] = some (.bool (decide (WhereOk c p s))) := told (r36 C0 (d + 1) _ _ _) (by
  refine Eq.trans (pl_bool (s37 d _ _)) ?_
  refine cnd_dec (q := in0 p 3 ∧ in0 s 2) ?_
  refine Eq.trans (pl_bool (s37 d _ _)) ?_
  refine cnd_dec (q := in0 s 2) ?_
  exact Eq.trans (pl_bool (s37 d _ _)) rfl)
structure Wrd where
  c : Int
  p : Int
  s : Int
  w : Int
abbrev wr (x : Wrd) : AV := .agg [.int .i64 x.c, .int .i64 x.p, .int .i64 x.s, .int .i64 x.w]
def WordOk (x : Wrd) : Prop := WhereOk x.c x.p x.s ∧ in0 x.w 15
instance (x : Wrd) : Decidable (WordOk x) := by unfold WordOk; infer_instance
theorem s25 (d : Nat) (x : Wrd) : pcall M (d + 3) 25 [wr x] = some (.bool (decide (WordOk x))) := told (r25 C0 (d + 2) _ _ _ _) (by
  refine Eq.trans (pl_bool (s36 d _ _ _)) ?_
  refine cnd_dec (q := in0 x.w 15) ?_
  exact Eq.trans (pl_bool (s37 (d + 1) _ _)) rfl)
theorem s23 (d : Nat) (x : Wrd) : pcall M (d + 2) 23 [wr x] = some (.bool (decide (WordOk x))) := told (r23 C0 (d + 1) _ _ _ _) (by
  have e : decide (WordOk x) = decide (in0 x.c 1000000 ∧ in0 x.p 3 ∧ in0 x.s 2 ∧ in0 x.w 15) := by rw [decide_eq_decide]; unfold WordOk WhereOk; simp only [and_assoc]
  rw [e]
  refine Eq.trans (pl_bool (s35 d _ _)) ?_
  refine cnd_dec (q := in0 x.p 3 ∧ in0 x.s 2 ∧ in0 x.w 15) ?_
  refine Eq.trans (pl_bool (s35 d _ _)) ?_
  refine cnd_dec (q := in0 x.s 2 ∧ in0 x.w 15) ?_
  refine Eq.trans (pl_bool (s35 d _ _)) ?_
  refine cnd_dec (q := in0 x.w 15) ?_
  exact Eq.trans (pl_bool (s35 d _ _)) rfl)
structure Rep7 where
  c : Int
  p : Int
  s : Int
  v : Int
  d : Int
  i : Int
  x : Int
  y : Int
  f : Int
abbrev rp (r : Rep7) : AV := .agg [.int .i64 r.c, .int .i64 r.p, .int .i64 r.s, .int .i64 r.v, .int .i64 r.d, .int .i64 r.i, .int .i64 r.x, .int .i64 r.y, .int .i64 r.f]
def RepOk (r : Rep7) : Prop := in0 r.v 255 ∧ in0 r.d 255 ∧ in0 r.i 255 ∧ in0 r.f 255 ∧ WhereOk r.c r.p r.s ∧ in0 r.x 4 ∧ in0 r.y 4
instance (r : Rep7) : Decidable (RepOk r) := by unfold RepOk; infer_instance
theorem s24 (d : Nat) (x : Rep7) : pcall M (d + 2) 24 [rp x] = some (.bool (decide (RepOk x))) := told (r24 C0 (d + 1) _ _ _ _ _ _ _ _ _) (by
  have e : decide (RepOk x) = decide (in0 x.c 1000000 ∧ in0 x.p 3 ∧ in0 x.s 2 ∧ in0 x.v 255 ∧ in0 x.d 255 ∧ in0 x.i 255 ∧ in0 x.x 4 ∧ in0 x.y 4 ∧ in0 x.f 255) := by
    rw [decide_eq_decide]; unfold RepOk WhereOk
    constructor
    · rintro ⟨h1, h2, h3, h4, ⟨h5, h6, h7⟩, h8, h9⟩; exact ⟨h5, h6, h7, h1, h2, h3, h8, h9, h4⟩
    · rintro ⟨h5, h6, h7, h1, h2, h3, h8, h9, h4⟩; exact ⟨h1, h2, h3, h4, ⟨h5, h6, h7⟩, h8, h9⟩
  rw [e]
  refine Eq.trans (pl_bool (s35 d _ _)) ?_
  refine cnd_dec (q := in0 x.p 3 ∧ in0 x.s 2 ∧ in0 x.v 255 ∧ in0 x.d 255 ∧ in0 x.i 255 ∧ in0 x.x 4 ∧ in0 x.y 4 ∧ in0 x.f 255) ?_
  refine Eq.trans (pl_bool (s35 d _ _)) ?_
  refine cnd_dec (q := in0 x.s 2 ∧ in0 x.v 255 ∧ in0 x.d 255 ∧ in0 x.i 255 ∧ in0 x.x 4 ∧ in0 x.y 4 ∧ in0 x.f 255) ?_
  refine Eq.trans (pl_bool (s35 d _ _)) ?_
  refine cnd_dec (q := in0 x.v 255 ∧ in0 x.d 255 ∧ in0 x.i 255 ∧ in0 x.x 4 ∧ in0 x.y 4 ∧ in0 x.f 255) ?_
  refine Eq.trans (pl_bool (s35 d _ _)) ?_
  refine cnd_dec (q := in0 x.d 255 ∧ in0 x.i 255 ∧ in0 x.x 4 ∧ in0 x.y 4 ∧ in0 x.f 255) ?_
  refine Eq.trans (pl_bool (s35 d _ _)) ?_
  refine cnd_dec (q := in0 x.i 255 ∧ in0 x.x 4 ∧ in0 x.y 4 ∧ in0 x.f 255) ?_
  refine Eq.trans (pl_bool (s35 d _ _)) ?_
  refine cnd_dec (q := in0 x.x 4 ∧ in0 x.y 4 ∧ in0 x.f 255) ?_
  refine Eq.trans (pl_bool (s35 d _ _)) ?_
  refine cnd_dec (q := in0 x.y 4 ∧ in0 x.f 255) ?_
  refine Eq.trans (pl_bool (s35 d _ _)) ?_
  refine cnd_dec (q := in0 x.f 255) ?_
  exact Eq.trans (pl_bool (s35 d _ _)) rfl)
end Go.Proofs.Ytoceckjagfhfmaa.AE

namespace Go.Proofs.Ytoceckjagfhfmaa.AE
set_option linter.unusedVariables false
set_option linter.unusedSimpArgs false
set_option linter.constructorNameAsVariable false
open Go Go.Proofs.Ytoceckjagfhfmaa.Geo
attribute [local irreducible] pcall C0
set_option maxRecDepth 100000
theorem u32_small {n : Int} (h : 0 ≤ n) (h' : n < 4294967296) : IntKind.wrap .u32 n = n := by rw [u32w]; omega
theorem where_bd {c p s : Int} (h : WhereOk c p s) : 0 ≤ c ∧ c ≤ 1000000 ∧ 0 ≤ p ∧ p ≤ 3 ∧ 0 ≤ s ∧ s ≤ 2 := by
  obtain ⟨⟨h1, h2⟩, ⟨h3, h4⟩, h5, h6⟩ := h; exact ⟨h1, h2, h3, h4, h5, h6⟩
def wordF (x : Wrd) : List UInt8 := be4 x.c ++ [by8 (x.p + 16 * x.s), by8 x.w]
def printW (x : Wrd) : List UInt8 := if WordOk x then sealF (wordF x) else []
def zW : Wrd := ⟨0, 0, 0, 0⟩
def bt8 (s : List UInt8) (i : Nat) : Int := ((s.getD i 0).toNat : Int)
theorem bt8_bd (s : List UInt8) (i : Nat) : 0 ≤ bt8 s i ∧ bt8 s i < 256 := ⟨Int.natCast_nonneg _, u8lt _⟩
def takenW (s : List UInt8) : Wrd := ⟨num4 s, bt8 s 4 % 16, bt8 s 4 / 16, bt8 s 5⟩
def readW (s : List UInt8) : Wrd × Int := if openF s 6 ≠ 0 then (zW, openF s 6) else if WordOk (takenW s) then (takenW s, 0) else (zW, 3)
abbrev wrT (r : Wrd × Int) : AV := .tup [wr r.1, .int .i64 r.2]
theorem s9 (d : Nat) (x : Wrd) : pcall M (d + 4) 9 [wr x] = some (.str (printW x)) := told (r9 C0 (d + 3) _ _ _ _) (by
  refine Eq.trans (pl_bool (s25 d x)) ?_
  unfold printW
  by_cases h : WordOk x
  rotate_left
  · rw [decide_eq_false h, if_neg h]; rfl
  rw [decide_eq_true h, if_pos h]
  refine Eq.trans (pl_f (by rfl)) ?_
  obtain ⟨h1, h2, h3, h4, h5, h6⟩ := where_bd h.1
  rw [u32_small h1 (by omega), i64_small (n := 16 * x.s) (by omega) (by omega), i64_small (n := x.p + 16 * x.s) (by omega) (by omega)]
  simp only [by8e, fd24, fd16, fd8]
  refine Eq.trans (pl_int (s38 (d + 1) (wordF x) (by simp [wordF, be4]))) ?_
  rfl)
theorem tdiv16 {n : Int} (h : 0 ≤ n) (h' : n < 256) : IntKind.wrap .i64 (IntKind.wrap .u8 (Int.tdiv n 16)) = n / 16 := by
  rw [Int.tdiv_eq_ediv_of_nonneg h, u8w, i64_small (by omega) (by omega)]; omega
theorem tmod16 {n : Int} (h : 0 ≤ n) (h' : n < 256) : IntKind.wrap .i64 (Int.tmod n 16) = n % 16 := by
  rw [Int.tmod_eq_emod_of_nonneg h, i64_small (by omega) (by omega)]
theorem i64_b {n : Int} (h : 0 ≤ n) (h' : n < 256) : IntKind.wrap .i64 n = n := i64_small (by omega) (by omega)
theorem s10 (d : Nat) (s : List UInt8) (hl : s.length < 1000000000000000000) : pcall M (d + 4) 10 [.str s] = some (wrT (readW s)) := told (r10 C0 (d + 3) _) (by
  refine Eq.trans (pl_int (s28 d s 6 hl (by decide))) ?_
  unfold readW
  by_cases h : openF s 6 = 0
  rotate_left
  · rw [if_pos h, bne_iff_ne.mpr h]; rfl
  rw [if_neg (by simp [h]), h]
  refine Eq.trans (pl_f (by rfl)) ?_
  have hs := (open_is h).1
  refine Eq.trans (pl_int (s29 (d + 2) s (by omega))) ?_
  refine Eq.trans (pl_int (str_ge (by omega))) ?_
  refine Eq.trans (pl_int (str_ge (by omega))) ?_
  refine Eq.trans (pl_int (str_ge (by omega))) ?_
  obtain ⟨b1, b2⟩ := bt8_bd s 4
  obtain ⟨b3, b4⟩ := bt8_bd s 5
  obtain ⟨b5, b6⟩ := num4_bd s
  have e1 : IntKind.wrap .i64 ((s.getD 5 0).toNat : Int) = bt8 s 5 := i64_b b3 b4
  have e2 : IntKind.wrap .i64 (IntKind.wrap .u8 (Int.tdiv ((s.getD 4 0).toNat : Int) 16)) = bt8 s 4 / 16 := tdiv16 b1 b2
  have e3 : IntKind.wrap .i64 (Int.tmod ((s.getD 4 0).toNat : Int) 16) = bt8 s 4 % 16 := tmod16 b1 b2
  rw [e1, e2, e3, i64_small (n := num4 s) (by omega) (by omega)]
  refine Eq.trans (pl_bool (s25 d (takenW s))) ?_
  by_cases hw : WordOk (takenW s)
  · rw [decide_eq_true hw, if_pos hw]; rfl
  · rw [decide_eq_false hw, if_neg hw]; rfl)
theorem taken_word {x : Wrd} (h : WordOk x) (t : List UInt8) : takenW (wordF x ++ t) = x := by
  obtain ⟨h1, h2, h3, h4, h5, h6⟩ := where_bd h.1
  obtain ⟨h7, h8⟩ := h.2
  obtain ⟨c, p, s, w⟩ := x
  simp only at *
  unfold takenW wordF
  rw [List.append_assoc, num4_be4 h1 (by omega)]
  have e4 : bt8 (be4 c ++ ([by8 (p + 16 * s), by8 w] ++ t)) 4 = p + 16 * s := by
    show ((by8 (p + 16 * s)).toNat : Int) = _
    rw [by8_n]; omega
  have e5 : bt8 (be4 c ++ ([by8 (p + 16 * s), by8 w] ++ t)) 5 = w := by
    show ((by8 w).toNat : Int) = _
    rw [by8_n]; omega
  rw [e4, e5]
  congr 1
  · omega
  · omega
theorem read_printW {x : Wrd} (h : WordOk x) : readW (printW x) = (x, 0) := by
  unfold readW printW
  rw [if_pos h]
  have hl : (wordF x).length = 6 := rfl
  have := open_seal (wordF x)
  rw [hl] at this
  rw [if_neg (by simp [this])]
  have e : takenW (sealF (wordF x)) = x := taken_word h _
  rw [e, if_pos h]
end Go.Proofs.Ytoceckjagfhfmaa.AE

namespace Go.Proofs.Ytoceckjagfhfmaa.AE
set_option linter.unusedVariables false
set_option linter.unusedSimpArgs false
set_option linter.constructorNameAsVariable false
open Go Go.Proofs.Ytoceckjagfhfmaa.Geo
attribute [local irreducible] pcall C0
set_option maxRecDepth 100000
theorem s34 (d : Nat) (x : Rep7) : pcall M (d + 3) 34 [rp x] = some (.bool (decide (RepOk x))) := told (r34 C0 (d + 2) _ _ _ _ _ _ _ _ _) (by
  refine Eq.trans (pl_bool (s37 (d + 1) _ _)) ?_
  by_cases h1 : in0 x.v 255
  rotate_left
  · rw [decide_eq_false h1, decide_eq_false (fun k : RepOk x => h1 k.1)]; rfl
  rw [decide_eq_true h1]
  refine Eq.trans (pl_f (by rfl)) ?_
  refine Eq.trans (pl_bool (s37 (d + 1) _ _)) ?_
  by_cases h2 : in0 x.d 255
  rotate_left
  · rw [decide_eq_false h2, decide_eq_false (fun k : RepOk x => h2 k.2.1)]; rfl
  rw [decide_eq_true h2]
  refine Eq.trans (pl_f (by rfl)) ?_
  refine Eq.trans (pl_bool (s37 (d + 1) _ _)) ?_
  by_cases h3 : in0 x.i 255
  rotate_left
  · rw [decide_eq_false h3, decide_eq_false (fun k : RepOk x => h3 k.2.2.1)]; rfl
  rw [decide_eq_true h3]
  refine Eq.trans (pl_f (by rfl)) ?_
  refine Eq.trans (pl_bool (s37 (d + 1) _ _)) ?_
  by_cases h4 : in0 x.f 255
  rotate_left
  · rw [decide_eq_false h4, decide_eq_false (fun k : RepOk x => h4 k.2.2.2.1)]; rfl
  rw [decide_eq_true h4]
  refine Eq.trans (pl_f (by rfl)) ?_
  have e : decide (RepOk x) = decide (WhereOk x.c x.p x.s ∧ in0 x.x 4 ∧ in0 x.y 4) := by rw [decide_eq_decide]; exact ⟨fun k => k.2.2.2.2, fun k => ⟨h1, h2, h3, h4, k⟩⟩
  rw [e]
  refine Eq.trans (pl_bool (s36 d _ _ _)) ?_
  refine cnd_dec (q := in0 x.x 4 ∧ in0 x.y 4) ?_
  refine Eq.trans (pl_bool (s37 (d + 1) _ _)) ?_
  refine cnd_dec (q := in0 x.y 4) ?_
  exact Eq.trans (pl_bool (s37 (d + 1) _ _)) rfl)
def repF (x : Rep7) : List UInt8 := be4 x.c ++ [by8 (x.p + 16 * x.s), by8 x.v, by8 x.d, by8 x.i, by8 (x.x + 16 * x.y), by8 x.f]
def printR (x : Rep7) : List UInt8 := if RepOk x then sealF (repF x) else []
def zR : Rep7 := ⟨0, 0, 0, 0, 0, 0, 0, 0, 0⟩
def takenR (s : List UInt8) : Rep7 := ⟨num4 s, bt8 s 4 % 16, bt8 s 4 / 16, bt8 s 5, bt8 s 6, bt8 s 7, bt8 s 8 % 16, bt8 s 8 / 16, bt8 s 9⟩
def readR (s : List UInt8) : Rep7 × Int := if openF s 10 ≠ 0 then (zR, openF s 10) else if RepOk (takenR s) then (takenR s, 0) else (zR, 3)
abbrev rpT (r : Rep7 × Int) : AV := .tup [rp r.1, .int .i64 r.2]
theorem rep_bd {x : Rep7} (h : RepOk x) : (0 ≤ x.c ∧ x.c ≤ 1000000 ∧ 0 ≤ x.p ∧ x.p ≤ 3 ∧ 0 ≤ x.s ∧ x.s ≤ 2) ∧ (0 ≤ x.v ∧ x.v ≤ 255 ∧ 0 ≤ x.d ∧ x.d ≤ 255 ∧ 0 ≤ x.i ∧ x.i ≤ 255) ∧ 0 ≤ x.x ∧ x.x ≤ 4 ∧ 0 ≤ x.y ∧ x.y ≤ 4 ∧ 0 ≤ x.f ∧ x.f ≤ 255 := by
  obtain ⟨⟨a1, a2⟩, ⟨a3, a4⟩, ⟨a5, a6⟩, ⟨a7, a8⟩, hw, ⟨b1, b2⟩, b3, b4⟩ := h
  exact ⟨where_bd hw, ⟨a1, a2, a3, a4, a5, a6⟩, b1, b2, b3, b4, a7, a8⟩
theorem s14 (d : Nat) (x : Rep7) : pcall M (d + 4) 14 [rp x] = some (.str (printR x)) := told (r14 C0 (d + 3) _ _ _ _ _ _ _ _ _) (by
  refine Eq.trans (pl_bool (s34 d x)) ?_
  unfold printR
  by_cases h : RepOk x
  rotate_left
  · rw [decide_eq_false h, if_neg h]; rfl
  rw [decide_eq_true h, if_pos h]
  refine Eq.trans (pl_f (by rfl)) ?_
  obtain ⟨⟨h1, h2, h3, h4, h5, h6⟩, _, g1, g2, g3, g4, _⟩ := rep_bd h
  rw [u32_small h1 (by omega), i64_small (n := 16 * x.s) (by omega) (by omega), i64_small (n := x.p + 16 * x.s) (by omega) (by omega), i64_small (n := 16 * x.y) (by omega) (by omega), i64_small (n := x.x + 16 * x.y) (by omega) (by omega)]
  simp only [by8e, fd24, fd16, fd8]
  refine Eq.trans (pl_int (s38 (d + 1) (repF x) (by simp [repF, be4]))) ?_
  rfl)
theorem s15 (d : Nat) (s : List UInt8) (hl : s.length < 1000000000000000000) : pcall M (d + 4) 15 [.str s] = some (rpT (readR s)) := told (r15 C0 (d + 3) _) (by
  refine Eq.trans (pl_int (s28 d s 10 hl (by decide))) ?_
  unfold readR
  by_cases h : openF s 10 = 0
  rotate_left
  · rw [if_pos h, bne_iff_ne.mpr h]; rfl
  rw [if_neg (by simp [h]), h]
  refine Eq.trans (pl_f (by rfl)) ?_
  have hs := (open_is h).1
  refine Eq.trans (pl_int (s29 (d + 2) s (by omega))) ?_
  iterate 8 refine Eq.trans (pl_int (str_ge (by omega))) ?_
  obtain ⟨b1, b2⟩ := bt8_bd s 4
  obtain ⟨c1, c2⟩ := bt8_bd s 8
  obtain ⟨b5, b6⟩ := num4_bd s
  have e2 : IntKind.wrap .i64 (IntKind.wrap .u8 (Int.tdiv ((s.getD 4 0).toNat : Int) 16)) = bt8 s 4 / 16 := tdiv16 b1 b2
  have e3 : IntKind.wrap .i64 (Int.tmod ((s.getD 4 0).toNat : Int) 16) = bt8 s 4 % 16 := tmod16 b1 b2
  have e4 : IntKind.wrap .i64 (IntKind.wrap .u8 (Int.tdiv ((s.getD 8 0).toNat : Int) 16)) = bt8 s 8 / 16 := tdiv16 c1 c2
  have e5 : IntKind.wrap .i64 (Int.tmod ((s.getD 8 0).toNat : Int) 16) = bt8 s 8 % 16 := tmod16 c1 c2
  have f5 : IntKind.wrap .i64 ((s.getD 5 0).toNat : Int) = bt8 s 5 := i64_b (bt8_bd s 5).1 (bt8_bd s 5).2
  have f6 : IntKind.wrap .i64 ((s.getD 6 0).toNat : Int) = bt8 s 6 := i64_b (bt8_bd s 6).1 (bt8_bd s 6).2
  have f7 : IntKind.wrap .i64 ((s.getD 7 0).toNat : Int) = bt8 s 7 := i64_b (bt8_bd s 7).1 (bt8_bd s 7).2
  have f9 : IntKind.wrap .i64 ((s.getD 9 0).toNat : Int) = bt8 s 9 := i64_b (bt8_bd s 9).1 (bt8_bd s 9).2
  rw [e2, e3, e4, e5, f5, f6, f7, f9, i64_small (n := num4 s) (by omega) (by omega)]
  refine Eq.trans (pl_bool (s34 d (takenR s))) ?_
  by_cases hw : RepOk (takenR s)
  · rw [decide_eq_true hw, if_pos hw]; rfl
  · rw [decide_eq_false hw, if_neg hw]; rfl)
theorem taken_rep {x : Rep7} (h : RepOk x) (t : List UInt8) : takenR (repF x ++ t) = x := by
  obtain ⟨⟨h1, h2, h3, h4, h5, h6⟩, ⟨k1, k2, k3, k4, k5, k6⟩, g1, g2, g3, g4, g5, g6⟩ := rep_bd h
  obtain ⟨c, p, s, v, e, i, x, y, f⟩ := x
  simp only at *
  unfold takenR repF
  simp only
  rw [List.append_assoc, num4_be4 h1 (by omega)]
  generalize hr : ([by8 (p + 16 * s), by8 v, by8 e, by8 i, by8 (x + 16 * y), by8 f] ++ t) = r
  have q4 : bt8 (be4 c ++ r) 4 = p + 16 * s := by subst hr; show ((by8 (p + 16 * s)).toNat : Int) = _; rw [by8_n]; omega
  have q5 : bt8 (be4 c ++ r) 5 = v := by subst hr; show ((by8 v).toNat : Int) = _; rw [by8_n]; omega
  have q6 : bt8 (be4 c ++ r) 6 = e := by subst hr; show ((by8 e).toNat : Int) = _; rw [by8_n]; omega
  have q7 : bt8 (be4 c ++ r) 7 = i := by subst hr; show ((by8 i).toNat : Int) = _; rw [by8_n]; omega
  have q8 : bt8 (be4 c ++ r) 8 = x + 16 * y := by subst hr; show ((by8 (x + 16 * y)).toNat : Int) = _; rw [by8_n]; omega
  have q9 : bt8 (be4 c ++ r) 9 = f := by subst hr; show ((by8 f).toNat : Int) = _; rw [by8_n]; omega
  rw [q4, q5, q6, q7, q8, q9]
  congr 1 <;> omega
theorem read_printR {x : Rep7} (h : RepOk x) : readR (printR x) = (x, 0) := by
  unfold readR printR
  rw [if_pos h]
  have hl : (repF x).length = 10 := rfl
  have := open_seal (repF x)
  rw [hl] at this
  rw [if_neg (by simp [this])]
  have e : takenR (sealF (repF x)) = x := taken_rep h _
  rw [e, if_pos h]
def comF (c : Int) : List UInt8 := [by8 c, by8 (Go.bits .xor .u8 (c % 256) 85), by8 (Go.bits .xor .u8 (c % 256) 170), by8 (Go.bits .xor .u8 (c % 256) 255)]
def printC (c : Int) : List UInt8 := if c < 1 ∨ c > 3 then [] else sealF (comF c)
def readC (s : List UInt8) : Int × Int := if openF s 4 ≠ 0 then (0, openF s 4) else if printC (bt8 s 0) = s then (bt8 s 0, 0) else (0, 3)
abbrev cT (r : Int × Int) : AV := .tup [.int .i64 r.1, .int .i64 r.2]
theorem by8x (n m : Int) : UInt8.ofNat (Int.toNat (Go.bits .xor .u8 n m)) = by8 (Go.bits .xor .u8 n m) := by
  unfold by8
  show UInt8.ofNat (Int.toNat (IntKind.u8.wrap _)) = UInt8.ofNat (Int.toNat (IntKind.u8.wrap _ % 256))
  rw [u8w, Int.emod_emod_of_dvd _ (by decide)]
theorem s19 (d : Nat) (c : Int) : pcall M (d + 3) 19 [.int .i64 c] = some (.str (printC c)) := told (r19 C0 (d + 2) _) (by
  unfold printC
  by_cases h1 : c < 1
  · rw [decide_eq_true h1, if_pos (.inl h1)]; rfl
  rw [decide_eq_false h1, cnd_f]
  by_cases h2 : c > 3
  · rw [decide_eq_true h2, if_pos (.inr h2)]; rfl
  rw [decide_eq_false h2, cnd_f, if_neg (by omega)]
  simp only [by8e, fd24, fd16, fd8, by8x, u8w]
  refine Eq.trans (pl_int (s38 d (comF c) (by simp [comF]))) ?_
  rfl)
theorem s20 (d : Nat) (s : List UInt8) (hl : s.length < 1000000000000000000) : pcall M (d + 4) 20 [.str s] = some (cT (readC s)) := told (r20 C0 (d + 3) _) (by
  refine Eq.trans (pl_int (s28 d s 4 hl (by decide))) ?_
  unfold readC
  by_cases h : openF s 4 = 0
  rotate_left
  · rw [if_pos h, bne_iff_ne.mpr h]; rfl
  rw [if_neg (by simp [h]), h]
  refine Eq.trans (pl_f (by rfl)) ?_
  have hs := (open_is h).1
  refine Eq.trans (pl_int (str_ge (by omega))) ?_
  have f0 : IntKind.wrap .i64 ((s.getD 0 0).toNat : Int) = bt8 s 0 := i64_b (bt8_bd s 0).1 (bt8_bd s 0).2
  rw [f0]
  refine Eq.trans (pl_str (s19 d _)) ?_
  by_cases hp : printC (bt8 s 0) = s
  · rw [if_pos hp, beq_iff_eq.mpr hp]; rfl
  · rw [if_neg hp, beq_eq_false_iff_ne.mpr hp]; rfl)
theorem read_printC {c : Int} (h : 1 ≤ c) (h' : c ≤ 3) : readC (printC c) = (c, 0) := by
  have hp : printC c = sealF (comF c) := by unfold printC; rw [if_neg (by omega)]
  unfold readC
  rw [hp]
  have hl : (comF c).length = 4 := rfl
  have := open_seal (comF c)
  rw [hl] at this
  rw [if_neg (by simp [this])]
  have e : bt8 (sealF (comF c)) 0 = c := by
    show ((by8 c).toNat : Int) = _
    rw [by8_n]; omega
  rw [e, if_pos hp]
end Go.Proofs.Ytoceckjagfhfmaa.AE

namespace Go.Proofs.Ytoceckjagfhfmaa.AE
set_option linter.unusedVariables false
set_option linter.unusedSimpArgs false
set_option linter.constructorNameAsVariable false
open Go

noncomputable section
variable {α : Type}
def foN (m : Nat) (K : Nat → α) : α := Nat.rec (motive := fun _ => α) (K 0) (fun p _ => K (Nat.succ p)) m
theorem foN_eq (m : Nat) (K : Nat → α) : foN m K = K m := by cases m <;> rfl
def foI (n : Int) (K : Int → α) : α := match n with
  | .ofNat m => foN m fun m => K (.ofNat m)
  | .negSucc m => foN m fun m => K (.negSucc m)
theorem foI_eq (n : Int) (K : Int → α) : foI n K = K n := by cases n <;> simp only [foI, foN_eq]
def foB (b : Bool) (K : Bool → α) : α := match b with
  | true => K true
  | false => K false
theorem foB_eq (b : Bool) (K : Bool → α) : foB b K = K b := by cases b <;> rfl
def foY (b : UInt8) (K : UInt8 → α) : α := foN b.toNat fun n => K (UInt8.ofNat n)
theorem foY_eq (b : UInt8) (K : UInt8 → α) : foY b K = K b := by unfold foY; rw [foN_eq]; congr 1; simp
/-- A list's elements, one by one. -/
def foL {β : Type} (f : β → (β → α) → α) : List β → (List β → α) → α
  | [], K => K []
  | x :: l, K => f x fun x => foL f l fun l => K (x :: l)
theorem foL_eq {β : Type} {f : β → (β → α) → α} (h : ∀ x K, f x K = K x) : ∀ (l : List β) (K : List β → α), foL f l K = K l
  | [], K => rfl
  | x :: l, K => by simp only [foL, h, foL_eq h l]
def foS {β : Type} : List β → (List β → α) → α
  | [], K => K []
  | x :: l, K => foS l fun l => K (x :: l)
theorem foS_eq {β : Type} : ∀ (l : List β) (K : List β → α), foS l K = K l
  | [], K => rfl
  | x :: l, K => by simp only [foS, foS_eq l]
def foV : Nat → AV → (AV → α) → α
  | 0, v, K => K v
  | d + 1, v, K => match v with
    | .int k n => foI n fun n => K (.int k n)
    | .bool b => foB b fun b => K (.bool b)
    | .str s => foL foY s fun s => K (.str s)
    | .zsl b => foB b fun b => K (.zsl b)
    | .ptr a b c => foN a fun a => foN b fun b => foN c fun c => K (.ptr a b c)
    | .slc a b c => foN a fun a => foN b fun b => foN c fun c => K (.slc a b c)
    | .lst l => foL (foV d) l fun l => K (.lst l)
    | .fptr v j => foV d v fun v => foN j fun j => K (.fptr v j)
    | .agg l => foL (foV d) l fun l => K (.agg l)
    | .tup l => foL (foV d) l fun l => K (.tup l)
    | .fn g a b => foN g fun g => foL (foV d) a fun a => foL (foV d) b fun b => K (.fn g a b)
    | v => K v
theorem foV_eq : ∀ (d : Nat) (v : AV) (K : AV → α), foV d v K = K v
  | 0, v, K => rfl
  | d + 1, v, K => by
    have ih : ∀ (v : AV) (K : AV → α), foV d v K = K v := foV_eq d
    cases v <;> simp only [foV, foI_eq, foB_eq, foN_eq, foL_eq foY_eq, foL_eq ih, ih]
def foBlk (b : Option Blk) (K : Option Blk → α) : α := match b with
  | none => K none
  | some ⟨e, els⟩ => foL (foV 2) els fun els => K (some ⟨e, els⟩)
theorem foBlk_eq (b : Option Blk) (K : Option Blk → α) : foBlk b K = K b := by
  match b with
  | none => rfl
  | some ⟨e, els⟩ => simp only [foBlk, foL_eq (foV_eq 2)]
def foH (H : Heap) (K : Heap → α) : α := foL foBlk H K
theorem foH_eq (H : Heap) (K : Heap → α) : foH H K = K H := foL_eq foBlk_eq H K

/-- Operations that may change memory. -/
def wrH : IOp → Bool
  | .box .. | .alloc .. | .mkrow .. | .store .. | .s2b .. | .mkslice .. | .app .. => true
  | _ => false
def foW (o : IOp) (H : Heap) (K : Heap → α) : α := match wrH o with
  | true => foH H K
  | false => K H
theorem foW_eq (o : IOp) (H : Heap) (K : Heap → α) : foW o H K = K H := by unfold foW; cases wrH o <;> simp only [foH_eq]

/-- How deep a value is told after an operation. -/
def depV : IOp → Nat
  | .call .. => 2
  | _ => 1
/-- A list with another element. -/
def foP : List AV → Nat → AV → (List AV → α) → α
  | [], _, _, K => K []
  | x :: l, 0, v, K => K (v :: l)
  | x :: l, n + 1, v, K => foP l n v fun l => K (x :: l)
theorem foP_eq : ∀ (l : List AV) (n : Nat) (v : AV) (K : List AV → α), foP l n v K = K (l.set n v)
  | [], n, v, K => by cases n <;> rfl
  | x :: l, 0, v, K => rfl
  | x :: l, n + 1, v, K => by simp only [foP, foP_eq l, List.set_cons_succ]
def foO (env : List AV) (d : Option Nat) (v : AV) (K : List AV → α) : α := match d with
  | some d => foP env d v K
  | none => K env
theorem foO_eq (env : List AV) (d : Option Nat) (v : AV) (K : List AV → α) : foO env d v K = K (put env d v) := by cases d <;> simp only [foO, put, foP_eq]
def runOpsF (call : CallF) : List IOper → List AV → Heap → Option St
  | [], env, H => some ⟨env, H⟩
  | o :: l, env, H => match want env o.guard with
    | some true => match aop call (evO env) H o.op with
      | some (v, H) => foV (depV o.op) v fun v => foW o.op H fun H => foO env o.dst v fun env => runOpsF call l env H
      | none => none
    | some false => foO env o.dst (.tup []) fun env => runOpsF call l env H
    | none => none
theorem runOpsF_eq (call : CallF) : ∀ (l : List IOper) (env : List AV) (H : Heap), runOpsF call l env H = runOps call l ⟨env, H⟩
  | [], env, H => rfl
  | o :: l, env, H => by
    simp only [runOpsF, runOps, foV_eq, foW_eq, foO_eq, runOpsF_eq call l]
    rfl
def runOpsDF (call callP : CallF) : List (IOper × List Nat) → Nat → List (Nat × Nat) → List AV → Heap → Option St
  | [], _, _, env, H => some ⟨env, H⟩
  | (o, chk) :: l, i, log, env, H => match want env o.guard with
    | some true =>
      foS (touch (evO env) H o.op) fun tc =>
      if log.all (fun p => !(chk.contains p.1) || !(tc.contains p.2)) then
        match aop (bif isFull chk then call else callP) (evO env) H o.op with
        | some (v, H) => foV (depV o.op) v fun v => foW o.op H fun H => foO env o.dst v fun env => foN i fun i => foS (log ++ tc.map fun id => (i, id)) fun log => runOpsDF call callP l (i + 1) log env H
        | none => none
      else none
    | some false => foO env o.dst (.tup []) fun env => runOpsDF call callP l (i + 1) log env H
    | none => none
theorem runOpsDF_eq (call callP : CallF) : ∀ (l : List (IOper × List Nat)) (i : Nat) (log : List (Nat × Nat)) (env : List AV) (H : Heap), runOpsDF call callP l i log env H = runOpsD call callP l i log ⟨env, H⟩
  | [], _, _, env, H => rfl
  | (o, chk) :: l, i, log, env, H => by
    simp only [runOpsDF, runOpsD, foV_eq, foW_eq, foS_eq, foO_eq, foN_eq, runOpsDF_eq call callP l]
    rfl
def execF (call callP : CallF) (fu : Nat) : IC → St → Option (Ex × St)
  | .skip, s => some (.normal, s)
  | .regD ops, s => match s with
    | ⟨env, H⟩ => match runOpsDF call callP ops 0 [] env H with
      | some s' => some (.normal, s')
      | none => none
  | .reg ops, s => match s with
    | ⟨env, H⟩ => match runOpsF call ops env H with
      | some s' => some (.normal, s')
      | none => none
  | .seq a b, s => match execF call callP fu a s with
    | some (.normal, s') => execF call callP fu b s'
    | r => r
  | .cond c a b, s => match evO s.env c with
    | .bool t => bif t then execF call callP fu a s else execF call callP fu b s
    | _ => none
  | .block id a, s => match execF call callP fu a s with
    | some (.exit i, s') => if i = id then some (.normal, s') else some (.exit i, s')
    | r => r
  | .loop a, s => iter (execF call callP fu a) fu s
  | .exit id, s => some (.exit id, s)
  | .ret, s => some (.ret, s)
theorem execF_eq (call callP : CallF) (fu : Nat) : ∀ c, execF call callP fu c = exec call callP fu c
  | .skip => by funext s; rfl
  | .regD ops => by funext ⟨env, H⟩; simp only [execF, exec, runOpsDF_eq]; rfl
  | .reg ops => by funext ⟨env, H⟩; simp only [execF, exec, runOpsF_eq]; rfl
  | .seq a b => by funext s; simp only [execF, exec, execF_eq call callP fu a, execF_eq call callP fu b]; rfl
  | .cond c a b => by funext s; simp only [execF, exec, execF_eq call callP fu a, execF_eq call callP fu b]; rfl
  | .block id a => by funext s; simp only [execF, exec, execF_eq call callP fu a]; rfl
  | .loop a => by funext s; simp only [execF, exec, execF_eq call callP fu a]
  | .exit id => by funext s; rfl
  | .ret => by funext s; rfl
def runFnF (call callP : CallF) (fu : Nat) (fn : AFn) (args : List AV) (H : Heap) : Option (AV × Heap) :=
  foL (foV 12) args fun args => foS (args ++ List.replicate (fn.ntmps - args.length) (.tup [])) fun env => match execF call callP fu fn.body ⟨env, H⟩ with
  | some (.normal, s) | some (.ret, s) => match resAll s fn.results with
    | some vs => some (packRes vs, s.H)
    | none => none
  | _ => none
theorem runFnF_eq : runFnF = runFn := by
  funext call callP fu fn args H
  simp only [runFnF, runFn, foL_eq (foV_eq 12), foS_eq, execF_eq]
  rfl
def freshF (rf : List AV → Heap → Option (AV × Heap)) (args : List AV) (H : Heap) : Option (AV × Heap) :=
  match rf args (padH H.length) with
  | some (v, H1) => match padOk H.length H1 with
    | true => some (v, H ++ H1.drop H.length)
    | false => none
  | none => none
def callBF (M : Mod) (pc : FuncId → List AV → Option AV) : Nat → Bool → CallF
  | 0, _ => callZ M pc
  | n + 1, b => fun g args H =>
    match M.ext g with
    | some e => extCall e g args H
    | none => if M.inl g then (match emptyR M pc g args with
      | some v => some (v, H)
      | none => match b with
        | true => match M.code g with
          | some fn => runFnF (callBF M pc n true) (callBF M pc n false) M.fu fn args H
          | none => none
        | false => match M.fr g && args.all (noId DEPTH) with
          | true => match M.code g with
            | some fn => freshF (runFnF (callBF M pc n true) (callBF M pc n false) M.fu fn) args H
            | none => none
          | false => pureCall pc g args H) else pureCall pc g args H
theorem callBF_eq (M : Mod) (pc : FuncId → List AV → Option AV) : ∀ n b, callBF M pc n b = callB M pc n b
  | 0, _ => rfl
  | n + 1, b => by funext g args H; simp only [callBF, callB, callBF_eq M pc n, runFnF_eq]; rfl
def pcallF (M : Mod) : Nat → FuncId → List AV → Option AV
  | 0 => fun _ _ => none
  | d + 1 => fun g args => match M.code g with
    | none => none
    | some fn => match runFnF (callBF M (pcallF M d) IDEPTH true) (callBF M (pcallF M d) IDEPTH false) M.fu fn args [] with
      | some (v, H') => foV 12 (snap DEPTH H' v) some
      | none => none
theorem pcallF_eq (M : Mod) : ∀ d, pcallF M d = pcall M d
  | 0 => rfl
  | d + 1 => by funext g args; simp only [pcallF, pcall, pcallF_eq M d, runFnF_eq, callBF_eq, foV_eq]; rfl
theorem ran {M : Mod} {d : Nat} {g : FuncId} {args : List AV} {r : AV} (h : pcallF M d g args = some r) : pcall M d g args = some r := by rw [← pcallF_eq]; exact h
end
end Go.Proofs.Ytoceckjagfhfmaa.AE

namespace Go.Proofs.Ytoceckjagfhfmaa.AE
set_option maxRecDepth 100000
theorem awake : pcall M 40 8 [] = some (.bool true) := ran (by kernel_rfl)
end Go.Proofs.Ytoceckjagfhfmaa.AE
