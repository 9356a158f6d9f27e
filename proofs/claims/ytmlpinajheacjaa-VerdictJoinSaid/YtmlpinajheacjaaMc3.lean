/- The texts that the seat's laws need, part 3. No conditions. -/
import Derived.Test.YtmlpinajheacjaaMc2
namespace Go.Proofs.Ytmlpinajheacjaa.AE
set_option linter.unusedVariables false
set_option linter.unusedSimpArgs false
set_option linter.constructorNameAsVariable false
open Go
theorem plus1 (d : Nat) (x y : List Int) (hx : Bits x) (hy : Bits y) (lx : x.length = 128) (ly : y.length = 128) : ∀ (k i f : Nat) (H : Heap) (v : AV) (out : List Int) (c : Int), i + k = 128 → k < f → out.length = i → Bits out → (c = 0 ∨ c = 1) →
    bin out + 2 ^ i * c = bin (x.take i) + bin (y.take i) → hget H 2 = some ⟨E99, [wd 0]⟩ → Own H E3 v (iv out) → ¬ names v 2 → 2 < H.length →
    L82_0 (d + 1) (.ptr 2 0 0) (.lst (iv x)) (.lst (iv y)) f v c (i : Nat) H = some (wd (bin x + bin y)) := by
  intro k
  induction k with
  | zero =>
    intro i f H v out c hi hf lo ob hc hs h2 ho hn hl
    obtain ⟨f, rfl⟩ : ∃ g, f = g + 1 := ⟨f - 1, by omega⟩
    obtain rfl : i = 128 := by omega
    rw [L82_0, decide_eq_false (by omega), cnd_f, X82_0_0, snp_own ho (by intro h; rw [h] at lo; simp at lo), s88 d out ob lo]
    refine Eq.trans (pl_agg (by rfl) (by rfl)) ?_; refine Eq.trans (pl_int (by rfl)) ?_; refine Eq.trans (pl_int (by rfl)) ?_; refine Eq.trans (pl_len (by rfl)) ?_
    rw [st_ptr h2 (by rfl) (by rfl)]
    refine Eq.trans (ld_ptr (hget_set hl) (by rfl) (by rfl)) ?_
    rw [List.take_of_length_le (by omega), List.take_of_length_le (by omega)] at hs
    have e2 : (2 : Int) ^ 128 = 340282366920938463463374607431768211456 := by decide
    rw [e2] at hs
    rw [wd_congr (a := bin x + bin y) (b := bin out) (by rw [← hs]; omega)]
    rfl
  | succ k ih =>
    intro i f H v out c hi hf lo ob hc hs h2 ho hn hl
    obtain ⟨f, rfl⟩ : ∃ g, f = g + 1 := ⟨f - 1, by omega⟩
    have i1 : i < x.length := by omega
    have i2 : i < y.length := by omega
    have g1 : (iv x)[((i : Nat) : Int).toNat]? = some (.int .i64 x[i]) := by rw [iv_at]; simp [i1]
    have g2 : (iv y)[((i : Nat) : Int).toNat]? = some (.int .i64 y[i]) := by rw [iv_at]; simp [i2]
    have bx := hx x[i] (List.getElem_mem _)
    have by' := hy y[i] (List.getElem_mem _)
    rw [L82_0, decide_eq_true (by omega), cnd_t]
    refine Eq.trans (ix_lst (by omega) g1 (by rfl)) ?_
    refine Eq.trans (hop_eq (by rfl)) ?_; refine Eq.trans (pl_int (by rfl)) ?_
    refine Eq.trans (ix_lst (by omega) g2 (by rfl)) ?_
    refine Eq.trans (hop_eq (by rfl)) ?_; refine Eq.trans (pl_int (by rfl)) ?_
    obtain ⟨t, ht⟩ : ∃ t, t = x[i] + y[i] + c := ⟨_, rfl⟩
    have ew : IntKind.wrap .i64 ((IntKind.wrap .i64 (x[i] + y[i])) + c) = t := by rw [i64w, i64w]; omega
    have e1 : Int.tmod t 2 = t % 2 := Int.tmod_eq_emod_of_nonneg (by omega)
    have e2 : Int.tdiv t 2 = t / 2 := Int.tdiv_eq_ediv_of_nonneg (by omega)
    have e3 : IntKind.wrap .i64 (t / 2) = t / 2 := i64_small (by omega) (by omega)
    rw [ew, e1, e2, e3]
    obtain ⟨v', H', e, ho', hn', hl', hk⟩ := app_one (x := .int .i64 (t % 2)) ho (by rfl) (by rw [iv_len, lo]; change (i + 1) * 8 ≤ _; omega) (by rw [iv_len, lo]; omega)
    rw [e, wrap_succ i (by omega)]
    refine ih (i + 1) f H' v' (out ++ [t % 2]) (t / 2) (by omega) (by omega) (by simp [lo]) (bits_app.mpr ⟨ob, by intro z hz; simp at hz; omega⟩) (by omega) ?_ (hk 2 _ hn h2) (by rw [iv_app]; exact ho') (fun hc => by have := hn' 2 hc; omega) (by omega)
    rw [bin_app, lo, bin_take i1, bin_take i2, Int.pow_succ]
    simp only [bin]
    have e4 : t = t % 2 + 2 * (t / 2) := by omega
    have : bin out + 2 ^ i * (t % 2 + 2 * 0) + 2 ^ i * 2 * (t / 2) = bin out + 2 ^ i * (t % 2 + 2 * (t / 2)) := by grind
    rw [this, ← e4, ht]
    grind
theorem s82 (d : Nat) (a b : Int) : pcall M (d + 2) 82 [wd a, wd b] = some (wd (a + b)) := told (q82 (d + 1) _ _ _ _) (by
  refine Eq.trans (hop_eq (by rfl)) ?_; refine Eq.trans (hop_eq (by rfl)) ?_; refine Eq.trans (hop_eq (by rfl)) ?_; refine Eq.trans (hop_eq (by rfl)) ?_; refine Eq.trans (pl_agg (by rfl) (by rfl)) ?_; refine Eq.trans (pl_int (by rfl)) ?_; refine Eq.trans (pl_int (by rfl)) ?_
  refine Eq.trans (pl_any (s87 d a)) ?_
  refine Eq.trans (hop_eq (by rfl)) ?_; refine Eq.trans (pl_agg (by rfl) (by rfl)) ?_; refine Eq.trans (pl_int (by rfl)) ?_; refine Eq.trans (pl_int (by rfl)) ?_
  refine Eq.trans (pl_any (s87 d b)) ?_
  have := plus1 d (wbits a) (wbits b) (wbits_bits a) (wbits_bits b) (wbits_len a) (wbits_len b) 128 0 1000000000000000000
    [some ⟨E99, [wd a]⟩, some ⟨E99, [wd b]⟩, some ⟨E99, [wd 0]⟩] (.zsl true) [] 0 (by omega) (by omega) rfl (by intro z hz; cases hz) (.inl rfl) (by simp [bin]) rfl (.inl ⟨rfl, _, rfl⟩) (by rintro ⟨o, m, h⟩; cases h) (by simp)
  refine this.trans ?_
  rw [bin_wbits, bin_wbits, wd_congr (a := a + b) (b := a % 340282366920938463463374607431768211456 + b % 340282366920938463463374607431768211456) (by omega)])
theorem s81 (d : Nat) (x : Int) (h : -9223372036854775808 ≤ x) (h' : x < 9223372036854775808) : pcall M (d + 1) 81 [.int .i64 x] = some (wd x) := told (r81 C0 d x) (by
  have e2 : IntKind.wrap .u64 x = low x := by unfold low; rw [u64w]
  rw [e2]
  by_cases hx : x < 0
  · rw [decide_eq_true hx, cnd_t, wd, show hiw x = -1 by unfold hiw; rw [i64w]; omega]
  · rw [decide_eq_false hx, cnd_f, wd, show hiw x = 0 by unfold hiw; rw [i64w]; omega])
theorem bits_not_i64 (x : Int) (h : -9223372036854775808 ≤ x) (h' : x < 9223372036854775808) : Go.bits .xor .i64 (-1) x = -1 - x := by
  show IntKind.i64.wrap ((BitVec.ofInt 64 (-1) ^^^ BitVec.ofInt 64 x).toNat : Int) = _
  rw [show BitVec.ofInt 64 (-1) = BitVec.allOnes 64 by decide, BitVec.allOnes_xor, BitVec.toNat_not, i64w, BitVec.toNat_ofInt]
  have : ((2 ^ 64 : Nat) : Int) = 18446744073709551616 := by decide
  rw [this]
  omega
theorem bits_not_u64 (x : Int) (h : 0 ≤ x) (h' : x < 18446744073709551616) : Go.bits .xor .u64 18446744073709551615 x = 18446744073709551615 - x := by
  show IntKind.u64.wrap ((BitVec.ofInt 64 18446744073709551615 ^^^ BitVec.ofInt 64 x).toNat : Int) = _
  rw [show BitVec.ofInt 64 18446744073709551615 = BitVec.allOnes 64 by decide, BitVec.allOnes_xor, BitVec.toNat_not, u64w, BitVec.toNat_ofInt]
  have : ((2 ^ 64 : Nat) : Int) = 18446744073709551616 := by decide
  rw [this]
  omega
theorem hiw_rng (n : Int) : -9223372036854775808 ≤ hiw n ∧ hiw n < 9223372036854775808 := by unfold hiw; rw [i64w]; omega
theorem s83 (d : Nat) (n : Int) : pcall M (d + 3) 83 [wd n] = some (wd (-n)) := told (r83 C0 (d + 2) _ _) (by
  have r1 := hiw_rng n
  have r2 := low_rng n
  rw [if_pos rfl, if_neg (by decide), bits_not_i64 _ r1.1 r1.2, show IntKind.max .u64 = 18446744073709551615 by decide, bits_not_u64 _ r2.1 r2.2]
  have e : (.agg [.int .i64 (-1 - hiw n), .int .u64 (18446744073709551615 - low n)] : AV) = wd (-1 - n) := by
    rw [wd, show -1 - hiw n = hiw (-1 - n) by unfold hiw; rw [i64w, i64w]; omega, show 18446744073709551615 - low n = low (-1 - n) by unfold low; omega]
  have e1 : (.agg [.int .i64 0, .int .u64 1] : AV) = wd 1 := by rfl
  rw [e, e1, s82]
  refine Eq.trans (pl_agg (by rfl) (by rfl)) ?_; refine Eq.trans (pl_int (by rfl)) ?_; refine Eq.trans (pl_int (by rfl)) ?_
  rw [show -1 - n + 1 = -n by omega])
theorem mod_succ (n : Int) (i : Nat) : n % 2 ^ (i + 1) = n % 2 ^ i + 2 ^ i * (n / 2 ^ i % 2) := by
  have := congrArg bin (bitl_snoc n i)
  rw [bin_app, bin_bitl, bin_bitl, bitl_len] at this
  simpa [bin] using this
theorem and1 {x : Int} {i : Nat} (hi : i < 64) (h : 0 ≤ x) (h' : x < 18446744073709551616) : bits .and .u64 (Int.fdiv x (2 ^ (min (Int.toNat (i : Int)) 64))) 1 = x / 2 ^ i % 2 := by
  rw [show min (Int.toNat (i : Int)) 64 = i by omega, Int.fdiv_eq_ediv_of_nonneg _ (Int.le_of_lt (pow64 i hi).1)]
  have hp := pow64 i hi
  have h1 : 0 ≤ x / 2 ^ i := Int.ediv_nonneg h (by omega)
  have h2 : x / 2 ^ i < 18446744073709551616 := Int.lt_of_le_of_lt (Int.ediv_le_self _ h) h'
  have := u64_mask 1 (by decide) h1 h2
  rwa [show ((2 : Int) ^ 1 - 1) = 1 by decide, show ((2 : Int) ^ 1) = 2 by decide] at this
theorem mul1 (d : Nat) (a b : Int) (hb : -9223372036854775808 ≤ b) (hb' : b < 9223372036854775808) : ∀ (k i f : Nat), i + k = 64 → k < f →
    L73_0 (d + 3) b (.ptr 0 0 0) (.ptr 1 0 0) (.ptr 2 0 0) f (i : Nat) [some ⟨E99, [wd 0]⟩, some ⟨E99, [wd (a * 2 ^ i)]⟩, some ⟨E99, [wd (a * (b % 18446744073709551616 % 2 ^ i))]⟩] = some (wd (a * b)) := by
  intro k
  induction k with
  | zero =>
    intro i f hi hf
    obtain ⟨f, rfl⟩ : ∃ g, f = g + 1 := ⟨f - 1, by omega⟩
    obtain rfl : i = 64 := by omega
    have e2 : (2 : Int) ^ 64 = 18446744073709551616 := by decide
    rw [L73_0, decide_eq_false (by omega), cnd_f, X73_0_0, e2]
    by_cases h : b < 0
    · rw [decide_eq_true h, cnd_t]
      refine Eq.trans (hop_eq (by rfl)) ?_; refine Eq.trans (pl_agg (by rfl) (by rfl)) ?_; refine Eq.trans (pl_int (by rfl)) ?_; refine Eq.trans (pl_int (by rfl)) ?_; refine Eq.trans (hop_eq (by rfl)) ?_; refine Eq.trans (pl_agg (by rfl) (by rfl)) ?_; refine Eq.trans (pl_int (by rfl)) ?_; refine Eq.trans (pl_int (by rfl)) ?_
      refine Eq.trans (pl_agg (s83 d _) (by rfl)) ?_
      refine Eq.trans (pl_int (by rfl)) ?_; refine Eq.trans (pl_int (by rfl)) ?_
      refine Eq.trans (pl_agg (s82 (d + 1) _ _) (by rfl)) ?_
      refine Eq.trans (pl_int (by rfl)) ?_; refine Eq.trans (pl_int (by rfl)) ?_; refine Eq.trans (hop_eq (by rfl)) ?_; refine Eq.trans (hop_eq (by rfl)) ?_; refine Eq.trans (pl_agg (by rfl) (by rfl)) ?_; refine Eq.trans (pl_int (by rfl)) ?_; refine Eq.trans (pl_int (by rfl)) ?_; refine Eq.trans (hop_eq (by rfl)) ?_; refine Eq.trans (hop_eq (by rfl)) ?_
      have e3 : a * (b % 18446744073709551616 % 18446744073709551616) + -(a * 18446744073709551616) = a * b := by
        rw [show b % 18446744073709551616 % 18446744073709551616 = b + 18446744073709551616 by omega]; grind
      rw [← e3]; rfl
    · rw [decide_eq_false h, cnd_f]
      refine Eq.trans (hop_eq (by rfl)) ?_; refine Eq.trans (pl_agg (by rfl) (by rfl)) ?_; refine Eq.trans (pl_int (by rfl)) ?_; refine Eq.trans (pl_int (by rfl)) ?_; refine Eq.trans (hop_eq (by rfl)) ?_; refine Eq.trans (hop_eq (by rfl)) ?_
      have e3 : a * (b % 18446744073709551616 % 18446744073709551616) = a * b := by rw [show b % 18446744073709551616 % 18446744073709551616 = b by omega]
      rw [← e3]; rfl
  | succ k ih =>
    intro i f hi hf
    obtain ⟨f, rfl⟩ : ∃ g, f = g + 1 := ⟨f - 1, by omega⟩
    have IH := ih (i + 1) f (by omega) (by omega)
    rw [mod_succ] at IH
    have px : a * 2 ^ (i + 1) = a * 2 ^ i + a * 2 ^ i := by rw [Int.pow_succ]; grind
    rw [px] at IH
    rw [L73_0, decide_eq_true (by omega), cnd_t, decide_eq_false (by omega), cnd_f, u64w, and1 (by omega) (by omega) (by omega)]
    rcases (show b % 18446744073709551616 / 2 ^ i % 2 = 0 ∨ b % 18446744073709551616 / 2 ^ i % 2 = 1 by omega) with h | h
    · rw [h] at IH ⊢
      refine Eq.trans (pl_f (by rfl)) ?_
      refine Eq.trans (hop_eq (by rfl)) ?_; refine Eq.trans (pl_agg (by rfl) (by rfl)) ?_; refine Eq.trans (pl_int (by rfl)) ?_; refine Eq.trans (pl_int (by rfl)) ?_; refine Eq.trans (hop_eq (by rfl)) ?_; refine Eq.trans (pl_agg (by rfl) (by rfl)) ?_; refine Eq.trans (pl_int (by rfl)) ?_; refine Eq.trans (pl_int (by rfl)) ?_
      refine Eq.trans (pl_agg (s82 (d + 1) _ _) (by rfl)) ?_
      refine Eq.trans (pl_int (by rfl)) ?_; refine Eq.trans (pl_int (by rfl)) ?_; refine Eq.trans (hop_eq (by rfl)) ?_
      rw [wrap_succ i (by omega)]
      rw [Int.mul_zero, Int.add_zero] at IH
      exact IH
    · rw [h] at IH ⊢
      refine Eq.trans (pl_len (by rfl)) ?_; refine Eq.trans (hop_eq (by rfl)) ?_; refine Eq.trans (pl_agg (by rfl) (by rfl)) ?_; refine Eq.trans (pl_int (by rfl)) ?_; refine Eq.trans (pl_int (by rfl)) ?_; refine Eq.trans (hop_eq (by rfl)) ?_; refine Eq.trans (pl_agg (by rfl) (by rfl)) ?_; refine Eq.trans (pl_int (by rfl)) ?_; refine Eq.trans (pl_int (by rfl)) ?_
      refine Eq.trans (pl_agg (s82 (d + 1) _ _) (by rfl)) ?_
      refine Eq.trans (pl_int (by rfl)) ?_; refine Eq.trans (pl_int (by rfl)) ?_; refine Eq.trans (hop_eq (by rfl)) ?_; refine Eq.trans (hop_eq (by rfl)) ?_; refine Eq.trans (pl_agg (by rfl) (by rfl)) ?_; refine Eq.trans (pl_int (by rfl)) ?_; refine Eq.trans (pl_int (by rfl)) ?_; refine Eq.trans (hop_eq (by rfl)) ?_; refine Eq.trans (pl_agg (by rfl) (by rfl)) ?_; refine Eq.trans (pl_int (by rfl)) ?_; refine Eq.trans (pl_int (by rfl)) ?_
      refine Eq.trans (pl_agg (s82 (d + 1) _ _) (by rfl)) ?_
      refine Eq.trans (pl_int (by rfl)) ?_; refine Eq.trans (pl_int (by rfl)) ?_; refine Eq.trans (hop_eq (by rfl)) ?_
      rw [wrap_succ i (by omega)]
      rw [Int.mul_one, Int.mul_add] at IH
      exact IH
theorem s73 (d : Nat) (a b : Int) (ha : -9223372036854775808 ≤ a) (ha' : a < 9223372036854775808) (hb : -9223372036854775808 ≤ b) (hb' : b < 9223372036854775808) :
    pcall M (d + 4) 73 [.int .i64 a, .int .i64 b] = some (wd (a * b)) := told (q73 (d + 3) _ _) (by
  refine Eq.trans (hop_eq (by rfl)) ?_
  refine Eq.trans (pl_agg (s81 (d + 2) a ha ha') (by rfl)) ?_
  refine Eq.trans (pl_int (by rfl)) ?_; refine Eq.trans (pl_int (by rfl)) ?_; refine Eq.trans (hop_eq (by rfl)) ?_; refine Eq.trans (hop_eq (by rfl)) ?_; refine Eq.trans (hop_eq (by rfl)) ?_; refine Eq.trans (hop_eq (by rfl)) ?_
  have := mul1 d a b hb hb' 64 0 1000000000000000000 (by omega) (by omega)
  have e : b % 18446744073709551616 % 2 ^ 0 = 0 := by rw [show (2 : Int) ^ 0 = 1 from rfl, Int.emod_one]
  rw [e, show a * 2 ^ 0 = a by rw [show (2 : Int) ^ 0 = 1 from rfl, Int.mul_one], Int.mul_zero] at this
  exact this)
theorem s72 (d : Nat) (a b : Int) (ha : -170141183460469231731687303715884105728 ≤ a) (ha' : a < 170141183460469231731687303715884105728) (hb : -170141183460469231731687303715884105728 ≤ b) (hb' : b < 170141183460469231731687303715884105728) :
    pcall M (d + 1) 72 [wd a, wd b] = some (.int .i64 (cmp a b)) := told (r72 C0 d _ _ _ _) (by
  have e1 : hiw a = a / 18446744073709551616 := by unfold hiw; rw [i64_small (by omega) (by omega)]
  have e2 : hiw b = b / 18446744073709551616 := by unfold hiw; rw [i64_small (by omega) (by omega)]
  rw [e1, e2]
  unfold low cmp
  by_cases c1 : a / 18446744073709551616 < b / 18446744073709551616
  · rw [decide_eq_true c1, cnd_t, if_pos (by omega)]
  · rw [decide_eq_false c1, cnd_f]
    by_cases c2 : a / 18446744073709551616 = b / 18446744073709551616
    · rw [show (a / 18446744073709551616 == b / 18446744073709551616) = true by simp [c2], cnd_t]
      by_cases c3 : a % 18446744073709551616 < b % 18446744073709551616
      · rw [decide_eq_true c3, cnd_t, if_pos (by omega)]
      · rw [decide_eq_false c3, cnd_f]
        by_cases c4 : a % 18446744073709551616 = b % 18446744073709551616
        · rw [show (a % 18446744073709551616 == b % 18446744073709551616) = true by simp [c4], if_neg (by omega), if_neg (by omega)]; rfl
        · rw [show (a % 18446744073709551616 == b % 18446744073709551616) = false by simp [c4], if_neg (by omega), if_pos (by omega)]; rfl
    · rw [show (a / 18446744073709551616 == b / 18446744073709551616) = false by simp [c2], cnd_f, if_neg (by omega), if_pos (by omega)]; rfl)
end Go.Proofs.Ytmlpinajheacjaa.AE

namespace Go.Proofs.Ytmlpinajheacjaa.AE
set_option linter.unusedVariables false
set_option linter.unusedSimpArgs false
set_option linter.constructorNameAsVariable false
open Go
theorem hget_s {H S : Heap} {k : Nat} {b : Blk} (h : S[k]? = some (some b)) : hget (H ++ S) (H.length + k) = some b := by
  unfold hget; rw [List.getElem?_append_right (by omega), show H.length + k - H.length = k by omega, h]
theorem set_s {H S : Heap} {k : Nat} {x : Option Blk} : (H ++ S).set (H.length + k) x = H ++ S.set k x := by
  rw [List.set_append_right _ _ (by omega), show H.length + k - H.length = k by omega]
theorem al_n {H : Heap} {e : ETy} {K : AV → Heap → Ans} : C0.hop H (.alloc e) K = K (.ptr (H.length + 0) 0 0) (H ++ [some ⟨e, [e.zero]⟩]) := rfl
theorem al_s {H S : Heap} {e : ETy} {K : AV → Heap → Ans} : C0.hop (H ++ S) (.alloc e) K = K (.ptr (H.length + S.length) 0 0) (H ++ (S ++ [some ⟨e, [e.zero]⟩])) := by
  refine (hop_eq rfl).trans ?_
  simp only [evO, List.length_append, List.append_assoc]
theorem ld_s {H S : Heap} {k i j n : Nat} {ag : Bool} {b : Blk} {el v : AV} {K : AV → Heap → Ans} (h : S[k]? = some (some b)) (hi : b.els[i]? = some el) (hs : sub ag n j el = some v) :
    C0.hop (H ++ S) (.load ag n (.v (.ptr (H.length + k) i j))) K = K v (H ++ S) := ld_ptr (hget_s h) hi hs
theorem st_s {H S : Heap} {k i j n : Nat} {b : Blk} {el el' x : AV} {K : AV → Heap → Ans} (h : S[k]? = some (some b)) (hi : b.els[i]? = some el) (hs : putSub n j x el = some el') :
    C0.hop (H ++ S) (.store n (.v (.ptr (H.length + k) i j)) (.v x)) K = K .undef (H ++ S.set k (some { b with els := b.els.set i el' })) := by
  rw [st_ptr (hget_s h) hi hs, set_s]
end Go.Proofs.Ytmlpinajheacjaa.AE

namespace Go.Proofs.Ytmlpinajheacjaa.AE
set_option linter.unusedVariables false
set_option linter.unusedSimpArgs false
set_option linter.constructorNameAsVariable false
open Go
theorem hg_z {Z X : Heap} {k : Nat} {b : Blk} (h : Z[k]? = some (some b)) : hget (Z ++ X) k = some b := by
  unfold hget
  have hk : k < Z.length := by
    rcases Nat.lt_or_ge k Z.length with h1 | h1
    · exact h1
    · rw [List.getElem?_eq_none h1] at h; cases h
  rw [List.getElem?_append_left hk, h]
theorem set_z {Z X : Heap} {k : Nat} {b : Blk} {x : Option Blk} (h : Z[k]? = some (some b)) : (Z ++ X).set k x = Z.set k x ++ X := by
  have hk : k < Z.length := by
    rcases Nat.lt_or_ge k Z.length with h1 | h1
    · exact h1
    · rw [List.getElem?_eq_none h1] at h; cases h
  rw [List.set_append_left _ _ hk]
theorem hg_o {Z G S : Heap} {z k : Nat} {b : Blk} (hz : Z.length = z) (h : S[k]? = some (some b)) : hget (Z ++ (G ++ S)) (z + (G.length + k)) = some b := by
  subst hz
  unfold hget
  rw [List.getElem?_append_right (by omega), show Z.length + (G.length + k) - Z.length = G.length + k by omega, List.getElem?_append_right (by omega), show G.length + k - G.length = k by omega, h]
theorem set_o {Z G S : Heap} {z k : Nat} {x : Option Blk} (hz : Z.length = z) : (Z ++ (G ++ S)).set (z + (G.length + k)) x = Z ++ (G ++ S.set k x) := by
  subst hz
  rw [List.set_append_right _ _ (by omega), show Z.length + (G.length + k) - Z.length = G.length + k by omega, List.set_append_right _ _ (by omega), show G.length + k - G.length = k by omega]
theorem al_o {Z G S : Heap} {z s : Nat} {e : ETy} {K : AV → Heap → Ans} (hz : Z.length = z) (hs : S.length = s) : C0.hop (Z ++ (G ++ S)) (.alloc e) K = K (.ptr (z + (G.length + s)) 0 0) (Z ++ (G ++ (S ++ [some ⟨e, [e.zero]⟩]))) := by
  subst hz hs
  refine (hop_eq rfl).trans ?_
  simp only [evO, List.length_append, List.append_assoc]
theorem bx_o {Z G S : Heap} {z s : Nat} {e : ETy} {x : AV} {K : AV → Heap → Ans} (hz : Z.length = z) (hs : S.length = s) (h : elOk e x = true) : C0.hop (Z ++ (G ++ S)) (.box e (.v x)) K = K (.ptr (z + (G.length + s)) 0 0) (Z ++ (G ++ (S ++ [some ⟨e, [x]⟩]))) := by
  subst hz hs
  refine (hop_eq (v := .ptr (Z ++ (G ++ S)).length 0 0) (H' := (Z ++ (G ++ S)) ++ [some ⟨e, [x]⟩]) (by simp [aop, evO, h])).trans ?_
  simp only [List.length_append, List.append_assoc]
theorem ld_z {Z X : Heap} {k i j n : Nat} {ag : Bool} {b : Blk} {el v : AV} {K : AV → Heap → Ans} (h : Z[k]? = some (some b)) (hi : b.els[i]? = some el) (hs : sub ag n j el = some v) :
    C0.hop (Z ++ X) (.load ag n (.v (.ptr k i j))) K = K v (Z ++ X) := ld_ptr (hg_z h) hi hs
theorem ld_o {Z G S : Heap} {z k i j n : Nat} {ag : Bool} {b : Blk} {el v : AV} {K : AV → Heap → Ans} (hz : Z.length = z) (h : S[k]? = some (some b)) (hi : b.els[i]? = some el) (hs : sub ag n j el = some v) :
    C0.hop (Z ++ (G ++ S)) (.load ag n (.v (.ptr (z + (G.length + k)) i j))) K = K v (Z ++ (G ++ S)) := ld_ptr (hg_o hz h) hi hs
theorem st_z {Z X : Heap} {k i j n : Nat} {b : Blk} {el el' x : AV} {K : AV → Heap → Ans} (h : Z[k]? = some (some b)) (hi : b.els[i]? = some el) (hs : putSub n j x el = some el') :
    C0.hop (Z ++ X) (.store n (.v (.ptr k i j)) (.v x)) K = K .undef (Z.set k (some { b with els := b.els.set i el' }) ++ X) := by
  rw [st_ptr (hg_z h) hi hs, set_z h]
theorem st_o {Z G S : Heap} {z k i j n : Nat} {b : Blk} {el el' x : AV} {K : AV → Heap → Ans} (hz : Z.length = z) (h : S[k]? = some (some b)) (hi : b.els[i]? = some el) (hs : putSub n j x el = some el') :
    C0.hop (Z ++ (G ++ S)) (.store n (.v (.ptr (z + (G.length + k)) i j)) (.v x)) K = K .undef (Z ++ (G ++ S.set k (some { b with els := b.els.set i el' }))) := by
  rw [st_ptr (hg_o hz h) hi hs, set_o hz]
theorem sub_w {cs : List AV} {n : Nat} (h : cs.length = n) : sub true n 0 (.agg cs) = some (.agg cs) := by
  subst h; simp [sub]
theorem ld_zw {Z X : Heap} {k i n : Nat} {b : Blk} {cs : List AV} {K : AV → Heap → Ans} (h : Z[k]? = some (some b)) (hi : b.els[i]? = some (.agg cs)) (hn : cs.length = n) :
    C0.hop (Z ++ X) (.load true n (.v (.ptr k i 0))) K = K (.agg cs) (Z ++ X) := ld_z h hi (sub_w hn)
theorem ld_ow {Z G S : Heap} {z k i n : Nat} {b : Blk} {cs : List AV} {K : AV → Heap → Ans} (hz : Z.length = z) (h : S[k]? = some (some b)) (hi : b.els[i]? = some (.agg cs)) (hn : cs.length = n) :
    C0.hop (Z ++ (G ++ S)) (.load true n (.v (.ptr (z + (G.length + k)) i 0))) K = K (.agg cs) (Z ++ (G ++ S)) := ld_o hz h hi (sub_w hn)
theorem gen_at {l : List AV} {i : Nat} {a : AV} (h : l[i]? = some a) : l[i]? = some a := h
theorem pl_zsl {o : Option AV} {b : Bool} {K : List AV → Ans} {Z : Bool → Ans} (h : o = some (.zsl b)) : C0.lst o K Z = Z b := by subst h; rfl
theorem c_ort {b : Bool} {x y : Ans} : cnd (b || true) x y = x := by cases b <;> rfl
theorem c_nt {x y : Ans} : cnd (!true) x y = y := rfl
theorem c_nf {x y : Ans} : cnd (!false) x y = x := rfl
theorem at8 (a b c d e f g h i : AV) (l : List AV) : (a :: b :: c :: d :: e :: f :: g :: h :: i :: l)[8]? = some i := rfl
theorem at9 (a b c d e f g h i j : AV) (l : List AV) : (a :: b :: c :: d :: e :: f :: g :: h :: i :: j :: l)[9]? = some j := rfl
theorem at10 (a b c d e f g h i j k : AV) (l : List AV) : (a :: b :: c :: d :: e :: f :: g :: h :: i :: j :: k :: l)[10]? = some k := rfl
theorem tt {a b c : Ans} (h : a = b) (k : b = c) : a = c := h.trans k
theorem w2 {k : IntKind} {o : Option AV} {n : Int} {K : Int → Ans} (h : o = some (.int k n) := by first | with_reducible rfl | exact at0 _ _ | exact at1 _ _ _ | exact at2 _ _ _ _ | exact at3 _ _ _ _ _ | exact at4 _ _ _ _ _ _ | exact at5 _ _ _ _ _ _ _ | exact at6 _ _ _ _ _ _ _ _ | exact at7 _ _ _ _ _ _ _ _ _ | exact at8 _ _ _ _ _ _ _ _ _ _ | exact at9 _ _ _ _ _ _ _ _ _ _ _ | exact at10 _ _ _ _ _ _ _ _ _ _ _ _ | exact gen_at (by with_unfolding_all rfl)) : C0.int k o K = K n := pl_int h
theorem w3 {o : Option AV} {n : Bool} {K : Bool → Ans} (h : o = some (.bool n) := by first | with_reducible rfl | exact at0 _ _ | exact at1 _ _ _ | exact at2 _ _ _ _ | exact at3 _ _ _ _ _ | exact at4 _ _ _ _ _ _ | exact at5 _ _ _ _ _ _ _ | exact at6 _ _ _ _ _ _ _ _ | exact at7 _ _ _ _ _ _ _ _ _ | exact at8 _ _ _ _ _ _ _ _ _ _ | exact at9 _ _ _ _ _ _ _ _ _ _ _ | exact at10 _ _ _ _ _ _ _ _ _ _ _ _ | exact gen_at (by with_unfolding_all rfl)) : C0.bool o K = K n := pl_bool h
theorem w4 {o : Option AV} {v : AV} {K : AV → Ans} (h : o = some v := by first | with_reducible rfl | exact at0 _ _ | exact at1 _ _ _ | exact at2 _ _ _ _ | exact at3 _ _ _ _ _ | exact at4 _ _ _ _ _ _ | exact at5 _ _ _ _ _ _ _ | exact at6 _ _ _ _ _ _ _ _ | exact at7 _ _ _ _ _ _ _ _ _ | exact at8 _ _ _ _ _ _ _ _ _ _ | exact at9 _ _ _ _ _ _ _ _ _ _ _ | exact at10 _ _ _ _ _ _ _ _ _ _ _ _ | exact gen_at (by with_unfolding_all rfl)) : C0.any o K = K v := pl_any h
theorem w5 {o : Option AV} {n : List UInt8} {K : List UInt8 → Ans} (h : o = some (.str n) := by first | with_reducible rfl | exact at0 _ _ | exact at1 _ _ _ | exact at2 _ _ _ _ | exact at3 _ _ _ _ _ | exact at4 _ _ _ _ _ _ | exact at5 _ _ _ _ _ _ _ | exact at6 _ _ _ _ _ _ _ _ | exact at7 _ _ _ _ _ _ _ _ _ | exact at8 _ _ _ _ _ _ _ _ _ _ | exact at9 _ _ _ _ _ _ _ _ _ _ _ | exact at10 _ _ _ _ _ _ _ _ _ _ _ _ | exact gen_at (by with_unfolding_all rfl)) : C0.str o K = K n := pl_str h
theorem w6 {o : Option AV} {l : List AV} {K : List AV → Ans} {Z : Bool → Ans} (h : o = some (.lst l) := by first | with_reducible rfl | exact at0 _ _ | exact at1 _ _ _ | exact at2 _ _ _ _ | exact at3 _ _ _ _ _ | exact at4 _ _ _ _ _ _ | exact at5 _ _ _ _ _ _ _ | exact at6 _ _ _ _ _ _ _ _ | exact at7 _ _ _ _ _ _ _ _ _ | exact at8 _ _ _ _ _ _ _ _ _ _ | exact at9 _ _ _ _ _ _ _ _ _ _ _ | exact at10 _ _ _ _ _ _ _ _ _ _ _ _ | exact gen_at (by with_unfolding_all rfl)) : C0.lst o K Z = K l := pl_lst h
theorem w7 {o : Option AV} {b : Bool} {K : List AV → Ans} {Z : Bool → Ans} (h : o = some (.zsl b) := by first | with_reducible rfl | exact at0 _ _ | exact at1 _ _ _ | exact at2 _ _ _ _ | exact at3 _ _ _ _ _ | exact at4 _ _ _ _ _ _ | exact at5 _ _ _ _ _ _ _ | exact at6 _ _ _ _ _ _ _ _ | exact at7 _ _ _ _ _ _ _ _ _ | exact at8 _ _ _ _ _ _ _ _ _ _ | exact at9 _ _ _ _ _ _ _ _ _ _ _ | exact at10 _ _ _ _ _ _ _ _ _ _ _ _ | exact gen_at (by with_unfolding_all rfl)) : C0.lst o K Z = Z b := pl_zsl h
theorem w8 {n : Nat} {o : Option AV} {l : List AV} {K : List AV → Ans} (h : o = some (.agg l) := by first | with_reducible rfl | exact at0 _ _ | exact at1 _ _ _ | exact at2 _ _ _ _ | exact at3 _ _ _ _ _ | exact at4 _ _ _ _ _ _ | exact at5 _ _ _ _ _ _ _ | exact at6 _ _ _ _ _ _ _ _ | exact at7 _ _ _ _ _ _ _ _ _ | exact at8 _ _ _ _ _ _ _ _ _ _ | exact at9 _ _ _ _ _ _ _ _ _ _ _ | exact at10 _ _ _ _ _ _ _ _ _ _ _ _ | exact gen_at (by with_unfolding_all rfl)) (h2 : l.length = n := by with_unfolding_all rfl) : C0.agg n o K = K l := pl_agg h h2
theorem w9 {n : Nat} {o : Option AV} {l : List AV} {K : List AV → Ans} (h : o = some (.tup l) := by first | with_reducible rfl | exact at0 _ _ | exact at1 _ _ _ | exact at2 _ _ _ _ | exact at3 _ _ _ _ _ | exact at4 _ _ _ _ _ _ | exact at5 _ _ _ _ _ _ _ | exact at6 _ _ _ _ _ _ _ _ | exact at7 _ _ _ _ _ _ _ _ _ | exact at8 _ _ _ _ _ _ _ _ _ _ | exact at9 _ _ _ _ _ _ _ _ _ _ _ | exact at10 _ _ _ _ _ _ _ _ _ _ _ _ | exact gen_at (by with_unfolding_all rfl)) (h2 : l.length = n := by with_unfolding_all rfl) : C0.tup n o K = K l := pl_tup h h2
theorem wf {Z X : Heap} {k i n : Nat} {b : Blk} {cs : List AV} {K : AV → Heap → Ans} (h : Z[k]? = some (some b) := by with_unfolding_all rfl) (hi : b.els[i]? = some (.agg cs) := by with_unfolding_all rfl) (hn : cs.length = n := by with_unfolding_all rfl) :
    C0.hop (Z ++ X) (.load true n (.v (.ptr k i 0))) K = K (.agg cs) (Z ++ X) := ld_zw h hi hn
theorem wg {Z G S : Heap} {z k i n : Nat} {b : Blk} {cs : List AV} {K : AV → Heap → Ans} (hz : Z.length = z := by with_unfolding_all rfl) (h : S[k]? = some (some b) := by with_unfolding_all rfl) (hi : b.els[i]? = some (.agg cs) := by with_unfolding_all rfl) (hn : cs.length = n := by with_unfolding_all rfl) :
    C0.hop (Z ++ (G ++ S)) (.load true n (.v (.ptr (z + (G.length + k)) i 0))) K = K (.agg cs) (Z ++ (G ++ S)) := ld_ow hz h hi hn
theorem wh {Z X : Heap} {k i j n : Nat} {ag : Bool} {b : Blk} {el v : AV} {K : AV → Heap → Ans} (h : Z[k]? = some (some b) := by with_unfolding_all rfl) (hi : b.els[i]? = some el := by with_unfolding_all rfl) (hs : sub ag n j el = some v := by with_unfolding_all rfl) :
    C0.hop (Z ++ X) (.load ag n (.v (.ptr k i j))) K = K v (Z ++ X) := ld_z h hi hs
theorem wi {Z G S : Heap} {z k i j n : Nat} {ag : Bool} {b : Blk} {el v : AV} {K : AV → Heap → Ans} (hz : Z.length = z := by with_unfolding_all rfl) (h : S[k]? = some (some b) := by with_unfolding_all rfl) (hi : b.els[i]? = some el := by with_unfolding_all rfl) (hs : sub ag n j el = some v := by with_unfolding_all rfl) :
    C0.hop (Z ++ (G ++ S)) (.load ag n (.v (.ptr (z + (G.length + k)) i j))) K = K v (Z ++ (G ++ S)) := ld_o hz h hi hs
theorem wj {Z X : Heap} {k i j n : Nat} {b : Blk} {el el' x : AV} {K : AV → Heap → Ans} (h : Z[k]? = some (some b) := by with_unfolding_all rfl) (hi : b.els[i]? = some el := by with_unfolding_all rfl) (hs : putSub n j x el = some el' := by with_unfolding_all rfl) :
    C0.hop (Z ++ X) (.store n (.v (.ptr k i j)) (.v x)) K = K .undef (Z.set k (some { b with els := b.els.set i el' }) ++ X) := st_z h hi hs
theorem wk {Z G S : Heap} {z k i j n : Nat} {b : Blk} {el el' x : AV} {K : AV → Heap → Ans} (hz : Z.length = z := by with_unfolding_all rfl) (h : S[k]? = some (some b) := by with_unfolding_all rfl) (hi : b.els[i]? = some el := by with_unfolding_all rfl) (hs : putSub n j x el = some el' := by with_unfolding_all rfl) :
    C0.hop (Z ++ (G ++ S)) (.store n (.v (.ptr (z + (G.length + k)) i j)) (.v x)) K = K .undef (Z ++ (G ++ S.set k (some { b with els := b.els.set i el' }))) := st_o hz h hi hs
theorem wl {Z G S : Heap} {z s : Nat} {e : ETy} {K : AV → Heap → Ans} (hz : Z.length = z := by with_unfolding_all rfl) (hs : S.length = s := by with_unfolding_all rfl) : C0.hop (Z ++ (G ++ S)) (.alloc e) K = K (.ptr (z + (G.length + s)) 0 0) (Z ++ (G ++ (S ++ [some ⟨e, [e.zero]⟩]))) := al_o hz hs
theorem wm {Z G S : Heap} {z s : Nat} {e : ETy} {x : AV} {K : AV → Heap → Ans} (hz : Z.length = z := by with_unfolding_all rfl) (hs : S.length = s := by with_unfolding_all rfl) (h : elOk e x = true := by with_unfolding_all rfl) : C0.hop (Z ++ (G ++ S)) (.box e (.v x)) K = K (.ptr (z + (G.length + s)) 0 0) (Z ++ (G ++ (S ++ [some ⟨e, [x]⟩]))) := bx_o hz hs h
theorem wn {H : Heap} {x v : AV} {j n : Nat} {ag : Bool} {K : AV → Heap → Ans} (hs : sub ag n j x = some v := by with_unfolding_all rfl) : C0.hop H (.load ag n (.v (.fptr x j))) K = K v H := ld_fptr hs
theorem wo {H : Heap} {args : List AV} {K : List AV → Bool → Ans} (h : args.all (noId DEPTH) = true := by with_unfolding_all rfl) : C0.snp H args K = K args true := snp_free h
theorem wx {H : Heap} {len es id i j : Nat} {q : Int} {K : AV → Heap → Ans} (h : (decide (0 ≤ q) && decide (q < (len : Int))) = true := by with_unfolding_all rfl) : C0.hop H (.ixAA len es (.v (.ptr id i j)) (.v (.int .i64 q))) K = K (.ptr id i (j + q.toNat * es)) H := by
  have h' : 0 ≤ q ∧ q < (len : Int) := by simpa using h
  exact hop_eq (by simp only [aop, evO, aInt, aShift]; rw [if_pos h'])
end Go.Proofs.Ytmlpinajheacjaa.AE

namespace Go.Proofs.Ytmlpinajheacjaa.AE
set_option linter.unusedVariables false
set_option linter.unusedSimpArgs false
set_option linter.constructorNameAsVariable false
open Go
set_option maxRecDepth 100000
/-- apogee/apogeeref17.May -/
theorem r22 (C : Cb) (d : Nat) (a0 a1 a2 : Int) : xcall C M unr d 22 [(iz a0), (iz a1), (iz a2)] =
 cnd (decide (a0 ≥ (-2147483648)))
 (cnd (decide (a0 ≤ 2147483648))
 (cnd (decide (a1 ≥ (-131072)))
 (cnd (decide (a1 ≤ 131072))
 (cnd (decide (a2 ≥ 1))
 (some (.bool (decide (a2 ≤ 100))))
 (some bf))
 (some bf))
 (some bf))
 (some bf))
 (some bf) := by kernel_rfl
/-- apogee/fall.Span -/
theorem r29 (C : Cb) (d : Nat) (a0 a1 a2 a3 : Int) : xcall C M unr d 29 [(iz a0), (iz a1), (iz a2), (iz a3)] =
 C.bool (pcall M d 45 [(iz a3), (iz 0), (iz 2048)]) fun b0 =>
 cnd (!b0)
 (some (.tup [(iz 0), (iz 0), bf]))
 (C.bool (pcall M d 46 [(iz a0), (iz a1), (iz a2)]) fun b1 =>
 cnd (!b1)
 (some (.tup [(iz 0), (iz 0), bf]))
 (C.tup 2 (pcall M d 47 [(iz (IntKind.wrap .i64 (a0 - a3))), (iz (IntKind.wrap .i64 (a1 - a3))), (iz a2)]) fun l2 =>
 C.int .i64 l2[0]? fun x3 =>
 C.bool l2[1]? fun b4 =>
 C.tup 2 (pcall M d 47 [(iz (IntKind.wrap .i64 (a0 + a3))), (iz (IntKind.wrap .i64 (a1 + a3))), (iz a2)]) fun l5 =>
 C.int .i64 l5[0]? fun x6 =>
 C.bool l5[1]? fun b7 =>
 cnd (!b4)
 (some (.tup [(iz 0), (iz 0), bf]))
 (cnd (!b7)
 (some (.tup [(iz 0), (iz 0), bf]))
 (some (.tup [(iz x3), (iz (IntKind.wrap .i64 (x6 + 2))), bt]))))) := by kernel_rfl
/-- apogee/fall.within -/
theorem r45 (C : Cb) (d : Nat) (a0 a1 a2 : Int) : xcall C M unr d 45 [(iz a0), (iz a1), (iz a2)] =
 cnd (decide (a0 ≥ a1))
 (some (.bool (decide (a0 ≤ a2))))
 (some bf) := by kernel_rfl
/-- apogee/fall.may -/
theorem r46 (C : Cb) (d : Nat) (a0 a1 a2 : Int) : xcall C M unr d 46 [(iz a0), (iz a1), (iz a2)] =
 C.bool (pcall M d 45 [(iz a0), (iz (-2147483648)), (iz 2147483648)]) fun b0 =>
 cnd b0
 (C.bool (pcall M d 45 [(iz a1), (iz (-131072)), (iz 131072)]) fun b1 =>
 cnd b1
 (C.bool (pcall M d 45 [(iz a2), (iz 1), (iz 100)]) fun b2 =>
 some (.bool b2))
 (some bf))
 (some bf) := by kernel_rfl
/-- apogee/fall.fallen -/
theorem r47 (C : Cb) (d : Nat) (a0 a1 a2 : Int) : xcall C M unr d 47 [(iz a0), (iz a1), (iz a2)] =
 cnd (decide (a0 < 0))
 (some (.tup [(iz 0), bt]))
 (C.tup 2 (pcall M d 63 [(iz (IntKind.wrap .i64 ((IntKind.wrap .i64 (a1 * a1)) + (IntKind.wrap .i64 ((IntKind.wrap .i64 (2 * a2)) * a0)))))]) fun l0 =>
 C.int .i64 l0[0]? fun x1 =>
 C.bool l0[1]? fun b2 =>
 cnd (decide (a2 = 0))
 (none)
 (some (.tup [(iz (IntKind.wrap .i64 (Int.tdiv (IntKind.wrap .i64 (a1 + x1)) a2))), (.bool b2)]))) := by kernel_rfl
end Go.Proofs.Ytmlpinajheacjaa.AE

namespace Go.Proofs.Ytmlpinajheacjaa.AE
set_option linter.unusedVariables false
set_option linter.unusedSimpArgs false
set_option linter.constructorNameAsVariable false
open Go
attribute [local irreducible] pcall C0
theorem u64_or_high {x : Int} {i : Nat} (hi : i < 64) (h : 0 ≤ x) (h' : x < 18446744073709551616) (hd : x % 2 ^ (i + 1) = 0) (hs : x + 2 ^ i < 18446744073709551616) : Go.bits .or .u64 x (2 ^ i) = x + 2 ^ i := by
  obtain ⟨n, rfl⟩ := Int.eq_ofNat_of_zero_le h
  have hn : n < 2 ^ 64 := by omega
  have hp : (2 : Nat) ^ i < 2 ^ 64 := Nat.pow_lt_pow_right (by decide) hi
  have hd' : n % 2 ^ (i + 1) = 0 := by exact_mod_cast hd
  have hs' : n + 2 ^ i < 2 ^ 64 := by
    have : ((n + 2 ^ i : Nat) : Int) < ((2 ^ 64 : Nat) : Int) := by simpa using hs
    exact_mod_cast this
  show IntKind.u64.wrap ((BitVec.ofInt 64 (n : Int) ||| BitVec.ofInt 64 ((2 : Int) ^ i)).toNat : Int) = _
  rw [show ((2 : Int) ^ i) = ((2 ^ i : Nat) : Int) by simp, BitVec.toNat_or, BitVec.ofInt_natCast, BitVec.ofInt_natCast, BitVec.toNat_ofNat, BitVec.toNat_ofNat, Nat.mod_eq_of_lt hn, Nat.mod_eq_of_lt hp]
  obtain ⟨a, ha⟩ : ∃ a, n = 2 ^ (i + 1) * a := ⟨n / 2 ^ (i + 1), (Nat.mul_div_cancel' (Nat.dvd_of_mod_eq_zero hd')).symm⟩
  have := Nat.two_pow_add_eq_or_of_lt (i := i + 1) (b := 2 ^ i) (Nat.pow_lt_pow_right (by decide) (by omega)) a
  rw [ha] at hs' ⊢
  rw [← this, u64_small (by omega) (by omega)]
  simp
/-- A number is above another one's square. -/
theorem s89 (d : Nat) (s w : Int) (hs : 0 ≤ s) (hs' : s < 18446744073709551616) (hw : 0 ≤ w) (hw' : w < 170141183460469231731687303715884105728) : pcall M (d + 2) 89 [.int .u64 s, wd w] = some (.bool (decide (w < s * s))) := told (r89 C0 (d + 1) _ _ _) (by
  obtain ⟨hi, lo, e, h0, l0, l1, i0, i1⟩ := s77 d s s hs hs' hs hs'
  refine Eq.trans (pl_tup e (by rfl)) ?_
  repeat with_reducible first | refine tt sh_ptr ?_ | refine tt sh_fptr ?_ | refine tt w2 ?_ | refine tt w3 ?_ | refine tt w8 ?_ | refine tt w9 ?_ | refine tt wf ?_ | refine tt wg ?_ | refine tt wh ?_ | refine tt wi ?_ | refine tt wj ?_ | refine tt wk ?_ | refine tt wl ?_ | refine tt wn ?_ | refine tt c_ort ?_ | refine tt c_nt ?_ | refine tt c_nf ?_ | refine tt (cnd_t _ _) ?_ | refine tt (cnd_f _ _) ?_ | refine tt w6 ?_ | refine tt w4 ?_ | refine tt w5 ?_ | refine tt w7 ?_ | refine tt wm ?_ | refine tt wo ?_ | refine tt wx ?_ | refine tt nil_ptr ?_ | refine tt len_lst ?_ | refine tt len_zsl ?_
  have e1 : hiw w = w / 18446744073709551616 := by unfold hiw; rw [i64_small (by omega) (by omega)]
  have e2 : IntKind.wrap .u64 (hiw w) = w / 18446744073709551616 := by rw [e1, u64_small (by omega) (by omega)]
  rw [e2, ← h0]
  unfold low
  by_cases c1 : hi > w / 18446744073709551616
  · rw [decide_eq_true c1, cnd_t, decide_eq_true (by omega)]
  · rw [decide_eq_false c1, cnd_f]
    by_cases c2 : hi = w / 18446744073709551616
    · rw [show (hi == w / 18446744073709551616) = true from beq_iff_eq.mpr c2, cnd_t]
      congr 2; rw [decide_eq_decide]; omega
    · rw [show (hi == w / 18446744073709551616) = false from beq_eq_false_iff_ne.mpr c2, cnd_f, decide_eq_false (by omega)])
theorem sqrt0 (d : Nat) (w : Int) (hw : 0 ≤ w) (hw' : w < 170141183460469231731687303715884105728) : ∀ (i f : Nat) (s : Int), i ≤ 64 → i < f → 0 ≤ s → s % 2 ^ i = 0 → s + 2 ^ i ≤ 18446744073709551616 → s * s ≤ w → w < (s + 2 ^ i) * (s + 2 ^ i) →
    ∃ r, L84_0 (d + 2) (hiw w) (low w) f s (Int.fdiv (2 ^ i) 2) = some (.tup [.int .u64 r, .bool true]) ∧ 0 ≤ r ∧ r < 18446744073709551616 ∧ r * r ≤ w ∧ w < (r + 1) * (r + 1) := by
  intro i
  induction i with
  | zero =>
    intro f s hi hf h0 hd hb h1 h2
    obtain ⟨f, rfl⟩ : ∃ g, f = g + 1 := ⟨f - 1, by omega⟩
    refine ⟨s, ?_, h0, by simp at hb; omega, h1, by simpa using h2⟩
    rw [L84_0, decide_eq_false (by simp), cnd_f]; rfl
  | succ i ih =>
    intro f s hi hf h0 hd hb h1 h2
    obtain ⟨f, rfl⟩ : ∃ g, f = g + 1 := ⟨f - 1, by omega⟩
    have p0 : (0 : Int) < 2 ^ i := Int.pow_pos (by decide)
    have e1 : Int.fdiv (2 ^ (i + 1)) 2 = 2 ^ i := by
      rw [Int.fdiv_eq_ediv_of_nonneg _ (by decide), Int.pow_succ]; omega
    have e2 : (2 : Int) ^ (i + 1) = 2 ^ i + 2 ^ i := by rw [Int.pow_succ]; omega
    have e3 : Int.fdiv ((2 : Int) ^ i) (2 ^ (min (Int.toNat 1) 64)) = Int.fdiv (2 ^ i) 2 := by rw [show ((2 : Int) ^ (min (Int.toNat 1) 64)) = 2 by decide]
    have hor : Go.bits .or .u64 s (2 ^ i) = s + 2 ^ i := u64_or_high (by omega) h0 (by omega) hd (by omega)
    have hd0 : s % 2 ^ i = 0 := by
      have := Int.emod_emod_of_dvd s (show (2 : Int) ^ i ∣ 2 ^ (i + 1) from ⟨2, by rw [Int.pow_succ]⟩)
      rw [hd] at this; simpa using this.symm
    have hd1 : (s + 2 ^ i) % 2 ^ i = 0 := by rw [Int.add_emod_right]; exact hd0
    rw [e1]
    have ab := s89 d (s + 2 ^ i) w (by omega) (by omega) hw hw'
    by_cases c : w < (s + 2 ^ i) * (s + 2 ^ i)
    · obtain ⟨r, q1, q2⟩ := ih f s (by omega) (by omega) h0 hd0 (by omega) h1 c
      refine ⟨r, ?_, q2⟩
      rw [L84_0, decide_eq_true p0, cnd_t, hor]
      refine Eq.trans (pl_bool ab) ?_
      rw [decide_eq_true c, c_nt, e3]; exact q1
    · obtain ⟨r, q1, q2⟩ := ih f (s + 2 ^ i) (by omega) (by omega) (by omega) hd1 (by omega) (by omega) (by rw [show s + 2 ^ i + 2 ^ i = s + 2 ^ (i + 1) by omega]; exact h2)
      refine ⟨r, ?_, q2⟩
      rw [L84_0, decide_eq_true p0, cnd_t, hor]
      refine Eq.trans (pl_bool ab) ?_
      rw [decide_eq_false c, c_nf, e3]; exact q1
theorem wsqrt (d : Nat) (w : Int) (hw : 0 ≤ w) (hw' : w < 170141183460469231731687303715884105728) : ∃ r, pcall M (d + 3) 84 [wd w] = some (.tup [.int .u64 r, .bool true]) ∧ 0 ≤ r ∧ r < 18446744073709551616 ∧ r * r ≤ w ∧ w < (r + 1) * (r + 1) := by
  obtain ⟨r, q1, q2⟩ := sqrt0 d w hw hw' 64 1000000000000000000 0 (by omega) (by omega) (by omega) (by simp) (by decide) (by omega) (by omega)
  refine ⟨r, told (q84 (d + 2) _ _) ?_, q2⟩
  have e1 : hiw w = w / 18446744073709551616 := by unfold hiw; rw [i64_small (by omega) (by omega)]
  rw [decide_eq_false (by rw [e1]; omega), cnd_f]
  exact q1
/-- The root of a number of 64 bits. -/
def IsRoot (n r : Int) : Prop := 0 ≤ r ∧ r ≤ 3037000499 ∧ r * r ≤ n ∧ n < (r + 1) * (r + 1)
theorem root_top {n r : Int} (hn : n < 9223372036854775808) (h0 : 0 ≤ r) (h1 : r * r ≤ n) : r ≤ 3037000499 := by
  refine Int.not_lt.1 fun h => ?_
  have := Int.mul_le_mul (show 3037000500 ≤ r by omega) (show 3037000500 ≤ r by omega) (by omega) (by omega)
  omega
theorem fsqrt (d : Nat) (n : Int) (h0 : 0 ≤ n) (h1 : n < 9223372036854775808) : ∃ r, pcall M (d + 5) 63 [.int .i64 n] = some (.tup [.int .i64 r, .bool true]) ∧ IsRoot n r := by
  obtain ⟨r, q1, q2, q3, q4, q5⟩ := wsqrt d n h0 (by omega)
  have top := root_top h1 q2 q4
  refine ⟨r, told (r63 C0 (d + 4) _) ?_, q2, top, q4, q5⟩
  refine Eq.trans (pl_agg (s34 (d + 3) n (by omega) h1) (by rfl)) ?_
  repeat with_reducible first | refine tt sh_ptr ?_ | refine tt sh_fptr ?_ | refine tt w2 ?_ | refine tt w3 ?_ | refine tt w8 ?_ | refine tt w9 ?_ | refine tt wf ?_ | refine tt wg ?_ | refine tt wh ?_ | refine tt wi ?_ | refine tt wj ?_ | refine tt wk ?_ | refine tt wl ?_ | refine tt wn ?_ | refine tt c_ort ?_ | refine tt c_nt ?_ | refine tt c_nf ?_ | refine tt (cnd_t _ _) ?_ | refine tt (cnd_f _ _) ?_ | refine tt w6 ?_ | refine tt w4 ?_ | refine tt w5 ?_ | refine tt w7 ?_ | refine tt wm ?_ | refine tt wo ?_ | refine tt wx ?_ | refine tt nil_ptr ?_ | refine tt len_lst ?_ | refine tt len_zsl ?_
  have : pcall M (d + 4) 74 [wd n, .bool true] = some (.tup [.int .i64 r, .bool true]) := told (r74 C0 (d + 3) _ _ _) (by
    repeat with_reducible first | refine tt sh_ptr ?_ | refine tt sh_fptr ?_ | refine tt w2 ?_ | refine tt w3 ?_ | refine tt w8 ?_ | refine tt w9 ?_ | refine tt wf ?_ | refine tt wg ?_ | refine tt wh ?_ | refine tt wi ?_ | refine tt wj ?_ | refine tt wk ?_ | refine tt wl ?_ | refine tt wn ?_ | refine tt c_ort ?_ | refine tt c_nt ?_ | refine tt c_nf ?_ | refine tt (cnd_t _ _) ?_ | refine tt (cnd_f _ _) ?_ | refine tt w6 ?_ | refine tt w4 ?_ | refine tt w5 ?_ | refine tt w7 ?_ | refine tt wm ?_ | refine tt wo ?_ | refine tt wx ?_ | refine tt nil_ptr ?_ | refine tt len_lst ?_ | refine tt len_zsl ?_
    refine Eq.trans (pl_tup q1 (by rfl)) ?_
    repeat with_reducible first | refine tt sh_ptr ?_ | refine tt sh_fptr ?_ | refine tt w2 ?_ | refine tt w3 ?_ | refine tt w8 ?_ | refine tt w9 ?_ | refine tt wf ?_ | refine tt wg ?_ | refine tt wh ?_ | refine tt wi ?_ | refine tt wj ?_ | refine tt wk ?_ | refine tt wl ?_ | refine tt wn ?_ | refine tt c_ort ?_ | refine tt c_nt ?_ | refine tt c_nf ?_ | refine tt (cnd_t _ _) ?_ | refine tt (cnd_f _ _) ?_ | refine tt w6 ?_ | refine tt w4 ?_ | refine tt w5 ?_ | refine tt w7 ?_ | refine tt wm ?_ | refine tt wo ?_ | refine tt wx ?_ | refine tt nil_ptr ?_ | refine tt len_lst ?_ | refine tt len_zsl ?_
    rw [decide_eq_false (by omega), cnd_f, i64_small (by omega) (by omega)])
  refine Eq.trans (pl_tup this (by rfl)) ?_
  repeat with_reducible first | refine tt sh_ptr ?_ | refine tt sh_fptr ?_ | refine tt w2 ?_ | refine tt w3 ?_ | refine tt w8 ?_ | refine tt w9 ?_ | refine tt wf ?_ | refine tt wg ?_ | refine tt wh ?_ | refine tt wi ?_ | refine tt wj ?_ | refine tt wk ?_ | refine tt wl ?_ | refine tt wn ?_ | refine tt c_ort ?_ | refine tt c_nt ?_ | refine tt c_nf ?_ | refine tt (cnd_t _ _) ?_ | refine tt (cnd_f _ _) ?_ | refine tt w6 ?_ | refine tt w4 ?_ | refine tt w5 ?_ | refine tt w7 ?_ | refine tt wm ?_ | refine tt wo ?_ | refine tt wx ?_ | refine tt nil_ptr ?_ | refine tt len_lst ?_ | refine tt len_zsl ?_
  rfl
theorem add_fit (d : Nat) (x y : Int) (h1 : -4611686018427387904 ≤ x) (h2 : x ≤ 4611686018427387904) (h3 : -2305843009213693952 ≤ y) (h4 : y ≤ 2305843009213693952) : pcall M (d + 4) 26 [.int .i64 x, .int .i64 y] = some (.tup [.int .i64 (x + y), .bool true]) := by
  have := s26 d x y (by omega) (by omega) (by omega) (by omega)
  have hf : fitB (x + y) = true := decide_eq_true (by omega)
  rw [hf] at this; exact this
end Go.Proofs.Ytmlpinajheacjaa.AE

namespace Go.Proofs.Ytmlpinajheacjaa.Geo
/-- Twice the height behind s cycles. -/
def A (z v g s : Int) : Int := 2 * z + 2 * v * s - g * s * s
theorem sq_nonneg (x : Int) : 0 ≤ x * x := by
  rcases Int.le_total 0 x with h | h
  · exact Int.mul_nonneg h h
  · have := Int.mul_nonneg (show 0 ≤ -x by omega) (show 0 ≤ -x by omega)
    rw [Int.neg_mul_neg] at this; exact this
theorem sq_le {x y : Int} (h : -y ≤ x) (h' : x ≤ y) : x * x ≤ y * y := by
  have h1 := Int.mul_nonneg (show 0 ≤ y - x by omega) (show 0 ≤ y + x by omega)
  have : (y - x) * (y + x) = y * y - x * x := by grind
  omega
theorem mul_bd {x y a b : Int} (h : -a ≤ x) (h' : x ≤ a) (g : -b ≤ y) (g' : y ≤ b) : -(a * b) ≤ x * y ∧ x * y ≤ a * b := by
  have h1 := Int.mul_nonneg (show 0 ≤ a - x by omega) (show 0 ≤ b + y by omega)
  have h2 := Int.mul_nonneg (show 0 ≤ a + x by omega) (show 0 ≤ b - y by omega)
  have h3 := Int.mul_nonneg (show 0 ≤ a - x by omega) (show 0 ≤ b - y by omega)
  have h4 := Int.mul_nonneg (show 0 ≤ a + x by omega) (show 0 ≤ b + y by omega)
  have e1 : (a - x) * (b + y) = a * b + a * y - x * b - x * y := by grind
  have e2 : (a + x) * (b - y) = a * b - a * y + x * b - x * y := by grind
  have e3 : (a - x) * (b - y) = a * b - a * y - x * b + x * y := by grind
  have e4 : (a + x) * (b + y) = a * b + a * y + x * b + x * y := by grind
  omega
/-- What may be reckoned with; what is small enough to be reckoned with inside. -/
def May (z v g : Int) : Prop := -2147483648 ≤ z ∧ z ≤ 2147483648 ∧ -131072 ≤ v ∧ v ≤ 131072 ∧ 1 ≤ g ∧ g ≤ 100
instance (z v g : Int) : Decidable (May z v g) := by unfold May; infer_instance
def Small (z v g : Int) : Prop := -2147487744 ≤ z ∧ z ≤ 2147487744 ∧ -135168 ≤ v ∧ v ≤ 135168 ∧ 1 ≤ g ∧ g ≤ 100
/-- The last cycle behind which it isn't below the ground. -/
def Falls (z v g t : Int) : Prop := 0 ≤ t ∧ t ≤ 1000000 ∧ (z < 0 → t = 0) ∧ (0 ≤ z → ∀ s, 0 ≤ s → (0 ≤ A z v g s ↔ s ≤ t))
theorem rad_bd {z v g : Int} (hs : Small z v g) (hz : 0 ≤ z) : 0 ≤ v * v ∧ v * v ≤ 18270388224 ∧ 0 ≤ 2 * g * z ∧ 2 * g * z ≤ 429497548800 := by
  obtain ⟨z0, z1, v0, v1, g0, g1⟩ := hs
  have hv := mul_bd v0 v1 v0 v1
  have hv' := sq_nonneg v
  have hgz := Int.mul_le_mul (show 2 * g ≤ 200 by omega) z1 (by omega) (by omega)
  have hgz' := Int.mul_nonneg (show 0 ≤ 2 * g by omega) (show 0 ≤ z by omega)
  omega
theorem falls_of_root {z v g r : Int} (hs : Small z v g) (hz : 0 ≤ z) (r0 : 0 ≤ r) (r1 : r * r ≤ v * v + 2 * g * z) (r2 : v * v + 2 * g * z < (r + 1) * (r + 1)) : Falls z v g ((v + r) / g) ∧ 0 ≤ v + r ∧ r ≤ 700000 := by
  have bd := rad_bd hs hz
  obtain ⟨z0, z1, v0, v1, g0, g1⟩ := hs
  have hrv : -r ≤ v ∧ v ≤ r := by
    constructor
    · refine Int.not_lt.1 fun h => ?_
      have := Int.mul_le_mul (show r + 1 ≤ -v by omega) (show r + 1 ≤ -v by omega) (by omega) (by omega)
      rw [Int.neg_mul_neg] at this; omega
    · refine Int.not_lt.1 fun h => ?_
      have := Int.mul_le_mul (show r + 1 ≤ v by omega) (show r + 1 ≤ v by omega) (by omega) (by omega)
      omega
  have hr : r ≤ 700000 := by
    refine Int.not_lt.1 fun h => ?_
    have := Int.mul_le_mul (show 700000 ≤ r by omega) (show 700000 ≤ r by omega) (by omega) (by omega)
    omega
  have hd0 : 0 ≤ (v + r) / g := Int.ediv_nonneg (by omega) (by omega)
  have hd1 : (v + r) / g ≤ v + r := Int.ediv_le_self _ (by omega)
  refine ⟨⟨hd0, by omega, fun h => by omega, fun _ s hs0 => ?_⟩, by omega, hr⟩
  have key : g * A z v g s = (v * v + 2 * g * z) - (g * s - v) * (g * s - v) := by unfold A; grind
  have hgs := Int.mul_nonneg (show 0 ≤ g by omega) hs0
  have hd : s ≤ (v + r) / g ↔ s * g ≤ v + r := Int.le_ediv_iff_mul_le (by omega)
  rw [hd, Int.mul_comm s g]
  constructor
  · intro h
    have h2 := Int.mul_nonneg (show 0 ≤ g by omega) h
    refine Int.not_lt.1 fun h3 => ?_
    have h4 := Int.mul_le_mul (show r + 1 ≤ g * s - v by omega) (show r + 1 ≤ g * s - v by omega) (by omega) (by omega)
    omega
  · intro h
    have h4 := sq_le (show -r ≤ g * s - v by omega) (show g * s - v ≤ r by omega)
    refine Int.not_lt.1 fun h5 => ?_
    have h6 := Int.mul_le_mul_of_nonneg_left (show A z v g s ≤ -1 by omega) (show 0 ≤ g by omega)
    omega
theorem falls_neg {z v g : Int} (hz : z < 0) : Falls z v g 0 := ⟨by omega, by omega, fun _ => rfl, fun h => by omega⟩
theorem A_mono {z v g z' v' s : Int} (hz : z ≤ z') (hv : v ≤ v') (hs : 0 ≤ s) : A z v g s ≤ A z' v' g s := by
  unfold A
  have := Int.mul_le_mul_of_nonneg_right (show 2 * v ≤ 2 * v' by omega) hs
  omega
theorem falls_mono {z v g z' v' t t' : Int} (h : Falls z v g t) (h' : Falls z' v' g t') (hz : z ≤ z') (hv : v ≤ v') : t ≤ t' := by
  by_cases c : z < 0
  · rw [h.2.2.1 c]; exact h'.1
  · have h1 := (h.2.2.2 (by omega) t h.1).2 (Int.le_refl _)
    exact (h'.2.2.2 (by omega) t h.1).1 (Int.le_trans h1 (A_mono hz hv h.1))
theorem falls_one {z v g t t' : Int} (h : Falls z v g t) (h' : Falls z v g t') : t = t' := by
  have := falls_mono h h' (Int.le_refl _) (Int.le_refl _)
  have := falls_mono h' h (Int.le_refl _) (Int.le_refl _)
  omega
def loS (x v eps lo hi : Int) : Int := x - eps + min ((v - eps) * lo) ((v - eps) * hi)
def hiS (x v eps lo hi : Int) : Int := x + eps + max ((v + eps) * lo) ((v + eps) * hi)
theorem lin_lo {v lo hi s : Int} (h1 : lo ≤ s) (h2 : s ≤ hi) : min (v * lo) (v * hi) ≤ v * s := by
  rcases Int.le_total 0 v with h | h
  · have := Int.mul_le_mul_of_nonneg_left h1 h; omega
  · have := Int.mul_le_mul_of_nonpos_left h h2; omega
theorem lin_hi {v lo hi s : Int} (h1 : lo ≤ s) (h2 : s ≤ hi) : v * s ≤ max (v * lo) (v * hi) := by
  rcases Int.le_total 0 v with h | h
  · have := Int.mul_le_mul_of_nonneg_left h2 h; omega
  · have := Int.mul_le_mul_of_nonpos_left h h1; omega
theorem sl_mono {v w s : Int} (h : v ≤ w) (hs : 0 ≤ s) : v * s ≤ w * s := Int.mul_le_mul_of_nonneg_right h hs
/-- A place above which it is between the times. -/
theorem side_has {x v eps lo hi x' v' s : Int} (h0 : 0 ≤ lo) (h1 : lo ≤ s) (h2 : s ≤ hi) (hx : x - eps ≤ x') (hx' : x' ≤ x + eps) (hv : v - eps ≤ v') (hv' : v' ≤ v + eps) : loS x v eps lo hi ≤ x' + v' * s ∧ x' + v' * s ≤ hiS x v eps lo hi := by
  have a := lin_lo (v := v - eps) h1 h2
  have b := lin_hi (v := v + eps) h1 h2
  have c := sl_mono hv (show 0 ≤ s by omega)
  have d := sl_mono hv' (show 0 ≤ s by omega)
  unfold loS hiS; omega
theorem side_ord {x v e lo hi : Int} (he : 0 ≤ e) (h0 : 0 ≤ lo) (h : lo ≤ hi) : loS x v e lo hi ≤ hiS x v e lo hi := by
  have := side_has (x := x) (v := v) (eps := e) (x' := x) (v' := v) h0 (Int.le_refl _) h (by omega) (by omega) (by omega) (by omega)
  omega
theorem side_bd {x v e lo hi : Int} (hx : -2147483648 ≤ x) (hx' : x ≤ 2147483648) (hv : -131072 ≤ v) (hv' : v ≤ 131072) (he : 0 ≤ e) (he' : e ≤ 2048) (h0 : 0 ≤ lo) (h : lo ≤ hi) (h1 : hi ≤ 1000002) :
    -1099511627776 ≤ loS x v e lo hi ∧ hiS x v e lo hi ≤ 1099511627776 := by
  have b1 := mul_bd (x := v - e) (a := 133120) (y := lo) (b := 1000002) (by omega) (by omega) (by omega) (by omega)
  have b2 := mul_bd (x := v - e) (a := 133120) (y := hi) (b := 1000002) (by omega) (by omega) (by omega) (by omega)
  have b3 := mul_bd (x := v + e) (a := 133120) (y := lo) (b := 1000002) (by omega) (by omega) (by omega) (by omega)
  have b4 := mul_bd (x := v + e) (a := 133120) (y := hi) (b := 1000002) (by omega) (by omega) (by omega) (by omega)
  unfold loS hiS; omega
end Go.Proofs.Ytmlpinajheacjaa.Geo

namespace Go.Proofs.Ytmlpinajheacjaa.AE
set_option linter.unusedVariables false
set_option linter.unusedSimpArgs false
set_option linter.constructorNameAsVariable false
open Go Go.Proofs.Ytmlpinajheacjaa.Geo
attribute [local irreducible] pcall C0
theorem s45 (d : Nat) (a b c : Int) : pcall M (d + 1) 45 [.int .i64 a, .int .i64 b, .int .i64 c] = some (.bool (decide (b ≤ a ∧ a ≤ c))) := told (r45 C0 d _ _ _) (by
  by_cases h : a ≥ b
  · rw [decide_eq_true h, cnd_t]; congr 2; rw [decide_eq_decide]; omega
  · rw [decide_eq_false h, cnd_f, decide_eq_false (by omega)])
theorem s46 (d : Nat) (z v g : Int) : pcall M (d + 2) 46 [.int .i64 z, .int .i64 v, .int .i64 g] = some (.bool (decide (May z v g))) := told (r46 C0 (d + 1) _ _ _) (by
  refine Eq.trans (pl_bool (s45 d _ _ _)) ?_
  by_cases h1 : -2147483648 ≤ z ∧ z ≤ 2147483648
  · rw [decide_eq_true h1, cnd_t]
    refine Eq.trans (pl_bool (s45 d _ _ _)) ?_
    by_cases h2 : -131072 ≤ v ∧ v ≤ 131072
    · rw [decide_eq_true h2, cnd_t]
      refine Eq.trans (pl_bool (s45 d _ _ _)) ?_
      congr 2; rw [decide_eq_decide]; unfold May; omega
    · rw [decide_eq_false h2, cnd_f, decide_eq_false (by unfold May; omega)]
  · rw [decide_eq_false h1, cnd_f, decide_eq_false (by unfold May; omega)])
/-- What is reckoned ahead of the root. -/
theorem rad_code {z v g : Int} (hs : Small z v g) (hz : 0 ≤ z) : IntKind.wrap .i64 (IntKind.wrap .i64 (v * v) + IntKind.wrap .i64 (IntKind.wrap .i64 (2 * g) * z)) = v * v + 2 * g * z := by
  have bd := rad_bd hs hz
  have hs' := hs
  unfold Small at hs'
  rw [i64_small (n := 2 * g) (by omega) (by omega), i64_small (n := v * v) (by omega) (by omega), i64_small (n := 2 * g * z) (by omega) (by omega), i64_small (by omega) (by omega)]
theorem quo_code {v r g : Int} (hg : 1 ≤ g) (h0 : 0 ≤ v + r) (h1 : v + r ≤ 1000000) : IntKind.wrap .i64 (Int.tdiv (IntKind.wrap .i64 (v + r)) g) = (v + r) / g := by
  have hd0 : 0 ≤ (v + r) / g := Int.ediv_nonneg h0 (by omega)
  have hd1 : (v + r) / g ≤ v + r := Int.ediv_le_self _ h0
  rw [i64_small (n := v + r) (by omega) (by omega), Int.tdiv_eq_ediv_of_nonneg h0, i64_small (by omega) (by omega)]
theorem fallen (d : Nat) (z v g : Int) (hs : Small z v g) : ∃ t, pcall M (d + 6) 47 [.int .i64 z, .int .i64 v, .int .i64 g] = some (.tup [.int .i64 t, .bool true]) ∧ Falls z v g t := by
  by_cases hz : z < 0
  · exact ⟨0, told (r47 C0 (d + 5) _ _ _) (by rw [decide_eq_true hz]; rfl), falls_neg hz⟩
  · have bd := rad_bd hs (by omega)
    obtain ⟨r, e, r0, r1, r2, r3⟩ := fsqrt d (v * v + 2 * g * z) (by omega) (by omega)
    obtain ⟨f1, f2, f3⟩ := falls_of_root hs (by omega) r0 r2 r3
    have hs' := hs
    unfold Small at hs'
    refine ⟨(v + r) / g, told (r47 C0 (d + 5) _ _ _) ?_, f1⟩
    rw [decide_eq_false hz, cnd_f, rad_code hs (by omega)]
    refine Eq.trans (pl_tup e (by rfl)) ?_
    repeat with_reducible first | refine tt sh_ptr ?_ | refine tt sh_fptr ?_ | refine tt w2 ?_ | refine tt w3 ?_ | refine tt w8 ?_ | refine tt w9 ?_ | refine tt wf ?_ | refine tt wg ?_ | refine tt wh ?_ | refine tt wi ?_ | refine tt wj ?_ | refine tt wk ?_ | refine tt wl ?_ | refine tt wn ?_ | refine tt c_ort ?_ | refine tt c_nt ?_ | refine tt c_nf ?_ | refine tt (cnd_t _ _) ?_ | refine tt (cnd_f _ _) ?_ | refine tt w6 ?_ | refine tt w4 ?_ | refine tt w5 ?_ | refine tt w7 ?_ | refine tt wm ?_ | refine tt wo ?_ | refine tt wx ?_ | refine tt nil_ptr ?_ | refine tt len_lst ?_ | refine tt len_zsl ?_
    rw [decide_eq_false (by omega), cnd_f, quo_code (by omega) f2 (by omega)]
theorem fspan (d : Nat) (z v g eps : Int) (hm : May z v g) (h0 : 0 ≤ eps) (h1 : eps ≤ 2048) : ∃ lo hi, pcall M (d + 7) 29 [.int .i64 z, .int .i64 v, .int .i64 g, .int .i64 eps] = some (.tup [.int .i64 lo, .int .i64 (hi + 2), .bool true]) ∧ Falls (z - eps) (v - eps) g lo ∧ Falls (z + eps) (v + eps) g hi := by
  have hm' := hm
  unfold May at hm'
  obtain ⟨lo, e1, f1⟩ := fallen d (z - eps) (v - eps) g (by unfold Small; omega)
  obtain ⟨hi, e2, f2⟩ := fallen d (z + eps) (v + eps) g (by unfold Small; omega)
  refine ⟨lo, hi, told (r29 C0 (d + 6) _ _ _ _) ?_, f1, f2⟩
  refine Eq.trans (pl_bool (s45 (d + 5) _ _ _)) ?_
  rw [decide_eq_true ⟨h0, h1⟩]
  repeat with_reducible first | refine tt sh_ptr ?_ | refine tt sh_fptr ?_ | refine tt w2 ?_ | refine tt w3 ?_ | refine tt w8 ?_ | refine tt w9 ?_ | refine tt wf ?_ | refine tt wg ?_ | refine tt wh ?_ | refine tt wi ?_ | refine tt wj ?_ | refine tt wk ?_ | refine tt wl ?_ | refine tt wn ?_ | refine tt c_ort ?_ | refine tt c_nt ?_ | refine tt c_nf ?_ | refine tt (cnd_t _ _) ?_ | refine tt (cnd_f _ _) ?_ | refine tt w6 ?_ | refine tt w4 ?_ | refine tt w5 ?_ | refine tt w7 ?_ | refine tt wm ?_ | refine tt wo ?_ | refine tt wx ?_ | refine tt nil_ptr ?_ | refine tt len_lst ?_ | refine tt len_zsl ?_
  refine Eq.trans (pl_bool (s46 (d + 4) z v g)) ?_
  rw [decide_eq_true hm]
  repeat with_reducible first | refine tt sh_ptr ?_ | refine tt sh_fptr ?_ | refine tt w2 ?_ | refine tt w3 ?_ | refine tt w8 ?_ | refine tt w9 ?_ | refine tt wf ?_ | refine tt wg ?_ | refine tt wh ?_ | refine tt wi ?_ | refine tt wj ?_ | refine tt wk ?_ | refine tt wl ?_ | refine tt wn ?_ | refine tt c_ort ?_ | refine tt c_nt ?_ | refine tt c_nf ?_ | refine tt (cnd_t _ _) ?_ | refine tt (cnd_f _ _) ?_ | refine tt w6 ?_ | refine tt w4 ?_ | refine tt w5 ?_ | refine tt w7 ?_ | refine tt wm ?_ | refine tt wo ?_ | refine tt wx ?_ | refine tt nil_ptr ?_ | refine tt len_lst ?_ | refine tt len_zsl ?_
  rw [i64_small (n := z - eps) (by omega) (by omega), i64_small (n := v - eps) (by omega) (by omega), i64_small (n := z + eps) (by omega) (by omega), i64_small (n := v + eps) (by omega) (by omega)]
  refine Eq.trans (pl_tup e1 (by rfl)) ?_
  repeat with_reducible first | refine tt sh_ptr ?_ | refine tt sh_fptr ?_ | refine tt w2 ?_ | refine tt w3 ?_ | refine tt w8 ?_ | refine tt w9 ?_ | refine tt wf ?_ | refine tt wg ?_ | refine tt wh ?_ | refine tt wi ?_ | refine tt wj ?_ | refine tt wk ?_ | refine tt wl ?_ | refine tt wn ?_ | refine tt c_ort ?_ | refine tt c_nt ?_ | refine tt c_nf ?_ | refine tt (cnd_t _ _) ?_ | refine tt (cnd_f _ _) ?_ | refine tt w6 ?_ | refine tt w4 ?_ | refine tt w5 ?_ | refine tt w7 ?_ | refine tt wm ?_ | refine tt wo ?_ | refine tt wx ?_ | refine tt nil_ptr ?_ | refine tt len_lst ?_ | refine tt len_zsl ?_
  refine Eq.trans (pl_tup e2 (by rfl)) ?_
  repeat with_reducible first | refine tt sh_ptr ?_ | refine tt sh_fptr ?_ | refine tt w2 ?_ | refine tt w3 ?_ | refine tt w8 ?_ | refine tt w9 ?_ | refine tt wf ?_ | refine tt wg ?_ | refine tt wh ?_ | refine tt wi ?_ | refine tt wj ?_ | refine tt wk ?_ | refine tt wl ?_ | refine tt wn ?_ | refine tt c_ort ?_ | refine tt c_nt ?_ | refine tt c_nf ?_ | refine tt (cnd_t _ _) ?_ | refine tt (cnd_f _ _) ?_ | refine tt w6 ?_ | refine tt w4 ?_ | refine tt w5 ?_ | refine tt w7 ?_ | refine tt wm ?_ | refine tt wo ?_ | refine tt wx ?_ | refine tt nil_ptr ?_ | refine tt len_lst ?_ | refine tt len_zsl ?_
  have := f2.1
  have := f2.2.1
  rw [i64_small (n := hi + 2) (by omega) (by omega)]
theorem fspan_no (d : Nat) (z v g eps : Int) (hm : ¬ (May z v g ∧ 0 ≤ eps ∧ eps ≤ 2048)) : pcall M (d + 7) 29 [.int .i64 z, .int .i64 v, .int .i64 g, .int .i64 eps] = some (.tup [.int .i64 0, .int .i64 0, .bool false]) := told (r29 C0 (d + 6) _ _ _ _) (by
  refine Eq.trans (pl_bool (s45 (d + 5) _ _ _)) ?_
  by_cases h : 0 ≤ eps ∧ eps ≤ 2048
  · rw [decide_eq_true h]
    repeat with_reducible first | refine tt sh_ptr ?_ | refine tt sh_fptr ?_ | refine tt w2 ?_ | refine tt w3 ?_ | refine tt w8 ?_ | refine tt w9 ?_ | refine tt wf ?_ | refine tt wg ?_ | refine tt wh ?_ | refine tt wi ?_ | refine tt wj ?_ | refine tt wk ?_ | refine tt wl ?_ | refine tt wn ?_ | refine tt c_ort ?_ | refine tt c_nt ?_ | refine tt c_nf ?_ | refine tt (cnd_t _ _) ?_ | refine tt (cnd_f _ _) ?_ | refine tt w6 ?_ | refine tt w4 ?_ | refine tt w5 ?_ | refine tt w7 ?_ | refine tt wm ?_ | refine tt wo ?_ | refine tt wx ?_ | refine tt nil_ptr ?_ | refine tt len_lst ?_ | refine tt len_zsl ?_
    refine Eq.trans (pl_bool (s46 (d + 4) z v g)) ?_
    rw [decide_eq_false (fun g => hm ⟨g, h⟩)]; rfl
  · rw [decide_eq_false h]; rfl)
end Go.Proofs.Ytmlpinajheacjaa.AE

namespace Go.Proofs.Ytmlpinajheacjaa.AE
set_option linter.unusedVariables false
set_option linter.unusedSimpArgs false
set_option linter.constructorNameAsVariable false
open Go Go.Proofs.Ytmlpinajheacjaa.Geo
theorem s62 (d : Nat) (a b c : Pt) : pcall M (d + 5) 62 [pt a, pt b, pt c] = some (.int .i64 (tn3 a b c)) := told (r62 C0 (d + 4) _ _ _ _ _ _) (by
  have R := fun p => s41 (d + 3) p
  simp only [pt] at R
  rw [R a, R b, R c]
  simp only [C0_bool]
  unfold tn3
  by_cases ha : OkP a
  · by_cases hb : OkP b
    · by_cases hc : OkP c
      · rw [if_pos ⟨ha, hb, hc⟩, decide_eq_true ha, decide_eq_true hb, decide_eq_true hc]
        obtain ⟨⟨ha, ha'⟩, hb1, hb1'⟩ := ha
        obtain ⟨⟨hc1, hc1'⟩, hd, hd'⟩ := hb
        obtain ⟨⟨he, he'⟩, hf, hf'⟩ := hc
        rw [i64_small (n := b.1 - a.1) (by omega) (by omega), i64_small (n := c.2 - a.2) (by omega) (by omega), i64_small (n := b.2 - a.2) (by omega) (by omega), i64_small (n := c.1 - a.1) (by omega) (by omega)]
        rw [s73 d _ _ (by omega) (by omega) (by omega) (by omega), s73 d _ _ (by omega) (by omega) (by omega) (by omega)]
        have p1 := prod_bd41 (x := b.1 - a.1) (y := c.2 - a.2) (by omega) (by omega) (by omega) (by omega)
        have p2 := prod_bd41 (x := b.2 - a.2) (y := c.1 - a.1) (by omega) (by omega) (by omega) (by omega)
        simp only [Bool.not_true, cnd_f, C0_agg2, at0, at1, C0_int]
        rw [s72 (d + 3) _ _ (by omega) (by omega) (by omega) (by omega), C0_int, cmp_sg]
        rfl
      · rw [if_neg fun h => hc h.2.2, decide_eq_true ha, decide_eq_true hb, decide_eq_false hc]; rfl
    · rw [if_neg fun h => hb h.2.1, decide_eq_true ha, decide_eq_false hb]; rfl
  · rw [if_neg fun h => ha h.1, decide_eq_false ha]; rfl)
theorem s43 (d : Nat) (p a b : Pt) : pcall M (d + 6) 43 [pt p, pt a, pt b] = some (.bool (onB p a b)) := told (r43 C0 (d + 5) _ _ _ _ _ _) (by
  have R := fun p => s41 (d + 4) p
  have t := s62 d a b p
  simp only [pt] at R t
  rw [R a, R b, R p, t]
  simp only [C0_bool, C0_int]
  have e1 : ∀ x y : Int, (if y < x then y else x) = min x y := fun x y => by omega
  have e2 : ∀ x y : Int, (if y > x then y else x) = max x y := fun x y => by omega
  rw [e1, e1, e2, e2]
  by_cases ha : OkP a
  · by_cases hb : OkP b
    · by_cases hp : OkP p
      · rw [decide_eq_true ha, decide_eq_true hb, decide_eq_true hp, tn3_sg ⟨ha, hb, hp⟩]
        simp only [Bool.not_true, cnd_f]
        by_cases ht : TN a b p = 0
        · rw [show (sg (TN a b p) != 0) = false by simp [sg_zero, ht], cnd_f]
          have key : onB p a b = (decide (p.1 ≥ min a.1 b.1) && (decide (p.1 ≤ max a.1 b.1) && (decide (p.2 ≥ min a.2 b.2) && decide (p.2 ≤ max a.2 b.2)))) := by
            rw [Bool.eq_iff_iff]
            simp only [Bool.and_eq_true, onB_t, decide_eq_true_eq]
            unfold On Btw
            constructor
            · rintro ⟨_, _, h⟩; omega
            · intro h; exact ⟨⟨hp, ha, hb⟩, ht, by omega⟩
          rw [key]
          cases decide (p.1 ≥ min a.1 b.1) <;> cases decide (p.1 ≤ max a.1 b.1) <;> cases decide (p.2 ≥ min a.2 b.2) <;> rfl
        · rw [show (sg (TN a b p) != 0) = true by simp [sg_zero, ht], cnd_t]
          have : onB p a b = false := by rw [← Bool.not_eq_true]; intro h; exact ht (onB_t.mp h).2.1
          rw [this]
      · have : onB p a b = false := by rw [← Bool.not_eq_true]; intro h; exact hp (onB_t.mp h).1.1
        rw [decide_eq_true ha, decide_eq_true hb, decide_eq_false hp, this]; rfl
    · have : onB p a b = false := by rw [← Bool.not_eq_true]; intro h; exact hb (onB_t.mp h).1.2.2
      rw [decide_eq_true ha, decide_eq_false hb, this]; rfl
  · have : onB p a b = false := by rw [← Bool.not_eq_true]; intro h; exact ha (onB_t.mp h).1.2.1
    rw [decide_eq_false ha, this]; rfl)
def okb (p : Pt) : Bool := decide (OkP p)
theorem okb_t {p : Pt} : okb p = true ↔ OkP p := decide_eq_true_iff
theorem s44 (d : Nat) (a b c e : Pt) : pcall M (d + 7) 44 [pt a, pt b, pt c, pt e] = some (.bool (meetB a b c e)) := told (r44 C0 (d + 6) _ _ _ _ _ _ _ _) (by
  have R := fun p => s41 (d + 5) p
  have o := fun p q r => s43 d p q r
  have t := fun p q r => s62 (d + 1) p q r
  simp only [pt] at o t R
  rw [R a, R b, R c, R e, o a c e, o b c e, o c a b, o e a b, t a b c, t a b e, t c e a, t c e b]
  simp only [C0_bool, C0_int]
  change cnd (!okb a) (some (.bool false)) (cnd (!okb b) (some (.bool false)) (cnd (!okb c) (some (.bool false)) (cnd (!okb e) (some (.bool false)) (cnd (onB a c e) (some (.bool true)) (cnd (onB b c e) (some (.bool true)) (cnd (onB c a b) (some (.bool true)) (cnd (onB e a b) (some (.bool true))
    (cnd (negB (IntKind.wrap .i64 (tn3 a b c * tn3 a b e))) (some (.bool (negB (IntKind.wrap .i64 (tn3 c e a * tn3 c e b))))) (some (.bool false)))))))))) = _
  have key : meetB a b c e = (okb a && (okb b && (okb c && (okb e && (onB a c e || (onB b c e || (onB c a b || (onB e a b || (negB (IntKind.wrap .i64 (tn3 a b c * tn3 a b e)) && negB (IntKind.wrap .i64 (tn3 c e a * tn3 c e b))))))))))) := by
    rw [Bool.eq_iff_iff]
    simp only [Bool.and_eq_true, Bool.or_eq_true, onB_t, okb_t, negB_t, meetB_t]
    have fin : ok4 a b c e → (Meet a b c e ↔ (ok3 a c e ∧ On a c e ∨ ok3 b c e ∧ On b c e ∨ ok3 c a b ∧ On c a b ∨ ok3 e a b ∧ On e a b ∨ IntKind.wrap .i64 (tn3 a b c * tn3 a b e) < 0 ∧ IntKind.wrap .i64 (tn3 c e a * tn3 c e b) < 0)) := by
      rintro ⟨ha, hb, hc, he⟩
      rw [tn3_sg ⟨ha, hb, hc⟩, tn3_sg ⟨ha, hb, he⟩, tn3_sg ⟨hc, he, ha⟩, tn3_sg ⟨hc, he, hb⟩, sg_small, sg_small]
      simp only [ok3, ha, hb, hc, he, true_and, and_true]
      exact Iff.rfl
    constructor
    · rintro ⟨h, hm⟩; exact ⟨h.1, h.2.1, h.2.2.1, h.2.2.2, (fin h).mp hm⟩
    · rintro ⟨h1, h2, h3, h4, hm⟩; exact ⟨⟨h1, h2, h3, h4⟩, (fin ⟨h1, h2, h3, h4⟩).mpr hm⟩
  rw [key]
  cases okb a <;> cases okb b <;> cases okb c <;> cases okb e <;> cases onB a c e <;> cases onB b c e <;> cases onB c a b <;> cases onB e a b <;> cases negB (IntKind.wrap .i64 (tn3 a b c * tn3 a b e)) <;> rfl)
end Go.Proofs.Ytmlpinajheacjaa.AE

namespace Go.Proofs.Ytmlpinajheacjaa.AE
set_option linter.unusedVariables false
set_option linter.unusedSimpArgs false
set_option linter.constructorNameAsVariable false
open Go
set_option maxRecDepth 100000
def r27R0 (C : Cb) (d : Nat) (a0 a1 a2 a3 : Int) (a4 : List AV) (v0 : AV) (x5 x6 x7 x8 : Int) (b9 b12 : Bool) (x15 : Int) : St → (Ex → St → Ans) → Ans := fun s16 k17 =>
 cnd ((List.length s16.env) == 38)
 (C.same s16.env[0]? (.agg [(iz a0), (iz a1), (iz a2), (iz a3)]) <|
 C.same s16.env[1]? (.lst a4) <|
 C.same s16.env[2]? v0 <|
 C.same s16.env[3]? tz <|
 C.int .i64 s16.env[4]? fun x19 =>
 C.any s16.env[5]? fun v20 =>
 C.any s16.env[6]? fun v21 =>
 C.same s16.env[7]? (.agg [(iz x5), (iz x6), (iz x7), (iz x8)]) <|
 C.same s16.env[8]? (.bool b9) <|
 C.same s16.env[9]? (.bool (!b9)) <|
 C.same s16.env[10]? bf <|
 C.same s16.env[11]? (.lst a4) <|
 C.same s16.env[12]? (.bool b12) <|
 C.same s16.env[13]? (.bool (!b12)) <|
 C.same s16.env[14]? bf <|
 C.same s16.env[15]? (.lst a4) <|
 C.same s16.env[16]? (iz x15) <|
 C.int .i64 s16.env[17]? fun x22 =>
 C.any s16.env[18]? fun v23 =>
 C.any s16.env[19]? fun v24 =>
 C.any s16.env[20]? fun v25 =>
 C.any s16.env[21]? fun v26 =>
 C.any s16.env[22]? fun v27 =>
 C.any s16.env[23]? fun v28 =>
 C.any s16.env[24]? fun v29 =>
 C.any s16.env[25]? fun v30 =>
 C.any s16.env[26]? fun v31 =>
 C.any s16.env[27]? fun v32 =>
 C.any s16.env[28]? fun v33 =>
 C.any s16.env[29]? fun v34 =>
 C.any s16.env[30]? fun v35 =>
 C.any s16.env[31]? fun v36 =>
 C.any s16.env[32]? fun v37 =>
 C.any s16.env[33]? fun v38 =>
 C.same s16.env[34]? tz <|
 C.same s16.env[35]? tz <|
 C.same s16.env[36]? tz <|
 C.same s16.env[37]? tz <|
 cnd (decide (x22 < x15))
 (C.hop (St.H s16) (.ixAS .any 2 (.v (.lst a4)) (.v (iz x22))) fun v39 h40 =>
 C.hop h40 (.load true 2 (.v v39)) fun v41 h42 =>
 C.agg 2 (some v41) fun l43 =>
 C.int .i64 l43[0]? fun x44 =>
 C.int .i64 l43[1]? fun x45 =>
 C.hop h42 (.alloc E45) fun v46 h47 =>
 C.hop h47 (.store 2 (.v v46) (.v (.agg [(iz x44), (iz x45)]))) fun v48 h49 =>
 C.hop h49 (.load true 4 (.v v0)) fun v50 h51 =>
 C.agg 4 (some v50) fun l52 =>
 C.int .i64 l52[0]? fun x53 =>
 C.int .i64 l52[1]? fun x54 =>
 C.int .i64 l52[2]? fun x55 =>
 C.int .i64 l52[3]? fun x56 =>
 C.hop h51 (.load true 2 (.v v46)) fun v57 h58 =>
 C.agg 2 (some v57) fun l59 =>
 C.int .i64 l59[0]? fun x60 =>
 C.int .i64 l59[1]? fun x61 =>
 C.hop h58 (.bk .lenV [(.v (.lst a4))]) fun v62 h63 =>
 C.int .i64 (some v62) fun x64 =>
 cnd (decide (x64 = 0))
 (none)
 (C.hop h63 (.ixAS .any 2 (.v (.lst a4)) (.v (iz (Int.tmod (IntKind.wrap .i64 (x22 + 1)) x64)))) fun v65 h66 =>
 C.hop h66 (.load true 2 (.v v65)) fun v67 h68 =>
 C.agg 2 (some v67) fun l69 =>
 C.int .i64 l69[0]? fun x70 =>
 C.int .i64 l69[1]? fun x71 =>
 C.bool (pcall M d 39 [(.agg [(iz x53), (iz x54), (iz x55), (iz x56)]), (.agg [(iz x60), (iz x61)]), (.agg [(iz x70), (iz x71)])]) fun b72 =>
 cnd b72
 (k17 .ret ⟨[(.agg [(iz a0), (iz a1), (iz a2), (iz a3)]), (.lst a4), v0, tz, (iz 0), (iz x22), v46, (.agg [(iz x5), (iz x6), (iz x7), (iz x8)]), (.bool b9), (.bool (!b9)), bf, (.lst a4), (.bool b12), (.bool (!b12)), bf, (.lst a4), (iz x15), (iz x22), bt, (iz x22), v39, (.agg [(iz x44), (iz x45)]), (.agg [(iz x53), (iz x54), (iz x55), (iz x56)]), (.agg [(iz x60), (iz x61)]), (.lst a4), (iz x22), (iz (IntKind.wrap .i64 (x22 + 1))), (.lst a4), (iz x64), (iz (Int.tmod (IntKind.wrap .i64 (x22 + 1)) x64)), v65, (.agg [(iz x70), (iz x71)]), bt, v38, tz, tz, tz, tz], h68⟩)
 (k17 .normal ⟨[(.agg [(iz a0), (iz a1), (iz a2), (iz a3)]), (.lst a4), v0, tz, (iz x19), (iz x22), v46, (.agg [(iz x5), (iz x6), (iz x7), (iz x8)]), (.bool b9), (.bool (!b9)), bf, (.lst a4), (.bool b12), (.bool (!b12)), bf, (.lst a4), (iz x15), (iz (IntKind.wrap .i64 (x22 + 1))), bt, (iz x22), v39, (.agg [(iz x44), (iz x45)]), (.agg [(iz x53), (iz x54), (iz x55), (iz x56)]), (.agg [(iz x60), (iz x61)]), (.lst a4), (iz x22), (iz (IntKind.wrap .i64 (x22 + 1))), (.lst a4), (iz x64), (iz (Int.tmod (IntKind.wrap .i64 (x22 + 1)) x64)), v65, (.agg [(iz x70), (iz x71)]), bf, (iz (IntKind.wrap .i64 (x22 + 1))), tz, tz, tz, tz], h68⟩)))
 (k17 (.exit 0) ⟨[(.agg [(iz a0), (iz a1), (iz a2), (iz a3)]), (.lst a4), v0, tz, (iz x19), v20, v21, (.agg [(iz x5), (iz x6), (iz x7), (iz x8)]), (.bool b9), (.bool (!b9)), bf, (.lst a4), (.bool b12), (.bool (!b12)), bf, (.lst a4), (iz x15), (iz x22), bf, v24, v25, v26, v27, v28, v29, v30, v31, v32, v33, v34, v35, v36, v37, v38, tz, tz, tz, tz], (St.H s16)⟩))
 (none)
def r27X0_0 (C : Cb) (d : Nat) (a0 a1 a2 a3 : Int) (a4 : List AV) (v0 : AV) (x5 x6 x7 x8 : Int) (b9 b12 : Bool) (x15 : Int) : St → Ans := fun s73 =>
 cnd ((List.length s73.env) == 38)
 (C.same s73.env[0]? (.agg [(iz a0), (iz a1), (iz a2), (iz a3)]) <|
 C.same s73.env[1]? (.lst a4) <|
 C.same s73.env[2]? v0 <|
 C.same s73.env[3]? tz <|
 C.int .i64 s73.env[4]? fun x74 =>
 C.any s73.env[5]? fun v75 =>
 C.any s73.env[6]? fun v76 =>
 C.same s73.env[7]? (.agg [(iz x5), (iz x6), (iz x7), (iz x8)]) <|
 C.same s73.env[8]? (.bool b9) <|
 C.same s73.env[9]? (.bool (!b9)) <|
 C.same s73.env[10]? bf <|
 C.same s73.env[11]? (.lst a4) <|
 C.same s73.env[12]? (.bool b12) <|
 C.same s73.env[13]? (.bool (!b12)) <|
 C.same s73.env[14]? bf <|
 C.same s73.env[15]? (.lst a4) <|
 C.same s73.env[16]? (iz x15) <|
 C.int .i64 s73.env[17]? fun x77 =>
 C.any s73.env[18]? fun v78 =>
 C.any s73.env[19]? fun v79 =>
 C.any s73.env[20]? fun v80 =>
 C.any s73.env[21]? fun v81 =>
 C.any s73.env[22]? fun v82 =>
 C.any s73.env[23]? fun v83 =>
 C.any s73.env[24]? fun v84 =>
 C.any s73.env[25]? fun v85 =>
 C.any s73.env[26]? fun v86 =>
 C.any s73.env[27]? fun v87 =>
 C.any s73.env[28]? fun v88 =>
 C.any s73.env[29]? fun v89 =>
 C.any s73.env[30]? fun v90 =>
 C.any s73.env[31]? fun v91 =>
 C.any s73.env[32]? fun v92 =>
 C.any s73.env[33]? fun v93 =>
 C.same s73.env[34]? tz <|
 C.same s73.env[35]? tz <|
 C.same s73.env[36]? tz <|
 C.same s73.env[37]? tz <|
 C.hop (St.H s73) (.fldA 0 (.v v0)) fun v94 h95 =>
 C.hop h95 (.load true 2 (.v v94)) fun v96 h97 =>
 C.agg 2 (some v96) fun l98 =>
 C.int .i64 l98[0]? fun x99 =>
 C.int .i64 l98[1]? fun x100 =>
 C.snp h97 [(.lst a4), (.agg [(iz x99), (iz x100)])] fun l101 b102 =>
 C.int .i64 (pcall M d 40 l101) fun x103 =>
 cnd (b102 || true)
 (C.fin h97 (iz x103))
 (none))
 (none)
def r27E0 (C : Cb) (d : Nat) (a0 a1 a2 a3 : Int) (a4 : List AV) (v0 : AV) (x5 x6 x7 x8 : Int) (b9 b12 : Bool) (x15 : Int) : St → Ans := fun s18 =>
 cnd ((List.length s18.env) == 38)
 (C.same s18.env[0]? (.agg [(iz a0), (iz a1), (iz a2), (iz a3)]) <|
 C.same s18.env[1]? (.lst a4) <|
 C.same s18.env[2]? v0 <|
 C.same s18.env[3]? tz <|
 C.int .i64 s18.env[4]? fun x104 =>
 C.int .i64 s18.env[5]? fun x105 =>
 C.any s18.env[6]? fun v106 =>
 C.same s18.env[7]? (.agg [(iz x5), (iz x6), (iz x7), (iz x8)]) <|
 C.same s18.env[8]? (.bool b9) <|
 C.same s18.env[9]? (.bool (!b9)) <|
 C.same s18.env[10]? bf <|
 C.same s18.env[11]? (.lst a4) <|
 C.same s18.env[12]? (.bool b12) <|
 C.same s18.env[13]? (.bool (!b12)) <|
 C.same s18.env[14]? bf <|
 C.same s18.env[15]? (.lst a4) <|
 C.same s18.env[16]? (iz x15) <|
 C.int .i64 s18.env[17]? fun x107 =>
 C.any s18.env[18]? fun v108 =>
 C.int .i64 s18.env[19]? fun x109 =>
 C.any s18.env[20]? fun v110 =>
 C.agg 2 s18.env[21]? fun l111 =>
 C.int .i64 l111[0]? fun x112 =>
 C.int .i64 l111[1]? fun x113 =>
 C.agg 4 s18.env[22]? fun l114 =>
 C.int .i64 l114[0]? fun x115 =>
 C.int .i64 l114[1]? fun x116 =>
 C.int .i64 l114[2]? fun x117 =>
 C.int .i64 l114[3]? fun x118 =>
 C.agg 2 s18.env[23]? fun l119 =>
 C.int .i64 l119[0]? fun x120 =>
 C.int .i64 l119[1]? fun x121 =>
 C.any s18.env[24]? fun v122 =>
 C.int .i64 s18.env[25]? fun x123 =>
 C.int .i64 s18.env[26]? fun x124 =>
 C.any s18.env[27]? fun v125 =>
 C.int .i64 s18.env[28]? fun x126 =>
 C.int .i64 s18.env[29]? fun x127 =>
 C.any s18.env[30]? fun v128 =>
 C.agg 2 s18.env[31]? fun l129 =>
 C.int .i64 l129[0]? fun x130 =>
 C.int .i64 l129[1]? fun x131 =>
 C.bool s18.env[32]? fun b132 =>
 C.any s18.env[33]? fun v133 =>
 C.same s18.env[34]? tz <|
 C.same s18.env[35]? tz <|
 C.same s18.env[36]? tz <|
 C.same s18.env[37]? tz <|
 C.fin (St.H s18) (iz x104))
 (none)
/-- apogee/box.Relate -/
theorem r27 (C : Cb) (d : Nat) (a0 a1 a2 a3 : Int) (a4 : List AV) : xcall C M unr d 27 [(.agg [(iz a0), (iz a1), (iz a2), (iz a3)]), (.lst a4)] =
 C.hop [] (.box E47 (.v (.agg [(iz a0), (iz a1), (iz a2), (iz a3)]))) fun v0 h1 =>
 C.hop h1 (.load true 4 (.v v0)) fun v2 h3 =>
 C.agg 4 (some v2) fun l4 =>
 C.int .i64 l4[0]? fun x5 =>
 C.int .i64 l4[1]? fun x6 =>
 C.int .i64 l4[2]? fun x7 =>
 C.int .i64 l4[3]? fun x8 =>
 C.bool (pcall M d 32 [(.agg [(iz x5), (iz x6), (iz x7), (iz x8)])]) fun b9 =>
 cnd (!b9)
 (C.fin h3 (iz (-1)))
 (C.snp h3 [(.lst a4)] fun l10 b11 =>
 C.bool (pcall M d 38 l10) fun b12 =>
 cnd (b11 || true)
 (cnd (!b12)
 (C.fin h3 (iz (-1)))
 (C.hop h3 (.bk .lenV [(.v (.lst a4))]) fun v13 h14 =>
 C.int .i64 (some v13) fun x15 =>
 C.iter (r27R0 C d a0 a1 a2 a3 a4 v0 x5 x6 x7 x8 b9 b12 x15) 1000000000000000000 ⟨[(.agg [(iz a0), (iz a1), (iz a2), (iz a3)]), (.lst a4), v0, tz, (iz 0), tz, tz, (.agg [(iz x5), (iz x6), (iz x7), (iz x8)]), (.bool b9), (.bool (!b9)), bf, (.lst a4), (.bool b12), (.bool (!b12)), bf, (.lst a4), (iz x15), (iz 0), tz, tz, tz, tz, tz, tz, tz, tz, tz, tz, tz, tz, tz, tz, tz, tz, tz, tz, tz, tz], h14⟩ [0] [r27X0_0 C d a0 a1 a2 a3 a4 v0 x5 x6 x7 x8 b9 b12 x15] (r27E0 C d a0 a1 a2 a3 a4 v0 x5 x6 x7 x8 b9 b12 x15)))
 (none)) := by kernel_rfl
/-- apogee/box.Right -/
theorem r32 (C : Cb) (d : Nat) (a0 a1 a2 a3 : Int) : xcall C M unr d 32 [(.agg [(iz a0), (iz a1), (iz a2), (iz a3)])] =
 C.bool (pcall M d 49 [(.agg [(iz a0), (iz a1)])]) fun b0 =>
 cnd b0
 (C.bool (pcall M d 49 [(.agg [(iz a2), (iz a3)])]) fun b1 =>
 cnd b1
 (cnd (decide (a0 ≤ a2))
 (some (.bool (decide (a1 ≤ a3))))
 (some bf))
 (some bf))
 (some bf) := by kernel_rfl
/-- apogee/box.Meets -/
theorem r39 (C : Cb) (d : Nat) (a0 a1 a2 a3 a4 a5 a6 a7 : Int) : xcall C M unr d 39 [(.agg [(iz a0), (iz a1), (iz a2), (iz a3)]), (.agg [(iz a4), (iz a5)]), (.agg [(iz a6), (iz a7)])] =
 C.bool (pcall M d 32 [(.agg [(iz a0), (iz a1), (iz a2), (iz a3)])]) fun b0 =>
 cnd (!b0)
 (some bf)
 (C.bool (pcall M d 49 [(.agg [(iz a4), (iz a5)])]) fun b1 =>
 cnd (!b1)
 (some bf)
 (C.bool (pcall M d 49 [(.agg [(iz a6), (iz a7)])]) fun b2 =>
 cnd (!b2)
 (some bf)
 (cnd (decide ((if (a6 > a4) then a6 else a4) < a0))
 (some bf)
 (cnd (decide ((if (a6 < a4) then a6 else a4) > a2))
 (some bf)
 (cnd (decide ((if (a7 > a5) then a7 else a5) < a1))
 (some bf)
 (cnd (decide ((if (a7 < a5) then a7 else a5) > a3))
 (some bf)
 (C.int .i64 (pcall M d 56 [(.agg [(iz a0), (iz a1)]), (.fptr (.agg [(iz a4), (iz a5)]) 0), (.fptr (.agg [(iz a6), (iz a7)]) 0)]) fun x3 =>
 cnd (x3 == 0)
 (some bt)
 (C.lst (pcall M d 58 [(.agg [(iz a0), (iz a1), (iz a2), (iz a3)])]) (fun l4 =>
 C.bool (pcall M d 54 [(.lst l4), (.fn 59 [] [(.fptr (.fn 56 [] [(.fptr (.agg [(iz a4), (iz a5)]) 0), (.fptr (.agg [(iz a6), (iz a7)]) 0)]) 0), (.fptr (iz x3) 0)])]) fun b6 =>
 some (.bool b6))
 (fun z5 =>
 none))))))))) := by kernel_rfl
/-- slices.ContainsFunc[[]apogee/api.Point,apogee/api.Point] -/
theorem r54f59 (C : Cb) (d : Nat) (a0 : List AV) (a1 : AV) (a2 a3 a4 a5 a6 : Int) : xcall C M unr d 54 [(.lst a0), (.fn 59 [] [(.fptr (.fn 56 [] [(.fptr (.agg [(iz a2), (iz a3)]) 0), (.fptr (.agg [(iz a4), (iz a5)]) 0)]) 0), (.fptr (iz a6) 0)])] =
 C.int .i64 (pcall M d 67 [(.lst a0), (.fn 59 [] [(.fptr (.fn 56 [] [(.fptr (.agg [(iz a2), (iz a3)]) 0), (.fptr (.agg [(iz a4), (iz a5)]) 0)]) 0), (.fptr (iz a6) 0)])]) fun x0 =>
 some (.bool (decide (x0 ≥ 0))) := by kernel_rfl
/-- apogee/box.Meets$1 -/
theorem r56 (C : Cb) (d : Nat) (a0 a1 a2 a3 a4 a5 : Int) : xcall C M unr d 56 [(.agg [(iz a0), (iz a1)]), (.fptr (.agg [(iz a2), (iz a3)]) 0), (.fptr (.agg [(iz a4), (iz a5)]) 0)] =
 C.int .i64 (pcall M d 57 [(.agg [(iz a2), (iz a3)]), (.agg [(iz a4), (iz a5)]), (.agg [(iz a0), (iz a1)])]) fun x0 =>
 some (iz x0) := by kernel_rfl
/-- apogee/box.Corners -/
theorem r58 (C : Cb) (d : Nat) (a0 a1 a2 a3 : Int) : xcall C M unr d 58 [(.agg [(iz a0), (iz a1), (iz a2), (iz a3)])] =
 C.bool (pcall M d 32 [(.agg [(iz a0), (iz a1), (iz a2), (iz a3)])]) fun b0 =>
 cnd (!b0)
 (some (.lst []))
 (some (.lst [(.agg [(iz a0), (iz a1)]), (.agg [(iz a2), (iz a1)]), (.agg [(iz a2), (iz a3)]), (.agg [(iz a0), (iz a3)])])) := by kernel_rfl
/-- apogee/box.Meets$2 -/
theorem r59 (C : Cb) (d : Nat) (a0 a1 a2 a3 a4 a5 a6 : Int) : xcall C M unr d 59 [(.agg [(iz a0), (iz a1)]), (.fptr (.fn 56 [] [(.fptr (.agg [(iz a2), (iz a3)]) 0), (.fptr (.agg [(iz a4), (iz a5)]) 0)]) 0), (.fptr (iz a6) 0)] =
 C.int .i64 (pcall M d 56 [(.agg [(iz a0), (iz a1)]), (.fptr (.agg [(iz a2), (iz a3)]) 0), (.fptr (.agg [(iz a4), (iz a5)]) 0)]) fun x0 =>
 some (.bool (x0 != a6)) := by kernel_rfl
def r67f59R0 (C : Cb) (d : Nat) (a0 : List AV) (a2 a3 a4 a5 a6 : Int) : St → (Ex → St → Ans) → Ans := fun s0 k1 =>
 cnd ((List.length s0.env) == 19)
 (C.same s0.env[0]? (.lst a0) <|
 C.same s0.env[1]? (.fn 59 [] [(.fptr (.fn 56 [] [(.fptr (.agg [(iz a2), (iz a3)]) 0), (.fptr (.agg [(iz a4), (iz a5)]) 0)]) 0), (.fptr (iz a6) 0)]) <|
 C.same s0.env[2]? tz <|
 C.same s0.env[3]? tz <|
 C.int .i64 s0.env[4]? fun x3 =>
 C.any s0.env[5]? fun v4 =>
 C.same s0.env[6]? (.lst a0) <|
 C.same s0.env[7]? (iz (((List.length a0) : Nat) : Int)) <|
 C.int .i64 s0.env[8]? fun x5 =>
 C.any s0.env[9]? fun v6 =>
 C.any s0.env[10]? fun v7 =>
 C.any s0.env[11]? fun v8 =>
 C.any s0.env[12]? fun v9 =>
 C.any s0.env[13]? fun v10 =>
 C.any s0.env[14]? fun v11 =>
 C.any s0.env[15]? fun v12 =>
 C.any s0.env[16]? fun v13 =>
 C.any s0.env[17]? fun v14 =>
 C.any s0.env[18]? fun v15 =>
 C.sameH (St.H s0) [] <|
 cnd (decide (x5 < (((List.length a0) : Nat) : Int)))
 (cnd (decide (0 ≤ x5))
 (C.agg 2 a0[(Int.toNat x5)]? fun l16 =>
 C.int .i64 l16[0]? fun x17 =>
 C.int .i64 l16[1]? fun x18 =>
 C.bool (pcall M d 59 [(.agg [(iz x17), (iz x18)]), (.fptr (.fn 56 [] [(.fptr (.agg [(iz a2), (iz a3)]) 0), (.fptr (.agg [(iz a4), (iz a5)]) 0)]) 0), (.fptr (iz a6) 0)]) fun b19 =>
 cnd b19
 (k1 .ret ⟨[(.lst a0), (.fn 59 [] [(.fptr (.fn 56 [] [(.fptr (.agg [(iz a2), (iz a3)]) 0), (.fptr (.agg [(iz a4), (iz a5)]) 0)]) 0), (.fptr (iz a6) 0)]), tz, tz, (iz x5), (iz x5), (.lst a0), (iz (((List.length a0) : Nat) : Int)), (iz x5), bt, (iz x5), (.fn 59 [] [(.fptr (.fn 56 [] [(.fptr (.agg [(iz a2), (iz a3)]) 0), (.fptr (.agg [(iz a4), (iz a5)]) 0)]) 0), (.fptr (iz a6) 0)]), (.lst a0), (iz x5), (.fptr (.agg [(iz x17), (iz x18)]) 0), (.agg [(iz x17), (iz x18)]), bt, (iz x5), v15], []⟩)
 (k1 .normal ⟨[(.lst a0), (.fn 59 [] [(.fptr (.fn 56 [] [(.fptr (.agg [(iz a2), (iz a3)]) 0), (.fptr (.agg [(iz a4), (iz a5)]) 0)]) 0), (.fptr (iz a6) 0)]), tz, tz, (iz x3), (iz x5), (.lst a0), (iz (((List.length a0) : Nat) : Int)), (iz (IntKind.wrap .i64 (x5 + 1))), bt, (iz x5), (.fn 59 [] [(.fptr (.fn 56 [] [(.fptr (.agg [(iz a2), (iz a3)]) 0), (.fptr (.agg [(iz a4), (iz a5)]) 0)]) 0), (.fptr (iz a6) 0)]), (.lst a0), (iz x5), (.fptr (.agg [(iz x17), (iz x18)]) 0), (.agg [(iz x17), (iz x18)]), bf, v14, (iz (IntKind.wrap .i64 (x5 + 1)))], []⟩))
 (none))
 (k1 (.exit 0) ⟨[(.lst a0), (.fn 59 [] [(.fptr (.fn 56 [] [(.fptr (.agg [(iz a2), (iz a3)]) 0), (.fptr (.agg [(iz a4), (iz a5)]) 0)]) 0), (.fptr (iz a6) 0)]), tz, tz, (iz x3), v4, (.lst a0), (iz (((List.length a0) : Nat) : Int)), (iz x5), bf, v7, v8, v9, v10, v11, v12, v13, v14, v15], []⟩))
 (none)
def r67f59X0_0 (C : Cb) (d : Nat) (a0 : List AV) (a2 a3 a4 a5 a6 : Int) : St → Ans := fun s20 =>
 cnd ((List.length s20.env) == 19)
 (C.same s20.env[0]? (.lst a0) <|
 C.same s20.env[1]? (.fn 59 [] [(.fptr (.fn 56 [] [(.fptr (.agg [(iz a2), (iz a3)]) 0), (.fptr (.agg [(iz a4), (iz a5)]) 0)]) 0), (.fptr (iz a6) 0)]) <|
 C.same s20.env[2]? tz <|
 C.same s20.env[3]? tz <|
 C.int .i64 s20.env[4]? fun x21 =>
 C.any s20.env[5]? fun v22 =>
 C.same s20.env[6]? (.lst a0) <|
 C.same s20.env[7]? (iz (((List.length a0) : Nat) : Int)) <|
 C.int .i64 s20.env[8]? fun x23 =>
 C.any s20.env[9]? fun v24 =>
 C.any s20.env[10]? fun v25 =>
 C.any s20.env[11]? fun v26 =>
 C.any s20.env[12]? fun v27 =>
 C.any s20.env[13]? fun v28 =>
 C.any s20.env[14]? fun v29 =>
 C.any s20.env[15]? fun v30 =>
 C.any s20.env[16]? fun v31 =>
 C.any s20.env[17]? fun v32 =>
 C.any s20.env[18]? fun v33 =>
 C.sameH (St.H s20) [] <|
 some (iz (-1)))
 (none)
def r67f59E0 (C : Cb) (d : Nat) (a0 : List AV) (a2 a3 a4 a5 a6 : Int) : St → Ans := fun s2 =>
 cnd ((List.length s2.env) == 19)
 (C.same s2.env[0]? (.lst a0) <|
 C.same s2.env[1]? (.fn 59 [] [(.fptr (.fn 56 [] [(.fptr (.agg [(iz a2), (iz a3)]) 0), (.fptr (.agg [(iz a4), (iz a5)]) 0)]) 0), (.fptr (iz a6) 0)]) <|
 C.same s2.env[2]? tz <|
 C.same s2.env[3]? tz <|
 C.int .i64 s2.env[4]? fun x34 =>
 C.int .i64 s2.env[5]? fun x35 =>
 C.same s2.env[6]? (.lst a0) <|
 C.same s2.env[7]? (iz (((List.length a0) : Nat) : Int)) <|
 C.int .i64 s2.env[8]? fun x36 =>
 C.any s2.env[9]? fun v37 =>
 C.int .i64 s2.env[10]? fun x38 =>
 C.any s2.env[11]? fun v39 =>
 C.any s2.env[12]? fun v40 =>
 C.int .i64 s2.env[13]? fun x41 =>
 C.any s2.env[14]? fun v42 =>
 C.agg 2 s2.env[15]? fun l43 =>
 C.int .i64 l43[0]? fun x44 =>
 C.int .i64 l43[1]? fun x45 =>
 C.bool s2.env[16]? fun b46 =>
 C.int .i64 s2.env[17]? fun x47 =>
 C.any s2.env[18]? fun v48 =>
 C.sameH (St.H s2) [] <|
 some (iz x34))
 (none)
/-- slices.IndexFunc[[]apogee/api.Point,apogee/api.Point] -/
theorem r67f59 (C : Cb) (d : Nat) (a0 : List AV) (a1 : AV) (a2 a3 a4 a5 a6 : Int) : xcall C M unr d 67 [(.lst a0), (.fn 59 [] [(.fptr (.fn 56 [] [(.fptr (.agg [(iz a2), (iz a3)]) 0), (.fptr (.agg [(iz a4), (iz a5)]) 0)]) 0), (.fptr (iz a6) 0)])] =
 C.iter (r67f59R0 C d a0 a2 a3 a4 a5 a6) 1000000000000000000 ⟨[(.lst a0), (.fn 59 [] [(.fptr (.fn 56 [] [(.fptr (.agg [(iz a2), (iz a3)]) 0), (.fptr (.agg [(iz a4), (iz a5)]) 0)]) 0), (.fptr (iz a6) 0)]), tz, tz, (iz 0), tz, (.lst a0), (iz (((List.length a0) : Nat) : Int)), (iz 0), tz, tz, tz, tz, tz, tz, tz, tz, tz, tz], []⟩ [0] [r67f59X0_0 C d a0 a2 a3 a4 a5 a6] (r67f59E0 C d a0 a2 a3 a4 a5 a6) := by kernel_rfl
end Go.Proofs.Ytmlpinajheacjaa.AE

namespace Go.Proofs.Ytmlpinajheacjaa.AE
set_option linter.unusedVariables false
set_option linter.unusedSimpArgs false
set_option linter.constructorNameAsVariable false
open Go
set_option maxRecDepth 100000
set_option maxHeartbeats 0
noncomputable def X27_0_0 (d : Nat) (a4 : List AV) (v0 : AV) (x15 : Int) (H : Heap) : Ans :=
  C0.hop H (.fldA 0 (.v v0)) fun v94 h95 =>
   C0.hop h95 (.load true 2 (.v v94)) fun v96 h97 =>
   C0.agg 2 (some v96) fun l98 =>
   C0.int .i64 l98[0]? fun x99 =>
   C0.int .i64 l98[1]? fun x100 =>
   C0.snp h97 [(.lst a4), (.agg [(iz x99), (iz x100)])] fun l101 b102 =>
   C0.int .i64 (pcall M d 40 l101) fun x103 =>
   cnd (b102 || true)
   (C0.fin h97 (iz x103))
   (none)
theorem X27_0_0_ok (d : Nat) (a0 a1 a2 a3 : Int) (a4 : List AV) (v0 : AV) (x5 x6 x7 x8 : Int) (b9 b12 : Bool) (x15 x74 : Int) (v75 v76 : AV) (x77 : Int) (v78 v79 v80 v81 v82 v83 v84 v85 v86 v87 v88 v89 v90 v91 v92 v93 : AV) (H : Heap) : r27X0_0 C0 d a0 a1 a2 a3 a4 v0 x5 x6 x7 x8 b9 b12 x15 ⟨[(.agg [(iz a0), (iz a1), (iz a2), (iz a3)]), (.lst a4), v0, tz, (iz x74), v75, v76, (.agg [(iz x5), (iz x6), (iz x7), (iz x8)]), (.bool b9), (.bool (!b9)), bf, (.lst a4), (.bool b12), (.bool (!b12)), bf, (.lst a4), (iz x15), (iz x77), v78, v79, v80, v81, v82, v83, v84, v85, v86, v87, v88, v89, v90, v91, v92, v93, tz, tz, tz, tz], H⟩ = X27_0_0 d a4 v0 x15 H := by
  unfold r27X0_0; refine Eq.trans (pl_len (by rfl)) ?_; (iterate 4 (refine yt yS ?_)); refine yt yI ?_; (iterate 2 (refine yt yA ?_)); (iterate 10 (refine yt yS ?_)); refine yt yI ?_; (iterate 16 (refine yt yA ?_)); (iterate 4 (refine yt yS ?_))
  rfl
noncomputable def E27_0 (d : Nat) (a4 : List AV) (v0 : AV) (x15 x104 : Int) (H : Heap) : Ans :=
  C0.fin H (iz x104)
theorem E27_0_ok (d : Nat) (a0 a1 a2 a3 : Int) (a4 : List AV) (v0 : AV) (x5 x6 x7 x8 : Int) (b9 b12 : Bool) (x15 x104 x105 : Int) (v106 : AV) (x107 : Int) (v108 : AV) (x109 : Int) (v110 : AV) (x112 x113 x115 x116 x117 x118 x120 x121 : Int) (v122 : AV) (x123 x124 : Int) (v125 : AV) (x126 x127 : Int) (v128 : AV) (x130 x131 : Int) (b132 : Bool) (v133 : AV) (H : Heap) : r27E0 C0 d a0 a1 a2 a3 a4 v0 x5 x6 x7 x8 b9 b12 x15 ⟨[(.agg [(iz a0), (iz a1), (iz a2), (iz a3)]), (.lst a4), v0, tz, (iz x104), (iz x105), v106, (.agg [(iz x5), (iz x6), (iz x7), (iz x8)]), (.bool b9), (.bool (!b9)), bf, (.lst a4), (.bool b12), (.bool (!b12)), bf, (.lst a4), (iz x15), (iz x107), v108, (iz x109), v110, (.agg [(iz x112), (iz x113)]), (.agg [(iz x115), (iz x116), (iz x117), (iz x118)]), (.agg [(iz x120), (iz x121)]), v122, (iz x123), (iz x124), v125, (iz x126), (iz x127), v128, (.agg [(iz x130), (iz x131)]), (.bool b132), v133, tz, tz, tz, tz], H⟩ = E27_0 d a4 v0 x15 x104 H := by
  unfold r27E0; refine Eq.trans (pl_len (by rfl)) ?_; (iterate 4 (refine yt yS ?_)); (iterate 2 (refine yt yI ?_)); refine yt yA ?_; (iterate 10 (refine yt yS ?_)); refine yt yI ?_; refine yt yA ?_; refine yt yI ?_; refine yt yA ?_; refine yt yG ?_; (iterate 2 (refine yt yI ?_)); refine yt yG ?_; (iterate 4 (refine yt yI ?_)); refine yt yG ?_; (iterate 2 (refine yt yI ?_)); refine yt yA ?_; (iterate 2 (refine yt yI ?_)); refine yt yA ?_; (iterate 2 (refine yt yI ?_)); refine yt yA ?_; refine yt yG ?_; (iterate 2 (refine yt yI ?_)); refine yt yB ?_; refine yt yA ?_; (iterate 4 (refine yt yS ?_))
  rfl
noncomputable def L27_0 (d : Nat) (a4 : List AV) (v0 : AV) (x15 : Int) : Nat → Int → Heap → Ans
  | 0, _, _ => none
  | n + 1, x22, H =>
  cnd (decide (x22 < x15))
   (C0.hop H (.ixAS .any 2 (.v (.lst a4)) (.v (iz x22))) fun v39 h40 =>
   C0.hop h40 (.load true 2 (.v v39)) fun v41 h42 =>
   C0.agg 2 (some v41) fun l43 =>
   C0.int .i64 l43[0]? fun x44 =>
   C0.int .i64 l43[1]? fun x45 =>
   C0.hop h42 (.alloc E45) fun v46 h47 =>
   C0.hop h47 (.store 2 (.v v46) (.v (.agg [(iz x44), (iz x45)]))) fun v48 h49 =>
   C0.hop h49 (.load true 4 (.v v0)) fun v50 h51 =>
   C0.agg 4 (some v50) fun l52 =>
   C0.int .i64 l52[0]? fun x53 =>
   C0.int .i64 l52[1]? fun x54 =>
   C0.int .i64 l52[2]? fun x55 =>
   C0.int .i64 l52[3]? fun x56 =>
   C0.hop h51 (.load true 2 (.v v46)) fun v57 h58 =>
   C0.agg 2 (some v57) fun l59 =>
   C0.int .i64 l59[0]? fun x60 =>
   C0.int .i64 l59[1]? fun x61 =>
   C0.hop h58 (.bk .lenV [(.v (.lst a4))]) fun v62 h63 =>
   C0.int .i64 (some v62) fun x64 =>
   cnd (decide (x64 = 0))
   (none)
   (C0.hop h63 (.ixAS .any 2 (.v (.lst a4)) (.v (iz (Int.tmod (IntKind.wrap .i64 (x22 + 1)) x64)))) fun v65 h66 =>
   C0.hop h66 (.load true 2 (.v v65)) fun v67 h68 =>
   C0.agg 2 (some v67) fun l69 =>
   C0.int .i64 l69[0]? fun x70 =>
   C0.int .i64 l69[1]? fun x71 =>
   C0.bool (pcall M d 39 [(.agg [(iz x53), (iz x54), (iz x55), (iz x56)]), (.agg [(iz x60), (iz x61)]), (.agg [(iz x70), (iz x71)])]) fun b72 =>
   cnd b72
   (E27_0 d a4 v0 x15 0 h68)
   (L27_0 d a4 v0 x15 n (IntKind.wrap .i64 (x22 + 1)) h68)))
   (X27_0_0 d a4 v0 x15 H)
theorem it27_0 (d : Nat) (a0 a1 a2 a3 : Int) (a4 : List AV) (v0 : AV) (x5 x6 x7 x8 : Int) (b9 b12 : Bool) (x15 : Int)   : ∀ (n : Nat) (x19 : Int) (v20 v21 : AV) (x22 : Int) (v23 v24 v25 v26 v27 v28 v29 v30 v31 v32 v33 v34 v35 v36 v37 v38 : AV) (H : Heap), C0.iter (r27R0 C0 d a0 a1 a2 a3 a4 v0 x5 x6 x7 x8 b9 b12 x15) n ⟨[(.agg [(iz a0), (iz a1), (iz a2), (iz a3)]), (.lst a4), v0, tz, (iz x19), v20, v21, (.agg [(iz x5), (iz x6), (iz x7), (iz x8)]), (.bool b9), (.bool (!b9)), bf, (.lst a4), (.bool b12), (.bool (!b12)), bf, (.lst a4), (iz x15), (iz x22), v23, v24, v25, v26, v27, v28, v29, v30, v31, v32, v33, v34, v35, v36, v37, v38, tz, tz, tz, tz], H⟩ [0] [r27X0_0 C0 d a0 a1 a2 a3 a4 v0 x5 x6 x7 x8 b9 b12 x15] (r27E0 C0 d a0 a1 a2 a3 a4 v0 x5 x6 x7 x8 b9 b12 x15) = L27_0 d a4 v0 x15 n x22 H := by
  generalize hR : r27R0 C0 d a0 a1 a2 a3 a4 v0 x5 x6 x7 x8 b9 b12 x15 = R
  intro n
  induction n with
  | zero => intros; rfl
  | succ n ih =>
    intro x19 v20 v21 x22 v23 v24 v25 v26 v27 v28 v29 v30 v31 v32 v33 v34 v35 v36 v37 v38 H
    simp only [it_ret] at ih
    rw [it_ret, xiter_s]
    refine Eq.trans (congrFun (congrFun hR.symm _) _) ?_
    unfold r27R0
    refine Eq.trans (pl_len (by rfl)) ?_; (iterate 4 (refine yt yS ?_)); refine yt yI ?_; (iterate 2 (refine yt yA ?_)); (iterate 10 (refine yt yS ?_)); refine yt yI ?_; (iterate 16 (refine yt yA ?_)); (iterate 4 (refine yt yS ?_))
    simp only [L27_0, kIter_n, kIter_x, kIter_r, kOut_x, kOut_r, xgo_hit, xgo_miss, ih, X27_0_0_ok d a0 a1 a2 a3 a4 v0 x5 x6 x7 x8 b9 b12 x15  , E27_0_ok d a0 a1 a2 a3 a4 v0 x5 x6 x7 x8 b9 b12 x15  ]
/-- apogee/box.Relate -/
theorem q27 (d : Nat) (a0 a1 a2 a3 : Int) (a4 : List AV) : xcall C0 M unr d 27 [(.agg [(iz a0), (iz a1), (iz a2), (iz a3)]), (.lst a4)] =
  C0.hop [] (.box E47 (.v (.agg [(iz a0), (iz a1), (iz a2), (iz a3)]))) fun v0 h1 =>
  C0.hop h1 (.load true 4 (.v v0)) fun v2 h3 =>
  C0.agg 4 (some v2) fun l4 =>
  C0.int .i64 l4[0]? fun x5 =>
  C0.int .i64 l4[1]? fun x6 =>
  C0.int .i64 l4[2]? fun x7 =>
  C0.int .i64 l4[3]? fun x8 =>
  C0.bool (pcall M d 32 [(.agg [(iz x5), (iz x6), (iz x7), (iz x8)])]) fun b9 =>
  cnd (!b9)
   (C0.fin h3 (iz (-1)))
   (C0.snp h3 [(.lst a4)] fun l10 b11 =>
   C0.bool (pcall M d 38 l10) fun b12 =>
   cnd (b11 || true)
   (cnd (!b12)
   (C0.fin h3 (iz (-1)))
   (C0.hop h3 (.bk .lenV [(.v (.lst a4))]) fun v13 h14 =>
   C0.int .i64 (some v13) fun x15 =>
   L27_0 d a4 v0 x15 1000000000000000000 0 h14))
   (none)) := (r27 C0 d a0 a1 a2 a3 a4).trans (by simp only [it27_0])
noncomputable def X67f59_0_0 (d : Nat) (a0 : List AV) (a2 a3 a4 a5 a6 : Int)  : Ans :=
  some (iz (-1))
theorem X67f59_0_0_ok (d : Nat) (a0 : List AV) (a2 a3 a4 a5 a6 x21 : Int) (v22 : AV) (x23 : Int) (v24 v25 v26 v27 v28 v29 v30 v31 v32 v33 : AV) : r67f59X0_0 C0 d a0 a2 a3 a4 a5 a6 ⟨[(.lst a0), (.fn 59 [] [(.fptr (.fn 56 [] [(.fptr (.agg [(iz a2), (iz a3)]) 0), (.fptr (.agg [(iz a4), (iz a5)]) 0)]) 0), (.fptr (iz a6) 0)]), tz, tz, (iz x21), v22, (.lst a0), (iz (((List.length a0) : Nat) : Int)), (iz x23), v24, v25, v26, v27, v28, v29, v30, v31, v32, v33], []⟩ = X67f59_0_0 d a0 a2 a3 a4 a5 a6  := by
  unfold r67f59X0_0; refine Eq.trans (pl_len (by rfl)) ?_; (iterate 4 (refine yt yS ?_)); refine yt yI ?_; refine yt yA ?_; (iterate 2 (refine yt yS ?_)); refine yt yI ?_; (iterate 10 (refine yt yA ?_)); refine Eq.trans (pl_sameH) ?_
  rfl
noncomputable def E67f59_0 (d : Nat) (a0 : List AV) (a2 a3 a4 a5 a6 x34 : Int) : Ans :=
  some (iz x34)
theorem E67f59_0_ok (d : Nat) (a0 : List AV) (a2 a3 a4 a5 a6 x34 x35 x36 : Int) (v37 : AV) (x38 : Int) (v39 v40 : AV) (x41 : Int) (v42 : AV) (x44 x45 : Int) (b46 : Bool) (x47 : Int) (v48 : AV) : r67f59E0 C0 d a0 a2 a3 a4 a5 a6 ⟨[(.lst a0), (.fn 59 [] [(.fptr (.fn 56 [] [(.fptr (.agg [(iz a2), (iz a3)]) 0), (.fptr (.agg [(iz a4), (iz a5)]) 0)]) 0), (.fptr (iz a6) 0)]), tz, tz, (iz x34), (iz x35), (.lst a0), (iz (((List.length a0) : Nat) : Int)), (iz x36), v37, (iz x38), v39, v40, (iz x41), v42, (.agg [(iz x44), (iz x45)]), (.bool b46), (iz x47), v48], []⟩ = E67f59_0 d a0 a2 a3 a4 a5 a6 x34 := by
  unfold r67f59E0; refine Eq.trans (pl_len (by rfl)) ?_; (iterate 4 (refine yt yS ?_)); (iterate 2 (refine yt yI ?_)); (iterate 2 (refine yt yS ?_)); refine yt yI ?_; refine yt yA ?_; refine yt yI ?_; (iterate 2 (refine yt yA ?_)); refine yt yI ?_; refine yt yA ?_; refine yt yG ?_; (iterate 2 (refine yt yI ?_)); refine yt yB ?_; refine yt yI ?_; refine yt yA ?_; refine Eq.trans (pl_sameH) ?_
  rfl
noncomputable def L67f59_0 (d : Nat) (a0 : List AV) (a2 a3 a4 a5 a6 : Int) : Nat → Int → Ans
  | 0, _ => none
  | n + 1, x5 =>
  cnd (decide (x5 < (((List.length a0) : Nat) : Int)))
   (cnd (decide (0 ≤ x5))
   (C0.agg 2 a0[(Int.toNat x5)]? fun l16 =>
   C0.int .i64 l16[0]? fun x17 =>
   C0.int .i64 l16[1]? fun x18 =>
   C0.bool (pcall M d 59 [(.agg [(iz x17), (iz x18)]), (.fptr (.fn 56 [] [(.fptr (.agg [(iz a2), (iz a3)]) 0), (.fptr (.agg [(iz a4), (iz a5)]) 0)]) 0), (.fptr (iz a6) 0)]) fun b19 =>
   cnd b19
   (E67f59_0 d a0 a2 a3 a4 a5 a6 x5)
   (L67f59_0 d a0 a2 a3 a4 a5 a6 n (IntKind.wrap .i64 (x5 + 1))))
   (none))
   (X67f59_0_0 d a0 a2 a3 a4 a5 a6)
theorem it67f59_0 (d : Nat) (a0 : List AV) (a2 a3 a4 a5 a6 : Int)   : ∀ (n : Nat) (x3 : Int) (v4 : AV) (x5 : Int) (v6 v7 v8 v9 v10 v11 v12 v13 v14 v15 : AV), C0.iter (r67f59R0 C0 d a0 a2 a3 a4 a5 a6) n ⟨[(.lst a0), (.fn 59 [] [(.fptr (.fn 56 [] [(.fptr (.agg [(iz a2), (iz a3)]) 0), (.fptr (.agg [(iz a4), (iz a5)]) 0)]) 0), (.fptr (iz a6) 0)]), tz, tz, (iz x3), v4, (.lst a0), (iz (((List.length a0) : Nat) : Int)), (iz x5), v6, v7, v8, v9, v10, v11, v12, v13, v14, v15], []⟩ [0] [r67f59X0_0 C0 d a0 a2 a3 a4 a5 a6] (r67f59E0 C0 d a0 a2 a3 a4 a5 a6) = L67f59_0 d a0 a2 a3 a4 a5 a6 n x5 := by
  generalize hR : r67f59R0 C0 d a0 a2 a3 a4 a5 a6 = R
  intro n
  induction n with
  | zero => intros; rfl
  | succ n ih =>
    intro x3 v4 x5 v6 v7 v8 v9 v10 v11 v12 v13 v14 v15
    simp only [it_ret] at ih
    rw [it_ret, xiter_s]
    refine Eq.trans (congrFun (congrFun hR.symm _) _) ?_
    unfold r67f59R0
    refine Eq.trans (pl_len (by rfl)) ?_; (iterate 4 (refine yt yS ?_)); refine yt yI ?_; refine yt yA ?_; (iterate 2 (refine yt yS ?_)); refine yt yI ?_; (iterate 10 (refine yt yA ?_)); refine Eq.trans (pl_sameH) ?_
    simp only [L67f59_0, kIter_n, kIter_x, kIter_r, kOut_x, kOut_r, xgo_hit, xgo_miss, ih, X67f59_0_0_ok d a0 a2 a3 a4 a5 a6  , E67f59_0_ok d a0 a2 a3 a4 a5 a6  ]
/-- slices.IndexFunc[[]apogee/api.Point,apogee/api.Point] -/
theorem q67f59 (d : Nat) (a0 : List AV) (a1 : AV) (a2 a3 a4 a5 a6 : Int) : xcall C0 M unr d 67 [(.lst a0), (.fn 59 [] [(.fptr (.fn 56 [] [(.fptr (.agg [(iz a2), (iz a3)]) 0), (.fptr (.agg [(iz a4), (iz a5)]) 0)]) 0), (.fptr (iz a6) 0)])] =
  L67f59_0 d a0 a2 a3 a4 a5 a6 1000000000000000000 0 := (r67f59 C0 d a0 a1 a2 a3 a4 a5 a6).trans (by simp only [it67f59_0])
end Go.Proofs.Ytmlpinajheacjaa.AE

namespace Go.Proofs.Ytmlpinajheacjaa.Geo
/-- The ray from p to greater X meets the edge, told from its lower end (that end counts, the higher one doesn't). -/
def CrsU (p a b : Pt) : Prop := a.2 ≤ p.2 ∧ p.2 < b.2 ∧ TN a b p > 0
instance (p a b : Pt) : Decidable (CrsU p a b) := by unfold CrsU; infer_instance
def Crs (p a b : Pt) : Prop := CrsU p a b ∨ CrsU p b a
instance (p a b : Pt) : Decidable (Crs p a b) := by unfold Crs; infer_instance
/-- Between both rays, to the right of the way from p up to q. -/
def Rgt (p q v : Pt) : Prop := p.2 < v.2 ∧ v.2 ≤ q.2 ∧ TN p q v < 0
instance (p q v : Pt) : Decidable (Rgt p q v) := by unfold Rgt; infer_instance
theorem mul_nn {x y : Int} (hx : x ≤ 0) (hy : y ≤ 0) : 0 ≤ x * y := by
  have := Int.mul_nonneg (show 0 ≤ -x by omega) (show 0 ≤ -y by omega)
  rwa [Int.neg_mul_neg] at this
theorem mul_np {x y : Int} (hx : x ≤ 0) (hy : 0 ≤ y) : x * y ≤ 0 := by
  have := Int.mul_nonneg (show 0 ≤ -x by omega) hy
  rw [Int.neg_mul] at this; omega
theorem mul_np_neg {x y : Int} (hx : x < 0) (hy : 0 < y) : x * y < 0 := by
  have := Int.mul_pos (show 0 < -x by omega) hy
  rw [Int.neg_mul] at this; omega
theorem mul_pn_neg {x y : Int} (hx : 0 < x) (hy : y < 0) : x * y < 0 := by rw [Int.mul_comm]; exact mul_np_neg hy hx
theorem mul_pn {x y : Int} (hx : 0 ≤ x) (hy : y ≤ 0) : x * y ≤ 0 := by rw [Int.mul_comm]; exact mul_np hy hx
/-- On the line, and between in height where that isn't one height: on the way. -/
theorem On_of_height {p a b : Pt} (h : TN a b p = 0) (h1 : a.2 ≤ p.2) (h2 : p.2 ≤ b.2) (h3 : a.2 < b.2) : On p a b := by
  refine ⟨h, ?_⟩
  unfold TN at h
  unfold Btw
  have hx : (a.1 ≤ p.1 ∧ p.1 ≤ b.1) ∨ (b.1 ≤ p.1 ∧ p.1 ≤ a.1) := by
    have e1 : (b.2 - a.2) * (p.1 - a.1) = (b.1 - a.1) * (p.2 - a.2) := by omega
    have e2 : (b.2 - a.2) * (b.1 - p.1) = (b.1 - a.1) * (b.2 - p.2) := by
      have : (b.2 - a.2) * (b.1 - p.1) = (b.2 - a.2) * (b.1 - a.1) - (b.2 - a.2) * (p.1 - a.1) := by grind
      rw [this, e1]; grind
    rcases Int.le_total a.1 b.1 with c | c
    · left
      have n1 := Int.mul_nonneg (show 0 ≤ b.1 - a.1 by omega) (show 0 ≤ p.2 - a.2 by omega)
      have n2 := Int.mul_nonneg (show 0 ≤ b.1 - a.1 by omega) (show 0 ≤ b.2 - p.2 by omega)
      constructor
      · refine Int.not_lt.1 fun d => ?_
        have := mul_pn_neg (show 0 < b.2 - a.2 by omega) (show p.1 - a.1 < 0 by omega); omega
      · refine Int.not_lt.1 fun d => ?_
        have := mul_pn_neg (show 0 < b.2 - a.2 by omega) (show b.1 - p.1 < 0 by omega); omega
    · right
      have n1 := mul_np (show b.1 - a.1 ≤ 0 by omega) (show 0 ≤ p.2 - a.2 by omega)
      have n2 := mul_np (show b.1 - a.1 ≤ 0 by omega) (show 0 ≤ b.2 - p.2 by omega)
      constructor
      · refine Int.not_lt.1 fun d => ?_
        have := Int.mul_pos (show 0 < b.2 - a.2 by omega) (show 0 < b.1 - p.1 by omega); omega
      · refine Int.not_lt.1 fun d => ?_
        have := Int.mul_pos (show 0 < b.2 - a.2 by omega) (show 0 < p.1 - a.1 by omega); omega
  exact ⟨hx, Or.inl ⟨h1, h2⟩⟩
end Go.Proofs.Ytmlpinajheacjaa.Geo

namespace Go.Proofs.Ytmlpinajheacjaa.Geo
/-- On the line, and between in width where that isn't one width: on the way. -/
theorem On_of_width {p a b : Pt} (h : TN a b p = 0) (h1 : a.1 ≤ p.1) (h2 : p.1 ≤ b.1) (h3 : a.1 < b.1) : On p a b := by
  have e : TN (a.2, a.1) (b.2, b.1) (p.2, p.1) = 0 := by
    have : TN (a.2, a.1) (b.2, b.1) (p.2, p.1) = -TN a b p := by unfold TN; grind
    omega
  have k := (On_of_height (p := (p.2, p.1)) (a := (a.2, a.1)) (b := (b.2, b.1)) e h1 h2 h3).2
  refine ⟨h, ?_⟩
  unfold Btw at k ⊢
  exact ⟨k.2, k.1⟩
def HasB (x0 y0 x1 y1 : Int) (p : Pt) : Prop := x0 ≤ p.1 ∧ p.1 ≤ x1 ∧ y0 ≤ p.2 ∧ p.2 ≤ y1
instance (x0 y0 x1 y1 : Int) (p : Pt) : Decidable (HasB x0 y0 x1 y1 p) := by unfold HasB; infer_instance
/-- By the sides. -/
def MeetB (x0 y0 x1 y1 : Int) (p q : Pt) : Prop := HasB x0 y0 x1 y1 p ∨ HasB x0 y0 x1 y1 q ∨ Meet p q (x0, y0) (x1, y0) ∨ Meet p q (x1, y0) (x1, y1) ∨ Meet p q (x1, y1) (x0, y1) ∨ Meet p q (x0, y1) (x0, y0)
/-- Both shadows overlap. -/
def Ovl (x0 y0 x1 y1 : Int) (p q : Pt) : Prop := (x0 ≤ p.1 ∨ x0 ≤ q.1) ∧ (p.1 ≤ x1 ∨ q.1 ≤ x1) ∧ (y0 ≤ p.2 ∨ y0 ≤ q.2) ∧ (p.2 ≤ y1 ∨ q.2 ≤ y1)
/-- All corners to one side. -/
def Side1 (x0 y0 x1 y1 : Int) (p q : Pt) : Prop := (TN p q (x0, y0) > 0 ∧ TN p q (x1, y0) > 0 ∧ TN p q (x1, y1) > 0 ∧ TN p q (x0, y1) > 0) ∨ (TN p q (x0, y0) < 0 ∧ TN p q (x1, y0) < 0 ∧ TN p q (x1, y1) < 0 ∧ TN p q (x0, y1) < 0)
/-- What holds at all corners holds in the box. -/
theorem corner_pos {x0 y0 x1 y1 : Int} {p q v : Pt} (hv : HasB x0 y0 x1 y1 v) (h : TN p q (x0, y0) > 0 ∧ TN p q (x1, y0) > 0 ∧ TN p q (x1, y1) > 0 ∧ TN p q (x0, y1) > 0) : TN p q v > 0 := by
  obtain ⟨v1, v2, v3, v4⟩ := hv
  obtain ⟨h1, h2, h3, h4⟩ := h
  have e : ∀ c : Pt, TN p q v = TN p q c + (q.1 - p.1) * (v.2 - c.2) - (q.2 - p.2) * (v.1 - c.1) := by intro c; unfold TN; grind
  rcases Int.le_total p.1 q.1 with a | a <;> rcases Int.le_total p.2 q.2 with b | b
  · have := e (x1, y0)
    have m1 := Int.mul_nonneg (show 0 ≤ q.1 - p.1 by omega) (show 0 ≤ v.2 - y0 by omega)
    have m2 := mul_pn (show 0 ≤ q.2 - p.2 by omega) (show v.1 - x1 ≤ 0 by omega)
    simp only at this; omega
  · have := e (x0, y0)
    have m1 := Int.mul_nonneg (show 0 ≤ q.1 - p.1 by omega) (show 0 ≤ v.2 - y0 by omega)
    have m2 := mul_np (show q.2 - p.2 ≤ 0 by omega) (show 0 ≤ v.1 - x0 by omega)
    simp only at this; omega
  · have := e (x1, y1)
    have m1 := mul_nn (show q.1 - p.1 ≤ 0 by omega) (show v.2 - y1 ≤ 0 by omega)
    have m2 := mul_pn (show 0 ≤ q.2 - p.2 by omega) (show v.1 - x1 ≤ 0 by omega)
    simp only at this; omega
  · have := e (x0, y1)
    have m1 := mul_nn (show q.1 - p.1 ≤ 0 by omega) (show v.2 - y1 ≤ 0 by omega)
    have m2 := mul_np (show q.2 - p.2 ≤ 0 by omega) (show 0 ≤ v.1 - x0 by omega)
    simp only at this; omega
theorem corner_none {x0 y0 x1 y1 : Int} {p q v : Pt} (hv : HasB x0 y0 x1 y1 v) (h0 : TN p q v = 0) : ¬ Side1 x0 y0 x1 y1 p q := by
  rintro (h | h)
  · have := corner_pos hv h; omega
  · obtain ⟨h1, h2, h3, h4⟩ := h
    have := corner_pos (p := q) (q := p) hv ⟨by rw [TN_swap]; omega, by rw [TN_swap]; omega, by rw [TN_swap]; omega, by rw [TN_swap]; omega⟩
    rw [TN_swap] at this; omega
/-- Ways that cross overlap in width. -/
theorem Cross_width {p q c d : Pt} (h : Cross p q c d) : ¬ (p.1 < c.1 ∧ p.1 < d.1 ∧ q.1 < c.1 ∧ q.1 < d.1) := by
  rintro ⟨a1, a2, a3, a4⟩
  obtain ⟨h1, h2⟩ := h
  rw [sg_mul_neg] at h1 h2
  have i1 : (q.1 - p.1) * TN c d p = TN p q d * (c.1 - p.1) - TN p q c * (d.1 - p.1) := by unfold TN; grind
  have i2 : (q.1 - p.1) * TN c d q = TN p q d * (c.1 - q.1) - TN p q c * (d.1 - q.1) := by unfold TN; grind
  rcases h1 with ⟨x, y⟩ | ⟨x, y⟩
  · have m1 := mul_np_neg x (show 0 < d.1 - p.1 by omega)
    have m2 := Int.mul_pos y (show 0 < c.1 - p.1 by omega)
    have m3 := mul_np_neg x (show 0 < d.1 - q.1 by omega)
    have m4 := Int.mul_pos y (show 0 < c.1 - q.1 by omega)
    have n1 : 0 < (q.1 - p.1) * TN c d p := by omega
    have n2 : 0 < (q.1 - p.1) * TN c d q := by omega
    rcases h2 with ⟨u, w⟩ | ⟨u, w⟩
    · rcases Int.le_total p.1 q.1 with g | g
      · have := mul_pn (show 0 ≤ q.1 - p.1 by omega) (show TN c d p ≤ 0 by omega); omega
      · have := mul_np (show q.1 - p.1 ≤ 0 by omega) (show 0 ≤ TN c d q by omega); omega
    · rcases Int.le_total p.1 q.1 with g | g
      · have := mul_pn (show 0 ≤ q.1 - p.1 by omega) (show TN c d q ≤ 0 by omega); omega
      · have := mul_np (show q.1 - p.1 ≤ 0 by omega) (show 0 ≤ TN c d p by omega); omega
  · have m1 := Int.mul_pos x (show 0 < d.1 - p.1 by omega)
    have m2 := mul_np_neg y (show 0 < c.1 - p.1 by omega)
    have m3 := Int.mul_pos x (show 0 < d.1 - q.1 by omega)
    have m4 := mul_np_neg y (show 0 < c.1 - q.1 by omega)
    have n1 : (q.1 - p.1) * TN c d p < 0 := by omega
    have n2 : (q.1 - p.1) * TN c d q < 0 := by omega
    rcases h2 with ⟨u, w⟩ | ⟨u, w⟩
    · rcases Int.le_total p.1 q.1 with g | g
      · have := Int.mul_nonneg (show 0 ≤ q.1 - p.1 by omega) (show 0 ≤ TN c d q by omega); omega
      · have := mul_nn (show q.1 - p.1 ≤ 0 by omega) (show TN c d p ≤ 0 by omega); omega
    · rcases Int.le_total p.1 q.1 with g | g
      · have := Int.mul_nonneg (show 0 ≤ q.1 - p.1 by omega) (show 0 ≤ TN c d p by omega); omega
      · have := mul_nn (show q.1 - p.1 ≤ 0 by omega) (show TN c d q ≤ 0 by omega); omega
theorem Cross_flip {p q c d : Pt} : Cross (p.2, p.1) (q.2, q.1) (c.2, c.1) (d.2, d.1) ↔ Cross p q c d := by
  have e : ∀ a b c : Pt, TN (a.2, a.1) (b.2, b.1) (c.2, c.1) = -TN a b c := by intro a b c; unfold TN; grind
  unfold Cross; rw [e, e, e, e]; simp only [sg_neg, Int.neg_mul_neg]
theorem Cross_neg {p q c d : Pt} : Cross (-p.1, -p.2) (-q.1, -q.2) (-c.1, -c.2) (-d.1, -d.2) ↔ Cross p q c d := by
  have e : ∀ a b c : Pt, TN (-a.1, -a.2) (-b.1, -b.2) (-c.1, -c.2) = TN a b c := by intro a b c; unfold TN; grind
  unfold Cross; rw [e, e, e, e]
/-- Ways that cross overlap. -/
theorem Cross_ovl {p q c d : Pt} (h : Cross p q c d) : ¬ (p.1 < c.1 ∧ p.1 < d.1 ∧ q.1 < c.1 ∧ q.1 < d.1) ∧ ¬ (c.1 < p.1 ∧ d.1 < p.1 ∧ c.1 < q.1 ∧ d.1 < q.1) ∧
    ¬ (p.2 < c.2 ∧ p.2 < d.2 ∧ q.2 < c.2 ∧ q.2 < d.2) ∧ ¬ (c.2 < p.2 ∧ d.2 < p.2 ∧ c.2 < q.2 ∧ d.2 < q.2) := by
  have f := Cross_flip.2 h
  have n := Cross_neg.2 h
  have fn := Cross_neg.2 f
  refine ⟨Cross_width h, ?_, Cross_width f, ?_⟩
  · have := Cross_width n; simp only at this; omega
  · have := Cross_width fn; simp only at this; omega
/-- A side that is met: it isn't all to one side, and shadows overlap. -/
theorem side_met {x0 y0 x1 y1 : Int} {p q c d : Pt} (hc : HasB x0 y0 x1 y1 c) (hd : HasB x0 y0 x1 y1 d) (hseg : ∀ v, Btw v c d → HasB x0 y0 x1 y1 v) (h : Meet p q c d) : Ovl x0 y0 x1 y1 p q ∧ ¬ Side1 x0 y0 x1 y1 p q := by
  have has : ∀ v, (v = p ∨ v = q) → HasB x0 y0 x1 y1 v → Ovl x0 y0 x1 y1 p q ∧ ¬ Side1 x0 y0 x1 y1 p q := by
    intro v hv hb
    refine ⟨?_, corner_none hb ?_⟩
    · unfold HasB at hb; unfold Ovl; rcases hv with rfl | rfl <;> omega
    · rcases hv with rfl | rfl
      · exact TN_aba _ _
      · exact TN_abb _ _
  have hon : ∀ v, HasB x0 y0 x1 y1 v → On v p q → Ovl x0 y0 x1 y1 p q ∧ ¬ Side1 x0 y0 x1 y1 p q := by
    intro v hb ho
    refine ⟨?_, corner_none hb ho.1⟩
    have := ho.2; unfold HasB at hb; unfold Btw at this; unfold Ovl; omega
  rcases h with h | h | h | h | h
  · exact has p (Or.inl rfl) (hseg p h.2)
  · exact has q (Or.inr rfl) (hseg q h.2)
  · exact hon c hc h
  · exact hon d hd h
  · refine ⟨?_, ?_⟩
    · have := Cross_ovl h
      unfold HasB at hc hd; unfold Ovl; omega
    · have h1 := h.1
      rw [sg_mul_neg] at h1
      rintro (s | s)
      · have k1 := corner_pos hc s
        have k2 := corner_pos hd s; omega
      · have sw : TN q p (x0, y0) > 0 ∧ TN q p (x1, y0) > 0 ∧ TN q p (x1, y1) > 0 ∧ TN q p (x0, y1) > 0 := ⟨by rw [TN_swap]; omega, by rw [TN_swap]; omega, by rw [TN_swap]; omega, by rw [TN_swap]; omega⟩
        have k1 := corner_pos hc sw
        have k2 := corner_pos hd sw
        rw [TN_swap] at k1 k2; omega
theorem MeetB_fwd {x0 y0 x1 y1 : Int} {p q : Pt} (hx : x0 ≤ x1) (hy : y0 ≤ y1) (h : MeetB x0 y0 x1 y1 p q) : Ovl x0 y0 x1 y1 p q ∧ ¬ Side1 x0 y0 x1 y1 p q := by
  have has : ∀ v, (v = p ∨ v = q) → HasB x0 y0 x1 y1 v → Ovl x0 y0 x1 y1 p q ∧ ¬ Side1 x0 y0 x1 y1 p q := by
    intro v hv hb
    refine ⟨?_, corner_none hb ?_⟩
    · unfold HasB at hb; unfold Ovl; rcases hv with rfl | rfl <;> omega
    · rcases hv with rfl | rfl
      · exact TN_aba _ _
      · exact TN_abb _ _
  rcases h with h | h | h | h | h | h
  · exact has p (Or.inl rfl) h
  · exact has q (Or.inr rfl) h
  all_goals
    refine side_met ?_ ?_ ?_ h
    · unfold HasB; simp only; omega
    · unfold HasB; simp only; omega
    · intro v hv; unfold Btw at hv; unfold HasB; (try simp only at hv); omega
/-- The way goes up and to the right, and doesn't begin in the box. -/
theorem MeetB_up {x0 y0 x1 y1 : Int} {p q : Pt} (hx : x0 ≤ x1) (hy : y0 ≤ y1) (dx : p.1 ≤ q.1) (dy : p.2 ≤ q.2) (ho : Ovl x0 y0 x1 y1 p q) (hs : ¬ Side1 x0 y0 x1 y1 p q) : MeetB x0 y0 x1 y1 p q := by
  by_cases hp : HasB x0 y0 x1 y1 p
  · exact Or.inl hp
  · have f : ∀ x y : Int, TN p q (x, y) = (q.1 - p.1) * (y - p.2) - (q.2 - p.2) * (x - p.1) := fun x y => rfl
    have mx_ := Int.mul_nonneg (show 0 ≤ q.2 - p.2 by omega) (show 0 ≤ x1 - x0 by omega)
    have my_ := Int.mul_nonneg (show 0 ≤ q.1 - p.1 by omega) (show 0 ≤ y1 - y0 by omega)
    have g1 : TN p q (x0, y1) = TN p q (x0, y0) + (q.1 - p.1) * (y1 - y0) := by unfold TN; grind
    have g2 : TN p q (x1, y0) = TN p q (x0, y0) - (q.2 - p.2) * (x1 - x0) := by unfold TN; grind
    have g3 : TN p q (x1, y1) = TN p q (x0, y0) + (q.1 - p.1) * (y1 - y0) - (q.2 - p.2) * (x1 - x0) := by unfold TN; grind
    have tl : TN p q (x0, y1) ≥ 0 := by
      refine Int.not_lt.1 fun c => hs (Or.inr ⟨by omega, by omega, by omega, c⟩)
    have br : TN p q (x1, y0) ≤ 0 := by
      refine Int.not_lt.1 fun c => hs (Or.inl ⟨by omega, c, by omega, by omega⟩)
    unfold Ovl at ho
    unfold HasB at hp
    -- the bottom side
    have bottom : p.2 < y0 → TN p q (x0, y0) ≥ 0 → Meet p q (x0, y0) (x1, y0) := by
      intro hp2 hbl
      by_cases z0 : TN p q (x0, y0) = 0
      · exact Or.inr (Or.inr (Or.inl (On_of_height z0 (by simp only; omega) (by simp only; omega) (by omega))))
      · by_cases z1 : TN p q (x1, y0) = 0
        · exact Or.inr (Or.inr (Or.inr (Or.inl (On_of_height z1 (by simp only; omega) (by simp only; omega) (by omega)))))
        · have hx' : x0 < x1 := by
            refine Int.not_le.1 fun c => ?_
            have z : x1 - x0 = 0 := by omega
            rw [z, Int.mul_zero] at g2; omega
          have t : ∀ v : Pt, TN (x0, y0) (x1, y0) v = (x1 - x0) * (v.2 - y0) := by intro v; unfold TN; grind
          have tp := mul_pn_neg (show 0 < x1 - x0 by omega) (show p.2 - y0 < 0 by omega)
          by_cases e : q.2 = y0
          · refine Or.inr (Or.inl ⟨by rw [t, e, Int.sub_self, Int.mul_zero], ?_⟩)
            -- q is on the side
            have fb : TN p q (x0, y0) = (q.2 - p.2) * (q.1 - x0) := by unfold TN; rw [← e]; grind
            have fr : TN p q (x1, y0) = (q.2 - p.2) * (q.1 - x1) := by unfold TN; rw [← e]; grind
            have u1 : x0 ≤ q.1 := by
              refine Int.not_lt.1 fun c => ?_
              have := mul_pn (show 0 ≤ q.2 - p.2 by omega) (show q.1 - x0 ≤ 0 by omega); omega
            have u2 : q.1 ≤ x1 := by
              refine Int.not_lt.1 fun c => ?_
              have := Int.mul_nonneg (show 0 ≤ q.2 - p.2 by omega) (show 0 ≤ q.1 - x1 by omega); omega
            unfold Btw; simp only; omega
          · have tq := Int.mul_pos (show 0 < x1 - x0 by omega) (show 0 < q.2 - y0 by omega)
            exact Or.inr (Or.inr (Or.inr (Or.inr ⟨sg_mul_neg.2 (Or.inr ⟨by omega, by omega⟩), sg_mul_neg.2 (Or.inl ⟨by rw [t]; exact tp, by rw [t]; exact tq⟩)⟩)))
    by_cases hp1 : p.1 < x0
    · by_cases hbl : TN p q (x0, y0) > 0
      · -- the line is below the box's lower left corner
        have hp2 : p.2 < y0 := by
          refine Int.not_le.1 fun c => ?_
          have m1 := mul_pn (show 0 ≤ q.1 - p.1 by omega) (show y0 - p.2 ≤ 0 by omega)
          have m2 := Int.mul_nonneg (show 0 ≤ q.2 - p.2 by omega) (show 0 ≤ x0 - p.1 by omega)
          rw [f] at hbl; omega
        exact Or.inr (Or.inr (Or.inl (bottom hp2 (by omega))))
      · -- the left side
        refine Or.inr (Or.inr (Or.inr (Or.inr (Or.inr ?_))))
        by_cases z0 : TN p q (x0, y0) = 0
        · exact Or.inr (Or.inr (Or.inr (Or.inl (On_of_width z0 (by simp only; omega) (by simp only; omega) (by omega)))))
        · by_cases z1 : TN p q (x0, y1) = 0
          · exact Or.inr (Or.inr (Or.inl (On_of_width z1 (by simp only; omega) (by simp only; omega) (by omega))))
          · have hy' : y0 < y1 := by
              refine Int.not_le.1 fun c => ?_
              have z : y1 - y0 = 0 := by omega
              rw [z, Int.mul_zero] at g1; omega
            have t : ∀ v : Pt, TN (x0, y1) (x0, y0) v = (y1 - y0) * (v.1 - x0) := by intro v; unfold TN; grind
            have tp := mul_pn_neg (show 0 < y1 - y0 by omega) (show p.1 - x0 < 0 by omega)
            by_cases e : q.1 = x0
            · refine Or.inr (Or.inl ⟨by rw [t, e, Int.sub_self, Int.mul_zero], ?_⟩)
              have fb : TN p q (x0, y0) = (q.1 - p.1) * (y0 - q.2) := by unfold TN; rw [← e]; grind
              have fr : TN p q (x0, y1) = (q.1 - p.1) * (y1 - q.2) := by unfold TN; rw [← e]; grind
              have u1 : y0 ≤ q.2 := by
                refine Int.not_lt.1 fun c => ?_
                have := Int.mul_nonneg (show 0 ≤ q.1 - p.1 by omega) (show 0 ≤ y0 - q.2 by omega); omega
              have u2 : q.2 ≤ y1 := by
                refine Int.not_lt.1 fun c => ?_
                have := mul_pn (show 0 ≤ q.1 - p.1 by omega) (show y1 - q.2 ≤ 0 by omega); omega
              unfold Btw; simp only; omega
            · have tq := Int.mul_pos (show 0 < y1 - y0 by omega) (show 0 < q.1 - x0 by omega)
              exact Or.inr (Or.inr (Or.inr (Or.inr ⟨sg_mul_neg.2 (Or.inr ⟨by omega, by omega⟩), sg_mul_neg.2 (Or.inl ⟨by rw [t]; exact tp, by rw [t]; exact tq⟩)⟩)))
    · have hp2 : p.2 < y0 := by omega
      refine Or.inr (Or.inr (Or.inl (bottom hp2 ?_)))
      have m1 := Int.mul_nonneg (show 0 ≤ q.1 - p.1 by omega) (show 0 ≤ y0 - p.2 by omega)
      have m2 := mul_pn (show 0 ≤ q.2 - p.2 by omega) (show x0 - p.1 ≤ 0 by omega)
      rw [f]; omega
/-- Mirrored in height. -/
def ud (p : Pt) : Pt := (p.1, -p.2)
theorem TN_ud (a b c : Pt) : TN (ud a) (ud b) (ud c) = -TN a b c := by unfold TN ud; grind
theorem On_ud (p a b : Pt) : On (ud p) (ud a) (ud b) ↔ On p a b := by unfold On; rw [TN_ud]; unfold Btw ud; omega
theorem Meet_ud (a b c d : Pt) : Meet (ud a) (ud b) (ud c) (ud d) ↔ Meet a b c d := by
  unfold Meet Cross; simp only [On_ud, TN_ud, sg_neg, Int.neg_mul_neg]
theorem MeetB_ud {x0 y0 x1 y1 : Int} {p q : Pt} (h : MeetB x0 (-y1) x1 (-y0) (ud p) (ud q)) : MeetB x0 y0 x1 y1 p q := by
  have hb : ∀ v, HasB x0 (-y1) x1 (-y0) (ud v) ↔ HasB x0 y0 x1 y1 v := by intro v; unfold HasB ud; omega
  unfold MeetB at h
  rw [hb, hb, show (x0, -y1) = ud (x0, y1) from rfl, show (x1, -y1) = ud (x1, y1) from rfl, show (x1, -y0) = ud (x1, y0) from rfl, show (x0, -y0) = ud (x0, y0) from rfl, Meet_ud, Meet_ud, Meet_ud, Meet_ud] at h
  rcases h with h | h | h | h | h | h
  · exact Or.inl h
  · exact Or.inr (Or.inl h)
  · exact Or.inr (Or.inr (Or.inr (Or.inr (Or.inl (Meet_cd.1 h)))))
  · exact Or.inr (Or.inr (Or.inr (Or.inl (Meet_cd.1 h))))
  · exact Or.inr (Or.inr (Or.inl (Meet_cd.1 h)))
  · exact Or.inr (Or.inr (Or.inr (Or.inr (Or.inr (Meet_cd.1 h)))))
theorem MeetB_swap {x0 y0 x1 y1 : Int} {p q : Pt} (h : MeetB x0 y0 x1 y1 q p) : MeetB x0 y0 x1 y1 p q := by
  unfold MeetB at h ⊢
  rw [Meet_ab (a := p) (b := q), Meet_ab (a := p) (b := q), Meet_ab (a := p) (b := q), Meet_ab (a := p) (b := q)] at h
  rcases h with h | h | h | h | h | h <;> simp [h]
theorem MeetB_bwd {x0 y0 x1 y1 : Int} {p q : Pt} (hx : x0 ≤ x1) (hy : y0 ≤ y1) (ho : Ovl x0 y0 x1 y1 p q) (hs : ¬ Side1 x0 y0 x1 y1 p q) : MeetB x0 y0 x1 y1 p q := by
  have one : ∀ p q : Pt, p.1 ≤ q.1 → Ovl x0 y0 x1 y1 p q → ¬ Side1 x0 y0 x1 y1 p q → MeetB x0 y0 x1 y1 p q := by
    intro p q h ho hs
    rcases Int.le_total p.2 q.2 with g | g
    · exact MeetB_up hx hy h g ho hs
    · refine MeetB_ud (MeetB_up hx (by omega) h (by unfold ud; simp only; omega) ?_ ?_)
      · unfold Ovl ud at *; simp only; omega
      · intro s
        unfold Side1 at s hs
        rw [show (x0, -y1) = ud (x0, y1) from rfl, show (x1, -y1) = ud (x1, y1) from rfl, show (x1, -y0) = ud (x1, y0) from rfl, show (x0, -y0) = ud (x0, y0) from rfl, TN_ud, TN_ud, TN_ud, TN_ud] at s
        omega
  rcases Int.le_total p.1 q.1 with h | h
  · exact one p q h ho hs
  · refine MeetB_swap (one q p h ?_ ?_)
    · unfold Ovl at *; omega
    · intro s
      unfold Side1 at s hs
      rw [TN_swap p q, TN_swap p q, TN_swap p q, TN_swap p q] at s
      omega
/-- THE BOX IS MET, by its sides, just if shadows overlap and not all corners are to one side. -/
theorem MeetB_iff {x0 y0 x1 y1 : Int} {p q : Pt} (hx : x0 ≤ x1) (hy : y0 ≤ y1) : MeetB x0 y0 x1 y1 p q ↔ Ovl x0 y0 x1 y1 p q ∧ ¬ Side1 x0 y0 x1 y1 p q :=
  ⟨MeetB_fwd hx hy, fun h => MeetB_bwd hx hy h.1 h.2⟩
end Go.Proofs.Ytmlpinajheacjaa.Geo

namespace Go.Proofs.Ytmlpinajheacjaa.AE
set_option linter.unusedVariables false
set_option linter.unusedSimpArgs false
set_option linter.constructorNameAsVariable false
open Go Go.Proofs.Ytmlpinajheacjaa.Geo
abbrev Bx := Pt × Pt
abbrev bx (b : Bx) : AV := .agg [.int .i64 b.1.1, .int .i64 b.1.2, .int .i64 b.2.1, .int .i64 b.2.2]
def zB : Bx := ((0, 0), (0, 0))
def rightX (b : Bx) : Bool := okb b.1 && (okb b.2 && (decide (b.1.1 ≤ b.2.1) && decide (b.1.2 ≤ b.2.2)))
theorem rightX_t {b : Bx} : rightX b = true ↔ OkP b.1 ∧ OkP b.2 ∧ b.1.1 ≤ b.2.1 ∧ b.1.2 ≤ b.2.2 := by
  unfold rightX; simp only [Bool.and_eq_true, okb_t, decide_eq_true_iff]
theorem s32 (d : Nat) (b : Bx) : pcall M (d + 3) 32 [bx b] = some (.bool (rightX b)) := told (r32 C0 (d + 2) _ _ _ _) (by
  refine Eq.trans (pl_bool (s49 d b.1)) ?_
  unfold rightX
  change cnd (okb b.1) _ _ = _
  cases okb b.1
  · rfl
  · refine Eq.trans (pl_len (by rfl)) ?_
    refine Eq.trans (pl_bool (s49 d b.2)) ?_
    change cnd (okb b.2) _ _ = _
    cases okb b.2
    · rfl
    · refine Eq.trans (pl_len (by rfl)) ?_; cases decide (b.1.1 ≤ b.2.1) <;> rfl)
end Go.Proofs.Ytmlpinajheacjaa.AE

namespace Go.Proofs.Ytmlpinajheacjaa.AE
set_option linter.unusedVariables false
set_option linter.unusedSimpArgs false
set_option linter.constructorNameAsVariable false
open Go
set_option maxRecDepth 100000
/-- apogee/apogeelaw18.Held -/
theorem r8 (C : Cb) (d : Nat) (a0 a1 a2 a3 a4 a5 a6 a7 : Int) : xcall C M unr d 8 [(.agg [(iz a0), (iz a1), (iz a2), (iz a3), (iz a4), (iz a5), (iz a6), (iz a7)])] =
 some (.agg [(iz a0), (iz a1), (iz (Int.tmod a2 1073741824)), (iz (Int.tmod a3 1073741824)), (iz (bits .and .i64 a4 1073741823)), (iz (Int.tmod a5 65536)), (iz (Int.tmod a6 65536)), (iz (Int.tmod a7 65536))]) := by kernel_rfl
/-- apogee/apogeelaw18.Off -/
theorem r9 (C : Cb) (d : Nat) (a0 a1 a2 a3 a4 a5 a6 a7 a8 a9 a10 a11 a12 a13 a14 : Int) : xcall C M unr d 9 [(.agg [(iz a0), (iz a1), (iz a2), (iz a3), (iz a4), (iz a5), (iz a6), (iz a7)]), (.agg [(iz a8), (iz a9), (iz a10), (iz a11), (iz a12), (iz a13)]), (iz a14)] =
 cnd (decide ((IntKind.wrap .i64 (a14 + 1)) = 0))
 (none)
 (cnd (decide ((IntKind.wrap .i64 (a14 + 1)) = 0))
 (none)
 (cnd (decide ((IntKind.wrap .i64 (a14 + 1)) = 0))
 (none)
 (cnd (decide ((IntKind.wrap .i64 (a14 + 1)) = 0))
 (none)
 (cnd (decide ((IntKind.wrap .i64 (a14 + 1)) = 0))
 (none)
 (cnd (decide ((IntKind.wrap .i64 (a14 + 1)) = 0))
 (none)
 (some (.agg [(iz a0), (iz a1), (iz (IntKind.wrap .i64 (a2 + (Int.tmod a8 (IntKind.wrap .i64 (a14 + 1)))))), (iz (IntKind.wrap .i64 (a3 + (Int.tmod a9 (IntKind.wrap .i64 (a14 + 1)))))), (iz (IntKind.wrap .i64 (a4 + (Int.tmod a10 (IntKind.wrap .i64 (a14 + 1)))))), (iz (IntKind.wrap .i64 (a5 + (Int.tmod a11 (IntKind.wrap .i64 (a14 + 1)))))), (iz (IntKind.wrap .i64 (a6 + (Int.tmod a12 (IntKind.wrap .i64 (a14 + 1)))))), (iz (IntKind.wrap .i64 (a7 + (Int.tmod a13 (IntKind.wrap .i64 (a14 + 1))))))]))))))) := by kernel_rfl
/-- apogee/apogeeref18.May -/
theorem r14 (C : Cb) (d : Nat) (a0 a1 a2 a3 a4 a5 a6 a7 a8 a9 : Int) : xcall C M unr d 14 [(.agg [(iz a0), (iz a1), (iz a2), (iz a3), (iz a4), (iz a5), (iz a6), (iz a7)]), (iz a8), (iz a9)] =
 cnd (decide (a2 < (IntKind.wrap .i64 (0 - 2147483648))))
 (some bf)
 (cnd (decide (a2 > 2147483648))
 (some bf)
 (cnd (decide (a3 < (IntKind.wrap .i64 (0 - 2147483648))))
 (some bf)
 (cnd (decide (a3 > 2147483648))
 (some bf)
 (cnd (decide (a5 < (-131072)))
 (some bf)
 (cnd (decide (a5 > 131072))
 (some bf)
 (cnd (decide (a6 < (-131072)))
 (some bf)
 (cnd (decide (a6 > 131072))
 (some bf)
 (cnd (decide (a9 < 0))
 (some bf)
 (cnd (decide (a9 > 2048))
 (some bf)
 (C.bool (pcall M d 22 [(iz a4), (iz a7), (iz a8)]) fun b0 =>
 some (.bool b0))))))))))) := by kernel_rfl
/-- apogee/impact.Box -/
theorem r20 (C : Cb) (d : Nat) (a0 a1 a2 a3 a4 a5 a6 a7 a8 a9 : Int) : xcall C M unr d 20 [(.agg [(iz a0), (iz a1), (iz a2), (iz a3), (iz a4), (iz a5), (iz a6), (iz a7)]), (iz a8), (iz a9)] =
 C.tup 3 (pcall M d 29 [(iz a4), (iz a7), (iz a8), (iz a9)]) fun l0 =>
 C.int .i64 l0[0]? fun x1 =>
 C.int .i64 l0[1]? fun x2 =>
 C.bool l0[2]? fun b3 =>
 cnd (!b3)
 (some (.tup [(.agg [(iz 0), (iz 0), (iz 0), (iz 0)]), bf]))
 (C.bool (pcall M d 30 [(.fptr (.agg [(iz a0), (iz a1), (iz a2), (iz a3), (iz a4), (iz a5), (iz a6), (iz a7)]) 0)]) fun b4 =>
 cnd (!b4)
 (some (.tup [(.agg [(iz 0), (iz 0), (iz 0), (iz 0)]), bf]))
 (C.tup 2 (pcall M d 31 [(iz a2), (iz a5), (iz a9), (iz x1), (iz x2)]) fun l5 =>
 C.int .i64 l5[0]? fun x6 =>
 C.int .i64 l5[1]? fun x7 =>
 C.tup 2 (pcall M d 31 [(iz a3), (iz a6), (iz a9), (iz x1), (iz x2)]) fun l8 =>
 C.int .i64 l8[0]? fun x9 =>
 C.int .i64 l8[1]? fun x10 =>
 C.bool (pcall M d 32 [(.agg [(iz x6), (iz x9), (iz x7), (iz x10)])]) fun b11 =>
 some (.tup [(.agg [(iz x6), (iz x9), (iz x7), (iz x10)]), (.bool b11)]))) := by kernel_rfl
/-- apogee/impact.may -/
theorem r30 (C : Cb) (d : Nat) (a0 : AV) (a1 a2 a3 a4 a5 a6 a7 a8 : Int) : xcall C M unr d 30 [(.fptr (.agg [(iz a1), (iz a2), (iz a3), (iz a4), (iz a5), (iz a6), (iz a7), (iz a8)]) 0)] =
 C.bool (pcall M d 48 [(iz 2147483648), (.lst [(iz a3), (iz a4)])]) fun b0 =>
 cnd b0
 (C.bool (pcall M d 48 [(iz 131072), (.lst [(iz a6), (iz a7)])]) fun b1 =>
 some (.bool b1))
 (some bf) := by kernel_rfl
/-- apogee/impact.side -/
theorem r31 (C : Cb) (d : Nat) (a0 a1 a2 a3 a4 : Int) : xcall C M unr d 31 [(iz a0), (iz a1), (iz a2), (iz a3), (iz a4)] =
 some (.tup [(iz (IntKind.wrap .i64 ((IntKind.wrap .i64 (a0 - a2)) + (if ((IntKind.wrap .i64 ((IntKind.wrap .i64 (a1 - a2)) * a4)) < (IntKind.wrap .i64 ((IntKind.wrap .i64 (a1 - a2)) * a3))) then (IntKind.wrap .i64 ((IntKind.wrap .i64 (a1 - a2)) * a4)) else (IntKind.wrap .i64 ((IntKind.wrap .i64 (a1 - a2)) * a3)))))), (iz (IntKind.wrap .i64 ((IntKind.wrap .i64 (a0 + a2)) + (if ((IntKind.wrap .i64 ((IntKind.wrap .i64 (a1 + a2)) * a4)) > (IntKind.wrap .i64 ((IntKind.wrap .i64 (a1 + a2)) * a3))) then (IntKind.wrap .i64 ((IntKind.wrap .i64 (a1 + a2)) * a4)) else (IntKind.wrap .i64 ((IntKind.wrap .i64 (a1 + a2)) * a3))))))]) := by kernel_rfl
def r48R0 (C : Cb) (d : Nat) (a0 : Int) (a1 : List AV) : St → (Ex → St → Ans) → Ans := fun s0 k1 =>
 cnd ((List.length s0.env) == 23)
 (C.same s0.env[0]? (iz a0) <|
 C.same s0.env[1]? (.lst a1) <|
 C.same s0.env[2]? tz <|
 C.same s0.env[3]? tz <|
 C.bool s0.env[4]? fun b3 =>
 C.same s0.env[5]? tz <|
 C.any s0.env[6]? fun v4 =>
 C.same s0.env[7]? (.lst a1) <|
 C.same s0.env[8]? (iz (((List.length a1) : Nat) : Int)) <|
 C.int .i64 s0.env[9]? fun x5 =>
 C.any s0.env[10]? fun v6 =>
 C.any s0.env[11]? fun v7 =>
 C.any s0.env[12]? fun v8 =>
 C.any s0.env[13]? fun v9 =>
 C.any s0.env[14]? fun v10 =>
 C.any s0.env[15]? fun v11 =>
 C.any s0.env[16]? fun v12 =>
 C.any s0.env[17]? fun v13 =>
 C.any s0.env[18]? fun v14 =>
 C.any s0.env[19]? fun v15 =>
 C.any s0.env[20]? fun v16 =>
 C.any s0.env[21]? fun v17 =>
 C.any s0.env[22]? fun v18 =>
 C.sameH (St.H s0) [] <|
 cnd (decide (x5 < (((List.length a1) : Nat) : Int)))
 (cnd (decide (0 ≤ x5))
 (C.int .i64 a1[(Int.toNat x5)]? fun x19 =>
 cnd (decide (x19 < (IntKind.wrap .i64 (0 - a0))))
 (k1 .ret ⟨[(iz a0), (.lst a1), tz, tz, bf, tz, (iz x19), (.lst a1), (iz (((List.length a1) : Nat) : Int)), (iz x5), bt, (.fptr (iz x19) 0), (iz x19), (iz x19), (iz a0), (iz (IntKind.wrap .i64 (0 - a0))), (.bool (decide (x19 < (IntKind.wrap .i64 (0 - a0))))), bt, tz, tz, tz, bt, v18], []⟩)
 (cnd (decide (x19 > a0))
 (k1 .ret ⟨[(iz a0), (.lst a1), tz, tz, bf, tz, (iz x19), (.lst a1), (iz (((List.length a1) : Nat) : Int)), (iz x5), bt, (.fptr (iz x19) 0), (iz x19), (iz x19), (iz a0), (iz (IntKind.wrap .i64 (0 - a0))), (.bool (decide (x19 < (IntKind.wrap .i64 (0 - a0))))), bf, (iz x19), (iz a0), (.bool (decide (x19 > a0))), bt, v18], []⟩)
 (k1 .normal ⟨[(iz a0), (.lst a1), tz, tz, (.bool b3), tz, (iz x19), (.lst a1), (iz (((List.length a1) : Nat) : Int)), (iz (IntKind.wrap .i64 (x5 + 1))), bt, (.fptr (iz x19) 0), (iz x19), (iz x19), (iz a0), (iz (IntKind.wrap .i64 (0 - a0))), (.bool (decide (x19 < (IntKind.wrap .i64 (0 - a0))))), bf, (iz x19), (iz a0), (.bool (decide (x19 > a0))), bf, (iz (IntKind.wrap .i64 (x5 + 1)))], []⟩)))
 (none))
 (k1 (.exit 0) ⟨[(iz a0), (.lst a1), tz, tz, (.bool b3), tz, v4, (.lst a1), (iz (((List.length a1) : Nat) : Int)), (iz x5), bf, v7, v8, v9, v10, v11, v12, v13, v14, v15, v16, v17, v18], []⟩))
 (none)
def r48X0_0 (C : Cb) (d : Nat) (a0 : Int) (a1 : List AV) : St → Ans := fun s20 =>
 cnd ((List.length s20.env) == 23)
 (C.same s20.env[0]? (iz a0) <|
 C.same s20.env[1]? (.lst a1) <|
 C.same s20.env[2]? tz <|
 C.same s20.env[3]? tz <|
 C.bool s20.env[4]? fun b21 =>
 C.same s20.env[5]? tz <|
 C.any s20.env[6]? fun v22 =>
 C.same s20.env[7]? (.lst a1) <|
 C.same s20.env[8]? (iz (((List.length a1) : Nat) : Int)) <|
 C.int .i64 s20.env[9]? fun x23 =>
 C.any s20.env[10]? fun v24 =>
 C.any s20.env[11]? fun v25 =>
 C.any s20.env[12]? fun v26 =>
 C.any s20.env[13]? fun v27 =>
 C.any s20.env[14]? fun v28 =>
 C.any s20.env[15]? fun v29 =>
 C.any s20.env[16]? fun v30 =>
 C.any s20.env[17]? fun v31 =>
 C.any s20.env[18]? fun v32 =>
 C.any s20.env[19]? fun v33 =>
 C.any s20.env[20]? fun v34 =>
 C.any s20.env[21]? fun v35 =>
 C.any s20.env[22]? fun v36 =>
 C.sameH (St.H s20) [] <|
 some bt)
 (none)
def r48E0 (C : Cb) (d : Nat) (a0 : Int) (a1 : List AV) : St → Ans := fun s2 =>
 cnd ((List.length s2.env) == 23)
 (C.same s2.env[0]? (iz a0) <|
 C.same s2.env[1]? (.lst a1) <|
 C.same s2.env[2]? tz <|
 C.same s2.env[3]? tz <|
 C.bool s2.env[4]? fun b37 =>
 C.same s2.env[5]? tz <|
 C.int .i64 s2.env[6]? fun x38 =>
 C.same s2.env[7]? (.lst a1) <|
 C.same s2.env[8]? (iz (((List.length a1) : Nat) : Int)) <|
 C.int .i64 s2.env[9]? fun x39 =>
 C.any s2.env[10]? fun v40 =>
 C.any s2.env[11]? fun v41 =>
 C.int .i64 s2.env[12]? fun x42 =>
 C.int .i64 s2.env[13]? fun x43 =>
 C.int .i64 s2.env[14]? fun x44 =>
 C.int .i64 s2.env[15]? fun x45 =>
 C.bool s2.env[16]? fun b46 =>
 C.bool s2.env[17]? fun b47 =>
 C.any s2.env[18]? fun v48 =>
 C.any s2.env[19]? fun v49 =>
 C.any s2.env[20]? fun v50 =>
 C.bool s2.env[21]? fun b51 =>
 C.any s2.env[22]? fun v52 =>
 C.sameH (St.H s2) [] <|
 some (.bool b37))
 (none)
/-- apogee/impact.within -/
theorem r48 (C : Cb) (d : Nat) (a0 : Int) (a1 : List AV) : xcall C M unr d 48 [(iz a0), (.lst a1)] =
 C.iter (r48R0 C d a0 a1) 1000000000000000000 ⟨[(iz a0), (.lst a1), tz, tz, bf, tz, tz, (.lst a1), (iz (((List.length a1) : Nat) : Int)), (iz 0), tz, tz, tz, tz, tz, tz, tz, tz, tz, tz, tz, tz, tz], []⟩ [0] [r48X0_0 C d a0 a1] (r48E0 C d a0 a1) := by kernel_rfl
end Go.Proofs.Ytmlpinajheacjaa.AE

namespace Go.Proofs.Ytmlpinajheacjaa.AE
set_option linter.unusedVariables false
set_option linter.unusedSimpArgs false
set_option linter.constructorNameAsVariable false
open Go
set_option maxRecDepth 100000
set_option maxHeartbeats 0
noncomputable def X48_0_0 (d : Nat) (a0 : Int) (a1 : List AV)  : Ans :=
  some bt
theorem X48_0_0_ok (d : Nat) (a0 : Int) (a1 : List AV) (b21 : Bool) (v22 : AV) (x23 : Int) (v24 v25 v26 v27 v28 v29 v30 v31 v32 v33 v34 v35 v36 : AV) : r48X0_0 C0 d a0 a1 ⟨[(iz a0), (.lst a1), tz, tz, (.bool b21), tz, v22, (.lst a1), (iz (((List.length a1) : Nat) : Int)), (iz x23), v24, v25, v26, v27, v28, v29, v30, v31, v32, v33, v34, v35, v36], []⟩ = X48_0_0 d a0 a1  := by
  unfold r48X0_0; refine Eq.trans (pl_len (by rfl)) ?_; (iterate 4 (refine yt yS ?_)); refine yt yB ?_; refine yt yS ?_; refine yt yA ?_; (iterate 2 (refine yt yS ?_)); refine yt yI ?_; (iterate 13 (refine yt yA ?_)); refine Eq.trans (pl_sameH) ?_
  rfl
noncomputable def E48_0 (d : Nat) (a0 : Int) (a1 : List AV) (b37 : Bool) : Ans :=
  some (.bool b37)
theorem E48_0_ok (d : Nat) (a0 : Int) (a1 : List AV) (b37 : Bool) (x38 x39 : Int) (v40 v41 : AV) (x42 x43 x44 x45 : Int) (b46 b47 : Bool) (v48 v49 v50 : AV) (b51 : Bool) (v52 : AV) : r48E0 C0 d a0 a1 ⟨[(iz a0), (.lst a1), tz, tz, (.bool b37), tz, (iz x38), (.lst a1), (iz (((List.length a1) : Nat) : Int)), (iz x39), v40, v41, (iz x42), (iz x43), (iz x44), (iz x45), (.bool b46), (.bool b47), v48, v49, v50, (.bool b51), v52], []⟩ = E48_0 d a0 a1 b37 := by
  unfold r48E0; refine Eq.trans (pl_len (by rfl)) ?_; (iterate 4 (refine yt yS ?_)); refine yt yB ?_; refine yt yS ?_; refine yt yI ?_; (iterate 2 (refine yt yS ?_)); refine yt yI ?_; (iterate 2 (refine yt yA ?_)); (iterate 4 (refine yt yI ?_)); (iterate 2 (refine yt yB ?_)); (iterate 3 (refine yt yA ?_)); refine yt yB ?_; refine yt yA ?_; refine Eq.trans (pl_sameH) ?_
  rfl
noncomputable def L48_0 (d : Nat) (a0 : Int) (a1 : List AV) : Nat → Int → Ans
  | 0, _ => none
  | n + 1, x5 =>
  cnd (decide (x5 < (((List.length a1) : Nat) : Int)))
   (cnd (decide (0 ≤ x5))
   (C0.int .i64 a1[(Int.toNat x5)]? fun x19 =>
   cnd (decide (x19 < (IntKind.wrap .i64 (0 - a0))))
   (E48_0 d a0 a1 false)
   (cnd (decide (x19 > a0))
   (E48_0 d a0 a1 false)
   (L48_0 d a0 a1 n (IntKind.wrap .i64 (x5 + 1)))))
   (none))
   (X48_0_0 d a0 a1)
theorem it48_0 (d : Nat) (a0 : Int) (a1 : List AV)   : ∀ (n : Nat) (b3 : Bool) (v4 : AV) (x5 : Int) (v6 v7 v8 v9 v10 v11 v12 v13 v14 v15 v16 v17 v18 : AV), C0.iter (r48R0 C0 d a0 a1) n ⟨[(iz a0), (.lst a1), tz, tz, (.bool b3), tz, v4, (.lst a1), (iz (((List.length a1) : Nat) : Int)), (iz x5), v6, v7, v8, v9, v10, v11, v12, v13, v14, v15, v16, v17, v18], []⟩ [0] [r48X0_0 C0 d a0 a1] (r48E0 C0 d a0 a1) = L48_0 d a0 a1 n x5 := by
  generalize hR : r48R0 C0 d a0 a1 = R
  intro n
  induction n with
  | zero => intros; rfl
  | succ n ih =>
    intro b3 v4 x5 v6 v7 v8 v9 v10 v11 v12 v13 v14 v15 v16 v17 v18
    simp only [it_ret] at ih
    rw [it_ret, xiter_s]
    refine Eq.trans (congrFun (congrFun hR.symm _) _) ?_
    unfold r48R0
    refine Eq.trans (pl_len (by rfl)) ?_; (iterate 4 (refine yt yS ?_)); refine yt yB ?_; refine yt yS ?_; refine yt yA ?_; (iterate 2 (refine yt yS ?_)); refine yt yI ?_; (iterate 13 (refine yt yA ?_)); refine Eq.trans (pl_sameH) ?_
    simp only [L48_0, kIter_n, kIter_x, kIter_r, kOut_x, kOut_r, xgo_hit, xgo_miss, ih, X48_0_0_ok d a0 a1  , E48_0_ok d a0 a1  ]
/-- apogee/impact.within -/
theorem q48 (d : Nat) (a0 : Int) (a1 : List AV) : xcall C0 M unr d 48 [(iz a0), (.lst a1)] =
  L48_0 d a0 a1 1000000000000000000 0 := (r48 C0 d a0 a1).trans (by simp only [it48_0])
end Go.Proofs.Ytmlpinajheacjaa.AE

namespace Go.Proofs.Ytmlpinajheacjaa.AE
set_option linter.unusedVariables false
set_option linter.unusedSimpArgs false
set_option linter.constructorNameAsVariable false
open Go Go.Proofs.Ytmlpinajheacjaa.Geo
attribute [local irreducible] pcall C0
structure Nav where
  c : Int
  fl : Int
  x : Int
  y : Int
  z : Int
  vx : Int
  vy : Int
  vz : Int
abbrev nv (n : Nav) : AV := .agg [.int .i64 n.c, .int .i64 n.fl, .int .i64 n.x, .int .i64 n.y, .int .i64 n.z, .int .i64 n.vx, .int .i64 n.vy, .int .i64 n.vz]
theorem within_step (d : Nat) (m : Int) (l : List AV) (i f : Nat) (y : Int) (hi : i < l.length) (hy : l[i]? = some (.int .i64 y)) (hl : l.length ≤ 1000) (hm : 0 ≤ m) (hm' : m ≤ 4294967296) (h : -m ≤ y ∧ y ≤ m) :
    L48_0 d m l (f + 1) (i : Nat) = L48_0 d m l f ((i + 1 : Nat) : Int) := by
  rw [L48_0, decide_eq_true (by omega), cnd_t, decide_eq_true (by omega), cnd_t, show (((i : Nat) : Int)).toNat = i by omega, hy]
  repeat with_reducible first | refine tt sh_ptr ?_ | refine tt sh_fptr ?_ | refine tt w2 ?_ | refine tt w3 ?_ | refine tt w8 ?_ | refine tt w9 ?_ | refine tt wf ?_ | refine tt wg ?_ | refine tt wh ?_ | refine tt wi ?_ | refine tt wj ?_ | refine tt wk ?_ | refine tt wl ?_ | refine tt wn ?_ | refine tt c_ort ?_ | refine tt c_nt ?_ | refine tt c_nf ?_ | refine tt (cnd_t _ _) ?_ | refine tt (cnd_f _ _) ?_ | refine tt w6 ?_ | refine tt w4 ?_ | refine tt w5 ?_ | refine tt w7 ?_ | refine tt wm ?_ | refine tt wo ?_ | refine tt wx ?_ | refine tt nil_ptr ?_ | refine tt len_lst ?_ | refine tt len_zsl ?_
  rw [i64_small (n := 0 - m) (by omega) (by omega), decide_eq_false (by omega), cnd_f, decide_eq_false (by omega), cnd_f, show IntKind.wrap .i64 (((i : Nat) : Int) + 1) = ((i + 1 : Nat) : Int) by rw [i64w]; omega]
theorem within_out (d : Nat) (m : Int) (l : List AV) (i f : Nat) (y : Int) (hi : i < l.length) (hy : l[i]? = some (.int .i64 y)) (hm : 0 ≤ m) (hm' : m ≤ 4294967296) (h : ¬ (-m ≤ y ∧ y ≤ m)) :
    L48_0 d m l (f + 1) (i : Nat) = some (.bool false) := by
  rw [L48_0, decide_eq_true (by omega), cnd_t, decide_eq_true (by omega), cnd_t, show (((i : Nat) : Int)).toNat = i by omega, hy]
  repeat with_reducible first | refine tt sh_ptr ?_ | refine tt sh_fptr ?_ | refine tt w2 ?_ | refine tt w3 ?_ | refine tt w8 ?_ | refine tt w9 ?_ | refine tt wf ?_ | refine tt wg ?_ | refine tt wh ?_ | refine tt wi ?_ | refine tt wj ?_ | refine tt wk ?_ | refine tt wl ?_ | refine tt wn ?_ | refine tt c_ort ?_ | refine tt c_nt ?_ | refine tt c_nf ?_ | refine tt (cnd_t _ _) ?_ | refine tt (cnd_f _ _) ?_ | refine tt w6 ?_ | refine tt w4 ?_ | refine tt w5 ?_ | refine tt w7 ?_ | refine tt wm ?_ | refine tt wo ?_ | refine tt wx ?_ | refine tt nil_ptr ?_ | refine tt len_lst ?_ | refine tt len_zsl ?_
  rw [i64_small (n := 0 - m) (by omega) (by omega)]
  by_cases c : y < 0 - m
  · rw [decide_eq_true c, cnd_t]; rfl
  · rw [decide_eq_false c, cnd_f, decide_eq_true (by omega), cnd_t]; rfl
theorem within2 (d : Nat) (m a b : Int) (hm : 0 ≤ m) (hm' : m ≤ 4294967296) : pcall M (d + 1) 48 [.int .i64 m, .lst [.int .i64 a, .int .i64 b]] = some (.bool (decide ((-m ≤ a ∧ a ≤ m) ∧ (-m ≤ b ∧ b ≤ m)))) := told (q48 d _ _) (by
  obtain ⟨f, hf⟩ : ∃ f : Nat, f + 1 + 1 + 1 = 1000000000000000000 := ⟨999999999999999997, rfl⟩
  rw [← hf]
  by_cases h1 : -m ≤ a ∧ a ≤ m
  · refine (within_step d m [.int .i64 a, .int .i64 b] 0 _ a (by simp) rfl (by simp) hm hm' h1).trans ?_
    by_cases h2 : -m ≤ b ∧ b ≤ m
    · refine (within_step d m [.int .i64 a, .int .i64 b] 1 _ b (by simp) rfl (by simp) hm hm' h2).trans ?_
      rw [L48_0, decide_eq_false (by simp), cnd_f, decide_eq_true ⟨h1, h2⟩]; rfl
    · refine (within_out d m [.int .i64 a, .int .i64 b] 1 _ b (by simp) rfl hm hm' h2).trans ?_
      rw [decide_eq_false (fun h => h2 h.2)]
  · refine (within_out d m [.int .i64 a, .int .i64 b] 0 _ a (by simp) rfl hm hm' h1).trans ?_
    rw [decide_eq_false (fun h => h1 h.1)])
/-- All but the height. -/
def MayN (n : Nav) : Prop := ((-2147483648 ≤ n.x ∧ n.x ≤ 2147483648) ∧ (-2147483648 ≤ n.y ∧ n.y ≤ 2147483648)) ∧ ((-131072 ≤ n.vx ∧ n.vx ≤ 131072) ∧ (-131072 ≤ n.vy ∧ n.vy ≤ 131072))
instance (n : Nav) : Decidable (MayN n) := by unfold MayN; infer_instance
theorem s30 (d : Nat) (n : Nav) : pcall M (d + 2) 30 [.fptr (nv n) 0] = some (.bool (decide (MayN n))) := told (r30 C0 (d + 1) .nilp _ _ _ _ _ _ _ _) (by
  refine Eq.trans (pl_bool (within2 d 2147483648 n.x n.y (by omega) (by omega))) ?_
  by_cases h1 : (-2147483648 ≤ n.x ∧ n.x ≤ 2147483648) ∧ (-2147483648 ≤ n.y ∧ n.y ≤ 2147483648)
  · rw [decide_eq_true h1, cnd_t]
    refine Eq.trans (pl_bool (within2 d 131072 n.vx n.vy (by omega) (by omega))) ?_
    congr 2; rw [decide_eq_decide]; unfold MayN; exact ⟨fun h => ⟨h1, h⟩, fun h => h.2⟩
  · rw [decide_eq_false h1, cnd_f, decide_eq_false (fun h => h1 h.1)])
theorem s31 (d : Nat) (x v e lo hi : Int) (hx : -2147483648 ≤ x) (hx' : x ≤ 2147483648) (hv : -131072 ≤ v) (hv' : v ≤ 131072) (he : 0 ≤ e) (he' : e ≤ 2048) (h0 : 0 ≤ lo) (h0' : lo ≤ 1000002) (h1 : 0 ≤ hi) (h1' : hi ≤ 1000002) :
    pcall M (d + 1) 31 [.int .i64 x, .int .i64 v, .int .i64 e, .int .i64 lo, .int .i64 hi] = some (.tup [.int .i64 (loS x v e lo hi), .int .i64 (hiS x v e lo hi)]) := told (r31 C0 d _ _ _ _ _) (by
  have b1 := mul_bd (x := v - e) (a := 133120) (y := lo) (b := 1000002) (by omega) (by omega) (by omega) (by omega)
  have b2 := mul_bd (x := v - e) (a := 133120) (y := hi) (b := 1000002) (by omega) (by omega) (by omega) (by omega)
  have b3 := mul_bd (x := v + e) (a := 133120) (y := lo) (b := 1000002) (by omega) (by omega) (by omega) (by omega)
  have b4 := mul_bd (x := v + e) (a := 133120) (y := hi) (b := 1000002) (by omega) (by omega) (by omega) (by omega)
  rw [i64_small (n := x - e) (by omega) (by omega), i64_small (n := x + e) (by omega) (by omega), i64_small (n := v - e) (by omega) (by omega), i64_small (n := v + e) (by omega) (by omega),
    i64_small (n := (v - e) * lo) (by omega) (by omega), i64_small (n := (v - e) * hi) (by omega) (by omega), i64_small (n := (v + e) * lo) (by omega) (by omega), i64_small (n := (v + e) * hi) (by omega) (by omega)]
  unfold loS hiS
  have e1 : (if (v - e) * hi < (v - e) * lo then (v - e) * hi else (v - e) * lo) = min ((v - e) * lo) ((v - e) * hi) := by omega
  have e2 : (if (v + e) * hi > (v + e) * lo then (v + e) * hi else (v + e) * lo) = max ((v + e) * lo) ((v + e) * hi) := by omega
  rw [e1, e2, i64_small (by omega) (by omega), i64_small (by omega) (by omega)])
def boxN (n : Nav) (e lo hi : Int) : Bx := ((loS n.x n.vx e lo hi, loS n.y n.vy e lo hi), (hiS n.x n.vx e lo hi, hiS n.y n.vy e lo hi))
def MayB (n : Nav) (g e : Int) : Prop := May n.z n.vz g ∧ (0 ≤ e ∧ e ≤ 2048) ∧ MayN n
theorem boxI (d : Nat) (n : Nav) (g e : Int) (h : MayB n g e) : ∃ lo hi, pcall M (d + 8) 20 [nv n, .int .i64 g, .int .i64 e] = some (.tup [bx (boxN n e lo (hi + 2)), .bool (rightX (boxN n e lo (hi + 2)))]) ∧ Falls (n.z - e) (n.vz - e) g lo ∧ Falls (n.z + e) (n.vz + e) g hi := by
  obtain ⟨hm, ⟨e0, e1⟩, hn⟩ := h
  have hn' := hn
  unfold MayN at hn'
  obtain ⟨lo, hi, q, f1, f2⟩ := fspan d n.z n.vz g e hm e0 e1
  refine ⟨lo, hi, told (r20 C0 (d + 7) _ _ _ _ _ _ _ _ _ _) ?_, f1, f2⟩
  have l0 := f1.1; have l1 := f1.2.1; have h0 := f2.1; have h1 := f2.2.1
  refine Eq.trans (pl_tup q (by rfl)) ?_
  repeat with_reducible first | refine tt sh_ptr ?_ | refine tt sh_fptr ?_ | refine tt w2 ?_ | refine tt w3 ?_ | refine tt w8 ?_ | refine tt w9 ?_ | refine tt wf ?_ | refine tt wg ?_ | refine tt wh ?_ | refine tt wi ?_ | refine tt wj ?_ | refine tt wk ?_ | refine tt wl ?_ | refine tt wn ?_ | refine tt c_ort ?_ | refine tt c_nt ?_ | refine tt c_nf ?_ | refine tt (cnd_t _ _) ?_ | refine tt (cnd_f _ _) ?_ | refine tt w6 ?_ | refine tt w4 ?_ | refine tt w5 ?_ | refine tt w7 ?_ | refine tt wm ?_ | refine tt wo ?_ | refine tt wx ?_ | refine tt nil_ptr ?_ | refine tt len_lst ?_ | refine tt len_zsl ?_
  refine Eq.trans (pl_bool (s30 (d + 5) n)) ?_
  rw [decide_eq_true hn]
  repeat with_reducible first | refine tt sh_ptr ?_ | refine tt sh_fptr ?_ | refine tt w2 ?_ | refine tt w3 ?_ | refine tt w8 ?_ | refine tt w9 ?_ | refine tt wf ?_ | refine tt wg ?_ | refine tt wh ?_ | refine tt wi ?_ | refine tt wj ?_ | refine tt wk ?_ | refine tt wl ?_ | refine tt wn ?_ | refine tt c_ort ?_ | refine tt c_nt ?_ | refine tt c_nf ?_ | refine tt (cnd_t _ _) ?_ | refine tt (cnd_f _ _) ?_ | refine tt w6 ?_ | refine tt w4 ?_ | refine tt w5 ?_ | refine tt w7 ?_ | refine tt wm ?_ | refine tt wo ?_ | refine tt wx ?_ | refine tt nil_ptr ?_ | refine tt len_lst ?_ | refine tt len_zsl ?_
  refine Eq.trans (pl_tup (s31 (d + 6) n.x n.vx e lo (hi + 2) (by omega) (by omega) (by omega) (by omega) e0 e1 l0 (by omega) (by omega) (by omega)) (by rfl)) ?_
  repeat with_reducible first | refine tt sh_ptr ?_ | refine tt sh_fptr ?_ | refine tt w2 ?_ | refine tt w3 ?_ | refine tt w8 ?_ | refine tt w9 ?_ | refine tt wf ?_ | refine tt wg ?_ | refine tt wh ?_ | refine tt wi ?_ | refine tt wj ?_ | refine tt wk ?_ | refine tt wl ?_ | refine tt wn ?_ | refine tt c_ort ?_ | refine tt c_nt ?_ | refine tt c_nf ?_ | refine tt (cnd_t _ _) ?_ | refine tt (cnd_f _ _) ?_ | refine tt w6 ?_ | refine tt w4 ?_ | refine tt w5 ?_ | refine tt w7 ?_ | refine tt wm ?_ | refine tt wo ?_ | refine tt wx ?_ | refine tt nil_ptr ?_ | refine tt len_lst ?_ | refine tt len_zsl ?_
  refine Eq.trans (pl_tup (s31 (d + 6) n.y n.vy e lo (hi + 2) (by omega) (by omega) (by omega) (by omega) e0 e1 l0 (by omega) (by omega) (by omega)) (by rfl)) ?_
  repeat with_reducible first | refine tt sh_ptr ?_ | refine tt sh_fptr ?_ | refine tt w2 ?_ | refine tt w3 ?_ | refine tt w8 ?_ | refine tt w9 ?_ | refine tt wf ?_ | refine tt wg ?_ | refine tt wh ?_ | refine tt wi ?_ | refine tt wj ?_ | refine tt wk ?_ | refine tt wl ?_ | refine tt wn ?_ | refine tt c_ort ?_ | refine tt c_nt ?_ | refine tt c_nf ?_ | refine tt (cnd_t _ _) ?_ | refine tt (cnd_f _ _) ?_ | refine tt w6 ?_ | refine tt w4 ?_ | refine tt w5 ?_ | refine tt w7 ?_ | refine tt wm ?_ | refine tt wo ?_ | refine tt wx ?_ | refine tt nil_ptr ?_ | refine tt len_lst ?_ | refine tt len_zsl ?_
  exact pl_bool (s32 (d + 4) (boxN n e lo (hi + 2)))
theorem boxI_no (d : Nat) (n : Nav) (g e : Int) (h : ¬ MayB n g e) : pcall M (d + 8) 20 [nv n, .int .i64 g, .int .i64 e] = some (.tup [bx zB, .bool false]) := told (r20 C0 (d + 7) _ _ _ _ _ _ _ _ _ _) (by
  by_cases h1 : May n.z n.vz g ∧ 0 ≤ e ∧ e ≤ 2048
  · obtain ⟨lo, hi, q, f1, f2⟩ := fspan d n.z n.vz g e h1.1 h1.2.1 h1.2.2
    refine Eq.trans (pl_tup q (by rfl)) ?_
    repeat with_reducible first | refine tt sh_ptr ?_ | refine tt sh_fptr ?_ | refine tt w2 ?_ | refine tt w3 ?_ | refine tt w8 ?_ | refine tt w9 ?_ | refine tt wf ?_ | refine tt wg ?_ | refine tt wh ?_ | refine tt wi ?_ | refine tt wj ?_ | refine tt wk ?_ | refine tt wl ?_ | refine tt wn ?_ | refine tt c_ort ?_ | refine tt c_nt ?_ | refine tt c_nf ?_ | refine tt (cnd_t _ _) ?_ | refine tt (cnd_f _ _) ?_ | refine tt w6 ?_ | refine tt w4 ?_ | refine tt w5 ?_ | refine tt w7 ?_ | refine tt wm ?_ | refine tt wo ?_ | refine tt wx ?_ | refine tt nil_ptr ?_ | refine tt len_lst ?_ | refine tt len_zsl ?_
    refine Eq.trans (pl_bool (s30 (d + 5) n)) ?_
    rw [decide_eq_false (fun hn => h ⟨h1.1, h1.2, hn⟩)]; rfl
  · refine Eq.trans (pl_tup (fspan_no d n.z n.vz g e h1) (by rfl)) ?_
    repeat with_reducible first | refine tt sh_ptr ?_ | refine tt sh_fptr ?_ | refine tt w2 ?_ | refine tt w3 ?_ | refine tt w8 ?_ | refine tt w9 ?_ | refine tt wf ?_ | refine tt wg ?_ | refine tt wh ?_ | refine tt wi ?_ | refine tt wj ?_ | refine tt wk ?_ | refine tt wl ?_ | refine tt wn ?_ | refine tt c_ort ?_ | refine tt c_nt ?_ | refine tt c_nf ?_ | refine tt (cnd_t _ _) ?_ | refine tt (cnd_f _ _) ?_ | refine tt w6 ?_ | refine tt w4 ?_ | refine tt w5 ?_ | refine tt w7 ?_ | refine tt wm ?_ | refine tt wo ?_ | refine tt wx ?_ | refine tt nil_ptr ?_ | refine tt len_lst ?_ | refine tt len_zsl ?_
    rfl)
end Go.Proofs.Ytmlpinajheacjaa.AE

namespace Go.Proofs.Ytmlpinajheacjaa.AE
set_option linter.unusedVariables false
set_option linter.unusedSimpArgs false
set_option linter.constructorNameAsVariable false
open Go
set_option maxRecDepth 100000
/-- apogee/apogeelaw19.awake -/
theorem r6 (C : Cb) (d : Nat)  : xcall C M unr d 6 [] =
 C.agg 5 (pcall M d 15 []) fun l0 =>
 C.lst l0[0]? (fun l1 =>
 C.int .i64 l0[1]? fun x3 =>
 C.int .i64 l0[2]? fun x4 =>
 C.int .i64 l0[3]? fun x5 =>
 C.int .i64 l0[4]? fun x6 =>
 C.int .i64 (pcall M d 10 [(.agg [(iz 0), (iz 0), (iz 0), (iz 0), (iz 100), (iz 3), (iz 0), (iz 0)]), (.agg [(.lst l1), (iz x3), (iz x4), (iz x5), (iz x6)]), (iz 2)]) fun x7 =>
 cnd (x7 == 1)
 (C.int .i64 (pcall M d 10 [(.agg [(iz 0), (iz 0), (iz 0), (iz 0), (iz 100), (iz 250), (iz 0), (iz 0)]), (.agg [(.lst l1), (iz x3), (iz x4), (iz x5), (iz x6)]), (iz 2)]) fun x8 =>
 cnd (x8 == 3)
 (C.int .i64 (pcall M d 10 [(.agg [(iz 0), (iz 0), (iz 5000), (iz 0), (iz 0), (iz 0), (iz 0), (iz 0)]), (.agg [(.lst l1), (iz x3), (iz x4), (iz x5), (iz x6)]), (iz 2)]) fun x9 =>
 cnd (x9 == 3)
 (C.int .i64 (pcall M d 10 [(.agg [(iz 0), (iz 0), (iz 1000), (iz 0), (iz 0), (iz 0), (iz 0), (iz 0)]), (.agg [(.lst l1), (iz x3), (iz x4), (iz x5), (iz x6)]), (iz 2)]) fun x10 =>
 cnd (x10 == 2)
 (C.int .i64 (pcall M d 10 [(.agg [(iz 0), (iz 0), (iz 0), (iz 0), (iz 0), (iz 200), (iz 0), (iz 0)]), (.agg [(.lst l1), (iz x3), (iz x4), (iz x5), (iz x6)]), (iz 2)]) fun x11 =>
 cnd (x11 == 2)
 (C.int .i64 (pcall M d 10 [(.agg [(iz 0), (iz 0), (iz 1099511627776), (iz 0), (iz 0), (iz 0), (iz 0), (iz 0)]), (.agg [(.lst l1), (iz x3), (iz x4), (iz x5), (iz x6)]), (iz 2)]) fun x12 =>
 cnd (x12 == 4)
 (C.int .i64 (pcall M d 16 [(.agg [(iz 0), (iz 0), (iz 0), (iz 0), (iz 0), (iz 0), (iz 0), (iz (-203))]), (iz 200), (iz 2)]) fun x13 =>
 cnd (x13 == (-1))
 (C.int .i64 (pcall M d 17 [(.agg [(iz 0), (iz 0), (iz 0), (iz 0), (iz 0), (iz 0), (iz 0), (iz 0)]), (.agg [(.lst l1), (iz x3), (iz x4), (iz x5), (iz x6)]), (iz 0)]) fun x14 =>
 cnd (x14 == 1)
 (C.int .i64 (pcall M d 11 [(iz 1), (iz 4)]) fun x15 =>
 cnd (x15 == 1)
 (C.int .i64 (pcall M d 11 [(iz 2), (iz 3)]) fun x16 =>
 cnd (x16 == 3)
 (C.bool (pcall M d 13 [(iz 1)]) fun b17 =>
 cnd b17
 (C.bool (pcall M d 13 [(iz 2)]) fun b18 =>
 some (.bool (!b18)))
 (some bf))
 (some bf))
 (some bf))
 (some bf))
 (some bf))
 (some bf))
 (some bf))
 (some bf))
 (some bf))
 (some bf))
 (some bf))
 (fun z2 =>
 none) := by kernel_rfl
end Go.Proofs.Ytmlpinajheacjaa.AE

namespace Go.Proofs.Ytmlpinajheacjaa.AE
set_option linter.unusedVariables false
set_option linter.unusedSimpArgs false
set_option linter.constructorNameAsVariable false
open Go Go.Proofs.Ytmlpinajheacjaa.Geo
attribute [local irreducible] pcall C0
set_option maxRecDepth 100000
/-- The box is one. -/
theorem box_right {n : Nav} {g e lo hi : Int} (h : MayB n g e) (f1 : Falls (n.z - e) (n.vz - e) g lo) (f2 : Falls (n.z + e) (n.vz + e) g hi) : rightX (boxN n e lo (hi + 2)) = true := by
  obtain ⟨hm, ⟨e0, e1⟩, hn⟩ := h
  unfold MayN at hn
  have l := falls_mono f1 f2 (by omega) (by omega)
  have l0 := f1.1; have h1 := f2.2.1
  have x := side_bd (x := n.x) (v := n.vx) (e := e) (lo := lo) (hi := hi + 2) (by omega) (by omega) (by omega) (by omega) e0 e1 l0 (by omega) (by omega)
  have y := side_bd (x := n.y) (v := n.vy) (e := e) (lo := lo) (hi := hi + 2) (by omega) (by omega) (by omega) (by omega) e0 e1 l0 (by omega) (by omega)
  have ox := side_ord (x := n.x) (v := n.vx) (e := e) (lo := lo) (hi := hi + 2) e0 l0 (by omega)
  have oy := side_ord (x := n.y) (v := n.vy) (e := e) (lo := lo) (hi := hi + 2) e0 l0 (by omega)
  rw [rightX_t]
  unfold OkP Okc boxN
  simp only
  omega
end Go.Proofs.Ytmlpinajheacjaa.AE

namespace Go.Proofs.Ytmlpinajheacjaa.AE
set_option linter.unusedVariables false
set_option linter.unusedSimpArgs false
set_option linter.constructorNameAsVariable false
open Go
set_option maxRecDepth 100000
def r18R0 (C : Cb) (d : Nat) (a0 : List AV) : St → (Ex → St → Ans) → Ans := fun s0 k1 =>
 cnd ((List.length s0.env) == 47)
 (C.same s0.env[0]? (.lst a0) <|
 C.same s0.env[1]? tz <|
 C.bool s0.env[2]? fun b3 =>
 C.int .i64 s0.env[3]? fun x4 =>
 C.any s0.env[4]? fun v5 =>
 C.any s0.env[5]? fun v6 =>
 C.any s0.env[6]? fun v7 =>
 C.any s0.env[7]? fun v8 =>
 C.any s0.env[8]? fun v9 =>
 C.any s0.env[9]? fun v10 =>
 C.any s0.env[10]? fun v11 =>
 C.any s0.env[11]? fun v12 =>
 C.any s0.env[12]? fun v13 =>
 C.any s0.env[13]? fun v14 =>
 C.any s0.env[14]? fun v15 =>
 C.any s0.env[15]? fun v16 =>
 C.any s0.env[16]? fun v17 =>
 C.any s0.env[17]? fun v18 =>
 C.any s0.env[18]? fun v19 =>
 C.any s0.env[19]? fun v20 =>
 C.any s0.env[20]? fun v21 =>
 C.any s0.env[21]? fun v22 =>
 C.any s0.env[22]? fun v23 =>
 C.any s0.env[23]? fun v24 =>
 C.any s0.env[24]? fun v25 =>
 C.any s0.env[25]? fun v26 =>
 C.any s0.env[26]? fun v27 =>
 C.any s0.env[27]? fun v28 =>
 C.any s0.env[28]? fun v29 =>
 C.any s0.env[29]? fun v30 =>
 C.any s0.env[30]? fun v31 =>
 C.any s0.env[31]? fun v32 =>
 C.any s0.env[32]? fun v33 =>
 C.any s0.env[33]? fun v34 =>
 C.any s0.env[34]? fun v35 =>
 C.any s0.env[35]? fun v36 =>
 C.any s0.env[36]? fun v37 =>
 C.any s0.env[37]? fun v38 =>
 C.any s0.env[38]? fun v39 =>
 C.any s0.env[39]? fun v40 =>
 C.any s0.env[40]? fun v41 =>
 C.any s0.env[41]? fun v42 =>
 C.any s0.env[42]? fun v43 =>
 C.any s0.env[43]? fun v44 =>
 C.any s0.env[44]? fun v45 =>
 C.same s0.env[45]? tz <|
 C.same s0.env[46]? tz <|
 C.sameH (St.H s0) [] <|
 cnd (decide (x4 < (((List.length a0) : Nat) : Int)))
 (cnd (decide ((((List.length a0) : Nat) : Int) ≤ 8))
 (cnd (decide (0 ≤ x4))
 (C.agg 2 a0[(Int.toNat x4)]? fun l46 =>
 C.int .i64 l46[0]? fun x47 =>
 C.int .i64 l46[1]? fun x48 =>
 cnd (decide (x47 < (-1073741824)))
 (k1 .ret ⟨[(.lst a0), tz, bf, (iz x4), (iz x4), (.lst a0), (iz (((List.length a0) : Nat) : Int)), (.bool (decide (x4 < (((List.length a0) : Nat) : Int)))), bt, (.lst a0), (iz (((List.length a0) : Nat) : Int)), (.bool (decide ((((List.length a0) : Nat) : Int) ≤ 8))), bt, v14, v15, (.lst a0), (iz x4), (.fptr (.agg [(iz x47), (iz x48)]) 0), (.fptr (.agg [(iz x47), (iz x48)]) 0), (iz x47), (.bool (decide (x47 < (-1073741824)))), bt, tz, tz, tz, tz, tz, tz, bt, bt, tz, tz, tz, tz, tz, tz, bt, bt, tz, tz, tz, tz, tz, tz, bt, tz, tz], []⟩)
 (cnd (decide (0 ≤ x4))
 (C.agg 2 a0[(Int.toNat x4)]? fun l49 =>
 C.int .i64 l49[0]? fun x50 =>
 C.int .i64 l49[1]? fun x51 =>
 cnd (decide (x50 > 1073741824))
 (k1 .ret ⟨[(.lst a0), tz, bf, (iz x4), (iz x4), (.lst a0), (iz (((List.length a0) : Nat) : Int)), (.bool (decide (x4 < (((List.length a0) : Nat) : Int)))), bt, (.lst a0), (iz (((List.length a0) : Nat) : Int)), (.bool (decide ((((List.length a0) : Nat) : Int) ≤ 8))), bt, v14, v15, (.lst a0), (iz x4), (.fptr (.agg [(iz x47), (iz x48)]) 0), (.fptr (.agg [(iz x47), (iz x48)]) 0), (iz x47), (.bool (decide (x47 < (-1073741824)))), bf, (.lst a0), (iz x4), (.fptr (.agg [(iz x50), (iz x51)]) 0), (.fptr (.agg [(iz x50), (iz x51)]) 0), (iz x50), (.bool (decide (x50 > 1073741824))), (.bool (decide (x50 > 1073741824))), bt, tz, tz, tz, tz, tz, tz, bt, bt, tz, tz, tz, tz, tz, tz, bt, tz, tz], []⟩)
 (cnd (decide (0 ≤ x4))
 (C.agg 2 a0[(Int.toNat x4)]? fun l52 =>
 C.int .i64 l52[0]? fun x53 =>
 C.int .i64 l52[1]? fun x54 =>
 cnd (decide (x54 < (-1073741824)))
 (k1 .ret ⟨[(.lst a0), tz, bf, (iz x4), (iz x4), (.lst a0), (iz (((List.length a0) : Nat) : Int)), (.bool (decide (x4 < (((List.length a0) : Nat) : Int)))), bt, (.lst a0), (iz (((List.length a0) : Nat) : Int)), (.bool (decide ((((List.length a0) : Nat) : Int) ≤ 8))), bt, v14, v15, (.lst a0), (iz x4), (.fptr (.agg [(iz x47), (iz x48)]) 0), (.fptr (.agg [(iz x47), (iz x48)]) 0), (iz x47), (.bool (decide (x47 < (-1073741824)))), bf, (.lst a0), (iz x4), (.fptr (.agg [(iz x50), (iz x51)]) 0), (.fptr (.agg [(iz x50), (iz x51)]) 0), (iz x50), (.bool (decide (x50 > 1073741824))), (.bool (decide (x50 > 1073741824))), bf, (.lst a0), (iz x4), (.fptr (.agg [(iz x53), (iz x54)]) 0), (.fptr (.agg [(iz x53), (iz x54)]) 1), (iz x54), (.bool (decide (x54 < (-1073741824)))), (.bool (decide (x54 < (-1073741824)))), bt, tz, tz, tz, tz, tz, tz, bt, tz, tz], []⟩)
 (cnd (decide (0 ≤ x4))
 (C.agg 2 a0[(Int.toNat x4)]? fun l55 =>
 C.int .i64 l55[0]? fun x56 =>
 C.int .i64 l55[1]? fun x57 =>
 cnd (decide (x57 > 1073741824))
 (k1 .ret ⟨[(.lst a0), tz, bf, (iz x4), (iz x4), (.lst a0), (iz (((List.length a0) : Nat) : Int)), (.bool (decide (x4 < (((List.length a0) : Nat) : Int)))), bt, (.lst a0), (iz (((List.length a0) : Nat) : Int)), (.bool (decide ((((List.length a0) : Nat) : Int) ≤ 8))), bt, v14, v15, (.lst a0), (iz x4), (.fptr (.agg [(iz x47), (iz x48)]) 0), (.fptr (.agg [(iz x47), (iz x48)]) 0), (iz x47), (.bool (decide (x47 < (-1073741824)))), bf, (.lst a0), (iz x4), (.fptr (.agg [(iz x50), (iz x51)]) 0), (.fptr (.agg [(iz x50), (iz x51)]) 0), (iz x50), (.bool (decide (x50 > 1073741824))), (.bool (decide (x50 > 1073741824))), bf, (.lst a0), (iz x4), (.fptr (.agg [(iz x53), (iz x54)]) 0), (.fptr (.agg [(iz x53), (iz x54)]) 1), (iz x54), (.bool (decide (x54 < (-1073741824)))), (.bool (decide (x54 < (-1073741824)))), bf, (.lst a0), (iz x4), (.fptr (.agg [(iz x56), (iz x57)]) 0), (.fptr (.agg [(iz x56), (iz x57)]) 1), (iz x57), (.bool (decide (x57 > 1073741824))), bt, tz, tz], []⟩)
 (k1 .normal ⟨[(.lst a0), tz, (.bool b3), (iz (IntKind.wrap .i64 (x4 + 1))), (iz x4), (.lst a0), (iz (((List.length a0) : Nat) : Int)), (.bool (decide (x4 < (((List.length a0) : Nat) : Int)))), bt, (.lst a0), (iz (((List.length a0) : Nat) : Int)), (.bool (decide ((((List.length a0) : Nat) : Int) ≤ 8))), bt, (iz x4), (iz (IntKind.wrap .i64 (x4 + 1))), (.lst a0), (iz x4), (.fptr (.agg [(iz x47), (iz x48)]) 0), (.fptr (.agg [(iz x47), (iz x48)]) 0), (iz x47), (.bool (decide (x47 < (-1073741824)))), bf, (.lst a0), (iz x4), (.fptr (.agg [(iz x50), (iz x51)]) 0), (.fptr (.agg [(iz x50), (iz x51)]) 0), (iz x50), (.bool (decide (x50 > 1073741824))), (.bool (decide (x50 > 1073741824))), bf, (.lst a0), (iz x4), (.fptr (.agg [(iz x53), (iz x54)]) 0), (.fptr (.agg [(iz x53), (iz x54)]) 1), (iz x54), (.bool (decide (x54 < (-1073741824)))), (.bool (decide (x54 < (-1073741824)))), bf, (.lst a0), (iz x4), (.fptr (.agg [(iz x56), (iz x57)]) 0), (.fptr (.agg [(iz x56), (iz x57)]) 1), (iz x57), (.bool (decide (x57 > 1073741824))), bf, tz, tz], []⟩))
 (none)))
 (none)))
 (none)))
 (none))
 (k1 (.exit 0) ⟨[(.lst a0), tz, (.bool b3), (iz x4), (iz x4), (.lst a0), (iz (((List.length a0) : Nat) : Int)), (.bool (decide (x4 < (((List.length a0) : Nat) : Int)))), bt, (.lst a0), (iz (((List.length a0) : Nat) : Int)), (.bool (decide ((((List.length a0) : Nat) : Int) ≤ 8))), bf, v14, v15, v16, v17, v18, v19, v20, v21, v22, v23, v24, v25, v26, v27, v28, v29, v30, v31, v32, v33, v34, v35, v36, v37, v38, v39, v40, v41, v42, v43, v44, v45, tz, tz], []⟩))
 (k1 (.exit 0) ⟨[(.lst a0), tz, (.bool b3), (iz x4), (iz x4), (.lst a0), (iz (((List.length a0) : Nat) : Int)), (.bool (decide (x4 < (((List.length a0) : Nat) : Int)))), bf, tz, tz, tz, bf, v14, v15, v16, v17, v18, v19, v20, v21, v22, v23, v24, v25, v26, v27, v28, v29, v30, v31, v32, v33, v34, v35, v36, v37, v38, v39, v40, v41, v42, v43, v44, v45, tz, tz], []⟩))
 (none)
def r18X0_0 (C : Cb) (d : Nat) (a0 : List AV) : St → Ans := fun s58 =>
 cnd ((List.length s58.env) == 47)
 (C.same s58.env[0]? (.lst a0) <|
 C.same s58.env[1]? tz <|
 C.bool s58.env[2]? fun b59 =>
 C.int .i64 s58.env[3]? fun x60 =>
 C.int .i64 s58.env[4]? fun x61 =>
 C.any s58.env[5]? fun v62 =>
 C.int .i64 s58.env[6]? fun x63 =>
 C.bool s58.env[7]? fun b64 =>
 C.bool s58.env[8]? fun b65 =>
 C.any s58.env[9]? fun v66 =>
 C.any s58.env[10]? fun v67 =>
 C.any s58.env[11]? fun v68 =>
 C.bool s58.env[12]? fun b69 =>
 C.any s58.env[13]? fun v70 =>
 C.any s58.env[14]? fun v71 =>
 C.any s58.env[15]? fun v72 =>
 C.any s58.env[16]? fun v73 =>
 C.any s58.env[17]? fun v74 =>
 C.any s58.env[18]? fun v75 =>
 C.any s58.env[19]? fun v76 =>
 C.any s58.env[20]? fun v77 =>
 C.any s58.env[21]? fun v78 =>
 C.any s58.env[22]? fun v79 =>
 C.any s58.env[23]? fun v80 =>
 C.any s58.env[24]? fun v81 =>
 C.any s58.env[25]? fun v82 =>
 C.any s58.env[26]? fun v83 =>
 C.any s58.env[27]? fun v84 =>
 C.any s58.env[28]? fun v85 =>
 C.any s58.env[29]? fun v86 =>
 C.any s58.env[30]? fun v87 =>
 C.any s58.env[31]? fun v88 =>
 C.any s58.env[32]? fun v89 =>
 C.any s58.env[33]? fun v90 =>
 C.any s58.env[34]? fun v91 =>
 C.any s58.env[35]? fun v92 =>
 C.any s58.env[36]? fun v93 =>
 C.any s58.env[37]? fun v94 =>
 C.any s58.env[38]? fun v95 =>
 C.any s58.env[39]? fun v96 =>
 C.any s58.env[40]? fun v97 =>
 C.any s58.env[41]? fun v98 =>
 C.any s58.env[42]? fun v99 =>
 C.any s58.env[43]? fun v100 =>
 C.any s58.env[44]? fun v101 =>
 C.same s58.env[45]? tz <|
 C.same s58.env[46]? tz <|
 C.sameH (St.H s58) [] <|
 C.bool (pcall M d 28 [(.lst a0)]) fun b102 =>
 some (.bool b102))
 (none)
def r18E0 (C : Cb) (d : Nat) (a0 : List AV) : St → Ans := fun s2 =>
 cnd ((List.length s2.env) == 47)
 (C.same s2.env[0]? (.lst a0) <|
 C.same s2.env[1]? tz <|
 C.bool s2.env[2]? fun b103 =>
 C.int .i64 s2.env[3]? fun x104 =>
 C.int .i64 s2.env[4]? fun x105 =>
 C.any s2.env[5]? fun v106 =>
 C.int .i64 s2.env[6]? fun x107 =>
 C.bool s2.env[7]? fun b108 =>
 C.bool s2.env[8]? fun b109 =>
 C.any s2.env[9]? fun v110 =>
 C.any s2.env[10]? fun v111 =>
 C.any s2.env[11]? fun v112 =>
 C.bool s2.env[12]? fun b113 =>
 C.any s2.env[13]? fun v114 =>
 C.any s2.env[14]? fun v115 =>
 C.any s2.env[15]? fun v116 =>
 C.int .i64 s2.env[16]? fun x117 =>
 C.any s2.env[17]? fun v118 =>
 C.any s2.env[18]? fun v119 =>
 C.int .i64 s2.env[19]? fun x120 =>
 C.bool s2.env[20]? fun b121 =>
 C.bool s2.env[21]? fun b122 =>
 C.any s2.env[22]? fun v123 =>
 C.any s2.env[23]? fun v124 =>
 C.any s2.env[24]? fun v125 =>
 C.any s2.env[25]? fun v126 =>
 C.any s2.env[26]? fun v127 =>
 C.any s2.env[27]? fun v128 =>
 C.bool s2.env[28]? fun b129 =>
 C.bool s2.env[29]? fun b130 =>
 C.any s2.env[30]? fun v131 =>
 C.any s2.env[31]? fun v132 =>
 C.any s2.env[32]? fun v133 =>
 C.any s2.env[33]? fun v134 =>
 C.any s2.env[34]? fun v135 =>
 C.any s2.env[35]? fun v136 =>
 C.bool s2.env[36]? fun b137 =>
 C.bool s2.env[37]? fun b138 =>
 C.any s2.env[38]? fun v139 =>
 C.any s2.env[39]? fun v140 =>
 C.any s2.env[40]? fun v141 =>
 C.any s2.env[41]? fun v142 =>
 C.any s2.env[42]? fun v143 =>
 C.any s2.env[43]? fun v144 =>
 C.bool s2.env[44]? fun b145 =>
 C.same s2.env[45]? tz <|
 C.same s2.env[46]? tz <|
 C.sameH (St.H s2) [] <|
 some (.bool b103))
 (none)
/-- apogee/apogeeref11.Right -/
theorem r18 (C : Cb) (d : Nat) (a0 : List AV) : xcall C M unr d 18 [(.lst a0)] =
 C.iter (r18R0 C d a0) 1000000000000000000 ⟨[(.lst a0), tz, bf, (iz 0), tz, tz, tz, tz, tz, tz, tz, tz, tz, tz, tz, tz, tz, tz, tz, tz, tz, tz, tz, tz, tz, tz, tz, tz, tz, tz, tz, tz, tz, tz, tz, tz, tz, tz, tz, tz, tz, tz, tz, tz, tz, tz, tz], []⟩ [0] [r18X0_0 C d a0] (r18E0 C d a0) := by kernel_rfl
def r28R2 (C : Cb) (d : Nat) (a0 : List AV) (x2 x29 x30 x31 : Int) (b32 : Bool) (v33 v34 v35 v36 v37 v38 v39 v40 : AV) (k42 : Ex → St → Ans) (x45 : Int) (v54 v55 : AV) : St → (Ex → St → Ans) → Ans := fun s121 k122 =>
 cnd ((List.length s121.env) == 100)
 (C.same s121.env[0]? (.lst a0) <|
 C.same s121.env[1]? tz <|
 C.bool s121.env[2]? fun b124 =>
 C.same s121.env[3]? (iz x2) <|
 C.same s121.env[4]? (iz x29) <|
 C.same s121.env[5]? (iz x45) <|
 C.int .i64 s121.env[6]? fun x125 =>
 C.any s121.env[7]? fun v126 =>
 C.any s121.env[8]? fun v127 =>
 C.any s121.env[9]? fun v128 =>
 C.any s121.env[10]? fun v129 =>
 C.same s121.env[11]? (.lst a0) <|
 C.same s121.env[12]? (iz x2) <|
 C.same s121.env[13]? (iz x2) <|
 C.same s121.env[14]? (.bool (decide (x2 < 3))) <|
 C.same s121.env[15]? bf <|
 C.same s121.env[16]? (iz x2) <|
 C.same s121.env[17]? (.bool (decide (x2 > 8))) <|
 C.same s121.env[18]? bf <|
 C.same s121.env[19]? (iz x30) <|
 C.same s121.env[20]? (iz x31) <|
 C.same s121.env[21]? (.bool b32) <|
 C.same s121.env[22]? v33 <|
 C.same s121.env[23]? v34 <|
 C.same s121.env[24]? v35 <|
 C.same s121.env[25]? v36 <|
 C.same s121.env[26]? v37 <|
 C.same s121.env[27]? v38 <|
 C.same s121.env[28]? v39 <|
 C.same s121.env[29]? v40 <|
 C.same s121.env[30]? (iz x45) <|
 C.same s121.env[31]? (iz x2) <|
 C.same s121.env[32]? bt <|
 C.same s121.env[33]? v54 <|
 C.same s121.env[34]? v55 <|
 C.same s121.env[35]? (iz x45) <|
 C.same s121.env[36]? (iz (IntKind.wrap .i64 (x45 + 1))) <|
 C.any s121.env[37]? fun v130 =>
 C.any s121.env[38]? fun v131 =>
 C.any s121.env[39]? fun v132 =>
 C.any s121.env[40]? fun v133 =>
 C.any s121.env[41]? fun v134 =>
 C.any s121.env[42]? fun v135 =>
 C.any s121.env[43]? fun v136 =>
 C.any s121.env[44]? fun v137 =>
 C.any s121.env[45]? fun v138 =>
 C.any s121.env[46]? fun v139 =>
 C.any s121.env[47]? fun v140 =>
 C.any s121.env[48]? fun v141 =>
 C.any s121.env[49]? fun v142 =>
 C.any s121.env[50]? fun v143 =>
 C.any s121.env[51]? fun v144 =>
 C.any s121.env[52]? fun v145 =>
 C.any s121.env[53]? fun v146 =>
 C.any s121.env[54]? fun v147 =>
 C.any s121.env[55]? fun v148 =>
 C.any s121.env[56]? fun v149 =>
 C.any s121.env[57]? fun v150 =>
 C.any s121.env[58]? fun v151 =>
 C.any s121.env[59]? fun v152 =>
 C.any s121.env[60]? fun v153 =>
 C.any s121.env[61]? fun v154 =>
 C.any s121.env[62]? fun v155 =>
 C.any s121.env[63]? fun v156 =>
 C.any s121.env[64]? fun v157 =>
 C.any s121.env[65]? fun v158 =>
 C.any s121.env[66]? fun v159 =>
 C.any s121.env[67]? fun v160 =>
 C.any s121.env[68]? fun v161 =>
 C.any s121.env[69]? fun v162 =>
 C.any s121.env[70]? fun v163 =>
 C.any s121.env[71]? fun v164 =>
 C.any s121.env[72]? fun v165 =>
 C.any s121.env[73]? fun v166 =>
 C.any s121.env[74]? fun v167 =>
 C.any s121.env[75]? fun v168 =>
 C.any s121.env[76]? fun v169 =>
 C.any s121.env[77]? fun v170 =>
 C.any s121.env[78]? fun v171 =>
 C.any s121.env[79]? fun v172 =>
 C.any s121.env[80]? fun v173 =>
 C.any s121.env[81]? fun v174 =>
 C.any s121.env[82]? fun v175 =>
 C.any s121.env[83]? fun v176 =>
 C.any s121.env[84]? fun v177 =>
 C.any s121.env[85]? fun v178 =>
 C.any s121.env[86]? fun v179 =>
 C.any s121.env[87]? fun v180 =>
 C.any s121.env[88]? fun v181 =>
 C.any s121.env[89]? fun v182 =>
 C.any s121.env[90]? fun v183 =>
 C.any s121.env[91]? fun v184 =>
 C.any s121.env[92]? fun v185 =>
 C.any s121.env[93]? fun v186 =>
 C.any s121.env[94]? fun v187 =>
 C.any s121.env[95]? fun v188 =>
 C.any s121.env[96]? fun v189 =>
 C.any s121.env[97]? fun v190 =>
 C.any s121.env[98]? fun v191 =>
 C.any s121.env[99]? fun v192 =>
 cnd (decide (x125 < x2))
 (C.hop (St.H s121) (.ixAS .any 2 (.v (.lst a0)) (.v (iz x45))) fun v193 h194 =>
 C.hop h194 (.load true 2 (.v v193)) fun v195 h196 =>
 C.agg 2 (some v195) fun l197 =>
 C.int .i64 l197[0]? fun x198 =>
 C.int .i64 l197[1]? fun x199 =>
 C.snp h196 [(.lst a0), (iz x45)] fun l200 b201 =>
 C.agg 2 (pcall M d 42 l200) fun l202 =>
 C.int .i64 l202[0]? fun x203 =>
 C.int .i64 l202[1]? fun x204 =>
 cnd (b201 || true)
 (C.hop h196 (.ixAS .any 2 (.v (.lst a0)) (.v (iz x125))) fun v205 h206 =>
 C.hop h206 (.load true 2 (.v v205)) fun v207 h208 =>
 C.agg 2 (some v207) fun l209 =>
 C.int .i64 l209[0]? fun x210 =>
 C.int .i64 l209[1]? fun x211 =>
 C.snp h208 [(.lst a0), (iz x125)] fun l212 b213 =>
 C.agg 2 (pcall M d 42 l212) fun l214 =>
 C.int .i64 l214[0]? fun x215 =>
 C.int .i64 l214[1]? fun x216 =>
 cnd (b213 || true)
 (C.hop h208 (.alloc E45) fun v217 h218 =>
 C.hop h218 (.alloc E45) fun v219 h220 =>
 C.hop h220 (.alloc E45) fun v221 h222 =>
 C.hop h222 (.alloc E45) fun v223 h224 =>
 C.disj (.addr v205) (.addr v217) <|
 C.hop h224 (.store 2 (.v v217) (.v (.agg [(iz x198), (iz x199)]))) fun v225 h226 =>
 C.disj (.addr v205) (.addr v219) <|
 C.hop h226 (.store 2 (.v v219) (.v (.agg [(iz x203), (iz x204)]))) fun v227 h228 =>
 C.hop h228 (.store 2 (.v v221) (.v (.agg [(iz x210), (iz x211)]))) fun v229 h230 =>
 C.hop h230 (.store 2 (.v v223) (.v (.agg [(iz x215), (iz x216)]))) fun v231 h232 =>
 C.hop h232 (.load true 2 (.v v217)) fun v233 h234 =>
 C.agg 2 (some v233) fun l235 =>
 C.int .i64 l235[0]? fun x236 =>
 C.int .i64 l235[1]? fun x237 =>
 C.hop h234 (.load true 2 (.v v221)) fun v238 h239 =>
 C.agg 2 (some v238) fun l240 =>
 C.int .i64 l240[0]? fun x241 =>
 C.int .i64 l240[1]? fun x242 =>
 cnd (xor false ((x236 == x241) && ((x237 == x242) && true)))
 (k122 .ret ⟨[(.lst a0), tz, bf, (iz x2), (iz x29), (iz x45), (iz x125), v217, v219, v221, v223, (.lst a0), (iz x2), (iz x2), (.bool (decide (x2 < 3))), bf, (iz x2), (.bool (decide (x2 > 8))), bf, (iz x30), (iz x31), (.bool b32), v33, v34, v35, v36, v37, v38, v39, v40, (iz x45), (iz x2), bt, v54, v55, (iz x45), (iz (IntKind.wrap .i64 (x45 + 1))), (iz x125), (iz x2), bt, v133, v134, (.lst a0), (iz x45), v193, (.agg [(iz x198), (iz x199)]), (.lst a0), (iz x45), (.agg [(iz x203), (iz x204)]), (.lst a0), (iz x125), v205, (.agg [(iz x210), (iz x211)]), (.lst a0), (iz x125), (.agg [(iz x215), (iz x216)]), bt, (.agg [(iz x236), (iz x237)]), (.agg [(iz x241), (iz x242)]), (.bool (xor false ((x236 == x241) && ((x237 == x242) && true)))), v153, v154, v155, v156, v157, v158, v159, v160, v161, v162, v163, v164, v165, v166, v167, v168, v169, v170, v171, v172, v173, v174, v175, v176, v177, v178, v179, v180, v181, v182, v183, v184, v185, v186, v187, v188, v189, v190, v191, v192], h239⟩)
 (cnd (x125 == (IntKind.wrap .i64 (x45 + 1)))
 (C.hop h239 (.load true 2 (.v v223)) fun v243 h244 =>
 C.agg 2 (some v243) fun l245 =>
 C.int .i64 l245[0]? fun x246 =>
 C.int .i64 l245[1]? fun x247 =>
 C.hop h244 (.load true 2 (.v v217)) fun v248 h249 =>
 C.agg 2 (some v248) fun l250 =>
 C.int .i64 l250[0]? fun x251 =>
 C.int .i64 l250[1]? fun x252 =>
 C.hop h249 (.load true 2 (.v v219)) fun v253 h254 =>
 C.agg 2 (some v253) fun l255 =>
 C.int .i64 l255[0]? fun x256 =>
 C.int .i64 l255[1]? fun x257 =>
 C.bool (pcall M d 43 [(.agg [(iz x246), (iz x247)]), (.agg [(iz x251), (iz x252)]), (.agg [(iz x256), (iz x257)])]) fun b258 =>
 cnd b258
 (k122 .ret ⟨[(.lst a0), tz, bf, (iz x2), (iz x29), (iz x45), (iz x125), v217, v219, v221, v223, (.lst a0), (iz x2), (iz x2), (.bool (decide (x2 < 3))), bf, (iz x2), (.bool (decide (x2 > 8))), bf, (iz x30), (iz x31), (.bool b32), v33, v34, v35, v36, v37, v38, v39, v40, (iz x45), (iz x2), bt, v54, v55, (iz x45), (iz (IntKind.wrap .i64 (x45 + 1))), (iz x125), (iz x2), bt, v133, v134, (.lst a0), (iz x45), v193, (.agg [(iz x198), (iz x199)]), (.lst a0), (iz x45), (.agg [(iz x203), (iz x204)]), (.lst a0), (iz x125), v205, (.agg [(iz x210), (iz x211)]), (.lst a0), (iz x125), (.agg [(iz x215), (iz x216)]), bf, (.agg [(iz x236), (iz x237)]), (.agg [(iz x241), (iz x242)]), (.bool (xor false ((x236 == x241) && ((x237 == x242) && true)))), bt, (iz x125), (iz x45), (iz (IntKind.wrap .i64 (x45 + 1))), (.bool (x125 == (IntKind.wrap .i64 (x45 + 1)))), (.agg [(iz x246), (iz x247)]), (.agg [(iz x251), (iz x252)]), (.agg [(iz x256), (iz x257)]), (.bool b258), bt, tz, tz, tz, tz, bt, v168, v169, v170, v171, v172, v173, v174, v175, v176, v177, v178, v179, v180, v181, v182, v183, v184, v185, v186, v187, v188, v189, v190, v191, v192], h254⟩)
 (C.hop h254 (.load true 2 (.v v217)) fun v259 h260 =>
 C.agg 2 (some v259) fun l261 =>
 C.int .i64 l261[0]? fun x262 =>
 C.int .i64 l261[1]? fun x263 =>
 C.hop h260 (.load true 2 (.v v221)) fun v264 h265 =>
 C.agg 2 (some v264) fun l266 =>
 C.int .i64 l266[0]? fun x267 =>
 C.int .i64 l266[1]? fun x268 =>
 C.hop h265 (.load true 2 (.v v223)) fun v269 h270 =>
 C.agg 2 (some v269) fun l271 =>
 C.int .i64 l271[0]? fun x272 =>
 C.int .i64 l271[1]? fun x273 =>
 C.bool (pcall M d 43 [(.agg [(iz x262), (iz x263)]), (.agg [(iz x267), (iz x268)]), (.agg [(iz x272), (iz x273)])]) fun b274 =>
 cnd b274
 (k122 .ret ⟨[(.lst a0), tz, bf, (iz x2), (iz x29), (iz x45), (iz x125), v217, v219, v221, v223, (.lst a0), (iz x2), (iz x2), (.bool (decide (x2 < 3))), bf, (iz x2), (.bool (decide (x2 > 8))), bf, (iz x30), (iz x31), (.bool b32), v33, v34, v35, v36, v37, v38, v39, v40, (iz x45), (iz x2), bt, v54, v55, (iz x45), (iz (IntKind.wrap .i64 (x45 + 1))), (iz x125), (iz x2), bt, v133, v134, (.lst a0), (iz x45), v193, (.agg [(iz x198), (iz x199)]), (.lst a0), (iz x45), (.agg [(iz x203), (iz x204)]), (.lst a0), (iz x125), v205, (.agg [(iz x210), (iz x211)]), (.lst a0), (iz x125), (.agg [(iz x215), (iz x216)]), bf, (.agg [(iz x236), (iz x237)]), (.agg [(iz x241), (iz x242)]), (.bool (xor false ((x236 == x241) && ((x237 == x242) && true)))), bt, (iz x125), (iz x45), (iz (IntKind.wrap .i64 (x45 + 1))), (.bool (x125 == (IntKind.wrap .i64 (x45 + 1)))), (.agg [(iz x246), (iz x247)]), (.agg [(iz x251), (iz x252)]), (.agg [(iz x256), (iz x257)]), (.bool b258), bf, (.agg [(iz x262), (iz x263)]), (.agg [(iz x267), (iz x268)]), (.agg [(iz x272), (iz x273)]), (.bool b274), bt, v168, v169, v170, v171, v172, v173, v174, v175, v176, v177, v178, v179, v180, v181, v182, v183, v184, v185, v186, v187, v188, v189, v190, v191, v192], h270⟩)
 (k122 .normal ⟨[(.lst a0), tz, (.bool b124), (iz x2), (iz x29), (iz x45), (iz (IntKind.wrap .i64 (x125 + 1))), v217, v219, v221, v223, (.lst a0), (iz x2), (iz x2), (.bool (decide (x2 < 3))), bf, (iz x2), (.bool (decide (x2 > 8))), bf, (iz x30), (iz x31), (.bool b32), v33, v34, v35, v36, v37, v38, v39, v40, (iz x45), (iz x2), bt, v54, v55, (iz x45), (iz (IntKind.wrap .i64 (x45 + 1))), (iz x125), (iz x2), bt, (iz x125), (iz (IntKind.wrap .i64 (x125 + 1))), (.lst a0), (iz x45), v193, (.agg [(iz x198), (iz x199)]), (.lst a0), (iz x45), (.agg [(iz x203), (iz x204)]), (.lst a0), (iz x125), v205, (.agg [(iz x210), (iz x211)]), (.lst a0), (iz x125), (.agg [(iz x215), (iz x216)]), bf, (.agg [(iz x236), (iz x237)]), (.agg [(iz x241), (iz x242)]), (.bool (xor false ((x236 == x241) && ((x237 == x242) && true)))), bt, (iz x125), (iz x45), (iz (IntKind.wrap .i64 (x45 + 1))), (.bool (x125 == (IntKind.wrap .i64 (x45 + 1)))), (.agg [(iz x246), (iz x247)]), (.agg [(iz x251), (iz x252)]), (.agg [(iz x256), (iz x257)]), (.bool b258), bf, (.agg [(iz x262), (iz x263)]), (.agg [(iz x267), (iz x268)]), (.agg [(iz x272), (iz x273)]), (.bool b274), bf, v168, v169, v170, v171, v172, v173, v174, v175, v176, v177, v178, v179, v180, v181, v182, v183, v184, v185, v186, v187, v188, v189, v190, v191, v192], h270⟩)))
 (cnd (x45 == 0)
 (cnd (x125 == (IntKind.wrap .i64 (x2 - 1)))
 (C.hop h239 (.load true 2 (.v v221)) fun v275 h276 =>
 C.agg 2 (some v275) fun l277 =>
 C.int .i64 l277[0]? fun x278 =>
 C.int .i64 l277[1]? fun x279 =>
 C.hop h276 (.load true 2 (.v v217)) fun v280 h281 =>
 C.agg 2 (some v280) fun l282 =>
 C.int .i64 l282[0]? fun x283 =>
 C.int .i64 l282[1]? fun x284 =>
 C.hop h281 (.load true 2 (.v v219)) fun v285 h286 =>
 C.agg 2 (some v285) fun l287 =>
 C.int .i64 l287[0]? fun x288 =>
 C.int .i64 l287[1]? fun x289 =>
 C.bool (pcall M d 43 [(.agg [(iz x278), (iz x279)]), (.agg [(iz x283), (iz x284)]), (.agg [(iz x288), (iz x289)])]) fun b290 =>
 cnd b290
 (k122 .ret ⟨[(.lst a0), tz, bf, (iz x2), (iz x29), (iz x45), (iz x125), v217, v219, v221, v223, (.lst a0), (iz x2), (iz x2), (.bool (decide (x2 < 3))), bf, (iz x2), (.bool (decide (x2 > 8))), bf, (iz x30), (iz x31), (.bool b32), v33, v34, v35, v36, v37, v38, v39, v40, (iz x45), (iz x2), bt, v54, v55, (iz x45), (iz (IntKind.wrap .i64 (x45 + 1))), (iz x125), (iz x2), bt, v133, v134, (.lst a0), (iz x45), v193, (.agg [(iz x198), (iz x199)]), (.lst a0), (iz x45), (.agg [(iz x203), (iz x204)]), (.lst a0), (iz x125), v205, (.agg [(iz x210), (iz x211)]), (.lst a0), (iz x125), (.agg [(iz x215), (iz x216)]), bf, (.agg [(iz x236), (iz x237)]), (.agg [(iz x241), (iz x242)]), (.bool (xor false ((x236 == x241) && ((x237 == x242) && true)))), bf, (iz x125), (iz x45), (iz (IntKind.wrap .i64 (x45 + 1))), (.bool (x125 == (IntKind.wrap .i64 (x45 + 1)))), v158, v159, v160, v161, v162, v163, v164, v165, v166, v167, bt, (iz x45), (.bool (x45 == 0)), bt, (iz x125), (iz x2), (iz (IntKind.wrap .i64 (x2 - 1))), (.bool (x125 == (IntKind.wrap .i64 (x2 - 1)))), (.bool (x125 == (IntKind.wrap .i64 (x2 - 1)))), (.agg [(iz x278), (iz x279)]), (.agg [(iz x283), (iz x284)]), (.agg [(iz x288), (iz x289)]), (.bool b290), bt, tz, tz, tz, tz, bt, v187, v188, v189, v190, v191, v192], h286⟩)
 (C.hop h286 (.load true 2 (.v v219)) fun v291 h292 =>
 C.agg 2 (some v291) fun l293 =>
 C.int .i64 l293[0]? fun x294 =>
 C.int .i64 l293[1]? fun x295 =>
 C.hop h292 (.load true 2 (.v v221)) fun v296 h297 =>
 C.agg 2 (some v296) fun l298 =>
 C.int .i64 l298[0]? fun x299 =>
 C.int .i64 l298[1]? fun x300 =>
 C.hop h297 (.load true 2 (.v v223)) fun v301 h302 =>
 C.agg 2 (some v301) fun l303 =>
 C.int .i64 l303[0]? fun x304 =>
 C.int .i64 l303[1]? fun x305 =>
 C.bool (pcall M d 43 [(.agg [(iz x294), (iz x295)]), (.agg [(iz x299), (iz x300)]), (.agg [(iz x304), (iz x305)])]) fun b306 =>
 cnd b306
 (k122 .ret ⟨[(.lst a0), tz, bf, (iz x2), (iz x29), (iz x45), (iz x125), v217, v219, v221, v223, (.lst a0), (iz x2), (iz x2), (.bool (decide (x2 < 3))), bf, (iz x2), (.bool (decide (x2 > 8))), bf, (iz x30), (iz x31), (.bool b32), v33, v34, v35, v36, v37, v38, v39, v40, (iz x45), (iz x2), bt, v54, v55, (iz x45), (iz (IntKind.wrap .i64 (x45 + 1))), (iz x125), (iz x2), bt, v133, v134, (.lst a0), (iz x45), v193, (.agg [(iz x198), (iz x199)]), (.lst a0), (iz x45), (.agg [(iz x203), (iz x204)]), (.lst a0), (iz x125), v205, (.agg [(iz x210), (iz x211)]), (.lst a0), (iz x125), (.agg [(iz x215), (iz x216)]), bf, (.agg [(iz x236), (iz x237)]), (.agg [(iz x241), (iz x242)]), (.bool (xor false ((x236 == x241) && ((x237 == x242) && true)))), bf, (iz x125), (iz x45), (iz (IntKind.wrap .i64 (x45 + 1))), (.bool (x125 == (IntKind.wrap .i64 (x45 + 1)))), v158, v159, v160, v161, v162, v163, v164, v165, v166, v167, bt, (iz x45), (.bool (x45 == 0)), bt, (iz x125), (iz x2), (iz (IntKind.wrap .i64 (x2 - 1))), (.bool (x125 == (IntKind.wrap .i64 (x2 - 1)))), (.bool (x125 == (IntKind.wrap .i64 (x2 - 1)))), (.agg [(iz x278), (iz x279)]), (.agg [(iz x283), (iz x284)]), (.agg [(iz x288), (iz x289)]), (.bool b290), bf, (.agg [(iz x294), (iz x295)]), (.agg [(iz x299), (iz x300)]), (.agg [(iz x304), (iz x305)]), (.bool b306), bt, v187, v188, v189, v190, v191, v192], h302⟩)
 (k122 .normal ⟨[(.lst a0), tz, (.bool b124), (iz x2), (iz x29), (iz x45), (iz (IntKind.wrap .i64 (x125 + 1))), v217, v219, v221, v223, (.lst a0), (iz x2), (iz x2), (.bool (decide (x2 < 3))), bf, (iz x2), (.bool (decide (x2 > 8))), bf, (iz x30), (iz x31), (.bool b32), v33, v34, v35, v36, v37, v38, v39, v40, (iz x45), (iz x2), bt, v54, v55, (iz x45), (iz (IntKind.wrap .i64 (x45 + 1))), (iz x125), (iz x2), bt, (iz x125), (iz (IntKind.wrap .i64 (x125 + 1))), (.lst a0), (iz x45), v193, (.agg [(iz x198), (iz x199)]), (.lst a0), (iz x45), (.agg [(iz x203), (iz x204)]), (.lst a0), (iz x125), v205, (.agg [(iz x210), (iz x211)]), (.lst a0), (iz x125), (.agg [(iz x215), (iz x216)]), bf, (.agg [(iz x236), (iz x237)]), (.agg [(iz x241), (iz x242)]), (.bool (xor false ((x236 == x241) && ((x237 == x242) && true)))), bf, (iz x125), (iz x45), (iz (IntKind.wrap .i64 (x45 + 1))), (.bool (x125 == (IntKind.wrap .i64 (x45 + 1)))), v158, v159, v160, v161, v162, v163, v164, v165, v166, v167, bt, (iz x45), (.bool (x45 == 0)), bt, (iz x125), (iz x2), (iz (IntKind.wrap .i64 (x2 - 1))), (.bool (x125 == (IntKind.wrap .i64 (x2 - 1)))), (.bool (x125 == (IntKind.wrap .i64 (x2 - 1)))), (.agg [(iz x278), (iz x279)]), (.agg [(iz x283), (iz x284)]), (.agg [(iz x288), (iz x289)]), (.bool b290), bf, (.agg [(iz x294), (iz x295)]), (.agg [(iz x299), (iz x300)]), (.agg [(iz x304), (iz x305)]), (.bool b306), bf, v187, v188, v189, v190, v191, v192], h302⟩)))
 (C.hop h239 (.load true 2 (.v v217)) fun v307 h308 =>
 C.agg 2 (some v307) fun l309 =>
 C.int .i64 l309[0]? fun x310 =>
 C.int .i64 l309[1]? fun x311 =>
 C.hop h308 (.load true 2 (.v v219)) fun v312 h313 =>
 C.agg 2 (some v312) fun l314 =>
 C.int .i64 l314[0]? fun x315 =>
 C.int .i64 l314[1]? fun x316 =>
 C.hop h313 (.load true 2 (.v v221)) fun v317 h318 =>
 C.agg 2 (some v317) fun l319 =>
 C.int .i64 l319[0]? fun x320 =>
 C.int .i64 l319[1]? fun x321 =>
 C.hop h318 (.load true 2 (.v v223)) fun v322 h323 =>
 C.agg 2 (some v322) fun l324 =>
 C.int .i64 l324[0]? fun x325 =>
 C.int .i64 l324[1]? fun x326 =>
 C.bool (pcall M d 44 [(.agg [(iz x310), (iz x311)]), (.agg [(iz x315), (iz x316)]), (.agg [(iz x320), (iz x321)]), (.agg [(iz x325), (iz x326)])]) fun b327 =>
 cnd b327
 (k122 .ret ⟨[(.lst a0), tz, bf, (iz x2), (iz x29), (iz x45), (iz x125), v217, v219, v221, v223, (.lst a0), (iz x2), (iz x2), (.bool (decide (x2 < 3))), bf, (iz x2), (.bool (decide (x2 > 8))), bf, (iz x30), (iz x31), (.bool b32), v33, v34, v35, v36, v37, v38, v39, v40, (iz x45), (iz x2), bt, v54, v55, (iz x45), (iz (IntKind.wrap .i64 (x45 + 1))), (iz x125), (iz x2), bt, v133, v134, (.lst a0), (iz x45), v193, (.agg [(iz x198), (iz x199)]), (.lst a0), (iz x45), (.agg [(iz x203), (iz x204)]), (.lst a0), (iz x125), v205, (.agg [(iz x210), (iz x211)]), (.lst a0), (iz x125), (.agg [(iz x215), (iz x216)]), bf, (.agg [(iz x236), (iz x237)]), (.agg [(iz x241), (iz x242)]), (.bool (xor false ((x236 == x241) && ((x237 == x242) && true)))), bf, (iz x125), (iz x45), (iz (IntKind.wrap .i64 (x45 + 1))), (.bool (x125 == (IntKind.wrap .i64 (x45 + 1)))), v158, v159, v160, v161, v162, v163, v164, v165, v166, v167, bf, (iz x45), (.bool (x45 == 0)), bt, (iz x125), (iz x2), (iz (IntKind.wrap .i64 (x2 - 1))), (.bool (x125 == (IntKind.wrap .i64 (x2 - 1)))), (.bool (x125 == (IntKind.wrap .i64 (x2 - 1)))), v177, v178, v179, v180, v181, v182, v183, v184, v185, v186, bt, (.agg [(iz x310), (iz x311)]), (.agg [(iz x315), (iz x316)]), (.agg [(iz x320), (iz x321)]), (.agg [(iz x325), (iz x326)]), (.bool b327)], h323⟩)
 (k122 .normal ⟨[(.lst a0), tz, (.bool b124), (iz x2), (iz x29), (iz x45), (iz (IntKind.wrap .i64 (x125 + 1))), v217, v219, v221, v223, (.lst a0), (iz x2), (iz x2), (.bool (decide (x2 < 3))), bf, (iz x2), (.bool (decide (x2 > 8))), bf, (iz x30), (iz x31), (.bool b32), v33, v34, v35, v36, v37, v38, v39, v40, (iz x45), (iz x2), bt, v54, v55, (iz x45), (iz (IntKind.wrap .i64 (x45 + 1))), (iz x125), (iz x2), bt, (iz x125), (iz (IntKind.wrap .i64 (x125 + 1))), (.lst a0), (iz x45), v193, (.agg [(iz x198), (iz x199)]), (.lst a0), (iz x45), (.agg [(iz x203), (iz x204)]), (.lst a0), (iz x125), v205, (.agg [(iz x210), (iz x211)]), (.lst a0), (iz x125), (.agg [(iz x215), (iz x216)]), bf, (.agg [(iz x236), (iz x237)]), (.agg [(iz x241), (iz x242)]), (.bool (xor false ((x236 == x241) && ((x237 == x242) && true)))), bf, (iz x125), (iz x45), (iz (IntKind.wrap .i64 (x45 + 1))), (.bool (x125 == (IntKind.wrap .i64 (x45 + 1)))), v158, v159, v160, v161, v162, v163, v164, v165, v166, v167, bf, (iz x45), (.bool (x45 == 0)), bt, (iz x125), (iz x2), (iz (IntKind.wrap .i64 (x2 - 1))), (.bool (x125 == (IntKind.wrap .i64 (x2 - 1)))), (.bool (x125 == (IntKind.wrap .i64 (x2 - 1)))), v177, v178, v179, v180, v181, v182, v183, v184, v185, v186, bf, (.agg [(iz x310), (iz x311)]), (.agg [(iz x315), (iz x316)]), (.agg [(iz x320), (iz x321)]), (.agg [(iz x325), (iz x326)]), (.bool b327)], h323⟩)))
 (C.hop h239 (.load true 2 (.v v217)) fun v328 h329 =>
 C.agg 2 (some v328) fun l330 =>
 C.int .i64 l330[0]? fun x331 =>
 C.int .i64 l330[1]? fun x332 =>
 C.hop h329 (.load true 2 (.v v219)) fun v333 h334 =>
 C.agg 2 (some v333) fun l335 =>
 C.int .i64 l335[0]? fun x336 =>
 C.int .i64 l335[1]? fun x337 =>
 C.hop h334 (.load true 2 (.v v221)) fun v338 h339 =>
 C.agg 2 (some v338) fun l340 =>
 C.int .i64 l340[0]? fun x341 =>
 C.int .i64 l340[1]? fun x342 =>
 C.hop h339 (.load true 2 (.v v223)) fun v343 h344 =>
 C.agg 2 (some v343) fun l345 =>
 C.int .i64 l345[0]? fun x346 =>
 C.int .i64 l345[1]? fun x347 =>
 C.bool (pcall M d 44 [(.agg [(iz x331), (iz x332)]), (.agg [(iz x336), (iz x337)]), (.agg [(iz x341), (iz x342)]), (.agg [(iz x346), (iz x347)])]) fun b348 =>
 cnd b348
 (k122 .ret ⟨[(.lst a0), tz, bf, (iz x2), (iz x29), (iz x45), (iz x125), v217, v219, v221, v223, (.lst a0), (iz x2), (iz x2), (.bool (decide (x2 < 3))), bf, (iz x2), (.bool (decide (x2 > 8))), bf, (iz x30), (iz x31), (.bool b32), v33, v34, v35, v36, v37, v38, v39, v40, (iz x45), (iz x2), bt, v54, v55, (iz x45), (iz (IntKind.wrap .i64 (x45 + 1))), (iz x125), (iz x2), bt, v133, v134, (.lst a0), (iz x45), v193, (.agg [(iz x198), (iz x199)]), (.lst a0), (iz x45), (.agg [(iz x203), (iz x204)]), (.lst a0), (iz x125), v205, (.agg [(iz x210), (iz x211)]), (.lst a0), (iz x125), (.agg [(iz x215), (iz x216)]), bf, (.agg [(iz x236), (iz x237)]), (.agg [(iz x241), (iz x242)]), (.bool (xor false ((x236 == x241) && ((x237 == x242) && true)))), bf, (iz x125), (iz x45), (iz (IntKind.wrap .i64 (x45 + 1))), (.bool (x125 == (IntKind.wrap .i64 (x45 + 1)))), v158, v159, v160, v161, v162, v163, v164, v165, v166, v167, bf, (iz x45), (.bool (x45 == 0)), bf, tz, tz, tz, tz, bf, v177, v178, v179, v180, v181, v182, v183, v184, v185, v186, bt, (.agg [(iz x331), (iz x332)]), (.agg [(iz x336), (iz x337)]), (.agg [(iz x341), (iz x342)]), (.agg [(iz x346), (iz x347)]), (.bool b348)], h344⟩)
 (k122 .normal ⟨[(.lst a0), tz, (.bool b124), (iz x2), (iz x29), (iz x45), (iz (IntKind.wrap .i64 (x125 + 1))), v217, v219, v221, v223, (.lst a0), (iz x2), (iz x2), (.bool (decide (x2 < 3))), bf, (iz x2), (.bool (decide (x2 > 8))), bf, (iz x30), (iz x31), (.bool b32), v33, v34, v35, v36, v37, v38, v39, v40, (iz x45), (iz x2), bt, v54, v55, (iz x45), (iz (IntKind.wrap .i64 (x45 + 1))), (iz x125), (iz x2), bt, (iz x125), (iz (IntKind.wrap .i64 (x125 + 1))), (.lst a0), (iz x45), v193, (.agg [(iz x198), (iz x199)]), (.lst a0), (iz x45), (.agg [(iz x203), (iz x204)]), (.lst a0), (iz x125), v205, (.agg [(iz x210), (iz x211)]), (.lst a0), (iz x125), (.agg [(iz x215), (iz x216)]), bf, (.agg [(iz x236), (iz x237)]), (.agg [(iz x241), (iz x242)]), (.bool (xor false ((x236 == x241) && ((x237 == x242) && true)))), bf, (iz x125), (iz x45), (iz (IntKind.wrap .i64 (x45 + 1))), (.bool (x125 == (IntKind.wrap .i64 (x45 + 1)))), v158, v159, v160, v161, v162, v163, v164, v165, v166, v167, bf, (iz x45), (.bool (x45 == 0)), bf, tz, tz, tz, tz, bf, v177, v178, v179, v180, v181, v182, v183, v184, v185, v186, bf, (.agg [(iz x331), (iz x332)]), (.agg [(iz x336), (iz x337)]), (.agg [(iz x341), (iz x342)]), (.agg [(iz x346), (iz x347)]), (.bool b348)], h344⟩)))))
 (none))
 (none))
 (k122 (.exit 4) ⟨[(.lst a0), tz, (.bool b124), (iz x2), (iz x29), (iz x45), (iz x125), v126, v127, v128, v129, (.lst a0), (iz x2), (iz x2), (.bool (decide (x2 < 3))), bf, (iz x2), (.bool (decide (x2 > 8))), bf, (iz x30), (iz x31), (.bool b32), v33, v34, v35, v36, v37, v38, v39, v40, (iz x45), (iz x2), bt, v54, v55, (iz x45), (iz (IntKind.wrap .i64 (x45 + 1))), (iz x125), (iz x2), bf, v133, v134, v135, v136, v137, v138, v139, v140, v141, v142, v143, v144, v145, v146, v147, v148, v149, v150, v151, v152, v153, v154, v155, v156, v157, v158, v159, v160, v161, v162, v163, v164, v165, v166, v167, v168, v169, v170, v171, v172, v173, v174, v175, v176, v177, v178, v179, v180, v181, v182, v183, v184, v185, v186, v187, v188, v189, v190, v191, v192], (St.H s121)⟩))
 (none)
def r28X2_0 (C : Cb) (d : Nat) (a0 : List AV) (x2 x29 x30 x31 : Int) (b32 : Bool) (v33 v34 v35 v36 v37 v38 v39 v40 : AV) (k42 : Ex → St → Ans) (x45 : Int) (v54 v55 : AV) : St → Ans := fun s349 =>
 cnd ((List.length s349.env) == 100)
 (C.same s349.env[0]? (.lst a0) <|
 C.same s349.env[1]? tz <|
 C.bool s349.env[2]? fun b350 =>
 C.same s349.env[3]? (iz x2) <|
 C.same s349.env[4]? (iz x29) <|
 C.same s349.env[5]? (iz x45) <|
 C.int .i64 s349.env[6]? fun x351 =>
 C.any s349.env[7]? fun v352 =>
 C.any s349.env[8]? fun v353 =>
 C.any s349.env[9]? fun v354 =>
 C.any s349.env[10]? fun v355 =>
 C.same s349.env[11]? (.lst a0) <|
 C.same s349.env[12]? (iz x2) <|
 C.same s349.env[13]? (iz x2) <|
 C.same s349.env[14]? (.bool (decide (x2 < 3))) <|
 C.same s349.env[15]? bf <|
 C.same s349.env[16]? (iz x2) <|
 C.same s349.env[17]? (.bool (decide (x2 > 8))) <|
 C.same s349.env[18]? bf <|
 C.same s349.env[19]? (iz x30) <|
 C.same s349.env[20]? (iz x31) <|
 C.same s349.env[21]? (.bool b32) <|
 C.same s349.env[22]? v33 <|
 C.same s349.env[23]? v34 <|
 C.same s349.env[24]? v35 <|
 C.same s349.env[25]? v36 <|
 C.same s349.env[26]? v37 <|
 C.same s349.env[27]? v38 <|
 C.same s349.env[28]? v39 <|
 C.same s349.env[29]? v40 <|
 C.same s349.env[30]? (iz x45) <|
 C.same s349.env[31]? (iz x2) <|
 C.same s349.env[32]? bt <|
 C.same s349.env[33]? v54 <|
 C.same s349.env[34]? v55 <|
 C.same s349.env[35]? (iz x45) <|
 C.same s349.env[36]? (iz (IntKind.wrap .i64 (x45 + 1))) <|
 C.int .i64 s349.env[37]? fun x356 =>
 C.int .i64 s349.env[38]? fun x357 =>
 C.bool s349.env[39]? fun b358 =>
 C.any s349.env[40]? fun v359 =>
 C.any s349.env[41]? fun v360 =>
 C.any s349.env[42]? fun v361 =>
 C.any s349.env[43]? fun v362 =>
 C.any s349.env[44]? fun v363 =>
 C.any s349.env[45]? fun v364 =>
 C.any s349.env[46]? fun v365 =>
 C.any s349.env[47]? fun v366 =>
 C.any s349.env[48]? fun v367 =>
 C.any s349.env[49]? fun v368 =>
 C.any s349.env[50]? fun v369 =>
 C.any s349.env[51]? fun v370 =>
 C.any s349.env[52]? fun v371 =>
 C.any s349.env[53]? fun v372 =>
 C.any s349.env[54]? fun v373 =>
 C.any s349.env[55]? fun v374 =>
 C.any s349.env[56]? fun v375 =>
 C.any s349.env[57]? fun v376 =>
 C.any s349.env[58]? fun v377 =>
 C.any s349.env[59]? fun v378 =>
 C.any s349.env[60]? fun v379 =>
 C.any s349.env[61]? fun v380 =>
 C.any s349.env[62]? fun v381 =>
 C.any s349.env[63]? fun v382 =>
 C.any s349.env[64]? fun v383 =>
 C.any s349.env[65]? fun v384 =>
 C.any s349.env[66]? fun v385 =>
 C.any s349.env[67]? fun v386 =>
 C.any s349.env[68]? fun v387 =>
 C.any s349.env[69]? fun v388 =>
 C.any s349.env[70]? fun v389 =>
 C.any s349.env[71]? fun v390 =>
 C.any s349.env[72]? fun v391 =>
 C.any s349.env[73]? fun v392 =>
 C.any s349.env[74]? fun v393 =>
 C.any s349.env[75]? fun v394 =>
 C.any s349.env[76]? fun v395 =>
 C.any s349.env[77]? fun v396 =>
 C.any s349.env[78]? fun v397 =>
 C.any s349.env[79]? fun v398 =>
 C.any s349.env[80]? fun v399 =>
 C.any s349.env[81]? fun v400 =>
 C.any s349.env[82]? fun v401 =>
 C.any s349.env[83]? fun v402 =>
 C.any s349.env[84]? fun v403 =>
 C.any s349.env[85]? fun v404 =>
 C.any s349.env[86]? fun v405 =>
 C.any s349.env[87]? fun v406 =>
 C.any s349.env[88]? fun v407 =>
 C.any s349.env[89]? fun v408 =>
 C.any s349.env[90]? fun v409 =>
 C.any s349.env[91]? fun v410 =>
 C.any s349.env[92]? fun v411 =>
 C.any s349.env[93]? fun v412 =>
 C.any s349.env[94]? fun v413 =>
 C.any s349.env[95]? fun v414 =>
 C.any s349.env[96]? fun v415 =>
 C.any s349.env[97]? fun v416 =>
 C.any s349.env[98]? fun v417 =>
 C.any s349.env[99]? fun v418 =>
 k42 .normal ⟨[(.lst a0), tz, (.bool b350), (iz x2), (iz x29), (iz (IntKind.wrap .i64 (x45 + 1))), (iz x351), v352, v353, v354, v355, (.lst a0), (iz x2), (iz x2), (.bool (decide (x2 < 3))), bf, (iz x2), (.bool (decide (x2 > 8))), bf, (iz x30), (iz x31), (.bool b32), v33, v34, v35, v36, v37, v38, v39, v40, (iz x45), (iz x2), bt, (iz x45), (iz (IntKind.wrap .i64 (x45 + 1))), (iz x45), (iz (IntKind.wrap .i64 (x45 + 1))), (iz x356), (iz x357), (.bool b358), v359, v360, v361, v362, v363, v364, v365, v366, v367, v368, v369, v370, v371, v372, v373, v374, v375, v376, v377, v378, v379, v380, v381, v382, v383, v384, v385, v386, v387, v388, v389, v390, v391, v392, v393, v394, v395, v396, v397, v398, v399, v400, v401, v402, v403, v404, v405, v406, v407, v408, v409, v410, v411, v412, v413, v414, v415, v416, v417, v418], (St.H s349)⟩)
 (none)
def r28E2 (C : Cb) (d : Nat) (a0 : List AV) (x2 x29 x30 x31 : Int) (b32 : Bool) (v33 v34 v35 v36 v37 v38 v39 v40 : AV) (k42 : Ex → St → Ans) (x45 : Int) (v54 v55 : AV) : St → Ans := fun s123 =>
 cnd ((List.length s123.env) == 100)
 (C.same s123.env[0]? (.lst a0) <|
 C.same s123.env[1]? tz <|
 C.bool s123.env[2]? fun b419 =>
 C.same s123.env[3]? (iz x2) <|
 C.same s123.env[4]? (iz x29) <|
 C.same s123.env[5]? (iz x45) <|
 C.int .i64 s123.env[6]? fun x420 =>
 C.any s123.env[7]? fun v421 =>
 C.any s123.env[8]? fun v422 =>
 C.any s123.env[9]? fun v423 =>
 C.any s123.env[10]? fun v424 =>
 C.same s123.env[11]? (.lst a0) <|
 C.same s123.env[12]? (iz x2) <|
 C.same s123.env[13]? (iz x2) <|
 C.same s123.env[14]? (.bool (decide (x2 < 3))) <|
 C.same s123.env[15]? bf <|
 C.same s123.env[16]? (iz x2) <|
 C.same s123.env[17]? (.bool (decide (x2 > 8))) <|
 C.same s123.env[18]? bf <|
 C.same s123.env[19]? (iz x30) <|
 C.same s123.env[20]? (iz x31) <|
 C.same s123.env[21]? (.bool b32) <|
 C.same s123.env[22]? v33 <|
 C.same s123.env[23]? v34 <|
 C.same s123.env[24]? v35 <|
 C.same s123.env[25]? v36 <|
 C.same s123.env[26]? v37 <|
 C.same s123.env[27]? v38 <|
 C.same s123.env[28]? v39 <|
 C.same s123.env[29]? v40 <|
 C.same s123.env[30]? (iz x45) <|
 C.same s123.env[31]? (iz x2) <|
 C.same s123.env[32]? bt <|
 C.same s123.env[33]? v54 <|
 C.same s123.env[34]? v55 <|
 C.same s123.env[35]? (iz x45) <|
 C.same s123.env[36]? (iz (IntKind.wrap .i64 (x45 + 1))) <|
 C.int .i64 s123.env[37]? fun x425 =>
 C.int .i64 s123.env[38]? fun x426 =>
 C.bool s123.env[39]? fun b427 =>
 C.any s123.env[40]? fun v428 =>
 C.any s123.env[41]? fun v429 =>
 C.any s123.env[42]? fun v430 =>
 C.int .i64 s123.env[43]? fun x431 =>
 C.any s123.env[44]? fun v432 =>
 C.agg 2 s123.env[45]? fun l433 =>
 C.int .i64 l433[0]? fun x434 =>
 C.int .i64 l433[1]? fun x435 =>
 C.any s123.env[46]? fun v436 =>
 C.int .i64 s123.env[47]? fun x437 =>
 C.agg 2 s123.env[48]? fun l438 =>
 C.int .i64 l438[0]? fun x439 =>
 C.int .i64 l438[1]? fun x440 =>
 C.any s123.env[49]? fun v441 =>
 C.int .i64 s123.env[50]? fun x442 =>
 C.any s123.env[51]? fun v443 =>
 C.agg 2 s123.env[52]? fun l444 =>
 C.int .i64 l444[0]? fun x445 =>
 C.int .i64 l444[1]? fun x446 =>
 C.any s123.env[53]? fun v447 =>
 C.int .i64 s123.env[54]? fun x448 =>
 C.agg 2 s123.env[55]? fun l449 =>
 C.int .i64 l449[0]? fun x450 =>
 C.int .i64 l449[1]? fun x451 =>
 C.bool s123.env[56]? fun b452 =>
 C.agg 2 s123.env[57]? fun l453 =>
 C.int .i64 l453[0]? fun x454 =>
 C.int .i64 l453[1]? fun x455 =>
 C.agg 2 s123.env[58]? fun l456 =>
 C.int .i64 l456[0]? fun x457 =>
 C.int .i64 l456[1]? fun x458 =>
 C.bool s123.env[59]? fun b459 =>
 C.any s123.env[60]? fun v460 =>
 C.any s123.env[61]? fun v461 =>
 C.any s123.env[62]? fun v462 =>
 C.any s123.env[63]? fun v463 =>
 C.any s123.env[64]? fun v464 =>
 C.any s123.env[65]? fun v465 =>
 C.any s123.env[66]? fun v466 =>
 C.any s123.env[67]? fun v467 =>
 C.any s123.env[68]? fun v468 =>
 C.any s123.env[69]? fun v469 =>
 C.any s123.env[70]? fun v470 =>
 C.any s123.env[71]? fun v471 =>
 C.any s123.env[72]? fun v472 =>
 C.any s123.env[73]? fun v473 =>
 C.any s123.env[74]? fun v474 =>
 C.any s123.env[75]? fun v475 =>
 C.any s123.env[76]? fun v476 =>
 C.any s123.env[77]? fun v477 =>
 C.any s123.env[78]? fun v478 =>
 C.any s123.env[79]? fun v479 =>
 C.any s123.env[80]? fun v480 =>
 C.any s123.env[81]? fun v481 =>
 C.any s123.env[82]? fun v482 =>
 C.any s123.env[83]? fun v483 =>
 C.any s123.env[84]? fun v484 =>
 C.any s123.env[85]? fun v485 =>
 C.any s123.env[86]? fun v486 =>
 C.any s123.env[87]? fun v487 =>
 C.any s123.env[88]? fun v488 =>
 C.any s123.env[89]? fun v489 =>
 C.any s123.env[90]? fun v490 =>
 C.any s123.env[91]? fun v491 =>
 C.any s123.env[92]? fun v492 =>
 C.any s123.env[93]? fun v493 =>
 C.any s123.env[94]? fun v494 =>
 C.any s123.env[95]? fun v495 =>
 C.any s123.env[96]? fun v496 =>
 C.any s123.env[97]? fun v497 =>
 C.any s123.env[98]? fun v498 =>
 C.any s123.env[99]? fun v499 =>
 k42 .ret ⟨[(.lst a0), tz, (.bool b419), (iz x2), (iz x29), (iz x45), (iz x420), v421, v422, v423, v424, (.lst a0), (iz x2), (iz x2), (.bool (decide (x2 < 3))), bf, (iz x2), (.bool (decide (x2 > 8))), bf, (iz x30), (iz x31), (.bool b32), v33, v34, v35, v36, v37, v38, v39, v40, (iz x45), (iz x2), bt, v54, v55, (iz x45), (iz (IntKind.wrap .i64 (x45 + 1))), (iz x425), (iz x426), (.bool b427), v428, v429, v430, (iz x431), v432, (.agg [(iz x434), (iz x435)]), v436, (iz x437), (.agg [(iz x439), (iz x440)]), v441, (iz x442), v443, (.agg [(iz x445), (iz x446)]), v447, (iz x448), (.agg [(iz x450), (iz x451)]), (.bool b452), (.agg [(iz x454), (iz x455)]), (.agg [(iz x457), (iz x458)]), (.bool b459), v460, v461, v462, v463, v464, v465, v466, v467, v468, v469, v470, v471, v472, v473, v474, v475, v476, v477, v478, v479, v480, v481, v482, v483, v484, v485, v486, v487, v488, v489, v490, v491, v492, v493, v494, v495, v496, v497, v498, v499], (St.H s123)⟩)
 (none)
def r28R1 (C : Cb) (d : Nat) (a0 : List AV) (x2 x29 x30 x31 : Int) (b32 : Bool) (v33 v34 v35 v36 v37 v38 v39 v40 : AV) : St → (Ex → St → Ans) → Ans := fun s41 k42 =>
 cnd ((List.length s41.env) == 100)
 (C.same s41.env[0]? (.lst a0) <|
 C.same s41.env[1]? tz <|
 C.bool s41.env[2]? fun b44 =>
 C.same s41.env[3]? (iz x2) <|
 C.same s41.env[4]? (iz x29) <|
 C.int .i64 s41.env[5]? fun x45 =>
 C.any s41.env[6]? fun v46 =>
 C.any s41.env[7]? fun v47 =>
 C.any s41.env[8]? fun v48 =>
 C.any s41.env[9]? fun v49 =>
 C.any s41.env[10]? fun v50 =>
 C.same s41.env[11]? (.lst a0) <|
 C.same s41.env[12]? (iz x2) <|
 C.same s41.env[13]? (iz x2) <|
 C.same s41.env[14]? (.bool (decide (x2 < 3))) <|
 C.same s41.env[15]? bf <|
 C.same s41.env[16]? (iz x2) <|
 C.same s41.env[17]? (.bool (decide (x2 > 8))) <|
 C.same s41.env[18]? bf <|
 C.same s41.env[19]? (iz x30) <|
 C.same s41.env[20]? (iz x31) <|
 C.same s41.env[21]? (.bool b32) <|
 C.same s41.env[22]? v33 <|
 C.same s41.env[23]? v34 <|
 C.same s41.env[24]? v35 <|
 C.same s41.env[25]? v36 <|
 C.same s41.env[26]? v37 <|
 C.same s41.env[27]? v38 <|
 C.same s41.env[28]? v39 <|
 C.same s41.env[29]? v40 <|
 C.any s41.env[30]? fun v51 =>
 C.any s41.env[31]? fun v52 =>
 C.any s41.env[32]? fun v53 =>
 C.any s41.env[33]? fun v54 =>
 C.any s41.env[34]? fun v55 =>
 C.any s41.env[35]? fun v56 =>
 C.any s41.env[36]? fun v57 =>
 C.any s41.env[37]? fun v58 =>
 C.any s41.env[38]? fun v59 =>
 C.any s41.env[39]? fun v60 =>
 C.any s41.env[40]? fun v61 =>
 C.any s41.env[41]? fun v62 =>
 C.any s41.env[42]? fun v63 =>
 C.any s41.env[43]? fun v64 =>
 C.any s41.env[44]? fun v65 =>
 C.any s41.env[45]? fun v66 =>
 C.any s41.env[46]? fun v67 =>
 C.any s41.env[47]? fun v68 =>
 C.any s41.env[48]? fun v69 =>
 C.any s41.env[49]? fun v70 =>
 C.any s41.env[50]? fun v71 =>
 C.any s41.env[51]? fun v72 =>
 C.any s41.env[52]? fun v73 =>
 C.any s41.env[53]? fun v74 =>
 C.any s41.env[54]? fun v75 =>
 C.any s41.env[55]? fun v76 =>
 C.any s41.env[56]? fun v77 =>
 C.any s41.env[57]? fun v78 =>
 C.any s41.env[58]? fun v79 =>
 C.any s41.env[59]? fun v80 =>
 C.any s41.env[60]? fun v81 =>
 C.any s41.env[61]? fun v82 =>
 C.any s41.env[62]? fun v83 =>
 C.any s41.env[63]? fun v84 =>
 C.any s41.env[64]? fun v85 =>
 C.any s41.env[65]? fun v86 =>
 C.any s41.env[66]? fun v87 =>
 C.any s41.env[67]? fun v88 =>
 C.any s41.env[68]? fun v89 =>
 C.any s41.env[69]? fun v90 =>
 C.any s41.env[70]? fun v91 =>
 C.any s41.env[71]? fun v92 =>
 C.any s41.env[72]? fun v93 =>
 C.any s41.env[73]? fun v94 =>
 C.any s41.env[74]? fun v95 =>
 C.any s41.env[75]? fun v96 =>
 C.any s41.env[76]? fun v97 =>
 C.any s41.env[77]? fun v98 =>
 C.any s41.env[78]? fun v99 =>
 C.any s41.env[79]? fun v100 =>
 C.any s41.env[80]? fun v101 =>
 C.any s41.env[81]? fun v102 =>
 C.any s41.env[82]? fun v103 =>
 C.any s41.env[83]? fun v104 =>
 C.any s41.env[84]? fun v105 =>
 C.any s41.env[85]? fun v106 =>
 C.any s41.env[86]? fun v107 =>
 C.any s41.env[87]? fun v108 =>
 C.any s41.env[88]? fun v109 =>
 C.any s41.env[89]? fun v110 =>
 C.any s41.env[90]? fun v111 =>
 C.any s41.env[91]? fun v112 =>
 C.any s41.env[92]? fun v113 =>
 C.any s41.env[93]? fun v114 =>
 C.any s41.env[94]? fun v115 =>
 C.any s41.env[95]? fun v116 =>
 C.any s41.env[96]? fun v117 =>
 C.any s41.env[97]? fun v118 =>
 C.any s41.env[98]? fun v119 =>
 C.any s41.env[99]? fun v120 =>
 cnd (decide (x45 < x2))
 (C.iter (r28R2 C d a0 x2 x29 x30 x31 b32 v33 v34 v35 v36 v37 v38 v39 v40 k42 x45 v54 v55) 1000000000000000000 ⟨[(.lst a0), tz, (.bool b44), (iz x2), (iz x29), (iz x45), (iz (IntKind.wrap .i64 (x45 + 1))), v47, v48, v49, v50, (.lst a0), (iz x2), (iz x2), (.bool (decide (x2 < 3))), bf, (iz x2), (.bool (decide (x2 > 8))), bf, (iz x30), (iz x31), (.bool b32), v33, v34, v35, v36, v37, v38, v39, v40, (iz x45), (iz x2), bt, v54, v55, (iz x45), (iz (IntKind.wrap .i64 (x45 + 1))), v58, v59, v60, v61, v62, v63, v64, v65, v66, v67, v68, v69, v70, v71, v72, v73, v74, v75, v76, v77, v78, v79, v80, v81, v82, v83, v84, v85, v86, v87, v88, v89, v90, v91, v92, v93, v94, v95, v96, v97, v98, v99, v100, v101, v102, v103, v104, v105, v106, v107, v108, v109, v110, v111, v112, v113, v114, v115, v116, v117, v118, v119, v120], (St.H s41)⟩ [4] [r28X2_0 C d a0 x2 x29 x30 x31 b32 v33 v34 v35 v36 v37 v38 v39 v40 k42 x45 v54 v55] (r28E2 C d a0 x2 x29 x30 x31 b32 v33 v34 v35 v36 v37 v38 v39 v40 k42 x45 v54 v55))
 (k42 (.exit 2) ⟨[(.lst a0), tz, (.bool b44), (iz x2), (iz x29), (iz x45), v46, v47, v48, v49, v50, (.lst a0), (iz x2), (iz x2), (.bool (decide (x2 < 3))), bf, (iz x2), (.bool (decide (x2 > 8))), bf, (iz x30), (iz x31), (.bool b32), v33, v34, v35, v36, v37, v38, v39, v40, (iz x45), (iz x2), bf, v54, v55, v56, v57, v58, v59, v60, v61, v62, v63, v64, v65, v66, v67, v68, v69, v70, v71, v72, v73, v74, v75, v76, v77, v78, v79, v80, v81, v82, v83, v84, v85, v86, v87, v88, v89, v90, v91, v92, v93, v94, v95, v96, v97, v98, v99, v100, v101, v102, v103, v104, v105, v106, v107, v108, v109, v110, v111, v112, v113, v114, v115, v116, v117, v118, v119, v120], (St.H s41)⟩))
 (none)
def r28X1_0 (C : Cb) (d : Nat) (a0 : List AV) (x2 x29 x30 x31 : Int) (b32 : Bool) (v33 v34 v35 v36 v37 v38 v39 v40 : AV) : St → Ans := fun s500 =>
 cnd ((List.length s500.env) == 100)
 (C.same s500.env[0]? (.lst a0) <|
 C.same s500.env[1]? tz <|
 C.bool s500.env[2]? fun b501 =>
 C.same s500.env[3]? (iz x2) <|
 C.same s500.env[4]? (iz x29) <|
 C.int .i64 s500.env[5]? fun x502 =>
 C.any s500.env[6]? fun v503 =>
 C.any s500.env[7]? fun v504 =>
 C.any s500.env[8]? fun v505 =>
 C.any s500.env[9]? fun v506 =>
 C.any s500.env[10]? fun v507 =>
 C.same s500.env[11]? (.lst a0) <|
 C.same s500.env[12]? (iz x2) <|
 C.same s500.env[13]? (iz x2) <|
 C.same s500.env[14]? (.bool (decide (x2 < 3))) <|
 C.same s500.env[15]? bf <|
 C.same s500.env[16]? (iz x2) <|
 C.same s500.env[17]? (.bool (decide (x2 > 8))) <|
 C.same s500.env[18]? bf <|
 C.same s500.env[19]? (iz x30) <|
 C.same s500.env[20]? (iz x31) <|
 C.same s500.env[21]? (.bool b32) <|
 C.same s500.env[22]? v33 <|
 C.same s500.env[23]? v34 <|
 C.same s500.env[24]? v35 <|
 C.same s500.env[25]? v36 <|
 C.same s500.env[26]? v37 <|
 C.same s500.env[27]? v38 <|
 C.same s500.env[28]? v39 <|
 C.same s500.env[29]? v40 <|
 C.int .i64 s500.env[30]? fun x508 =>
 C.int .i64 s500.env[31]? fun x509 =>
 C.bool s500.env[32]? fun b510 =>
 C.any s500.env[33]? fun v511 =>
 C.any s500.env[34]? fun v512 =>
 C.any s500.env[35]? fun v513 =>
 C.any s500.env[36]? fun v514 =>
 C.any s500.env[37]? fun v515 =>
 C.any s500.env[38]? fun v516 =>
 C.any s500.env[39]? fun v517 =>
 C.any s500.env[40]? fun v518 =>
 C.any s500.env[41]? fun v519 =>
 C.any s500.env[42]? fun v520 =>
 C.any s500.env[43]? fun v521 =>
 C.any s500.env[44]? fun v522 =>
 C.any s500.env[45]? fun v523 =>
 C.any s500.env[46]? fun v524 =>
 C.any s500.env[47]? fun v525 =>
 C.any s500.env[48]? fun v526 =>
 C.any s500.env[49]? fun v527 =>
 C.any s500.env[50]? fun v528 =>
 C.any s500.env[51]? fun v529 =>
 C.any s500.env[52]? fun v530 =>
 C.any s500.env[53]? fun v531 =>
 C.any s500.env[54]? fun v532 =>
 C.any s500.env[55]? fun v533 =>
 C.any s500.env[56]? fun v534 =>
 C.any s500.env[57]? fun v535 =>
 C.any s500.env[58]? fun v536 =>
 C.any s500.env[59]? fun v537 =>
 C.any s500.env[60]? fun v538 =>
 C.any s500.env[61]? fun v539 =>
 C.any s500.env[62]? fun v540 =>
 C.any s500.env[63]? fun v541 =>
 C.any s500.env[64]? fun v542 =>
 C.any s500.env[65]? fun v543 =>
 C.any s500.env[66]? fun v544 =>
 C.any s500.env[67]? fun v545 =>
 C.any s500.env[68]? fun v546 =>
 C.any s500.env[69]? fun v547 =>
 C.any s500.env[70]? fun v548 =>
 C.any s500.env[71]? fun v549 =>
 C.any s500.env[72]? fun v550 =>
 C.any s500.env[73]? fun v551 =>
 C.any s500.env[74]? fun v552 =>
 C.any s500.env[75]? fun v553 =>
 C.any s500.env[76]? fun v554 =>
 C.any s500.env[77]? fun v555 =>
 C.any s500.env[78]? fun v556 =>
 C.any s500.env[79]? fun v557 =>
 C.any s500.env[80]? fun v558 =>
 C.any s500.env[81]? fun v559 =>
 C.any s500.env[82]? fun v560 =>
 C.any s500.env[83]? fun v561 =>
 C.any s500.env[84]? fun v562 =>
 C.any s500.env[85]? fun v563 =>
 C.any s500.env[86]? fun v564 =>
 C.any s500.env[87]? fun v565 =>
 C.any s500.env[88]? fun v566 =>
 C.any s500.env[89]? fun v567 =>
 C.any s500.env[90]? fun v568 =>
 C.any s500.env[91]? fun v569 =>
 C.any s500.env[92]? fun v570 =>
 C.any s500.env[93]? fun v571 =>
 C.any s500.env[94]? fun v572 =>
 C.any s500.env[95]? fun v573 =>
 C.any s500.env[96]? fun v574 =>
 C.any s500.env[97]? fun v575 =>
 C.any s500.env[98]? fun v576 =>
 C.any s500.env[99]? fun v577 =>
 C.fin (St.H s500) bt)
 (none)
def r28E1 (C : Cb) (d : Nat) (a0 : List AV) (x2 x29 x30 x31 : Int) (b32 : Bool) (v33 v34 v35 v36 v37 v38 v39 v40 : AV) : St → Ans := fun s43 =>
 cnd ((List.length s43.env) == 100)
 (C.same s43.env[0]? (.lst a0) <|
 C.same s43.env[1]? tz <|
 C.bool s43.env[2]? fun b578 =>
 C.same s43.env[3]? (iz x2) <|
 C.same s43.env[4]? (iz x29) <|
 C.int .i64 s43.env[5]? fun x579 =>
 C.int .i64 s43.env[6]? fun x580 =>
 C.any s43.env[7]? fun v581 =>
 C.any s43.env[8]? fun v582 =>
 C.any s43.env[9]? fun v583 =>
 C.any s43.env[10]? fun v584 =>
 C.same s43.env[11]? (.lst a0) <|
 C.same s43.env[12]? (iz x2) <|
 C.same s43.env[13]? (iz x2) <|
 C.same s43.env[14]? (.bool (decide (x2 < 3))) <|
 C.same s43.env[15]? bf <|
 C.same s43.env[16]? (iz x2) <|
 C.same s43.env[17]? (.bool (decide (x2 > 8))) <|
 C.same s43.env[18]? bf <|
 C.same s43.env[19]? (iz x30) <|
 C.same s43.env[20]? (iz x31) <|
 C.same s43.env[21]? (.bool b32) <|
 C.same s43.env[22]? v33 <|
 C.same s43.env[23]? v34 <|
 C.same s43.env[24]? v35 <|
 C.same s43.env[25]? v36 <|
 C.same s43.env[26]? v37 <|
 C.same s43.env[27]? v38 <|
 C.same s43.env[28]? v39 <|
 C.same s43.env[29]? v40 <|
 C.int .i64 s43.env[30]? fun x585 =>
 C.int .i64 s43.env[31]? fun x586 =>
 C.bool s43.env[32]? fun b587 =>
 C.any s43.env[33]? fun v588 =>
 C.any s43.env[34]? fun v589 =>
 C.int .i64 s43.env[35]? fun x590 =>
 C.int .i64 s43.env[36]? fun x591 =>
 C.int .i64 s43.env[37]? fun x592 =>
 C.int .i64 s43.env[38]? fun x593 =>
 C.bool s43.env[39]? fun b594 =>
 C.any s43.env[40]? fun v595 =>
 C.any s43.env[41]? fun v596 =>
 C.any s43.env[42]? fun v597 =>
 C.int .i64 s43.env[43]? fun x598 =>
 C.any s43.env[44]? fun v599 =>
 C.agg 2 s43.env[45]? fun l600 =>
 C.int .i64 l600[0]? fun x601 =>
 C.int .i64 l600[1]? fun x602 =>
 C.any s43.env[46]? fun v603 =>
 C.int .i64 s43.env[47]? fun x604 =>
 C.agg 2 s43.env[48]? fun l605 =>
 C.int .i64 l605[0]? fun x606 =>
 C.int .i64 l605[1]? fun x607 =>
 C.any s43.env[49]? fun v608 =>
 C.int .i64 s43.env[50]? fun x609 =>
 C.any s43.env[51]? fun v610 =>
 C.agg 2 s43.env[52]? fun l611 =>
 C.int .i64 l611[0]? fun x612 =>
 C.int .i64 l611[1]? fun x613 =>
 C.any s43.env[53]? fun v614 =>
 C.int .i64 s43.env[54]? fun x615 =>
 C.agg 2 s43.env[55]? fun l616 =>
 C.int .i64 l616[0]? fun x617 =>
 C.int .i64 l616[1]? fun x618 =>
 C.bool s43.env[56]? fun b619 =>
 C.agg 2 s43.env[57]? fun l620 =>
 C.int .i64 l620[0]? fun x621 =>
 C.int .i64 l620[1]? fun x622 =>
 C.agg 2 s43.env[58]? fun l623 =>
 C.int .i64 l623[0]? fun x624 =>
 C.int .i64 l623[1]? fun x625 =>
 C.bool s43.env[59]? fun b626 =>
 C.any s43.env[60]? fun v627 =>
 C.any s43.env[61]? fun v628 =>
 C.any s43.env[62]? fun v629 =>
 C.any s43.env[63]? fun v630 =>
 C.any s43.env[64]? fun v631 =>
 C.any s43.env[65]? fun v632 =>
 C.any s43.env[66]? fun v633 =>
 C.any s43.env[67]? fun v634 =>
 C.any s43.env[68]? fun v635 =>
 C.any s43.env[69]? fun v636 =>
 C.any s43.env[70]? fun v637 =>
 C.any s43.env[71]? fun v638 =>
 C.any s43.env[72]? fun v639 =>
 C.any s43.env[73]? fun v640 =>
 C.any s43.env[74]? fun v641 =>
 C.any s43.env[75]? fun v642 =>
 C.any s43.env[76]? fun v643 =>
 C.any s43.env[77]? fun v644 =>
 C.any s43.env[78]? fun v645 =>
 C.any s43.env[79]? fun v646 =>
 C.any s43.env[80]? fun v647 =>
 C.any s43.env[81]? fun v648 =>
 C.any s43.env[82]? fun v649 =>
 C.any s43.env[83]? fun v650 =>
 C.any s43.env[84]? fun v651 =>
 C.any s43.env[85]? fun v652 =>
 C.any s43.env[86]? fun v653 =>
 C.any s43.env[87]? fun v654 =>
 C.any s43.env[88]? fun v655 =>
 C.any s43.env[89]? fun v656 =>
 C.any s43.env[90]? fun v657 =>
 C.any s43.env[91]? fun v658 =>
 C.any s43.env[92]? fun v659 =>
 C.any s43.env[93]? fun v660 =>
 C.any s43.env[94]? fun v661 =>
 C.any s43.env[95]? fun v662 =>
 C.any s43.env[96]? fun v663 =>
 C.any s43.env[97]? fun v664 =>
 C.any s43.env[98]? fun v665 =>
 C.any s43.env[99]? fun v666 =>
 C.fin (St.H s43) (.bool b578))
 (none)
def r28R0 (C : Cb) (d : Nat) (a0 : List AV) (x2 : Int) : St → (Ex → St → Ans) → Ans := fun s3 k4 =>
 cnd ((List.length s3.env) == 100)
 (C.same s3.env[0]? (.lst a0) <|
 C.same s3.env[1]? tz <|
 C.bool s3.env[2]? fun b6 =>
 C.same s3.env[3]? (iz x2) <|
 C.int .i64 s3.env[4]? fun x7 =>
 C.same s3.env[5]? tz <|
 C.same s3.env[6]? tz <|
 C.same s3.env[7]? tz <|
 C.same s3.env[8]? tz <|
 C.same s3.env[9]? tz <|
 C.same s3.env[10]? tz <|
 C.same s3.env[11]? (.lst a0) <|
 C.same s3.env[12]? (iz x2) <|
 C.same s3.env[13]? (iz x2) <|
 C.same s3.env[14]? (.bool (decide (x2 < 3))) <|
 C.same s3.env[15]? bf <|
 C.same s3.env[16]? (iz x2) <|
 C.same s3.env[17]? (.bool (decide (x2 > 8))) <|
 C.same s3.env[18]? bf <|
 C.any s3.env[19]? fun v8 =>
 C.any s3.env[20]? fun v9 =>
 C.any s3.env[21]? fun v10 =>
 C.any s3.env[22]? fun v11 =>
 C.any s3.env[23]? fun v12 =>
 C.any s3.env[24]? fun v13 =>
 C.any s3.env[25]? fun v14 =>
 C.any s3.env[26]? fun v15 =>
 C.any s3.env[27]? fun v16 =>
 C.any s3.env[28]? fun v17 =>
 C.any s3.env[29]? fun v18 =>
 C.same s3.env[30]? tz <|
 C.same s3.env[31]? tz <|
 C.same s3.env[32]? tz <|
 C.same s3.env[33]? tz <|
 C.same s3.env[34]? tz <|
 C.same s3.env[35]? tz <|
 C.same s3.env[36]? tz <|
 C.same s3.env[37]? tz <|
 C.same s3.env[38]? tz <|
 C.same s3.env[39]? tz <|
 C.same s3.env[40]? tz <|
 C.same s3.env[41]? tz <|
 C.same s3.env[42]? tz <|
 C.same s3.env[43]? tz <|
 C.same s3.env[44]? tz <|
 C.same s3.env[45]? tz <|
 C.same s3.env[46]? tz <|
 C.same s3.env[47]? tz <|
 C.same s3.env[48]? tz <|
 C.same s3.env[49]? tz <|
 C.same s3.env[50]? tz <|
 C.same s3.env[51]? tz <|
 C.same s3.env[52]? tz <|
 C.same s3.env[53]? tz <|
 C.same s3.env[54]? tz <|
 C.same s3.env[55]? tz <|
 C.same s3.env[56]? tz <|
 C.same s3.env[57]? tz <|
 C.same s3.env[58]? tz <|
 C.same s3.env[59]? tz <|
 C.same s3.env[60]? tz <|
 C.same s3.env[61]? tz <|
 C.same s3.env[62]? tz <|
 C.same s3.env[63]? tz <|
 C.same s3.env[64]? tz <|
 C.same s3.env[65]? tz <|
 C.same s3.env[66]? tz <|
 C.same s3.env[67]? tz <|
 C.same s3.env[68]? tz <|
 C.same s3.env[69]? tz <|
 C.same s3.env[70]? tz <|
 C.same s3.env[71]? tz <|
 C.same s3.env[72]? tz <|
 C.same s3.env[73]? tz <|
 C.same s3.env[74]? tz <|
 C.same s3.env[75]? tz <|
 C.same s3.env[76]? tz <|
 C.same s3.env[77]? tz <|
 C.same s3.env[78]? tz <|
 C.same s3.env[79]? tz <|
 C.same s3.env[80]? tz <|
 C.same s3.env[81]? tz <|
 C.same s3.env[82]? tz <|
 C.same s3.env[83]? tz <|
 C.same s3.env[84]? tz <|
 C.same s3.env[85]? tz <|
 C.same s3.env[86]? tz <|
 C.same s3.env[87]? tz <|
 C.same s3.env[88]? tz <|
 C.same s3.env[89]? tz <|
 C.same s3.env[90]? tz <|
 C.same s3.env[91]? tz <|
 C.same s3.env[92]? tz <|
 C.same s3.env[93]? tz <|
 C.same s3.env[94]? tz <|
 C.same s3.env[95]? tz <|
 C.same s3.env[96]? tz <|
 C.same s3.env[97]? tz <|
 C.same s3.env[98]? tz <|
 C.same s3.env[99]? tz <|
 cnd (decide (x7 < x2))
 (C.hop (St.H s3) (.ixAS .any 2 (.v (.lst a0)) (.v (iz x7))) fun v19 h20 =>
 C.hop h20 (.load true 2 (.v v19)) fun v21 h22 =>
 C.agg 2 (some v21) fun l23 =>
 C.int .i64 l23[0]? fun x24 =>
 C.int .i64 l23[1]? fun x25 =>
 C.bool (pcall M d 41 [(.agg [(iz x24), (iz x25)])]) fun b26 =>
 cnd (!b26)
 (k4 .ret ⟨[(.lst a0), tz, bf, (iz x2), (iz x7), tz, tz, tz, tz, tz, tz, (.lst a0), (iz x2), (iz x2), (.bool (decide (x2 < 3))), bf, (iz x2), (.bool (decide (x2 > 8))), bf, (iz x7), (iz x2), bt, v11, v12, (.lst a0), (iz x7), v19, (.agg [(iz x24), (iz x25)]), (.bool b26), bt, tz, tz, tz, tz, tz, tz, tz, tz, tz, tz, tz, tz, tz, tz, tz, tz, tz, tz, tz, tz, tz, tz, tz, tz, tz, tz, tz, tz, tz, tz, tz, tz, tz, tz, tz, tz, tz, tz, tz, tz, tz, tz, tz, tz, tz, tz, tz, tz, tz, tz, tz, tz, tz, tz, tz, tz, tz, tz, tz, tz, tz, tz, tz, tz, tz, tz, tz, tz, tz, tz], h22⟩)
 (k4 .normal ⟨[(.lst a0), tz, (.bool b6), (iz x2), (iz (IntKind.wrap .i64 (x7 + 1))), tz, tz, tz, tz, tz, tz, (.lst a0), (iz x2), (iz x2), (.bool (decide (x2 < 3))), bf, (iz x2), (.bool (decide (x2 > 8))), bf, (iz x7), (iz x2), bt, (iz x7), (iz (IntKind.wrap .i64 (x7 + 1))), (.lst a0), (iz x7), v19, (.agg [(iz x24), (iz x25)]), (.bool b26), bf, tz, tz, tz, tz, tz, tz, tz, tz, tz, tz, tz, tz, tz, tz, tz, tz, tz, tz, tz, tz, tz, tz, tz, tz, tz, tz, tz, tz, tz, tz, tz, tz, tz, tz, tz, tz, tz, tz, tz, tz, tz, tz, tz, tz, tz, tz, tz, tz, tz, tz, tz, tz, tz, tz, tz, tz, tz, tz, tz, tz, tz, tz, tz, tz, tz, tz, tz, tz, tz, tz], h22⟩))
 (k4 (.exit 0) ⟨[(.lst a0), tz, (.bool b6), (iz x2), (iz x7), tz, tz, tz, tz, tz, tz, (.lst a0), (iz x2), (iz x2), (.bool (decide (x2 < 3))), bf, (iz x2), (.bool (decide (x2 > 8))), bf, (iz x7), (iz x2), bf, v11, v12, v13, v14, v15, v16, v17, v18, tz, tz, tz, tz, tz, tz, tz, tz, tz, tz, tz, tz, tz, tz, tz, tz, tz, tz, tz, tz, tz, tz, tz, tz, tz, tz, tz, tz, tz, tz, tz, tz, tz, tz, tz, tz, tz, tz, tz, tz, tz, tz, tz, tz, tz, tz, tz, tz, tz, tz, tz, tz, tz, tz, tz, tz, tz, tz, tz, tz, tz, tz, tz, tz, tz, tz, tz, tz, tz, tz], (St.H s3)⟩))
 (none)
def r28X0_0 (C : Cb) (d : Nat) (a0 : List AV) (x2 : Int) : St → Ans := fun s27 =>
 cnd ((List.length s27.env) == 100)
 (C.same s27.env[0]? (.lst a0) <|
 C.same s27.env[1]? tz <|
 C.bool s27.env[2]? fun b28 =>
 C.same s27.env[3]? (iz x2) <|
 C.int .i64 s27.env[4]? fun x29 =>
 C.same s27.env[5]? tz <|
 C.same s27.env[6]? tz <|
 C.same s27.env[7]? tz <|
 C.same s27.env[8]? tz <|
 C.same s27.env[9]? tz <|
 C.same s27.env[10]? tz <|
 C.same s27.env[11]? (.lst a0) <|
 C.same s27.env[12]? (iz x2) <|
 C.same s27.env[13]? (iz x2) <|
 C.same s27.env[14]? (.bool (decide (x2 < 3))) <|
 C.same s27.env[15]? bf <|
 C.same s27.env[16]? (iz x2) <|
 C.same s27.env[17]? (.bool (decide (x2 > 8))) <|
 C.same s27.env[18]? bf <|
 C.int .i64 s27.env[19]? fun x30 =>
 C.int .i64 s27.env[20]? fun x31 =>
 C.bool s27.env[21]? fun b32 =>
 C.any s27.env[22]? fun v33 =>
 C.any s27.env[23]? fun v34 =>
 C.any s27.env[24]? fun v35 =>
 C.any s27.env[25]? fun v36 =>
 C.any s27.env[26]? fun v37 =>
 C.any s27.env[27]? fun v38 =>
 C.any s27.env[28]? fun v39 =>
 C.any s27.env[29]? fun v40 =>
 C.same s27.env[30]? tz <|
 C.same s27.env[31]? tz <|
 C.same s27.env[32]? tz <|
 C.same s27.env[33]? tz <|
 C.same s27.env[34]? tz <|
 C.same s27.env[35]? tz <|
 C.same s27.env[36]? tz <|
 C.same s27.env[37]? tz <|
 C.same s27.env[38]? tz <|
 C.same s27.env[39]? tz <|
 C.same s27.env[40]? tz <|
 C.same s27.env[41]? tz <|
 C.same s27.env[42]? tz <|
 C.same s27.env[43]? tz <|
 C.same s27.env[44]? tz <|
 C.same s27.env[45]? tz <|
 C.same s27.env[46]? tz <|
 C.same s27.env[47]? tz <|
 C.same s27.env[48]? tz <|
 C.same s27.env[49]? tz <|
 C.same s27.env[50]? tz <|
 C.same s27.env[51]? tz <|
 C.same s27.env[52]? tz <|
 C.same s27.env[53]? tz <|
 C.same s27.env[54]? tz <|
 C.same s27.env[55]? tz <|
 C.same s27.env[56]? tz <|
 C.same s27.env[57]? tz <|
 C.same s27.env[58]? tz <|
 C.same s27.env[59]? tz <|
 C.same s27.env[60]? tz <|
 C.same s27.env[61]? tz <|
 C.same s27.env[62]? tz <|
 C.same s27.env[63]? tz <|
 C.same s27.env[64]? tz <|
 C.same s27.env[65]? tz <|
 C.same s27.env[66]? tz <|
 C.same s27.env[67]? tz <|
 C.same s27.env[68]? tz <|
 C.same s27.env[69]? tz <|
 C.same s27.env[70]? tz <|
 C.same s27.env[71]? tz <|
 C.same s27.env[72]? tz <|
 C.same s27.env[73]? tz <|
 C.same s27.env[74]? tz <|
 C.same s27.env[75]? tz <|
 C.same s27.env[76]? tz <|
 C.same s27.env[77]? tz <|
 C.same s27.env[78]? tz <|
 C.same s27.env[79]? tz <|
 C.same s27.env[80]? tz <|
 C.same s27.env[81]? tz <|
 C.same s27.env[82]? tz <|
 C.same s27.env[83]? tz <|
 C.same s27.env[84]? tz <|
 C.same s27.env[85]? tz <|
 C.same s27.env[86]? tz <|
 C.same s27.env[87]? tz <|
 C.same s27.env[88]? tz <|
 C.same s27.env[89]? tz <|
 C.same s27.env[90]? tz <|
 C.same s27.env[91]? tz <|
 C.same s27.env[92]? tz <|
 C.same s27.env[93]? tz <|
 C.same s27.env[94]? tz <|
 C.same s27.env[95]? tz <|
 C.same s27.env[96]? tz <|
 C.same s27.env[97]? tz <|
 C.same s27.env[98]? tz <|
 C.same s27.env[99]? tz <|
 C.iter (r28R1 C d a0 x2 x29 x30 x31 b32 v33 v34 v35 v36 v37 v38 v39 v40) 1000000000000000000 ⟨[(.lst a0), tz, (.bool b28), (iz x2), (iz x29), (iz 0), tz, tz, tz, tz, tz, (.lst a0), (iz x2), (iz x2), (.bool (decide (x2 < 3))), bf, (iz x2), (.bool (decide (x2 > 8))), bf, (iz x30), (iz x31), (.bool b32), v33, v34, v35, v36, v37, v38, v39, v40, tz, tz, tz, tz, tz, tz, tz, tz, tz, tz, tz, tz, tz, tz, tz, tz, tz, tz, tz, tz, tz, tz, tz, tz, tz, tz, tz, tz, tz, tz, tz, tz, tz, tz, tz, tz, tz, tz, tz, tz, tz, tz, tz, tz, tz, tz, tz, tz, tz, tz, tz, tz, tz, tz, tz, tz, tz, tz, tz, tz, tz, tz, tz, tz, tz, tz, tz, tz, tz, tz], (St.H s27)⟩ [2] [r28X1_0 C d a0 x2 x29 x30 x31 b32 v33 v34 v35 v36 v37 v38 v39 v40] (r28E1 C d a0 x2 x29 x30 x31 b32 v33 v34 v35 v36 v37 v38 v39 v40))
 (none)
def r28E0 (C : Cb) (d : Nat) (a0 : List AV) (x2 : Int) : St → Ans := fun s5 =>
 cnd ((List.length s5.env) == 100)
 (C.same s5.env[0]? (.lst a0) <|
 C.same s5.env[1]? tz <|
 C.bool s5.env[2]? fun b667 =>
 C.same s5.env[3]? (iz x2) <|
 C.int .i64 s5.env[4]? fun x668 =>
 C.same s5.env[5]? tz <|
 C.same s5.env[6]? tz <|
 C.same s5.env[7]? tz <|
 C.same s5.env[8]? tz <|
 C.same s5.env[9]? tz <|
 C.same s5.env[10]? tz <|
 C.same s5.env[11]? (.lst a0) <|
 C.same s5.env[12]? (iz x2) <|
 C.same s5.env[13]? (iz x2) <|
 C.same s5.env[14]? (.bool (decide (x2 < 3))) <|
 C.same s5.env[15]? bf <|
 C.same s5.env[16]? (iz x2) <|
 C.same s5.env[17]? (.bool (decide (x2 > 8))) <|
 C.same s5.env[18]? bf <|
 C.int .i64 s5.env[19]? fun x669 =>
 C.int .i64 s5.env[20]? fun x670 =>
 C.bool s5.env[21]? fun b671 =>
 C.any s5.env[22]? fun v672 =>
 C.any s5.env[23]? fun v673 =>
 C.any s5.env[24]? fun v674 =>
 C.int .i64 s5.env[25]? fun x675 =>
 C.any s5.env[26]? fun v676 =>
 C.agg 2 s5.env[27]? fun l677 =>
 C.int .i64 l677[0]? fun x678 =>
 C.int .i64 l677[1]? fun x679 =>
 C.bool s5.env[28]? fun b680 =>
 C.bool s5.env[29]? fun b681 =>
 C.same s5.env[30]? tz <|
 C.same s5.env[31]? tz <|
 C.same s5.env[32]? tz <|
 C.same s5.env[33]? tz <|
 C.same s5.env[34]? tz <|
 C.same s5.env[35]? tz <|
 C.same s5.env[36]? tz <|
 C.same s5.env[37]? tz <|
 C.same s5.env[38]? tz <|
 C.same s5.env[39]? tz <|
 C.same s5.env[40]? tz <|
 C.same s5.env[41]? tz <|
 C.same s5.env[42]? tz <|
 C.same s5.env[43]? tz <|
 C.same s5.env[44]? tz <|
 C.same s5.env[45]? tz <|
 C.same s5.env[46]? tz <|
 C.same s5.env[47]? tz <|
 C.same s5.env[48]? tz <|
 C.same s5.env[49]? tz <|
 C.same s5.env[50]? tz <|
 C.same s5.env[51]? tz <|
 C.same s5.env[52]? tz <|
 C.same s5.env[53]? tz <|
 C.same s5.env[54]? tz <|
 C.same s5.env[55]? tz <|
 C.same s5.env[56]? tz <|
 C.same s5.env[57]? tz <|
 C.same s5.env[58]? tz <|
 C.same s5.env[59]? tz <|
 C.same s5.env[60]? tz <|
 C.same s5.env[61]? tz <|
 C.same s5.env[62]? tz <|
 C.same s5.env[63]? tz <|
 C.same s5.env[64]? tz <|
 C.same s5.env[65]? tz <|
 C.same s5.env[66]? tz <|
 C.same s5.env[67]? tz <|
 C.same s5.env[68]? tz <|
 C.same s5.env[69]? tz <|
 C.same s5.env[70]? tz <|
 C.same s5.env[71]? tz <|
 C.same s5.env[72]? tz <|
 C.same s5.env[73]? tz <|
 C.same s5.env[74]? tz <|
 C.same s5.env[75]? tz <|
 C.same s5.env[76]? tz <|
 C.same s5.env[77]? tz <|
 C.same s5.env[78]? tz <|
 C.same s5.env[79]? tz <|
 C.same s5.env[80]? tz <|
 C.same s5.env[81]? tz <|
 C.same s5.env[82]? tz <|
 C.same s5.env[83]? tz <|
 C.same s5.env[84]? tz <|
 C.same s5.env[85]? tz <|
 C.same s5.env[86]? tz <|
 C.same s5.env[87]? tz <|
 C.same s5.env[88]? tz <|
 C.same s5.env[89]? tz <|
 C.same s5.env[90]? tz <|
 C.same s5.env[91]? tz <|
 C.same s5.env[92]? tz <|
 C.same s5.env[93]? tz <|
 C.same s5.env[94]? tz <|
 C.same s5.env[95]? tz <|
 C.same s5.env[96]? tz <|
 C.same s5.env[97]? tz <|
 C.same s5.env[98]? tz <|
 C.same s5.env[99]? tz <|
 C.fin (St.H s5) (.bool b667))
 (none)
/-- apogee/apogeeref11.Simple -/
theorem r28 (C : Cb) (d : Nat) (a0 : List AV) : xcall C M unr d 28 [(.lst a0)] =
 C.hop [] (.bk .lenV [(.v (.lst a0))]) fun v0 h1 =>
 C.int .i64 (some v0) fun x2 =>
 cnd (decide (x2 < 3))
 (C.fin h1 bf)
 (cnd (decide (x2 > 8))
 (C.fin h1 bf)
 (C.iter (r28R0 C d a0 x2) 1000000000000000000 ⟨[(.lst a0), tz, bf, (iz x2), (iz 0), tz, tz, tz, tz, tz, tz, (.lst a0), (iz x2), (iz x2), (.bool (decide (x2 < 3))), bf, (iz x2), (.bool (decide (x2 > 8))), bf, tz, tz, tz, tz, tz, tz, tz, tz, tz, tz, tz, tz, tz, tz, tz, tz, tz, tz, tz, tz, tz, tz, tz, tz, tz, tz, tz, tz, tz, tz, tz, tz, tz, tz, tz, tz, tz, tz, tz, tz, tz, tz, tz, tz, tz, tz, tz, tz, tz, tz, tz, tz, tz, tz, tz, tz, tz, tz, tz, tz, tz, tz, tz, tz, tz, tz, tz, tz, tz, tz, tz, tz, tz, tz, tz, tz, tz, tz, tz, tz, tz], h1⟩ [0] [r28X0_0 C d a0 x2] (r28E0 C d a0 x2))) := by kernel_rfl
/-- apogee/poly.Right -/
theorem r38 (C : Cb) (d : Nat) (a0 : List AV) : xcall C M unr d 38 [(.lst a0)] =
 C.bool (pcall M d 53 [(.lst a0)]) fun b0 =>
 cnd b0
 (C.bool (pcall M d 54 [(.lst a0), (.fn 55 [] [])]) fun b1 =>
 some (.bool (!b1)))
 (some bf) := by kernel_rfl
def r40R0 (C : Cb) (d : Nat) (a0 : List AV) (a1 a2 : Int) (v0 : AV) (b4 : Bool) (x8 x9 : Int) (b10 : Bool) (x13 : Int) : St → (Ex → St → Ans) → Ans := fun s14 k15 =>
 cnd ((List.length s14.env) == 62)
 (C.same s14.env[0]? (.lst a0) <|
 C.same s14.env[1]? (.agg [(iz a1), (iz a2)]) <|
 C.same s14.env[2]? tz <|
 C.same s14.env[3]? v0 <|
 C.int .i64 s14.env[4]? fun x17 =>
 C.int .i64 s14.env[5]? fun x18 =>
 C.any s14.env[6]? fun v19 =>
 C.any s14.env[7]? fun v20 =>
 C.any s14.env[8]? fun v21 =>
 C.same s14.env[9]? (.lst a0) <|
 C.same s14.env[10]? (.bool b4) <|
 C.same s14.env[11]? (.bool (!b4)) <|
 C.same s14.env[12]? bf <|
 C.same s14.env[13]? (.agg [(iz x8), (iz x9)]) <|
 C.same s14.env[14]? (.bool b10) <|
 C.same s14.env[15]? (.bool (!b10)) <|
 C.same s14.env[16]? bf <|
 C.same s14.env[17]? (.lst a0) <|
 C.same s14.env[18]? (iz x13) <|
 C.int .i64 s14.env[19]? fun x22 =>
 C.any s14.env[20]? fun v23 =>
 C.any s14.env[21]? fun v24 =>
 C.any s14.env[22]? fun v25 =>
 C.any s14.env[23]? fun v26 =>
 C.any s14.env[24]? fun v27 =>
 C.any s14.env[25]? fun v28 =>
 C.any s14.env[26]? fun v29 =>
 C.any s14.env[27]? fun v30 =>
 C.any s14.env[28]? fun v31 =>
 C.any s14.env[29]? fun v32 =>
 C.any s14.env[30]? fun v33 =>
 C.any s14.env[31]? fun v34 =>
 C.any s14.env[32]? fun v35 =>
 C.any s14.env[33]? fun v36 =>
 C.any s14.env[34]? fun v37 =>
 C.any s14.env[35]? fun v38 =>
 C.any s14.env[36]? fun v39 =>
 C.any s14.env[37]? fun v40 =>
 C.any s14.env[38]? fun v41 =>
 C.any s14.env[39]? fun v42 =>
 C.any s14.env[40]? fun v43 =>
 C.any s14.env[41]? fun v44 =>
 C.any s14.env[42]? fun v45 =>
 C.any s14.env[43]? fun v46 =>
 C.any s14.env[44]? fun v47 =>
 C.any s14.env[45]? fun v48 =>
 C.any s14.env[46]? fun v49 =>
 C.any s14.env[47]? fun v50 =>
 C.any s14.env[48]? fun v51 =>
 C.any s14.env[49]? fun v52 =>
 C.any s14.env[50]? fun v53 =>
 C.any s14.env[51]? fun v54 =>
 C.any s14.env[52]? fun v55 =>
 C.any s14.env[53]? fun v56 =>
 C.any s14.env[54]? fun v57 =>
 C.any s14.env[55]? fun v58 =>
 C.any s14.env[56]? fun v59 =>
 C.any s14.env[57]? fun v60 =>
 C.any s14.env[58]? fun v61 =>
 C.any s14.env[59]? fun v62 =>
 C.any s14.env[60]? fun v63 =>
 C.same s14.env[61]? tz <|
 cnd (decide (x22 < x13))
 (C.snp (St.H s14) [(.lst a0), (iz x22)] fun l64 b65 =>
 C.tup 2 (pcall M d 60 l64) fun l66 =>
 C.agg 2 l66[0]? fun l67 =>
 C.int .i64 l67[0]? fun x68 =>
 C.int .i64 l67[1]? fun x69 =>
 C.agg 2 l66[1]? fun l70 =>
 C.int .i64 l70[0]? fun x71 =>
 C.int .i64 l70[1]? fun x72 =>
 cnd (b65 || true)
 (C.hop (St.H s14) (.alloc E45) fun v73 h74 =>
 C.hop h74 (.alloc E45) fun v75 h76 =>
 C.hop h76 (.store 2 (.v v73) (.v (.agg [(iz x68), (iz x69)]))) fun v77 h78 =>
 C.hop h78 (.store 2 (.v v75) (.v (.agg [(iz x71), (iz x72)]))) fun v79 h80 =>
 C.hop h80 (.load true 2 (.v v0)) fun v81 h82 =>
 C.agg 2 (some v81) fun l83 =>
 C.int .i64 l83[0]? fun x84 =>
 C.int .i64 l83[1]? fun x85 =>
 C.hop h82 (.load true 2 (.v v73)) fun v86 h87 =>
 C.agg 2 (some v86) fun l88 =>
 C.int .i64 l88[0]? fun x89 =>
 C.int .i64 l88[1]? fun x90 =>
 C.hop h87 (.load true 2 (.v v75)) fun v91 h92 =>
 C.agg 2 (some v91) fun l93 =>
 C.int .i64 l93[0]? fun x94 =>
 C.int .i64 l93[1]? fun x95 =>
 C.bool (pcall M d 61 [(.agg [(iz x84), (iz x85)]), (.agg [(iz x89), (iz x90)]), (.agg [(iz x94), (iz x95)])]) fun b96 =>
 cnd b96
 (k15 .ret ⟨[(.lst a0), (.agg [(iz a1), (iz a2)]), tz, v0, (iz 0), (iz x18), (iz x22), v73, v75, (.lst a0), (.bool b4), (.bool (!b4)), bf, (.agg [(iz x8), (iz x9)]), (.bool b10), (.bool (!b10)), bf, (.lst a0), (iz x13), (iz x22), bt, (iz x22), (.tup [(.agg [(iz x68), (iz x69)]), (.agg [(iz x71), (iz x72)])]), (.lst a0), (iz x22), (.tup [(.agg [(iz x68), (iz x69)]), (.agg [(iz x71), (iz x72)])]), (.agg [(iz x68), (iz x69)]), (.agg [(iz x71), (iz x72)]), (.agg [(iz x84), (iz x85)]), (.agg [(iz x89), (iz x90)]), (.agg [(iz x94), (iz x95)]), bt, v35, v36, v37, v38, v39, v40, v41, v42, v43, v44, v45, v46, v47, v48, v49, v50, v51, v52, v53, v54, v55, v56, v57, v58, v59, v60, v61, v62, v63, tz], h92⟩)
 (C.hop h92 (.fldA 1 (.v v73)) fun v97 h98 =>
 C.hop h98 (.load false 1 (.v v97)) fun v99 h100 =>
 C.int .i64 (some v99) fun x101 =>
 C.hop h100 (.fldA 1 (.v v75)) fun v102 h103 =>
 C.hop h103 (.load false 1 (.v v102)) fun v104 h105 =>
 C.int .i64 (some v104) fun x106 =>
 cnd (decide (x101 > x106))
 (C.hop h105 (.load true 2 (.v v75)) fun v107 h108 =>
 C.agg 2 (some v107) fun l109 =>
 C.int .i64 l109[0]? fun x110 =>
 C.int .i64 l109[1]? fun x111 =>
 C.hop h108 (.load true 2 (.v v73)) fun v112 h113 =>
 C.agg 2 (some v112) fun l114 =>
 C.int .i64 l114[0]? fun x115 =>
 C.int .i64 l114[1]? fun x116 =>
 C.hop h113 (.store 2 (.v v73) (.v (.agg [(iz x110), (iz x111)]))) fun v117 h118 =>
 C.hop h118 (.store 2 (.v v75) (.v (.agg [(iz x115), (iz x116)]))) fun v119 h120 =>
 C.hop h120 (.fldA 1 (.v v73)) fun v121 h122 =>
 C.hop h122 (.load false 1 (.v v121)) fun v123 h124 =>
 C.int .i64 (some v123) fun x125 =>
 C.hop h124 (.fldA 1 (.v v0)) fun v126 h127 =>
 C.hop h127 (.load false 1 (.v v126)) fun v128 h129 =>
 C.int .i64 (some v128) fun x130 =>
 cnd (decide (x125 ≤ x130))
 (C.hop h129 (.fldA 1 (.v v0)) fun v131 h132 =>
 C.hop h132 (.load false 1 (.v v131)) fun v133 h134 =>
 C.int .i64 (some v133) fun x135 =>
 C.hop h134 (.fldA 1 (.v v75)) fun v136 h137 =>
 C.hop h137 (.load false 1 (.v v136)) fun v138 h139 =>
 C.int .i64 (some v138) fun x140 =>
 cnd (decide (x135 < x140))
 (C.hop h139 (.load true 2 (.v v73)) fun v141 h142 =>
 C.agg 2 (some v141) fun l143 =>
 C.int .i64 l143[0]? fun x144 =>
 C.int .i64 l143[1]? fun x145 =>
 C.hop h142 (.load true 2 (.v v75)) fun v146 h147 =>
 C.agg 2 (some v146) fun l148 =>
 C.int .i64 l148[0]? fun x149 =>
 C.int .i64 l148[1]? fun x150 =>
 C.hop h147 (.load true 2 (.v v0)) fun v151 h152 =>
 C.agg 2 (some v151) fun l153 =>
 C.int .i64 l153[0]? fun x154 =>
 C.int .i64 l153[1]? fun x155 =>
 C.int .i64 (pcall M d 57 [(.agg [(iz x144), (iz x145)]), (.agg [(iz x149), (iz x150)]), (.agg [(iz x154), (iz x155)])]) fun x156 =>
 cnd (decide (x156 > 0))
 (k15 .normal ⟨[(.lst a0), (.agg [(iz a1), (iz a2)]), tz, v0, (iz x17), (iz (IntKind.wrap .i64 (0 - x18))), (iz x22), v73, v75, (.lst a0), (.bool b4), (.bool (!b4)), bf, (.agg [(iz x8), (iz x9)]), (.bool b10), (.bool (!b10)), bf, (.lst a0), (iz x13), (iz (IntKind.wrap .i64 (x22 + 1))), bt, (iz x22), (.tup [(.agg [(iz x68), (iz x69)]), (.agg [(iz x71), (iz x72)])]), (.lst a0), (iz x22), (.tup [(.agg [(iz x68), (iz x69)]), (.agg [(iz x71), (iz x72)])]), (.agg [(iz x68), (iz x69)]), (.agg [(iz x71), (iz x72)]), (.agg [(iz x84), (iz x85)]), (.agg [(iz x89), (iz x90)]), (.agg [(iz x94), (iz x95)]), bf, v97, (iz x101), v102, (iz x106), bt, (.agg [(iz x110), (iz x111)]), (.agg [(iz x115), (iz x116)]), v121, (iz x125), v126, (iz x130), (.bool (decide (x125 ≤ x130))), bt, v131, (iz x135), v136, (iz x140), (.bool (decide (x135 < x140))), (.bool (decide (x135 < x140))), bt, (.agg [(iz x144), (iz x145)]), (.agg [(iz x149), (iz x150)]), (.agg [(iz x154), (iz x155)]), (iz x156), (.bool (decide (x156 > 0))), bt, (iz x18), (iz (IntKind.wrap .i64 (0 - x18))), (iz (IntKind.wrap .i64 (x22 + 1))), tz], h152⟩)
 (k15 .normal ⟨[(.lst a0), (.agg [(iz a1), (iz a2)]), tz, v0, (iz x17), (iz x18), (iz x22), v73, v75, (.lst a0), (.bool b4), (.bool (!b4)), bf, (.agg [(iz x8), (iz x9)]), (.bool b10), (.bool (!b10)), bf, (.lst a0), (iz x13), (iz (IntKind.wrap .i64 (x22 + 1))), bt, (iz x22), (.tup [(.agg [(iz x68), (iz x69)]), (.agg [(iz x71), (iz x72)])]), (.lst a0), (iz x22), (.tup [(.agg [(iz x68), (iz x69)]), (.agg [(iz x71), (iz x72)])]), (.agg [(iz x68), (iz x69)]), (.agg [(iz x71), (iz x72)]), (.agg [(iz x84), (iz x85)]), (.agg [(iz x89), (iz x90)]), (.agg [(iz x94), (iz x95)]), bf, v97, (iz x101), v102, (iz x106), bt, (.agg [(iz x110), (iz x111)]), (.agg [(iz x115), (iz x116)]), v121, (iz x125), v126, (iz x130), (.bool (decide (x125 ≤ x130))), bt, v131, (iz x135), v136, (iz x140), (.bool (decide (x135 < x140))), (.bool (decide (x135 < x140))), bt, (.agg [(iz x144), (iz x145)]), (.agg [(iz x149), (iz x150)]), (.agg [(iz x154), (iz x155)]), (iz x156), (.bool (decide (x156 > 0))), bf, v61, v62, (iz (IntKind.wrap .i64 (x22 + 1))), tz], h152⟩))
 (k15 .normal ⟨[(.lst a0), (.agg [(iz a1), (iz a2)]), tz, v0, (iz x17), (iz x18), (iz x22), v73, v75, (.lst a0), (.bool b4), (.bool (!b4)), bf, (.agg [(iz x8), (iz x9)]), (.bool b10), (.bool (!b10)), bf, (.lst a0), (iz x13), (iz (IntKind.wrap .i64 (x22 + 1))), bt, (iz x22), (.tup [(.agg [(iz x68), (iz x69)]), (.agg [(iz x71), (iz x72)])]), (.lst a0), (iz x22), (.tup [(.agg [(iz x68), (iz x69)]), (.agg [(iz x71), (iz x72)])]), (.agg [(iz x68), (iz x69)]), (.agg [(iz x71), (iz x72)]), (.agg [(iz x84), (iz x85)]), (.agg [(iz x89), (iz x90)]), (.agg [(iz x94), (iz x95)]), bf, v97, (iz x101), v102, (iz x106), bt, (.agg [(iz x110), (iz x111)]), (.agg [(iz x115), (iz x116)]), v121, (iz x125), v126, (iz x130), (.bool (decide (x125 ≤ x130))), bt, v131, (iz x135), v136, (iz x140), (.bool (decide (x135 < x140))), (.bool (decide (x135 < x140))), bf, tz, tz, tz, tz, tz, bf, v61, v62, (iz (IntKind.wrap .i64 (x22 + 1))), tz], h139⟩))
 (k15 .normal ⟨[(.lst a0), (.agg [(iz a1), (iz a2)]), tz, v0, (iz x17), (iz x18), (iz x22), v73, v75, (.lst a0), (.bool b4), (.bool (!b4)), bf, (.agg [(iz x8), (iz x9)]), (.bool b10), (.bool (!b10)), bf, (.lst a0), (iz x13), (iz (IntKind.wrap .i64 (x22 + 1))), bt, (iz x22), (.tup [(.agg [(iz x68), (iz x69)]), (.agg [(iz x71), (iz x72)])]), (.lst a0), (iz x22), (.tup [(.agg [(iz x68), (iz x69)]), (.agg [(iz x71), (iz x72)])]), (.agg [(iz x68), (iz x69)]), (.agg [(iz x71), (iz x72)]), (.agg [(iz x84), (iz x85)]), (.agg [(iz x89), (iz x90)]), (.agg [(iz x94), (iz x95)]), bf, v97, (iz x101), v102, (iz x106), bt, (.agg [(iz x110), (iz x111)]), (.agg [(iz x115), (iz x116)]), v121, (iz x125), v126, (iz x130), (.bool (decide (x125 ≤ x130))), bf, tz, tz, tz, tz, tz, bf, bf, tz, tz, tz, tz, tz, bf, v61, v62, (iz (IntKind.wrap .i64 (x22 + 1))), tz], h129⟩))
 (C.hop h105 (.fldA 1 (.v v73)) fun v157 h158 =>
 C.hop h158 (.load false 1 (.v v157)) fun v159 h160 =>
 C.int .i64 (some v159) fun x161 =>
 C.hop h160 (.fldA 1 (.v v0)) fun v162 h163 =>
 C.hop h163 (.load false 1 (.v v162)) fun v164 h165 =>
 C.int .i64 (some v164) fun x166 =>
 cnd (decide (x161 ≤ x166))
 (C.hop h165 (.fldA 1 (.v v0)) fun v167 h168 =>
 C.hop h168 (.load false 1 (.v v167)) fun v169 h170 =>
 C.int .i64 (some v169) fun x171 =>
 C.hop h170 (.fldA 1 (.v v75)) fun v172 h173 =>
 C.hop h173 (.load false 1 (.v v172)) fun v174 h175 =>
 C.int .i64 (some v174) fun x176 =>
 cnd (decide (x171 < x176))
 (C.hop h175 (.load true 2 (.v v73)) fun v177 h178 =>
 C.agg 2 (some v177) fun l179 =>
 C.int .i64 l179[0]? fun x180 =>
 C.int .i64 l179[1]? fun x181 =>
 C.hop h178 (.load true 2 (.v v75)) fun v182 h183 =>
 C.agg 2 (some v182) fun l184 =>
 C.int .i64 l184[0]? fun x185 =>
 C.int .i64 l184[1]? fun x186 =>
 C.hop h183 (.load true 2 (.v v0)) fun v187 h188 =>
 C.agg 2 (some v187) fun l189 =>
 C.int .i64 l189[0]? fun x190 =>
 C.int .i64 l189[1]? fun x191 =>
 C.int .i64 (pcall M d 57 [(.agg [(iz x180), (iz x181)]), (.agg [(iz x185), (iz x186)]), (.agg [(iz x190), (iz x191)])]) fun x192 =>
 cnd (decide (x192 > 0))
 (k15 .normal ⟨[(.lst a0), (.agg [(iz a1), (iz a2)]), tz, v0, (iz x17), (iz (IntKind.wrap .i64 (0 - x18))), (iz x22), v73, v75, (.lst a0), (.bool b4), (.bool (!b4)), bf, (.agg [(iz x8), (iz x9)]), (.bool b10), (.bool (!b10)), bf, (.lst a0), (iz x13), (iz (IntKind.wrap .i64 (x22 + 1))), bt, (iz x22), (.tup [(.agg [(iz x68), (iz x69)]), (.agg [(iz x71), (iz x72)])]), (.lst a0), (iz x22), (.tup [(.agg [(iz x68), (iz x69)]), (.agg [(iz x71), (iz x72)])]), (.agg [(iz x68), (iz x69)]), (.agg [(iz x71), (iz x72)]), (.agg [(iz x84), (iz x85)]), (.agg [(iz x89), (iz x90)]), (.agg [(iz x94), (iz x95)]), bf, v97, (iz x101), v102, (iz x106), bf, v40, v41, v157, (iz x161), v162, (iz x166), (.bool (decide (x161 ≤ x166))), bt, v167, (iz x171), v172, (iz x176), (.bool (decide (x171 < x176))), (.bool (decide (x171 < x176))), bt, (.agg [(iz x180), (iz x181)]), (.agg [(iz x185), (iz x186)]), (.agg [(iz x190), (iz x191)]), (iz x192), (.bool (decide (x192 > 0))), bt, (iz x18), (iz (IntKind.wrap .i64 (0 - x18))), (iz (IntKind.wrap .i64 (x22 + 1))), tz], h188⟩)
 (k15 .normal ⟨[(.lst a0), (.agg [(iz a1), (iz a2)]), tz, v0, (iz x17), (iz x18), (iz x22), v73, v75, (.lst a0), (.bool b4), (.bool (!b4)), bf, (.agg [(iz x8), (iz x9)]), (.bool b10), (.bool (!b10)), bf, (.lst a0), (iz x13), (iz (IntKind.wrap .i64 (x22 + 1))), bt, (iz x22), (.tup [(.agg [(iz x68), (iz x69)]), (.agg [(iz x71), (iz x72)])]), (.lst a0), (iz x22), (.tup [(.agg [(iz x68), (iz x69)]), (.agg [(iz x71), (iz x72)])]), (.agg [(iz x68), (iz x69)]), (.agg [(iz x71), (iz x72)]), (.agg [(iz x84), (iz x85)]), (.agg [(iz x89), (iz x90)]), (.agg [(iz x94), (iz x95)]), bf, v97, (iz x101), v102, (iz x106), bf, v40, v41, v157, (iz x161), v162, (iz x166), (.bool (decide (x161 ≤ x166))), bt, v167, (iz x171), v172, (iz x176), (.bool (decide (x171 < x176))), (.bool (decide (x171 < x176))), bt, (.agg [(iz x180), (iz x181)]), (.agg [(iz x185), (iz x186)]), (.agg [(iz x190), (iz x191)]), (iz x192), (.bool (decide (x192 > 0))), bf, v61, v62, (iz (IntKind.wrap .i64 (x22 + 1))), tz], h188⟩))
 (k15 .normal ⟨[(.lst a0), (.agg [(iz a1), (iz a2)]), tz, v0, (iz x17), (iz x18), (iz x22), v73, v75, (.lst a0), (.bool b4), (.bool (!b4)), bf, (.agg [(iz x8), (iz x9)]), (.bool b10), (.bool (!b10)), bf, (.lst a0), (iz x13), (iz (IntKind.wrap .i64 (x22 + 1))), bt, (iz x22), (.tup [(.agg [(iz x68), (iz x69)]), (.agg [(iz x71), (iz x72)])]), (.lst a0), (iz x22), (.tup [(.agg [(iz x68), (iz x69)]), (.agg [(iz x71), (iz x72)])]), (.agg [(iz x68), (iz x69)]), (.agg [(iz x71), (iz x72)]), (.agg [(iz x84), (iz x85)]), (.agg [(iz x89), (iz x90)]), (.agg [(iz x94), (iz x95)]), bf, v97, (iz x101), v102, (iz x106), bf, v40, v41, v157, (iz x161), v162, (iz x166), (.bool (decide (x161 ≤ x166))), bt, v167, (iz x171), v172, (iz x176), (.bool (decide (x171 < x176))), (.bool (decide (x171 < x176))), bf, tz, tz, tz, tz, tz, bf, v61, v62, (iz (IntKind.wrap .i64 (x22 + 1))), tz], h175⟩))
 (k15 .normal ⟨[(.lst a0), (.agg [(iz a1), (iz a2)]), tz, v0, (iz x17), (iz x18), (iz x22), v73, v75, (.lst a0), (.bool b4), (.bool (!b4)), bf, (.agg [(iz x8), (iz x9)]), (.bool b10), (.bool (!b10)), bf, (.lst a0), (iz x13), (iz (IntKind.wrap .i64 (x22 + 1))), bt, (iz x22), (.tup [(.agg [(iz x68), (iz x69)]), (.agg [(iz x71), (iz x72)])]), (.lst a0), (iz x22), (.tup [(.agg [(iz x68), (iz x69)]), (.agg [(iz x71), (iz x72)])]), (.agg [(iz x68), (iz x69)]), (.agg [(iz x71), (iz x72)]), (.agg [(iz x84), (iz x85)]), (.agg [(iz x89), (iz x90)]), (.agg [(iz x94), (iz x95)]), bf, v97, (iz x101), v102, (iz x106), bf, v40, v41, v157, (iz x161), v162, (iz x166), (.bool (decide (x161 ≤ x166))), bf, tz, tz, tz, tz, tz, bf, bf, tz, tz, tz, tz, tz, bf, v61, v62, (iz (IntKind.wrap .i64 (x22 + 1))), tz], h165⟩))))
 (none))
 (k15 (.exit 0) ⟨[(.lst a0), (.agg [(iz a1), (iz a2)]), tz, v0, (iz x17), (iz x18), v19, v20, v21, (.lst a0), (.bool b4), (.bool (!b4)), bf, (.agg [(iz x8), (iz x9)]), (.bool b10), (.bool (!b10)), bf, (.lst a0), (iz x13), (iz x22), bf, v24, v25, v26, v27, v28, v29, v30, v31, v32, v33, v34, v35, v36, v37, v38, v39, v40, v41, v42, v43, v44, v45, v46, v47, v48, v49, v50, v51, v52, v53, v54, v55, v56, v57, v58, v59, v60, v61, v62, v63, tz], (St.H s14)⟩))
 (none)
def r40X0_0 (C : Cb) (d : Nat) (a0 : List AV) (a1 a2 : Int) (v0 : AV) (b4 : Bool) (x8 x9 : Int) (b10 : Bool) (x13 : Int) : St → Ans := fun s193 =>
 cnd ((List.length s193.env) == 62)
 (C.same s193.env[0]? (.lst a0) <|
 C.same s193.env[1]? (.agg [(iz a1), (iz a2)]) <|
 C.same s193.env[2]? tz <|
 C.same s193.env[3]? v0 <|
 C.int .i64 s193.env[4]? fun x194 =>
 C.int .i64 s193.env[5]? fun x195 =>
 C.any s193.env[6]? fun v196 =>
 C.any s193.env[7]? fun v197 =>
 C.any s193.env[8]? fun v198 =>
 C.same s193.env[9]? (.lst a0) <|
 C.same s193.env[10]? (.bool b4) <|
 C.same s193.env[11]? (.bool (!b4)) <|
 C.same s193.env[12]? bf <|
 C.same s193.env[13]? (.agg [(iz x8), (iz x9)]) <|
 C.same s193.env[14]? (.bool b10) <|
 C.same s193.env[15]? (.bool (!b10)) <|
 C.same s193.env[16]? bf <|
 C.same s193.env[17]? (.lst a0) <|
 C.same s193.env[18]? (iz x13) <|
 C.int .i64 s193.env[19]? fun x199 =>
 C.any s193.env[20]? fun v200 =>
 C.any s193.env[21]? fun v201 =>
 C.any s193.env[22]? fun v202 =>
 C.any s193.env[23]? fun v203 =>
 C.any s193.env[24]? fun v204 =>
 C.any s193.env[25]? fun v205 =>
 C.any s193.env[26]? fun v206 =>
 C.any s193.env[27]? fun v207 =>
 C.any s193.env[28]? fun v208 =>
 C.any s193.env[29]? fun v209 =>
 C.any s193.env[30]? fun v210 =>
 C.any s193.env[31]? fun v211 =>
 C.any s193.env[32]? fun v212 =>
 C.any s193.env[33]? fun v213 =>
 C.any s193.env[34]? fun v214 =>
 C.any s193.env[35]? fun v215 =>
 C.any s193.env[36]? fun v216 =>
 C.any s193.env[37]? fun v217 =>
 C.any s193.env[38]? fun v218 =>
 C.any s193.env[39]? fun v219 =>
 C.any s193.env[40]? fun v220 =>
 C.any s193.env[41]? fun v221 =>
 C.any s193.env[42]? fun v222 =>
 C.any s193.env[43]? fun v223 =>
 C.any s193.env[44]? fun v224 =>
 C.any s193.env[45]? fun v225 =>
 C.any s193.env[46]? fun v226 =>
 C.any s193.env[47]? fun v227 =>
 C.any s193.env[48]? fun v228 =>
 C.any s193.env[49]? fun v229 =>
 C.any s193.env[50]? fun v230 =>
 C.any s193.env[51]? fun v231 =>
 C.any s193.env[52]? fun v232 =>
 C.any s193.env[53]? fun v233 =>
 C.any s193.env[54]? fun v234 =>
 C.any s193.env[55]? fun v235 =>
 C.any s193.env[56]? fun v236 =>
 C.any s193.env[57]? fun v237 =>
 C.any s193.env[58]? fun v238 =>
 C.any s193.env[59]? fun v239 =>
 C.any s193.env[60]? fun v240 =>
 C.same s193.env[61]? tz <|
 C.fin (St.H s193) (iz x195))
 (none)
def r40E0 (C : Cb) (d : Nat) (a0 : List AV) (a1 a2 : Int) (v0 : AV) (b4 : Bool) (x8 x9 : Int) (b10 : Bool) (x13 : Int) : St → Ans := fun s16 =>
 cnd ((List.length s16.env) == 62)
 (C.same s16.env[0]? (.lst a0) <|
 C.same s16.env[1]? (.agg [(iz a1), (iz a2)]) <|
 C.same s16.env[2]? tz <|
 C.same s16.env[3]? v0 <|
 C.int .i64 s16.env[4]? fun x241 =>
 C.int .i64 s16.env[5]? fun x242 =>
 C.int .i64 s16.env[6]? fun x243 =>
 C.any s16.env[7]? fun v244 =>
 C.any s16.env[8]? fun v245 =>
 C.same s16.env[9]? (.lst a0) <|
 C.same s16.env[10]? (.bool b4) <|
 C.same s16.env[11]? (.bool (!b4)) <|
 C.same s16.env[12]? bf <|
 C.same s16.env[13]? (.agg [(iz x8), (iz x9)]) <|
 C.same s16.env[14]? (.bool b10) <|
 C.same s16.env[15]? (.bool (!b10)) <|
 C.same s16.env[16]? bf <|
 C.same s16.env[17]? (.lst a0) <|
 C.same s16.env[18]? (iz x13) <|
 C.int .i64 s16.env[19]? fun x246 =>
 C.any s16.env[20]? fun v247 =>
 C.int .i64 s16.env[21]? fun x248 =>
 C.tup 2 s16.env[22]? fun l249 =>
 C.agg 2 l249[0]? fun l250 =>
 C.int .i64 l250[0]? fun x251 =>
 C.int .i64 l250[1]? fun x252 =>
 C.agg 2 l249[1]? fun l253 =>
 C.int .i64 l253[0]? fun x254 =>
 C.int .i64 l253[1]? fun x255 =>
 C.any s16.env[23]? fun v256 =>
 C.int .i64 s16.env[24]? fun x257 =>
 C.tup 2 s16.env[25]? fun l258 =>
 C.agg 2 l258[0]? fun l259 =>
 C.int .i64 l259[0]? fun x260 =>
 C.int .i64 l259[1]? fun x261 =>
 C.agg 2 l258[1]? fun l262 =>
 C.int .i64 l262[0]? fun x263 =>
 C.int .i64 l262[1]? fun x264 =>
 C.agg 2 s16.env[26]? fun l265 =>
 C.int .i64 l265[0]? fun x266 =>
 C.int .i64 l265[1]? fun x267 =>
 C.agg 2 s16.env[27]? fun l268 =>
 C.int .i64 l268[0]? fun x269 =>
 C.int .i64 l268[1]? fun x270 =>
 C.agg 2 s16.env[28]? fun l271 =>
 C.int .i64 l271[0]? fun x272 =>
 C.int .i64 l271[1]? fun x273 =>
 C.agg 2 s16.env[29]? fun l274 =>
 C.int .i64 l274[0]? fun x275 =>
 C.int .i64 l274[1]? fun x276 =>
 C.agg 2 s16.env[30]? fun l277 =>
 C.int .i64 l277[0]? fun x278 =>
 C.int .i64 l277[1]? fun x279 =>
 C.bool s16.env[31]? fun b280 =>
 C.any s16.env[32]? fun v281 =>
 C.any s16.env[33]? fun v282 =>
 C.any s16.env[34]? fun v283 =>
 C.any s16.env[35]? fun v284 =>
 C.any s16.env[36]? fun v285 =>
 C.any s16.env[37]? fun v286 =>
 C.any s16.env[38]? fun v287 =>
 C.any s16.env[39]? fun v288 =>
 C.any s16.env[40]? fun v289 =>
 C.any s16.env[41]? fun v290 =>
 C.any s16.env[42]? fun v291 =>
 C.any s16.env[43]? fun v292 =>
 C.any s16.env[44]? fun v293 =>
 C.any s16.env[45]? fun v294 =>
 C.any s16.env[46]? fun v295 =>
 C.any s16.env[47]? fun v296 =>
 C.any s16.env[48]? fun v297 =>
 C.any s16.env[49]? fun v298 =>
 C.any s16.env[50]? fun v299 =>
 C.any s16.env[51]? fun v300 =>
 C.any s16.env[52]? fun v301 =>
 C.any s16.env[53]? fun v302 =>
 C.any s16.env[54]? fun v303 =>
 C.any s16.env[55]? fun v304 =>
 C.any s16.env[56]? fun v305 =>
 C.any s16.env[57]? fun v306 =>
 C.any s16.env[58]? fun v307 =>
 C.any s16.env[59]? fun v308 =>
 C.any s16.env[60]? fun v309 =>
 C.same s16.env[61]? tz <|
 C.fin (St.H s16) (iz x241))
 (none)
/-- apogee/poly.Side -/
theorem r40 (C : Cb) (d : Nat) (a0 : List AV) (a1 a2 : Int) : xcall C M unr d 40 [(.lst a0), (.agg [(iz a1), (iz a2)])] =
 C.hop [] (.box E45 (.v (.agg [(iz a1), (iz a2)]))) fun v0 h1 =>
 C.snp h1 [(.lst a0)] fun l2 b3 =>
 C.bool (pcall M d 38 l2) fun b4 =>
 cnd (b3 || true)
 (cnd (!b4)
 (C.fin h1 (iz (-1)))
 (C.hop h1 (.load true 2 (.v v0)) fun v5 h6 =>
 C.agg 2 (some v5) fun l7 =>
 C.int .i64 l7[0]? fun x8 =>
 C.int .i64 l7[1]? fun x9 =>
 C.bool (pcall M d 49 [(.agg [(iz x8), (iz x9)])]) fun b10 =>
 cnd (!b10)
 (C.fin h6 (iz (-1)))
 (C.hop h6 (.bk .lenV [(.v (.lst a0))]) fun v11 h12 =>
 C.int .i64 (some v11) fun x13 =>
 C.iter (r40R0 C d a0 a1 a2 v0 b4 x8 x9 b10 x13) 1000000000000000000 ⟨[(.lst a0), (.agg [(iz a1), (iz a2)]), tz, v0, (iz 0), (iz (-1)), tz, tz, tz, (.lst a0), (.bool b4), (.bool (!b4)), bf, (.agg [(iz x8), (iz x9)]), (.bool b10), (.bool (!b10)), bf, (.lst a0), (iz x13), (iz 0), tz, tz, tz, tz, tz, tz, tz, tz, tz, tz, tz, tz, tz, tz, tz, tz, tz, tz, tz, tz, tz, tz, tz, tz, tz, tz, tz, tz, tz, tz, tz, tz, tz, tz, tz, tz, tz, tz, tz, tz, tz, tz], h12⟩ [0] [r40X0_0 C d a0 a1 a2 v0 b4 x8 x9 b10 x13] (r40E0 C d a0 a1 a2 v0 b4 x8 x9 b10 x13))))
 (none) := by kernel_rfl
/-- apogee/apogeeref11.next -/
theorem r42 (C : Cb) (d : Nat) (a0 : List AV) (a1 : Int) : xcall C M unr d 42 [(.lst a0), (iz a1)] =
 cnd (decide ((((List.length a0) : Nat) : Int) = 0))
 (none)
 (cnd (decide (0 ≤ (Int.tmod (IntKind.wrap .i64 (a1 + 1)) (((List.length a0) : Nat) : Int))))
 (C.agg 2 a0[(Int.toNat (Int.tmod (IntKind.wrap .i64 (a1 + 1)) (((List.length a0) : Nat) : Int)))]? fun l0 =>
 C.int .i64 l0[0]? fun x1 =>
 C.int .i64 l0[1]? fun x2 =>
 some (.agg [(iz x1), (iz x2)]))
 (none)) := by kernel_rfl
def r53R1 (C : Cb) (d : Nat) (a0 : List AV) (b0 : Bool) (k2 : Ex → St → Ans) (x7 : Int) (v31 : AV) : St → (Ex → St → Ans) → Ans := fun s32 k33 =>
 cnd ((List.length s32.env) == 44)
 (C.same s32.env[0]? (.lst a0) <|
 C.same s32.env[1]? tz <|
 C.bool s32.env[2]? fun b35 =>
 C.same s32.env[3]? (iz (((List.length a0) : Nat) : Int)) <|
 C.same s32.env[4]? (iz x7) <|
 C.any s32.env[5]? fun v36 =>
 C.same s32.env[6]? (.lst a0) <|
 C.same s32.env[7]? (iz (((List.length a0) : Nat) : Int)) <|
 C.same s32.env[8]? (iz (((List.length a0) : Nat) : Int)) <|
 C.same s32.env[9]? (.bool (decide ((((List.length a0) : Nat) : Int) < 3))) <|
 C.same s32.env[10]? bf <|
 C.same s32.env[11]? (iz (((List.length a0) : Nat) : Int)) <|
 C.same s32.env[12]? (.bool (decide ((((List.length a0) : Nat) : Int) > 8))) <|
 C.same s32.env[13]? (.bool (decide ((((List.length a0) : Nat) : Int) > 8))) <|
 C.same s32.env[14]? bf <|
 C.same s32.env[15]? (.lst a0) <|
 C.same s32.env[16]? (.bool b0) <|
 C.same s32.env[17]? bf <|
 C.same s32.env[18]? (iz (((List.length a0) : Nat) : Int)) <|
 C.same s32.env[19]? (iz x7) <|
 C.same s32.env[20]? bt <|
 C.same s32.env[21]? (iz x7) <|
 C.same s32.env[22]? (iz x7) <|
 C.int .i64 s32.env[23]? fun x37 =>
 C.any s32.env[24]? fun v38 =>
 C.any s32.env[25]? fun v39 =>
 C.any s32.env[26]? fun v40 =>
 C.any s32.env[27]? fun v41 =>
 C.any s32.env[28]? fun v42 =>
 C.any s32.env[29]? fun v43 =>
 C.any s32.env[30]? fun v44 =>
 C.any s32.env[31]? fun v45 =>
 C.any s32.env[32]? fun v46 =>
 C.any s32.env[33]? fun v47 =>
 C.any s32.env[34]? fun v48 =>
 C.any s32.env[35]? fun v49 =>
 C.any s32.env[36]? fun v50 =>
 C.any s32.env[37]? fun v51 =>
 C.any s32.env[38]? fun v52 =>
 C.any s32.env[39]? fun v53 =>
 C.any s32.env[40]? fun v54 =>
 C.any s32.env[41]? fun v55 =>
 C.any s32.env[42]? fun v56 =>
 C.same s32.env[43]? v31 <|
 C.sameH (St.H s32) [] <|
 cnd (decide (x37 < x7))
 (cnd (decide (0 ≤ x7))
 (C.agg 2 a0[(Int.toNat x7)]? fun l57 =>
 C.int .i64 l57[0]? fun x58 =>
 C.int .i64 l57[1]? fun x59 =>
 cnd (decide (0 ≤ x37))
 (C.agg 2 a0[(Int.toNat x37)]? fun l60 =>
 C.int .i64 l60[0]? fun x61 =>
 C.int .i64 l60[1]? fun x62 =>
 cnd (xor false ((x58 == x61) && ((x59 == x62) && true)))
 (k33 .ret ⟨[(.lst a0), tz, bf, (iz (((List.length a0) : Nat) : Int)), (iz x7), (iz x37), (.lst a0), (iz (((List.length a0) : Nat) : Int)), (iz (((List.length a0) : Nat) : Int)), (.bool (decide ((((List.length a0) : Nat) : Int) < 3))), bf, (iz (((List.length a0) : Nat) : Int)), (.bool (decide ((((List.length a0) : Nat) : Int) > 8))), (.bool (decide ((((List.length a0) : Nat) : Int) > 8))), bf, (.lst a0), (.bool b0), bf, (iz (((List.length a0) : Nat) : Int)), (iz x7), bt, (iz x7), (iz x7), (iz x37), bt, (iz x37), (.lst a0), (iz x7), (.fptr (.agg [(iz x58), (iz x59)]) 0), (.agg [(iz x58), (iz x59)]), (.lst a0), (iz x37), (.fptr (.agg [(iz x61), (iz x62)]) 0), (.agg [(iz x61), (iz x62)]), (.bool (xor false ((x58 == x61) && ((x59 == x62) && true)))), bt, tz, tz, tz, tz, tz, bt, v56, v31], []⟩)
 (C.bool (pcall M d 66 [(.lst a0), (iz x37), (iz x7)]) fun b63 =>
 cnd (!b63)
 (k33 .ret ⟨[(.lst a0), tz, bf, (iz (((List.length a0) : Nat) : Int)), (iz x7), (iz x37), (.lst a0), (iz (((List.length a0) : Nat) : Int)), (iz (((List.length a0) : Nat) : Int)), (.bool (decide ((((List.length a0) : Nat) : Int) < 3))), bf, (iz (((List.length a0) : Nat) : Int)), (.bool (decide ((((List.length a0) : Nat) : Int) > 8))), (.bool (decide ((((List.length a0) : Nat) : Int) > 8))), bf, (.lst a0), (.bool b0), bf, (iz (((List.length a0) : Nat) : Int)), (iz x7), bt, (iz x7), (iz x7), (iz x37), bt, (iz x37), (.lst a0), (iz x7), (.fptr (.agg [(iz x58), (iz x59)]) 0), (.agg [(iz x58), (iz x59)]), (.lst a0), (iz x37), (.fptr (.agg [(iz x61), (iz x62)]) 0), (.agg [(iz x61), (iz x62)]), (.bool (xor false ((x58 == x61) && ((x59 == x62) && true)))), bf, (.lst a0), (iz x37), (iz x7), (.bool b63), (.bool (!b63)), bt, v56, v31], []⟩)
 (k33 .normal ⟨[(.lst a0), tz, (.bool b35), (iz (((List.length a0) : Nat) : Int)), (iz x7), (iz x37), (.lst a0), (iz (((List.length a0) : Nat) : Int)), (iz (((List.length a0) : Nat) : Int)), (.bool (decide ((((List.length a0) : Nat) : Int) < 3))), bf, (iz (((List.length a0) : Nat) : Int)), (.bool (decide ((((List.length a0) : Nat) : Int) > 8))), (.bool (decide ((((List.length a0) : Nat) : Int) > 8))), bf, (.lst a0), (.bool b0), bf, (iz (((List.length a0) : Nat) : Int)), (iz x7), bt, (iz x7), (iz x7), (iz (IntKind.wrap .i64 (x37 + 1))), bt, (iz x37), (.lst a0), (iz x7), (.fptr (.agg [(iz x58), (iz x59)]) 0), (.agg [(iz x58), (iz x59)]), (.lst a0), (iz x37), (.fptr (.agg [(iz x61), (iz x62)]) 0), (.agg [(iz x61), (iz x62)]), (.bool (xor false ((x58 == x61) && ((x59 == x62) && true)))), bf, (.lst a0), (iz x37), (iz x7), (.bool b63), (.bool (!b63)), bf, (iz (IntKind.wrap .i64 (x37 + 1))), v31], []⟩)))
 (none))
 (none))
 (k33 (.exit 2) ⟨[(.lst a0), tz, (.bool b35), (iz (((List.length a0) : Nat) : Int)), (iz x7), v36, (.lst a0), (iz (((List.length a0) : Nat) : Int)), (iz (((List.length a0) : Nat) : Int)), (.bool (decide ((((List.length a0) : Nat) : Int) < 3))), bf, (iz (((List.length a0) : Nat) : Int)), (.bool (decide ((((List.length a0) : Nat) : Int) > 8))), (.bool (decide ((((List.length a0) : Nat) : Int) > 8))), bf, (.lst a0), (.bool b0), bf, (iz (((List.length a0) : Nat) : Int)), (iz x7), bt, (iz x7), (iz x7), (iz x37), bf, v39, v40, v41, v42, v43, v44, v45, v46, v47, v48, v49, v50, v51, v52, v53, v54, v55, v56, v31], []⟩))
 (none)
def r53X1_0 (C : Cb) (d : Nat) (a0 : List AV) (b0 : Bool) (k2 : Ex → St → Ans) (x7 : Int) (v31 : AV) : St → Ans := fun s64 =>
 cnd ((List.length s64.env) == 44)
 (C.same s64.env[0]? (.lst a0) <|
 C.same s64.env[1]? tz <|
 C.bool s64.env[2]? fun b65 =>
 C.same s64.env[3]? (iz (((List.length a0) : Nat) : Int)) <|
 C.same s64.env[4]? (iz x7) <|
 C.any s64.env[5]? fun v66 =>
 C.same s64.env[6]? (.lst a0) <|
 C.same s64.env[7]? (iz (((List.length a0) : Nat) : Int)) <|
 C.same s64.env[8]? (iz (((List.length a0) : Nat) : Int)) <|
 C.same s64.env[9]? (.bool (decide ((((List.length a0) : Nat) : Int) < 3))) <|
 C.same s64.env[10]? bf <|
 C.same s64.env[11]? (iz (((List.length a0) : Nat) : Int)) <|
 C.same s64.env[12]? (.bool (decide ((((List.length a0) : Nat) : Int) > 8))) <|
 C.same s64.env[13]? (.bool (decide ((((List.length a0) : Nat) : Int) > 8))) <|
 C.same s64.env[14]? bf <|
 C.same s64.env[15]? (.lst a0) <|
 C.same s64.env[16]? (.bool b0) <|
 C.same s64.env[17]? bf <|
 C.same s64.env[18]? (iz (((List.length a0) : Nat) : Int)) <|
 C.same s64.env[19]? (iz x7) <|
 C.same s64.env[20]? bt <|
 C.same s64.env[21]? (iz x7) <|
 C.same s64.env[22]? (iz x7) <|
 C.int .i64 s64.env[23]? fun x67 =>
 C.bool s64.env[24]? fun b68 =>
 C.any s64.env[25]? fun v69 =>
 C.any s64.env[26]? fun v70 =>
 C.any s64.env[27]? fun v71 =>
 C.any s64.env[28]? fun v72 =>
 C.any s64.env[29]? fun v73 =>
 C.any s64.env[30]? fun v74 =>
 C.any s64.env[31]? fun v75 =>
 C.any s64.env[32]? fun v76 =>
 C.any s64.env[33]? fun v77 =>
 C.any s64.env[34]? fun v78 =>
 C.any s64.env[35]? fun v79 =>
 C.any s64.env[36]? fun v80 =>
 C.any s64.env[37]? fun v81 =>
 C.any s64.env[38]? fun v82 =>
 C.any s64.env[39]? fun v83 =>
 C.any s64.env[40]? fun v84 =>
 C.any s64.env[41]? fun v85 =>
 C.any s64.env[42]? fun v86 =>
 C.same s64.env[43]? v31 <|
 C.sameH (St.H s64) [] <|
 k2 .normal ⟨[(.lst a0), tz, (.bool b65), (iz (((List.length a0) : Nat) : Int)), (iz x7), v66, (.lst a0), (iz (((List.length a0) : Nat) : Int)), (iz (((List.length a0) : Nat) : Int)), (.bool (decide ((((List.length a0) : Nat) : Int) < 3))), bf, (iz (((List.length a0) : Nat) : Int)), (.bool (decide ((((List.length a0) : Nat) : Int) > 8))), (.bool (decide ((((List.length a0) : Nat) : Int) > 8))), bf, (.lst a0), (.bool b0), bf, (iz (((List.length a0) : Nat) : Int)), (iz (IntKind.wrap .i64 (x7 + 1))), bt, (iz x7), (iz x7), (iz x67), (.bool b68), v69, v70, v71, v72, v73, v74, v75, v76, v77, v78, v79, v80, v81, v82, v83, v84, v85, v86, (iz (IntKind.wrap .i64 (x7 + 1)))], []⟩)
 (none)
def r53E1 (C : Cb) (d : Nat) (a0 : List AV) (b0 : Bool) (k2 : Ex → St → Ans) (x7 : Int) (v31 : AV) : St → Ans := fun s34 =>
 cnd ((List.length s34.env) == 44)
 (C.same s34.env[0]? (.lst a0) <|
 C.same s34.env[1]? tz <|
 C.bool s34.env[2]? fun b87 =>
 C.same s34.env[3]? (iz (((List.length a0) : Nat) : Int)) <|
 C.same s34.env[4]? (iz x7) <|
 C.int .i64 s34.env[5]? fun x88 =>
 C.same s34.env[6]? (.lst a0) <|
 C.same s34.env[7]? (iz (((List.length a0) : Nat) : Int)) <|
 C.same s34.env[8]? (iz (((List.length a0) : Nat) : Int)) <|
 C.same s34.env[9]? (.bool (decide ((((List.length a0) : Nat) : Int) < 3))) <|
 C.same s34.env[10]? bf <|
 C.same s34.env[11]? (iz (((List.length a0) : Nat) : Int)) <|
 C.same s34.env[12]? (.bool (decide ((((List.length a0) : Nat) : Int) > 8))) <|
 C.same s34.env[13]? (.bool (decide ((((List.length a0) : Nat) : Int) > 8))) <|
 C.same s34.env[14]? bf <|
 C.same s34.env[15]? (.lst a0) <|
 C.same s34.env[16]? (.bool b0) <|
 C.same s34.env[17]? bf <|
 C.same s34.env[18]? (iz (((List.length a0) : Nat) : Int)) <|
 C.same s34.env[19]? (iz x7) <|
 C.same s34.env[20]? bt <|
 C.same s34.env[21]? (iz x7) <|
 C.same s34.env[22]? (iz x7) <|
 C.int .i64 s34.env[23]? fun x89 =>
 C.bool s34.env[24]? fun b90 =>
 C.int .i64 s34.env[25]? fun x91 =>
 C.any s34.env[26]? fun v92 =>
 C.int .i64 s34.env[27]? fun x93 =>
 C.any s34.env[28]? fun v94 =>
 C.agg 2 s34.env[29]? fun l95 =>
 C.int .i64 l95[0]? fun x96 =>
 C.int .i64 l95[1]? fun x97 =>
 C.any s34.env[30]? fun v98 =>
 C.int .i64 s34.env[31]? fun x99 =>
 C.any s34.env[32]? fun v100 =>
 C.agg 2 s34.env[33]? fun l101 =>
 C.int .i64 l101[0]? fun x102 =>
 C.int .i64 l101[1]? fun x103 =>
 C.bool s34.env[34]? fun b104 =>
 C.bool s34.env[35]? fun b105 =>
 C.any s34.env[36]? fun v106 =>
 C.any s34.env[37]? fun v107 =>
 C.any s34.env[38]? fun v108 =>
 C.any s34.env[39]? fun v109 =>
 C.any s34.env[40]? fun v110 =>
 C.bool s34.env[41]? fun b111 =>
 C.any s34.env[42]? fun v112 =>
 C.same s34.env[43]? v31 <|
 C.sameH (St.H s34) [] <|
 k2 .ret ⟨[(.lst a0), tz, (.bool b87), (iz (((List.length a0) : Nat) : Int)), (iz x7), (iz x88), (.lst a0), (iz (((List.length a0) : Nat) : Int)), (iz (((List.length a0) : Nat) : Int)), (.bool (decide ((((List.length a0) : Nat) : Int) < 3))), bf, (iz (((List.length a0) : Nat) : Int)), (.bool (decide ((((List.length a0) : Nat) : Int) > 8))), (.bool (decide ((((List.length a0) : Nat) : Int) > 8))), bf, (.lst a0), (.bool b0), bf, (iz (((List.length a0) : Nat) : Int)), (iz x7), bt, (iz x7), (iz x7), (iz x89), (.bool b90), (iz x91), v92, (iz x93), v94, (.agg [(iz x96), (iz x97)]), v98, (iz x99), v100, (.agg [(iz x102), (iz x103)]), (.bool b104), (.bool b105), v106, v107, v108, v109, v110, (.bool b111), v112, v31], []⟩)
 (none)
def r53R0 (C : Cb) (d : Nat) (a0 : List AV) (b0 : Bool) : St → (Ex → St → Ans) → Ans := fun s1 k2 =>
 cnd ((List.length s1.env) == 44)
 (C.same s1.env[0]? (.lst a0) <|
 C.same s1.env[1]? tz <|
 C.bool s1.env[2]? fun b4 =>
 C.same s1.env[3]? (iz (((List.length a0) : Nat) : Int)) <|
 C.any s1.env[4]? fun v5 =>
 C.any s1.env[5]? fun v6 =>
 C.same s1.env[6]? (.lst a0) <|
 C.same s1.env[7]? (iz (((List.length a0) : Nat) : Int)) <|
 C.same s1.env[8]? (iz (((List.length a0) : Nat) : Int)) <|
 C.same s1.env[9]? (.bool (decide ((((List.length a0) : Nat) : Int) < 3))) <|
 C.same s1.env[10]? bf <|
 C.same s1.env[11]? (iz (((List.length a0) : Nat) : Int)) <|
 C.same s1.env[12]? (.bool (decide ((((List.length a0) : Nat) : Int) > 8))) <|
 C.same s1.env[13]? (.bool (decide ((((List.length a0) : Nat) : Int) > 8))) <|
 C.same s1.env[14]? bf <|
 C.same s1.env[15]? (.lst a0) <|
 C.same s1.env[16]? (.bool b0) <|
 C.same s1.env[17]? bf <|
 C.same s1.env[18]? (iz (((List.length a0) : Nat) : Int)) <|
 C.int .i64 s1.env[19]? fun x7 =>
 C.any s1.env[20]? fun v8 =>
 C.any s1.env[21]? fun v9 =>
 C.any s1.env[22]? fun v10 =>
 C.any s1.env[23]? fun v11 =>
 C.any s1.env[24]? fun v12 =>
 C.any s1.env[25]? fun v13 =>
 C.any s1.env[26]? fun v14 =>
 C.any s1.env[27]? fun v15 =>
 C.any s1.env[28]? fun v16 =>
 C.any s1.env[29]? fun v17 =>
 C.any s1.env[30]? fun v18 =>
 C.any s1.env[31]? fun v19 =>
 C.any s1.env[32]? fun v20 =>
 C.any s1.env[33]? fun v21 =>
 C.any s1.env[34]? fun v22 =>
 C.any s1.env[35]? fun v23 =>
 C.any s1.env[36]? fun v24 =>
 C.any s1.env[37]? fun v25 =>
 C.any s1.env[38]? fun v26 =>
 C.any s1.env[39]? fun v27 =>
 C.any s1.env[40]? fun v28 =>
 C.any s1.env[41]? fun v29 =>
 C.any s1.env[42]? fun v30 =>
 C.any s1.env[43]? fun v31 =>
 C.sameH (St.H s1) [] <|
 cnd (decide (x7 < (((List.length a0) : Nat) : Int)))
 (C.iter (r53R1 C d a0 b0 k2 x7 v31) 1000000000000000000 ⟨[(.lst a0), tz, (.bool b4), (iz (((List.length a0) : Nat) : Int)), (iz x7), v6, (.lst a0), (iz (((List.length a0) : Nat) : Int)), (iz (((List.length a0) : Nat) : Int)), (.bool (decide ((((List.length a0) : Nat) : Int) < 3))), bf, (iz (((List.length a0) : Nat) : Int)), (.bool (decide ((((List.length a0) : Nat) : Int) > 8))), (.bool (decide ((((List.length a0) : Nat) : Int) > 8))), bf, (.lst a0), (.bool b0), bf, (iz (((List.length a0) : Nat) : Int)), (iz x7), bt, (iz x7), (iz x7), (iz 0), v12, v13, v14, v15, v16, v17, v18, v19, v20, v21, v22, v23, v24, v25, v26, v27, v28, v29, v30, v31], []⟩ [2] [r53X1_0 C d a0 b0 k2 x7 v31] (r53E1 C d a0 b0 k2 x7 v31))
 (k2 (.exit 0) ⟨[(.lst a0), tz, (.bool b4), (iz (((List.length a0) : Nat) : Int)), v5, v6, (.lst a0), (iz (((List.length a0) : Nat) : Int)), (iz (((List.length a0) : Nat) : Int)), (.bool (decide ((((List.length a0) : Nat) : Int) < 3))), bf, (iz (((List.length a0) : Nat) : Int)), (.bool (decide ((((List.length a0) : Nat) : Int) > 8))), (.bool (decide ((((List.length a0) : Nat) : Int) > 8))), bf, (.lst a0), (.bool b0), bf, (iz (((List.length a0) : Nat) : Int)), (iz x7), bf, v9, v10, v11, v12, v13, v14, v15, v16, v17, v18, v19, v20, v21, v22, v23, v24, v25, v26, v27, v28, v29, v30, v31], []⟩))
 (none)
def r53X0_0 (C : Cb) (d : Nat) (a0 : List AV) (b0 : Bool) : St → Ans := fun s113 =>
 cnd ((List.length s113.env) == 44)
 (C.same s113.env[0]? (.lst a0) <|
 C.same s113.env[1]? tz <|
 C.bool s113.env[2]? fun b114 =>
 C.same s113.env[3]? (iz (((List.length a0) : Nat) : Int)) <|
 C.any s113.env[4]? fun v115 =>
 C.any s113.env[5]? fun v116 =>
 C.same s113.env[6]? (.lst a0) <|
 C.same s113.env[7]? (iz (((List.length a0) : Nat) : Int)) <|
 C.same s113.env[8]? (iz (((List.length a0) : Nat) : Int)) <|
 C.same s113.env[9]? (.bool (decide ((((List.length a0) : Nat) : Int) < 3))) <|
 C.same s113.env[10]? bf <|
 C.same s113.env[11]? (iz (((List.length a0) : Nat) : Int)) <|
 C.same s113.env[12]? (.bool (decide ((((List.length a0) : Nat) : Int) > 8))) <|
 C.same s113.env[13]? (.bool (decide ((((List.length a0) : Nat) : Int) > 8))) <|
 C.same s113.env[14]? bf <|
 C.same s113.env[15]? (.lst a0) <|
 C.same s113.env[16]? (.bool b0) <|
 C.same s113.env[17]? bf <|
 C.same s113.env[18]? (iz (((List.length a0) : Nat) : Int)) <|
 C.int .i64 s113.env[19]? fun x117 =>
 C.bool s113.env[20]? fun b118 =>
 C.any s113.env[21]? fun v119 =>
 C.any s113.env[22]? fun v120 =>
 C.any s113.env[23]? fun v121 =>
 C.any s113.env[24]? fun v122 =>
 C.any s113.env[25]? fun v123 =>
 C.any s113.env[26]? fun v124 =>
 C.any s113.env[27]? fun v125 =>
 C.any s113.env[28]? fun v126 =>
 C.any s113.env[29]? fun v127 =>
 C.any s113.env[30]? fun v128 =>
 C.any s113.env[31]? fun v129 =>
 C.any s113.env[32]? fun v130 =>
 C.any s113.env[33]? fun v131 =>
 C.any s113.env[34]? fun v132 =>
 C.any s113.env[35]? fun v133 =>
 C.any s113.env[36]? fun v134 =>
 C.any s113.env[37]? fun v135 =>
 C.any s113.env[38]? fun v136 =>
 C.any s113.env[39]? fun v137 =>
 C.any s113.env[40]? fun v138 =>
 C.any s113.env[41]? fun v139 =>
 C.any s113.env[42]? fun v140 =>
 C.any s113.env[43]? fun v141 =>
 C.sameH (St.H s113) [] <|
 some bt)
 (none)
def r53E0 (C : Cb) (d : Nat) (a0 : List AV) (b0 : Bool) : St → Ans := fun s3 =>
 cnd ((List.length s3.env) == 44)
 (C.same s3.env[0]? (.lst a0) <|
 C.same s3.env[1]? tz <|
 C.bool s3.env[2]? fun b142 =>
 C.same s3.env[3]? (iz (((List.length a0) : Nat) : Int)) <|
 C.int .i64 s3.env[4]? fun x143 =>
 C.int .i64 s3.env[5]? fun x144 =>
 C.same s3.env[6]? (.lst a0) <|
 C.same s3.env[7]? (iz (((List.length a0) : Nat) : Int)) <|
 C.same s3.env[8]? (iz (((List.length a0) : Nat) : Int)) <|
 C.same s3.env[9]? (.bool (decide ((((List.length a0) : Nat) : Int) < 3))) <|
 C.same s3.env[10]? bf <|
 C.same s3.env[11]? (iz (((List.length a0) : Nat) : Int)) <|
 C.same s3.env[12]? (.bool (decide ((((List.length a0) : Nat) : Int) > 8))) <|
 C.same s3.env[13]? (.bool (decide ((((List.length a0) : Nat) : Int) > 8))) <|
 C.same s3.env[14]? bf <|
 C.same s3.env[15]? (.lst a0) <|
 C.same s3.env[16]? (.bool b0) <|
 C.same s3.env[17]? bf <|
 C.same s3.env[18]? (iz (((List.length a0) : Nat) : Int)) <|
 C.int .i64 s3.env[19]? fun x145 =>
 C.bool s3.env[20]? fun b146 =>
 C.int .i64 s3.env[21]? fun x147 =>
 C.int .i64 s3.env[22]? fun x148 =>
 C.int .i64 s3.env[23]? fun x149 =>
 C.bool s3.env[24]? fun b150 =>
 C.int .i64 s3.env[25]? fun x151 =>
 C.any s3.env[26]? fun v152 =>
 C.int .i64 s3.env[27]? fun x153 =>
 C.any s3.env[28]? fun v154 =>
 C.agg 2 s3.env[29]? fun l155 =>
 C.int .i64 l155[0]? fun x156 =>
 C.int .i64 l155[1]? fun x157 =>
 C.any s3.env[30]? fun v158 =>
 C.int .i64 s3.env[31]? fun x159 =>
 C.any s3.env[32]? fun v160 =>
 C.agg 2 s3.env[33]? fun l161 =>
 C.int .i64 l161[0]? fun x162 =>
 C.int .i64 l161[1]? fun x163 =>
 C.bool s3.env[34]? fun b164 =>
 C.bool s3.env[35]? fun b165 =>
 C.any s3.env[36]? fun v166 =>
 C.any s3.env[37]? fun v167 =>
 C.any s3.env[38]? fun v168 =>
 C.any s3.env[39]? fun v169 =>
 C.any s3.env[40]? fun v170 =>
 C.bool s3.env[41]? fun b171 =>
 C.any s3.env[42]? fun v172 =>
 C.any s3.env[43]? fun v173 =>
 C.sameH (St.H s3) [] <|
 some (.bool b142))
 (none)
/-- apogee/poly.Simple -/
theorem r53 (C : Cb) (d : Nat) (a0 : List AV) : xcall C M unr d 53 [(.lst a0)] =
 cnd (decide ((((List.length a0) : Nat) : Int) < 3))
 (some bf)
 (cnd (decide ((((List.length a0) : Nat) : Int) > 8))
 (some bf)
 (C.bool (pcall M d 54 [(.lst a0), (.fn 65 [] [])]) fun b0 =>
 cnd b0
 (some bf)
 (C.iter (r53R0 C d a0 b0) 1000000000000000000 ⟨[(.lst a0), tz, bf, (iz (((List.length a0) : Nat) : Int)), tz, tz, (.lst a0), (iz (((List.length a0) : Nat) : Int)), (iz (((List.length a0) : Nat) : Int)), (.bool (decide ((((List.length a0) : Nat) : Int) < 3))), bf, (iz (((List.length a0) : Nat) : Int)), (.bool (decide ((((List.length a0) : Nat) : Int) > 8))), (.bool (decide ((((List.length a0) : Nat) : Int) > 8))), bf, (.lst a0), (.bool b0), bf, (iz (((List.length a0) : Nat) : Int)), (iz 0), tz, tz, tz, tz, tz, tz, tz, tz, tz, tz, tz, tz, tz, tz, tz, tz, tz, tz, tz, tz, tz, tz, tz, tz], []⟩ [0] [r53X0_0 C d a0 b0] (r53E0 C d a0 b0)))) := by kernel_rfl
/-- slices.ContainsFunc[[]apogee/api.Point,apogee/api.Point] -/
theorem r54f65 (C : Cb) (d : Nat) (a0 : List AV) (a1 : AV) : xcall C M unr d 54 [(.lst a0), (.fn 65 [] [])] =
 C.int .i64 (pcall M d 67 [(.lst a0), (.fn 65 [] [])]) fun x0 =>
 some (.bool (decide (x0 ≥ 0))) := by kernel_rfl
/-- slices.ContainsFunc[[]apogee/api.Point,apogee/api.Point] -/
theorem r54f55 (C : Cb) (d : Nat) (a0 : List AV) (a1 : AV) : xcall C M unr d 54 [(.lst a0), (.fn 55 [] [])] =
 C.int .i64 (pcall M d 67 [(.lst a0), (.fn 55 [] [])]) fun x0 =>
 some (.bool (decide (x0 ≥ 0))) := by kernel_rfl
/-- apogee/poly.far -/
theorem r55 (C : Cb) (d : Nat) (a0 a1 : Int) : xcall C M unr d 55 [(.agg [(iz a0), (iz a1)])] =
 some (.bool (decide ((if ((IntKind.wrap .i64 (0 - a1)) > (if (a1 > (if ((IntKind.wrap .i64 (0 - a0)) > a0) then (IntKind.wrap .i64 (0 - a0)) else a0)) then a1 else (if ((IntKind.wrap .i64 (0 - a0)) > a0) then (IntKind.wrap .i64 (0 - a0)) else a0))) then (IntKind.wrap .i64 (0 - a1)) else (if (a1 > (if ((IntKind.wrap .i64 (0 - a0)) > a0) then (IntKind.wrap .i64 (0 - a0)) else a0)) then a1 else (if ((IntKind.wrap .i64 (0 - a0)) > a0) then (IntKind.wrap .i64 (0 - a0)) else a0))) > 1073741824))) := by kernel_rfl
/-- apogee/poly.edge -/
theorem r60 (C : Cb) (d : Nat) (a0 : List AV) (a1 : Int) : xcall C M unr d 60 [(.lst a0), (iz a1)] =
 cnd (decide (0 ≤ a1))
 (C.agg 2 a0[(Int.toNat a1)]? fun l0 =>
 C.int .i64 l0[0]? fun x1 =>
 C.int .i64 l0[1]? fun x2 =>
 cnd (decide ((((List.length a0) : Nat) : Int) = 0))
 (none)
 (cnd (decide (0 ≤ (Int.tmod (IntKind.wrap .i64 (a1 + 1)) (((List.length a0) : Nat) : Int))))
 (C.agg 2 a0[(Int.toNat (Int.tmod (IntKind.wrap .i64 (a1 + 1)) (((List.length a0) : Nat) : Int)))]? fun l3 =>
 C.int .i64 l3[0]? fun x4 =>
 C.int .i64 l3[1]? fun x5 =>
 some (.tup [(.agg [(iz x1), (iz x2)]), (.agg [(iz x4), (iz x5)])]))
 (none)))
 (none) := by kernel_rfl
/-- apogee/poly.Simple$1 -/
theorem r65 (C : Cb) (d : Nat) (a0 a1 : Int) : xcall C M unr d 65 [(.agg [(iz a0), (iz a1)])] =
 C.bool (pcall M d 49 [(.agg [(iz a0), (iz a1)])]) fun b0 =>
 some (.bool (!b0)) := by kernel_rfl
/-- apogee/poly.apart -/
theorem r66 (C : Cb) (d : Nat) (a0 : List AV) (a1 a2 : Int) : xcall C M unr d 66 [(.lst a0), (iz a1), (iz a2)] =
 C.tup 2 (pcall M d 60 [(.lst a0), (iz a1)]) fun l0 =>
 C.agg 2 l0[0]? fun l1 =>
 C.int .i64 l1[0]? fun x2 =>
 C.int .i64 l1[1]? fun x3 =>
 C.agg 2 l0[1]? fun l4 =>
 C.int .i64 l4[0]? fun x5 =>
 C.int .i64 l4[1]? fun x6 =>
 C.tup 2 (pcall M d 60 [(.lst a0), (iz a2)]) fun l7 =>
 C.agg 2 l7[0]? fun l8 =>
 C.int .i64 l8[0]? fun x9 =>
 C.int .i64 l8[1]? fun x10 =>
 C.agg 2 l7[1]? fun l11 =>
 C.int .i64 l11[0]? fun x12 =>
 C.int .i64 l11[1]? fun x13 =>
 cnd (decide ((((List.length a0) : Nat) : Int) = 0))
 (none)
 (cnd ((Int.tmod (IntKind.wrap .i64 (a1 + 1)) (((List.length a0) : Nat) : Int)) == a2)
 (C.bool (pcall M d 61 [(.agg [(iz x12), (iz x13)]), (.agg [(iz x2), (iz x3)]), (.agg [(iz x5), (iz x6)])]) fun b14 =>
 cnd (!b14)
 (C.bool (pcall M d 61 [(.agg [(iz x2), (iz x3)]), (.agg [(iz x9), (iz x10)]), (.agg [(iz x12), (iz x13)])]) fun b15 =>
 some (.bool (!b15)))
 (some bf))
 (cnd (decide ((((List.length a0) : Nat) : Int) = 0))
 (none)
 (cnd ((Int.tmod (IntKind.wrap .i64 (a2 + 1)) (((List.length a0) : Nat) : Int)) == a1)
 (C.bool (pcall M d 61 [(.agg [(iz x9), (iz x10)]), (.agg [(iz x2), (iz x3)]), (.agg [(iz x5), (iz x6)])]) fun b16 =>
 cnd (!b16)
 (C.bool (pcall M d 61 [(.agg [(iz x5), (iz x6)]), (.agg [(iz x9), (iz x10)]), (.agg [(iz x12), (iz x13)])]) fun b17 =>
 some (.bool (!b17)))
 (some bf))
 (C.bool (pcall M d 75 [(.agg [(iz x2), (iz x3)]), (.agg [(iz x5), (iz x6)]), (.agg [(iz x9), (iz x10)]), (.agg [(iz x12), (iz x13)])]) fun b18 =>
 some (.bool (!b18)))))) := by kernel_rfl
def r67f65R0 (C : Cb) (d : Nat) (a0 : List AV) : St → (Ex → St → Ans) → Ans := fun s0 k1 =>
 cnd ((List.length s0.env) == 19)
 (C.same s0.env[0]? (.lst a0) <|
 C.same s0.env[1]? (.fn 65 [] []) <|
 C.same s0.env[2]? tz <|
 C.same s0.env[3]? tz <|
 C.int .i64 s0.env[4]? fun x3 =>
 C.any s0.env[5]? fun v4 =>
 C.same s0.env[6]? (.lst a0) <|
 C.same s0.env[7]? (iz (((List.length a0) : Nat) : Int)) <|
 C.int .i64 s0.env[8]? fun x5 =>
 C.any s0.env[9]? fun v6 =>
 C.any s0.env[10]? fun v7 =>
 C.any s0.env[11]? fun v8 =>
 C.any s0.env[12]? fun v9 =>
 C.any s0.env[13]? fun v10 =>
 C.any s0.env[14]? fun v11 =>
 C.any s0.env[15]? fun v12 =>
 C.any s0.env[16]? fun v13 =>
 C.any s0.env[17]? fun v14 =>
 C.any s0.env[18]? fun v15 =>
 C.sameH (St.H s0) [] <|
 cnd (decide (x5 < (((List.length a0) : Nat) : Int)))
 (cnd (decide (0 ≤ x5))
 (C.agg 2 a0[(Int.toNat x5)]? fun l16 =>
 C.int .i64 l16[0]? fun x17 =>
 C.int .i64 l16[1]? fun x18 =>
 C.bool (pcall M d 65 [(.agg [(iz x17), (iz x18)])]) fun b19 =>
 cnd b19
 (k1 .ret ⟨[(.lst a0), (.fn 65 [] []), tz, tz, (iz x5), (iz x5), (.lst a0), (iz (((List.length a0) : Nat) : Int)), (iz x5), bt, (iz x5), (.fn 65 [] []), (.lst a0), (iz x5), (.fptr (.agg [(iz x17), (iz x18)]) 0), (.agg [(iz x17), (iz x18)]), bt, (iz x5), v15], []⟩)
 (k1 .normal ⟨[(.lst a0), (.fn 65 [] []), tz, tz, (iz x3), (iz x5), (.lst a0), (iz (((List.length a0) : Nat) : Int)), (iz (IntKind.wrap .i64 (x5 + 1))), bt, (iz x5), (.fn 65 [] []), (.lst a0), (iz x5), (.fptr (.agg [(iz x17), (iz x18)]) 0), (.agg [(iz x17), (iz x18)]), bf, v14, (iz (IntKind.wrap .i64 (x5 + 1)))], []⟩))
 (none))
 (k1 (.exit 0) ⟨[(.lst a0), (.fn 65 [] []), tz, tz, (iz x3), v4, (.lst a0), (iz (((List.length a0) : Nat) : Int)), (iz x5), bf, v7, v8, v9, v10, v11, v12, v13, v14, v15], []⟩))
 (none)
def r67f65X0_0 (C : Cb) (d : Nat) (a0 : List AV) : St → Ans := fun s20 =>
 cnd ((List.length s20.env) == 19)
 (C.same s20.env[0]? (.lst a0) <|
 C.same s20.env[1]? (.fn 65 [] []) <|
 C.same s20.env[2]? tz <|
 C.same s20.env[3]? tz <|
 C.int .i64 s20.env[4]? fun x21 =>
 C.any s20.env[5]? fun v22 =>
 C.same s20.env[6]? (.lst a0) <|
 C.same s20.env[7]? (iz (((List.length a0) : Nat) : Int)) <|
 C.int .i64 s20.env[8]? fun x23 =>
 C.any s20.env[9]? fun v24 =>
 C.any s20.env[10]? fun v25 =>
 C.any s20.env[11]? fun v26 =>
 C.any s20.env[12]? fun v27 =>
 C.any s20.env[13]? fun v28 =>
 C.any s20.env[14]? fun v29 =>
 C.any s20.env[15]? fun v30 =>
 C.any s20.env[16]? fun v31 =>
 C.any s20.env[17]? fun v32 =>
 C.any s20.env[18]? fun v33 =>
 C.sameH (St.H s20) [] <|
 some (iz (-1)))
 (none)
def r67f65E0 (C : Cb) (d : Nat) (a0 : List AV) : St → Ans := fun s2 =>
 cnd ((List.length s2.env) == 19)
 (C.same s2.env[0]? (.lst a0) <|
 C.same s2.env[1]? (.fn 65 [] []) <|
 C.same s2.env[2]? tz <|
 C.same s2.env[3]? tz <|
 C.int .i64 s2.env[4]? fun x34 =>
 C.int .i64 s2.env[5]? fun x35 =>
 C.same s2.env[6]? (.lst a0) <|
 C.same s2.env[7]? (iz (((List.length a0) : Nat) : Int)) <|
 C.int .i64 s2.env[8]? fun x36 =>
 C.any s2.env[9]? fun v37 =>
 C.int .i64 s2.env[10]? fun x38 =>
 C.any s2.env[11]? fun v39 =>
 C.any s2.env[12]? fun v40 =>
 C.int .i64 s2.env[13]? fun x41 =>
 C.any s2.env[14]? fun v42 =>
 C.agg 2 s2.env[15]? fun l43 =>
 C.int .i64 l43[0]? fun x44 =>
 C.int .i64 l43[1]? fun x45 =>
 C.bool s2.env[16]? fun b46 =>
 C.int .i64 s2.env[17]? fun x47 =>
 C.any s2.env[18]? fun v48 =>
 C.sameH (St.H s2) [] <|
 some (iz x34))
 (none)
/-- slices.IndexFunc[[]apogee/api.Point,apogee/api.Point] -/
theorem r67f65 (C : Cb) (d : Nat) (a0 : List AV) (a1 : AV) : xcall C M unr d 67 [(.lst a0), (.fn 65 [] [])] =
 C.iter (r67f65R0 C d a0) 1000000000000000000 ⟨[(.lst a0), (.fn 65 [] []), tz, tz, (iz 0), tz, (.lst a0), (iz (((List.length a0) : Nat) : Int)), (iz 0), tz, tz, tz, tz, tz, tz, tz, tz, tz, tz], []⟩ [0] [r67f65X0_0 C d a0] (r67f65E0 C d a0) := by kernel_rfl
def r67f55R0 (C : Cb) (d : Nat) (a0 : List AV) : St → (Ex → St → Ans) → Ans := fun s0 k1 =>
 cnd ((List.length s0.env) == 19)
 (C.same s0.env[0]? (.lst a0) <|
 C.same s0.env[1]? (.fn 55 [] []) <|
 C.same s0.env[2]? tz <|
 C.same s0.env[3]? tz <|
 C.int .i64 s0.env[4]? fun x3 =>
 C.any s0.env[5]? fun v4 =>
 C.same s0.env[6]? (.lst a0) <|
 C.same s0.env[7]? (iz (((List.length a0) : Nat) : Int)) <|
 C.int .i64 s0.env[8]? fun x5 =>
 C.any s0.env[9]? fun v6 =>
 C.any s0.env[10]? fun v7 =>
 C.any s0.env[11]? fun v8 =>
 C.any s0.env[12]? fun v9 =>
 C.any s0.env[13]? fun v10 =>
 C.any s0.env[14]? fun v11 =>
 C.any s0.env[15]? fun v12 =>
 C.any s0.env[16]? fun v13 =>
 C.any s0.env[17]? fun v14 =>
 C.any s0.env[18]? fun v15 =>
 C.sameH (St.H s0) [] <|
 cnd (decide (x5 < (((List.length a0) : Nat) : Int)))
 (cnd (decide (0 ≤ x5))
 (C.agg 2 a0[(Int.toNat x5)]? fun l16 =>
 C.int .i64 l16[0]? fun x17 =>
 C.int .i64 l16[1]? fun x18 =>
 C.bool (pcall M d 55 [(.agg [(iz x17), (iz x18)])]) fun b19 =>
 cnd b19
 (k1 .ret ⟨[(.lst a0), (.fn 55 [] []), tz, tz, (iz x5), (iz x5), (.lst a0), (iz (((List.length a0) : Nat) : Int)), (iz x5), bt, (iz x5), (.fn 55 [] []), (.lst a0), (iz x5), (.fptr (.agg [(iz x17), (iz x18)]) 0), (.agg [(iz x17), (iz x18)]), bt, (iz x5), v15], []⟩)
 (k1 .normal ⟨[(.lst a0), (.fn 55 [] []), tz, tz, (iz x3), (iz x5), (.lst a0), (iz (((List.length a0) : Nat) : Int)), (iz (IntKind.wrap .i64 (x5 + 1))), bt, (iz x5), (.fn 55 [] []), (.lst a0), (iz x5), (.fptr (.agg [(iz x17), (iz x18)]) 0), (.agg [(iz x17), (iz x18)]), bf, v14, (iz (IntKind.wrap .i64 (x5 + 1)))], []⟩))
 (none))
 (k1 (.exit 0) ⟨[(.lst a0), (.fn 55 [] []), tz, tz, (iz x3), v4, (.lst a0), (iz (((List.length a0) : Nat) : Int)), (iz x5), bf, v7, v8, v9, v10, v11, v12, v13, v14, v15], []⟩))
 (none)
def r67f55X0_0 (C : Cb) (d : Nat) (a0 : List AV) : St → Ans := fun s20 =>
 cnd ((List.length s20.env) == 19)
 (C.same s20.env[0]? (.lst a0) <|
 C.same s20.env[1]? (.fn 55 [] []) <|
 C.same s20.env[2]? tz <|
 C.same s20.env[3]? tz <|
 C.int .i64 s20.env[4]? fun x21 =>
 C.any s20.env[5]? fun v22 =>
 C.same s20.env[6]? (.lst a0) <|
 C.same s20.env[7]? (iz (((List.length a0) : Nat) : Int)) <|
 C.int .i64 s20.env[8]? fun x23 =>
 C.any s20.env[9]? fun v24 =>
 C.any s20.env[10]? fun v25 =>
 C.any s20.env[11]? fun v26 =>
 C.any s20.env[12]? fun v27 =>
 C.any s20.env[13]? fun v28 =>
 C.any s20.env[14]? fun v29 =>
 C.any s20.env[15]? fun v30 =>
 C.any s20.env[16]? fun v31 =>
 C.any s20.env[17]? fun v32 =>
 C.any s20.env[18]? fun v33 =>
 C.sameH (St.H s20) [] <|
 some (iz (-1)))
 (none)
def r67f55E0 (C : Cb) (d : Nat) (a0 : List AV) : St → Ans := fun s2 =>
 cnd ((List.length s2.env) == 19)
 (C.same s2.env[0]? (.lst a0) <|
 C.same s2.env[1]? (.fn 55 [] []) <|
 C.same s2.env[2]? tz <|
 C.same s2.env[3]? tz <|
 C.int .i64 s2.env[4]? fun x34 =>
 C.int .i64 s2.env[5]? fun x35 =>
 C.same s2.env[6]? (.lst a0) <|
 C.same s2.env[7]? (iz (((List.length a0) : Nat) : Int)) <|
 C.int .i64 s2.env[8]? fun x36 =>
 C.any s2.env[9]? fun v37 =>
 C.int .i64 s2.env[10]? fun x38 =>
 C.any s2.env[11]? fun v39 =>
 C.any s2.env[12]? fun v40 =>
 C.int .i64 s2.env[13]? fun x41 =>
 C.any s2.env[14]? fun v42 =>
 C.agg 2 s2.env[15]? fun l43 =>
 C.int .i64 l43[0]? fun x44 =>
 C.int .i64 l43[1]? fun x45 =>
 C.bool s2.env[16]? fun b46 =>
 C.int .i64 s2.env[17]? fun x47 =>
 C.any s2.env[18]? fun v48 =>
 C.sameH (St.H s2) [] <|
 some (iz x34))
 (none)
/-- slices.IndexFunc[[]apogee/api.Point,apogee/api.Point] -/
theorem r67f55 (C : Cb) (d : Nat) (a0 : List AV) (a1 : AV) : xcall C M unr d 67 [(.lst a0), (.fn 55 [] [])] =
 C.iter (r67f55R0 C d a0) 1000000000000000000 ⟨[(.lst a0), (.fn 55 [] []), tz, tz, (iz 0), tz, (.lst a0), (iz (((List.length a0) : Nat) : Int)), (iz 0), tz, tz, tz, tz, tz, tz, tz, tz, tz, tz], []⟩ [0] [r67f55X0_0 C d a0] (r67f55E0 C d a0) := by kernel_rfl
end Go.Proofs.Ytmlpinajheacjaa.AE
