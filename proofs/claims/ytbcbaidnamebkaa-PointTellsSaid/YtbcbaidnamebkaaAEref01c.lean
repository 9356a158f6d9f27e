/- The document's numbers of 128 bits: sums, the other sign, products, which one is greater. No conditions. -/
import Derived.Test.YtbcbaidnamebkaaAEref01b
import Derived.Test.YtbcbaidnamebkaaAEsgn
namespace Go.Proofs.Ytbcbaidnamebkaa.AE
set_option linter.unusedVariables false
set_option linter.unusedSimpArgs false
set_option linter.constructorNameAsVariable false
open Go

theorem plus1 (d : Nat) (x y : List Int) (hx : Bits x) (hy : Bits y) (lx : x.length = 128) (ly : y.length = 128) : ∀ (k i f : Nat) (H : Heap) (v : AV) (out : List Int) (c : Int), i + k = 128 → k < f → out.length = i → Bits out → (c = 0 ∨ c = 1) →
    bin out + 2 ^ i * c = bin (x.take i) + bin (y.take i) → hget H 2 = some ⟨E43, [wd 0]⟩ → Own H E3 v (iv out) → ¬ names v 2 → 2 < H.length →
    L37_0 (d + 1) (.ptr 2 0 0) (.lst (iv x)) (.lst (iv y)) f v c (i : Nat) H = some (wd (bin x + bin y)) := by
  intro k
  induction k with
  | zero =>
    intro i f H v out c hi hf lo ob hc hs h2 ho hn hl
    obtain ⟨f, rfl⟩ : ∃ g, f = g + 1 := ⟨f - 1, by omega⟩
    obtain rfl : i = 128 := by omega
    rw [L37_0, decide_eq_false (by omega), cnd_f, X37_0_0, snp_own ho (by intro h; rw [h] at lo; simp at lo), s46 d out ob lo]
    refine Eq.trans (pl_agg (by rfl) (by rfl)) ?_; refine Eq.trans (pl_int (by rfl)) ?_; refine Eq.trans (pl_int (by rfl)) ?_; refine Eq.trans (pl_len (by rfl)) ?_
    rw [st_ptr h2 (by rfl) (by rfl)]
    refine Eq.trans (ld_ptr (hget_set hl) (by rfl) (by rfl)) ?_
    rw [List.take_of_length_le (by omega), List.take_of_length_le (by omega)] at hs
    have e2 : (2 : Int) ^ 128 = 340282366920938463463374607431768211456 := by decide
    rw [e2] at hs
    rw [wd_congr (a := bin x + bin y) (b := bin out) (by rw [← hs]; omega)]
    rfl
  | succ k ih =>
    intro i f H v out c hi hf lo ob hc hs h2 ho hn hl
    obtain ⟨f, rfl⟩ : ∃ g, f = g + 1 := ⟨f - 1, by omega⟩
    have i1 : i < x.length := by omega
    have i2 : i < y.length := by omega
    have g1 : (iv x)[((i : Nat) : Int).toNat]? = some (.int .i64 x[i]) := by rw [iv_at]; simp [i1]
    have g2 : (iv y)[((i : Nat) : Int).toNat]? = some (.int .i64 y[i]) := by rw [iv_at]; simp [i2]
    have bx := hx x[i] (List.getElem_mem _)
    have by' := hy y[i] (List.getElem_mem _)
    rw [L37_0, decide_eq_true (by omega), cnd_t]
    refine Eq.trans (ix_lst (by omega) g1 (by rfl)) ?_
    refine Eq.trans (hop_eq (by rfl)) ?_; refine Eq.trans (pl_int (by rfl)) ?_
    refine Eq.trans (ix_lst (by omega) g2 (by rfl)) ?_
    refine Eq.trans (hop_eq (by rfl)) ?_; refine Eq.trans (pl_int (by rfl)) ?_
    obtain ⟨t, ht⟩ : ∃ t, t = x[i] + y[i] + c := ⟨_, rfl⟩
    have ew : IntKind.wrap .i64 ((IntKind.wrap .i64 (x[i] + y[i])) + c) = t := by rw [i64w, i64w]; omega
    have e1 : Int.tmod t 2 = t % 2 := Int.tmod_eq_emod_of_nonneg (by omega)
    have e2 : Int.tdiv t 2 = t / 2 := Int.tdiv_eq_ediv_of_nonneg (by omega)
    have e3 : IntKind.wrap .i64 (t / 2) = t / 2 := i64_small (by omega) (by omega)
    rw [ew, e1, e2, e3]
    obtain ⟨v', H', e, ho', hn', hl', hk⟩ := app_one (x := .int .i64 (t % 2)) ho (by rfl) (by rw [iv_len, lo]; change (i + 1) * 8 ≤ _; omega) (by rw [iv_len, lo]; omega)
    rw [e, wrap_succ i (by omega)]
    refine ih (i + 1) f H' v' (out ++ [t % 2]) (t / 2) (by omega) (by omega) (by simp [lo]) (bits_app.mpr ⟨ob, by intro z hz; simp at hz; omega⟩) (by omega) ?_ (hk 2 _ hn h2) (by rw [iv_app]; exact ho') (fun hc => by have := hn' 2 hc; omega) (by omega)
    rw [bin_app, lo, bin_take i1, bin_take i2, Int.pow_succ]
    simp only [bin]
    have e4 : t = t % 2 + 2 * (t / 2) := by omega
    have : bin out + 2 ^ i * (t % 2 + 2 * 0) + 2 ^ i * 2 * (t / 2) = bin out + 2 ^ i * (t % 2 + 2 * (t / 2)) := by grind
    rw [this, ← e4, ht]
    grind
theorem s37 (d : Nat) (a b : Int) : pcall M (d + 2) 37 [wd a, wd b] = some (wd (a + b)) := told (q37 (d + 1) _ _ _ _) (by
  refine Eq.trans (hop_eq (by rfl)) ?_; refine Eq.trans (hop_eq (by rfl)) ?_; refine Eq.trans (hop_eq (by rfl)) ?_; refine Eq.trans (hop_eq (by rfl)) ?_; refine Eq.trans (pl_agg (by rfl) (by rfl)) ?_; refine Eq.trans (pl_int (by rfl)) ?_; refine Eq.trans (pl_int (by rfl)) ?_
  refine Eq.trans (pl_any (s45 d a)) ?_
  refine Eq.trans (hop_eq (by rfl)) ?_; refine Eq.trans (pl_agg (by rfl) (by rfl)) ?_; refine Eq.trans (pl_int (by rfl)) ?_; refine Eq.trans (pl_int (by rfl)) ?_
  refine Eq.trans (pl_any (s45 d b)) ?_
  have := plus1 d (wbits a) (wbits b) (wbits_bits a) (wbits_bits b) (wbits_len a) (wbits_len b) 128 0 1000000000000000000
    [some ⟨E43, [wd a]⟩, some ⟨E43, [wd b]⟩, some ⟨E43, [wd 0]⟩] (.zsl true) [] 0 (by omega) (by omega) rfl (by intro z hz; cases hz) (.inl rfl) (by simp [bin]) rfl (.inl ⟨rfl, _, rfl⟩) (by rintro ⟨o, m, h⟩; cases h) (by simp)
  refine this.trans ?_
  rw [bin_wbits, bin_wbits, wd_congr (a := a + b) (b := a % 340282366920938463463374607431768211456 + b % 340282366920938463463374607431768211456) (by omega)])

theorem s36 (d : Nat) (x : Int) (h : -9223372036854775808 ≤ x) (h' : x < 9223372036854775808) : pcall M (d + 1) 36 [.int .i64 x] = some (wd x) := told (r36 C0 d x) (by
  have e2 : IntKind.wrap .u64 x = low x := by unfold low; rw [u64w]
  rw [e2]
  by_cases hx : x < 0
  · rw [decide_eq_true hx, cnd_t, wd, show hiw x = -1 by unfold hiw; rw [i64w]; omega]
  · rw [decide_eq_false hx, cnd_f, wd, show hiw x = 0 by unfold hiw; rw [i64w]; omega])
theorem bits_not_i64 (x : Int) (h : -9223372036854775808 ≤ x) (h' : x < 9223372036854775808) : Go.bits .xor .i64 (-1) x = -1 - x := by
  show IntKind.i64.wrap ((BitVec.ofInt 64 (-1) ^^^ BitVec.ofInt 64 x).toNat : Int) = _
  rw [show BitVec.ofInt 64 (-1) = BitVec.allOnes 64 by decide, BitVec.allOnes_xor, BitVec.toNat_not, i64w, BitVec.toNat_ofInt]
  have : ((2 ^ 64 : Nat) : Int) = 18446744073709551616 := by decide
  rw [this]
  omega
theorem bits_not_u64 (x : Int) (h : 0 ≤ x) (h' : x < 18446744073709551616) : Go.bits .xor .u64 18446744073709551615 x = 18446744073709551615 - x := by
  show IntKind.u64.wrap ((BitVec.ofInt 64 18446744073709551615 ^^^ BitVec.ofInt 64 x).toNat : Int) = _
  rw [show BitVec.ofInt 64 18446744073709551615 = BitVec.allOnes 64 by decide, BitVec.allOnes_xor, BitVec.toNat_not, u64w, BitVec.toNat_ofInt]
  have : ((2 ^ 64 : Nat) : Int) = 18446744073709551616 := by decide
  rw [this]
  omega
theorem hiw_rng (n : Int) : -9223372036854775808 ≤ hiw n ∧ hiw n < 9223372036854775808 := by unfold hiw; rw [i64w]; omega
theorem s38 (d : Nat) (n : Int) : pcall M (d + 3) 38 [wd n] = some (wd (-n)) := told (r38 C0 (d + 2) _ _) (by
  have r1 := hiw_rng n
  have r2 := low_rng n
  rw [if_pos rfl, if_neg (by decide), bits_not_i64 _ r1.1 r1.2, show IntKind.max .u64 = 18446744073709551615 by decide, bits_not_u64 _ r2.1 r2.2]
  have e : (.agg [.int .i64 (-1 - hiw n), .int .u64 (18446744073709551615 - low n)] : AV) = wd (-1 - n) := by
    rw [wd, show -1 - hiw n = hiw (-1 - n) by unfold hiw; rw [i64w, i64w]; omega, show 18446744073709551615 - low n = low (-1 - n) by unfold low; omega]
  have e1 : (.agg [.int .i64 0, .int .u64 1] : AV) = wd 1 := by rfl
  rw [e, e1, s37]
  refine Eq.trans (pl_agg (by rfl) (by rfl)) ?_; refine Eq.trans (pl_int (by rfl)) ?_; refine Eq.trans (pl_int (by rfl)) ?_
  rw [show -1 - n + 1 = -n by omega])
theorem mod_succ (n : Int) (i : Nat) : n % 2 ^ (i + 1) = n % 2 ^ i + 2 ^ i * (n / 2 ^ i % 2) := by
  have := congrArg bin (bitl_snoc n i)
  rw [bin_app, bin_bitl, bin_bitl, bitl_len] at this
  simpa [bin] using this
theorem and1 {x : Int} {i : Nat} (hi : i < 64) (h : 0 ≤ x) (h' : x < 18446744073709551616) : bits .and .u64 (Int.fdiv x (2 ^ (min (Int.toNat (i : Int)) 64))) 1 = x / 2 ^ i % 2 := by
  rw [show min (Int.toNat (i : Int)) 64 = i by omega, Int.fdiv_eq_ediv_of_nonneg _ (Int.le_of_lt (pow64 i hi).1)]
  have hp := pow64 i hi
  have h1 : 0 ≤ x / 2 ^ i := Int.ediv_nonneg h (by omega)
  have h2 : x / 2 ^ i < 18446744073709551616 := Int.lt_of_le_of_lt (Int.ediv_le_self _ h) h'
  have := u64_mask 1 (by decide) h1 h2
  rwa [show ((2 : Int) ^ 1 - 1) = 1 by decide, show ((2 : Int) ^ 1) = 2 by decide] at this
theorem mul1 (d : Nat) (a b : Int) (hb : -9223372036854775808 ≤ b) (hb' : b < 9223372036854775808) : ∀ (k i f : Nat), i + k = 64 → k < f →
    L26_0 (d + 3) b (.ptr 0 0 0) (.ptr 1 0 0) (.ptr 2 0 0) f (i : Nat) [some ⟨E43, [wd 0]⟩, some ⟨E43, [wd (a * 2 ^ i)]⟩, some ⟨E43, [wd (a * (b % 18446744073709551616 % 2 ^ i))]⟩] = some (wd (a * b)) := by
  intro k
  induction k with
  | zero =>
    intro i f hi hf
    obtain ⟨f, rfl⟩ : ∃ g, f = g + 1 := ⟨f - 1, by omega⟩
    obtain rfl : i = 64 := by omega
    have e2 : (2 : Int) ^ 64 = 18446744073709551616 := by decide
    rw [L26_0, decide_eq_false (by omega), cnd_f, X26_0_0, e2]
    by_cases h : b < 0
    · rw [decide_eq_true h, cnd_t]
      refine Eq.trans (hop_eq (by rfl)) ?_; refine Eq.trans (pl_agg (by rfl) (by rfl)) ?_; refine Eq.trans (pl_int (by rfl)) ?_; refine Eq.trans (pl_int (by rfl)) ?_; refine Eq.trans (hop_eq (by rfl)) ?_; refine Eq.trans (pl_agg (by rfl) (by rfl)) ?_; refine Eq.trans (pl_int (by rfl)) ?_; refine Eq.trans (pl_int (by rfl)) ?_
      refine Eq.trans (pl_agg (s38 d _) (by rfl)) ?_
      refine Eq.trans (pl_int (by rfl)) ?_; refine Eq.trans (pl_int (by rfl)) ?_
      refine Eq.trans (pl_agg (s37 (d + 1) _ _) (by rfl)) ?_
      refine Eq.trans (pl_int (by rfl)) ?_; refine Eq.trans (pl_int (by rfl)) ?_; refine Eq.trans (hop_eq (by rfl)) ?_; refine Eq.trans (hop_eq (by rfl)) ?_; refine Eq.trans (pl_agg (by rfl) (by rfl)) ?_; refine Eq.trans (pl_int (by rfl)) ?_; refine Eq.trans (pl_int (by rfl)) ?_; refine Eq.trans (hop_eq (by rfl)) ?_; refine Eq.trans (hop_eq (by rfl)) ?_
      have e3 : a * (b % 18446744073709551616 % 18446744073709551616) + -(a * 18446744073709551616) = a * b := by
        rw [show b % 18446744073709551616 % 18446744073709551616 = b + 18446744073709551616 by omega]; grind
      rw [← e3]; rfl
    · rw [decide_eq_false h, cnd_f]
      refine Eq.trans (hop_eq (by rfl)) ?_; refine Eq.trans (pl_agg (by rfl) (by rfl)) ?_; refine Eq.trans (pl_int (by rfl)) ?_; refine Eq.trans (pl_int (by rfl)) ?_; refine Eq.trans (hop_eq (by rfl)) ?_; refine Eq.trans (hop_eq (by rfl)) ?_
      have e3 : a * (b % 18446744073709551616 % 18446744073709551616) = a * b := by rw [show b % 18446744073709551616 % 18446744073709551616 = b by omega]
      rw [← e3]; rfl
  | succ k ih =>
    intro i f hi hf
    obtain ⟨f, rfl⟩ : ∃ g, f = g + 1 := ⟨f - 1, by omega⟩
    have IH := ih (i + 1) f (by omega) (by omega)
    rw [mod_succ] at IH
    have px : a * 2 ^ (i + 1) = a * 2 ^ i + a * 2 ^ i := by rw [Int.pow_succ]; grind
    rw [px] at IH
    rw [L26_0, decide_eq_true (by omega), cnd_t, decide_eq_false (by omega), cnd_f, u64w, and1 (by omega) (by omega) (by omega)]
    rcases (show b % 18446744073709551616 / 2 ^ i % 2 = 0 ∨ b % 18446744073709551616 / 2 ^ i % 2 = 1 by omega) with h | h
    · rw [h] at IH ⊢
      refine Eq.trans (pl_f (by rfl)) ?_
      refine Eq.trans (hop_eq (by rfl)) ?_; refine Eq.trans (pl_agg (by rfl) (by rfl)) ?_; refine Eq.trans (pl_int (by rfl)) ?_; refine Eq.trans (pl_int (by rfl)) ?_; refine Eq.trans (hop_eq (by rfl)) ?_; refine Eq.trans (pl_agg (by rfl) (by rfl)) ?_; refine Eq.trans (pl_int (by rfl)) ?_; refine Eq.trans (pl_int (by rfl)) ?_
      refine Eq.trans (pl_agg (s37 (d + 1) _ _) (by rfl)) ?_
      refine Eq.trans (pl_int (by rfl)) ?_; refine Eq.trans (pl_int (by rfl)) ?_; refine Eq.trans (hop_eq (by rfl)) ?_
      rw [wrap_succ i (by omega)]
      rw [Int.mul_zero, Int.add_zero] at IH
      exact IH
    · rw [h] at IH ⊢
      refine Eq.trans (pl_len (by rfl)) ?_; refine Eq.trans (hop_eq (by rfl)) ?_; refine Eq.trans (pl_agg (by rfl) (by rfl)) ?_; refine Eq.trans (pl_int (by rfl)) ?_; refine Eq.trans (pl_int (by rfl)) ?_; refine Eq.trans (hop_eq (by rfl)) ?_; refine Eq.trans (pl_agg (by rfl) (by rfl)) ?_; refine Eq.trans (pl_int (by rfl)) ?_; refine Eq.trans (pl_int (by rfl)) ?_
      refine Eq.trans (pl_agg (s37 (d + 1) _ _) (by rfl)) ?_
      refine Eq.trans (pl_int (by rfl)) ?_; refine Eq.trans (pl_int (by rfl)) ?_; refine Eq.trans (hop_eq (by rfl)) ?_; refine Eq.trans (hop_eq (by rfl)) ?_; refine Eq.trans (pl_agg (by rfl) (by rfl)) ?_; refine Eq.trans (pl_int (by rfl)) ?_; refine Eq.trans (pl_int (by rfl)) ?_; refine Eq.trans (hop_eq (by rfl)) ?_; refine Eq.trans (pl_agg (by rfl) (by rfl)) ?_; refine Eq.trans (pl_int (by rfl)) ?_; refine Eq.trans (pl_int (by rfl)) ?_
      refine Eq.trans (pl_agg (s37 (d + 1) _ _) (by rfl)) ?_
      refine Eq.trans (pl_int (by rfl)) ?_; refine Eq.trans (pl_int (by rfl)) ?_; refine Eq.trans (hop_eq (by rfl)) ?_
      rw [wrap_succ i (by omega)]
      rw [Int.mul_one, Int.mul_add] at IH
      exact IH
theorem s26 (d : Nat) (a b : Int) (ha : -9223372036854775808 ≤ a) (ha' : a < 9223372036854775808) (hb : -9223372036854775808 ≤ b) (hb' : b < 9223372036854775808) :
    pcall M (d + 4) 26 [.int .i64 a, .int .i64 b] = some (wd (a * b)) := told (q26 (d + 3) _ _) (by
  refine Eq.trans (hop_eq (by rfl)) ?_
  refine Eq.trans (pl_agg (s36 (d + 2) a ha ha') (by rfl)) ?_
  refine Eq.trans (pl_int (by rfl)) ?_; refine Eq.trans (pl_int (by rfl)) ?_; refine Eq.trans (hop_eq (by rfl)) ?_; refine Eq.trans (hop_eq (by rfl)) ?_; refine Eq.trans (hop_eq (by rfl)) ?_; refine Eq.trans (hop_eq (by rfl)) ?_
  have := mul1 d a b hb hb' 64 0 1000000000000000000 (by omega) (by omega)
  have e : b % 18446744073709551616 % 2 ^ 0 = 0 := by rw [show (2 : Int) ^ 0 = 1 from rfl, Int.emod_one]
  rw [e, show a * 2 ^ 0 = a by rw [show (2 : Int) ^ 0 = 1 from rfl, Int.mul_one], Int.mul_zero] at this
  exact this)
theorem s25 (d : Nat) (a b : Int) (ha : -170141183460469231731687303715884105728 ≤ a) (ha' : a < 170141183460469231731687303715884105728) (hb : -170141183460469231731687303715884105728 ≤ b) (hb' : b < 170141183460469231731687303715884105728) :
    pcall M (d + 1) 25 [wd a, wd b] = some (.int .i64 (cmp a b)) := told (r25 C0 d _ _ _ _) (by
  have e1 : hiw a = a / 18446744073709551616 := by unfold hiw; rw [i64_small (by omega) (by omega)]
  have e2 : hiw b = b / 18446744073709551616 := by unfold hiw; rw [i64_small (by omega) (by omega)]
  rw [e1, e2]
  unfold low cmp
  by_cases c1 : a / 18446744073709551616 < b / 18446744073709551616
  · rw [decide_eq_true c1, cnd_t, if_pos (by omega)]
  · rw [decide_eq_false c1, cnd_f]
    by_cases c2 : a / 18446744073709551616 = b / 18446744073709551616
    · rw [show (a / 18446744073709551616 == b / 18446744073709551616) = true by simp [c2], cnd_t]
      by_cases c3 : a % 18446744073709551616 < b % 18446744073709551616
      · rw [decide_eq_true c3, cnd_t, if_pos (by omega)]
      · rw [decide_eq_false c3, cnd_f]
        by_cases c4 : a % 18446744073709551616 = b % 18446744073709551616
        · rw [show (a % 18446744073709551616 == b % 18446744073709551616) = true by simp [c4], if_neg (by omega), if_neg (by omega)]; rfl
        · rw [show (a % 18446744073709551616 == b % 18446744073709551616) = false by simp [c4], if_neg (by omega), if_pos (by omega)]; rfl
    · rw [show (a / 18446744073709551616 == b / 18446744073709551616) = false by simp [c2], cnd_f, if_neg (by omega), if_pos (by omega)]; rfl)
end Go.Proofs.Ytbcbaidnamebkaa.AE
