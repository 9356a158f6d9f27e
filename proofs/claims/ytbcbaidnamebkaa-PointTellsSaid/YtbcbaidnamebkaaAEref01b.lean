/- The document's numbers of 128 bits: sums, the other sign, products, which one is greater. No conditions. -/
import Derived.Test.YtbcbaidnamebkaaAEref01a
namespace Go.Proofs.Ytbcbaidnamebkaa.AE
set_option linter.unusedVariables false
set_option linter.unusedSimpArgs false
set_option linter.constructorNameAsVariable false
open Go

theorem bitl_range (m : Int) (k : Nat) : bitl m k = (List.range k).map fun j => m / 2 ^ j % 2 := by
  induction k with
  | zero => rfl
  | succ k ih => rw [bitl_snoc, ih, List.range_succ, List.map_append]; rfl
def wbits (n : Int) : List Int := bitl (low n) 64 ++ bitl (n / 18446744073709551616 % 18446744073709551616) 64
theorem wbits_len (n : Int) : (wbits n).length = 128 := by simp [wbits, bitl_len]
theorem wbits_bits (n : Int) : Bits (wbits n) := bits_app.mpr ⟨bitl_bits _ _, bitl_bits _ _⟩
theorem bin_wbits (n : Int) : bin (wbits n) = n % 340282366920938463463374607431768211456 := by
  unfold wbits; rw [bin_app, bin_bitl, bin_bitl, bitl_len]
  have e : (2 : Int) ^ 64 = 18446744073709551616 := by decide
  rw [e]; unfold low; omega
theorem bits0 (d : Nat) (n : Int) : ∀ (k i f : Nat) (H : Heap) (v : AV), i + k = 64 → k < f → hget H 0 = some ⟨E43, [wd n]⟩ → Own H E3 v (iv (bitl (low n) i)) → ¬ names v 0 →
    L45_0 d (.ptr 0 0 0) f v (i : Nat) H = some (.lst (iv (wbits n))) := by
  intro k
  induction k with
  | zero =>
    intro i f H v hi hf h0 ho hn
    obtain ⟨f, rfl⟩ : ∃ g, f = g + 1 := ⟨f - 1, by omega⟩
    obtain rfl : i = 64 := by omega
    rw [L45_0, decide_eq_false (by omega), cnd_f, X45_0_0]
    have := bits1 d n 64 0 1000000000000000000 H v _ (by omega) (by omega) (by simp [bitl_len]) h0 ho hn
    simp only [Nat.zero_add, ← bitl_range] at this
    exact this
  | succ k ih =>
    intro i f H v hi hf h0 ho hn
    obtain ⟨f, rfl⟩ : ∃ g, f = g + 1 := ⟨f - 1, by omega⟩
    have l0 := low_rng n
    rw [L45_0, decide_eq_true (by omega), cnd_t, sh_ptr, ld_ptr h0 (by rfl) (by rfl), C0_int, decide_eq_false (by omega), cnd_f, shr1 (by omega) l0.1 l0.2]
    obtain ⟨v', H', e, ho', hn', _, hk⟩ := app_one (x := .int .i64 (low n / 2 ^ i % 2)) ho (by rfl) (by rw [iv_len, bitl_len]; change (i + 1) * 8 ≤ _; omega) (by rw [iv_len, bitl_len]; omega)
    rw [e, wrap_succ i (by omega), ih (i + 1) f H' v' (by omega) (by omega) (hk 0 _ hn h0) (by rw [bitl_snoc, iv_app]; exact ho') (fun hc => by have := hn' 0 hc; omega)]
theorem s45 (d : Nat) (n : Int) : pcall M (d + 1) 45 [wd n] = some (.lst (iv (wbits n))) := told (q45 d _ _) (by
  refine Eq.trans (hop_eq (by rfl)) ?_
  exact bits0 d n 64 0 1000000000000000000 _ _ (by omega) (by omega) rfl (.inl ⟨rfl, _, rfl⟩) (by rintro ⟨o, m, h⟩; cases h))

theorem bin_take {l : List Int} {i : Nat} (h : i < l.length) : bin (l.take (i + 1)) = bin (l.take i) + 2 ^ i * l[i] := by
  rw [List.take_succ_eq_append_getElem h, bin_app]
  simp [bin, List.length_take, Nat.min_eq_left (Nat.le_of_lt h)]
theorem wd_congr {a b : Int} (h : a % 340282366920938463463374607431768211456 = b % 340282366920938463463374607431768211456) : wd a = wd b := by
  have e1 : hiw a = hiw b := by unfold hiw; rw [i64w, i64w]; omega
  have e2 : low a = low b := by unfold low; omega
  rw [wd, wd, e1, e2]
theorem take_bits {l : List Int} (h : Bits l) (i : Nat) : Bits (l.take i) := fun x hx => h x (List.mem_of_mem_take hx)
theorem drop_bits {l : List Int} (h : Bits l) (i : Nat) : Bits (l.drop i) := fun x hx => h x (List.mem_of_mem_drop hx)
theorem bin_lt {l : List Int} (h : Bits l) {i : Nat} (hi : i ≤ l.length) : 0 ≤ bin (l.take i) ∧ bin (l.take i) < 2 ^ i := by
  have := bin_nonneg (take_bits h i)
  rwa [List.length_take, Nat.min_eq_left hi] at this
theorem shl1 {i : Nat} (hi : i < 64) : IntKind.wrap .u64 (1 * (2 ^ (min (Int.toNat (i : Int)) 64))) = 2 ^ i := by
  rw [show min (Int.toNat (i : Int)) 64 = i by omega, Int.one_mul]
  exact u64_small (Int.le_of_lt (pow64 i hi).1) (pow64 i hi).2
theorem value1 (d : Nat) (l : List Int) (hb : Bits l) (hl : l.length = 128) : ∀ (k i f : Nat), i + k = 64 → k < f →
    L46_0 d (iv l) (.ptr 0 0 0) (.ptr 1 0 0) f (bin ((l.drop 64).take i)) (i : Nat) [some ⟨E43, [wd 0]⟩, some ⟨E43, [.agg [.int .i64 0, .int .u64 (bin (l.take i))]]⟩] = some (wd (bin l)) := by
  intro k
  induction k with
  | zero =>
    intro i f hi hf
    obtain ⟨f, rfl⟩ : ∃ g, f = g + 1 := ⟨f - 1, by omega⟩
    obtain rfl : i = 64 := by omega
    rw [L46_0, decide_eq_false (by omega), cnd_f, X46_0_0]
    have b1 := bin_lt hb (i := 64) (by omega)
    have e0 : (l.drop 64).take 64 = l.drop 64 := List.take_of_length_le (by simp; omega)
    have e1 : bin l = bin (l.take 64) + 2 ^ 64 * bin (l.drop 64) := by
      have := bin_app (l.take 64) (l.drop 64)
      rw [List.take_append_drop, List.length_take, Nat.min_eq_left (by omega)] at this
      exact this
    have e2 : (2 : Int) ^ 64 = 18446744073709551616 := by decide
    rw [e2] at b1 e1
    have h1 : hiw (bin l) = IntKind.wrap .i64 (bin (l.drop 64)) := by unfold hiw; rw [e1]; congr 1; omega
    have h2 : low (bin l) = bin (l.take 64) := by unfold low; omega
    have hwd : wd (bin l) = .agg [.int .i64 (IntKind.wrap .i64 (bin (l.drop 64))), .int .u64 (bin (l.take 64))] := by rw [wd, h1, h2]
    rw [hwd, e0]
    refine Eq.trans (hop_eq (by rfl)) ?_; refine Eq.trans (hop_eq (by rfl)) ?_; refine Eq.trans (hop_eq (by rfl)) ?_; refine Eq.trans (pl_agg (by rfl) (by rfl)) ?_; refine Eq.trans (pl_int (by rfl)) ?_; refine Eq.trans (pl_int (by rfl)) ?_; refine Eq.trans (hop_eq (by rfl)) ?_; refine Eq.trans (hop_eq (by rfl)) ?_
    rfl
  | succ k ih =>
    intro i f hi hf
    obtain ⟨f, rfl⟩ : ∃ g, f = g + 1 := ⟨f - 1, by omega⟩
    have i1 : i < l.length := by omega
    have i2 : i < (l.drop 64).length := by simp; omega
    have g1 : (iv l)[((i : Nat) : Int).toNat]? = some (.int .i64 l[i]) := by rw [iv_at]; simp [i1]
    have g2 : (iv l)[(IntKind.wrap .i64 (64 + (i : Int))).toNat]? = some (.int .i64 (l.drop 64)[i]) := by
      have : (IntKind.wrap .i64 (64 + (i : Int))).toNat = 64 + i := by rw [i64w]; omega
      rw [this, iv_at]; simp [List.getElem?_eq_getElem (show 64 + i < l.length by omega)]
    have w0 : 0 ≤ IntKind.wrap .i64 (64 + (i : Int)) := by rw [i64w]; omega
    have b1 := bin_lt hb (i := i) (by omega)
    have b2 := bin_lt (drop_bits hb 64) (i := i) (by simp; omega)
    have IH := ih (i + 1) f (by omega) (by omega)
    rw [bin_take i1, bin_take i2] at IH
    rw [L46_0, decide_eq_true (by omega), cnd_t]
    refine Eq.trans (ix_lst (by omega) g1 (by rfl)) ?_
    refine Eq.trans (hop_eq (by rfl)) ?_; refine Eq.trans (pl_int (by rfl)) ?_
    have c0 : ∀ i : Nat, decide ((i : Int) < 0) = false := fun i => decide_eq_false (by omega)
    rcases hb l[i] (List.getElem_mem _) with x0 | x0 <;> rcases drop_bits hb 64 (l.drop 64)[i] (List.getElem_mem _) with y0 | y0
    all_goals rw [x0] ; rw [y0] at g2
    · rw [x0, y0] at IH
      refine Eq.trans (pl_f (by rfl)) ?_
      refine Eq.trans (ix_lst w0 g2 (by rfl)) ?_
      refine Eq.trans (hop_eq (by rfl)) ?_; refine Eq.trans (pl_int (by rfl)) ?_
      refine Eq.trans (pl_f (by rfl)) ?_
      rw [wrap_succ i (by omega)]
      simpa using IH
    · rw [x0, y0] at IH
      refine Eq.trans (pl_f (by rfl)) ?_
      refine Eq.trans (ix_lst w0 g2 (by rfl)) ?_
      refine Eq.trans (hop_eq (by rfl)) ?_; refine Eq.trans (pl_int (by rfl)) ?_; refine Eq.trans (pl_len (by rfl)) ?_
      rw [c0, cnd_f, wrap_succ i (by omega), shl1 (by omega), u64_or_pow (by omega) b2.1 b2.2]
      simpa using IH
    · rw [x0, y0] at IH
      refine Eq.trans (pl_len (by rfl)) ?_; refine Eq.trans (hop_eq (by rfl)) ?_; refine Eq.trans (hop_eq (by rfl)) ?_; refine Eq.trans (pl_int (by rfl)) ?_
      rw [c0, cnd_f, shl1 (by omega), u64_or_pow (by omega) b1.1 b1.2]
      refine Eq.trans (hop_eq (by rfl)) ?_; refine Eq.trans (hop_eq (by rfl)) ?_
      refine Eq.trans (ix_lst w0 g2 (by rfl)) ?_
      refine Eq.trans (hop_eq (by rfl)) ?_; refine Eq.trans (pl_int (by rfl)) ?_
      refine Eq.trans (pl_f (by rfl)) ?_
      rw [wrap_succ i (by omega)]
      simp only [Int.mul_one, Int.mul_zero, Int.add_zero] at IH
      exact IH
    · rw [x0, y0] at IH
      refine Eq.trans (pl_len (by rfl)) ?_; refine Eq.trans (hop_eq (by rfl)) ?_; refine Eq.trans (hop_eq (by rfl)) ?_; refine Eq.trans (pl_int (by rfl)) ?_
      rw [c0, cnd_f, shl1 (by omega), u64_or_pow (by omega) b1.1 b1.2]
      refine Eq.trans (hop_eq (by rfl)) ?_; refine Eq.trans (hop_eq (by rfl)) ?_
      refine Eq.trans (ix_lst w0 g2 (by rfl)) ?_
      refine Eq.trans (hop_eq (by rfl)) ?_; refine Eq.trans (pl_int (by rfl)) ?_; refine Eq.trans (pl_len (by rfl)) ?_
      rw [cnd_f, wrap_succ i (by omega), u64_or_pow (by omega) b2.1 b2.2]
      simp only [Int.mul_one] at IH
      exact IH
theorem s46 (d : Nat) (l : List Int) (hb : Bits l) (hl : l.length = 128) : pcall M (d + 1) 46 [.lst (iv l)] = some (wd (bin l)) := told (q46 d _) (by
  refine Eq.trans (hop_eq (by rfl)) ?_; refine Eq.trans (hop_eq (by rfl)) ?_; refine Eq.trans (hop_eq (by rfl)) ?_
  have := value1 d l hb hl 64 0 1000000000000000000 (by omega) (by omega)
  simp only [List.take_zero, bin] at this
  exact this)
end Go.Proofs.Ytbcbaidnamebkaa.AE
