/- The document's numbers of 128 bits, bit by bit: sums, the other sign, products are those of whole numbers. -/
import Derived.Test.YtejiaiincdamkaaPFallTellsx
namespace Go.Proofs.Ytejiaiincdamkaa.PFallTells
open Go.RowKit Go.Proofs.YtejiaiincdamkaaW.PrintWords Go.Proofs.YtejiaiincdamkaaW.PrintLast

theorem r_u64 {n : Int} (h : 0 ≤ n) (h' : n < 18446744073709551616) : IntKind.u64.wrap n = n := by rw [u64w]; omega
theorem r_w64 {n : Int} (h : -9223372036854775808 ≤ n) (h' : n < 9223372036854775808) : wrap64 n = n := by unfold wrap64; omega
theorem u64_nat (a b : Nat) (ha : a < 2 ^ 64) (hb : b < 2 ^ 64) : Go.bits .and .u64 (a : Int) (b : Int) = ((a &&& b : Nat) : Int) ∧ Go.bits .or .u64 (a : Int) (b : Int) = ((a ||| b : Nat) : Int) :=
  bits_nat .u64 64 (by decide) (fun n h0 h1 => r_u64 h0 (by simpa using h1)) a b ha hb

/-- The bits of a number, the least first. -/
def bl (n k : Nat) : List Int := (List.range k).map fun i => ((n / 2 ^ i % 2 : Nat) : Int)
theorem bl_len (n k : Nat) : (bl n k).length = k := by simp [bl]
theorem bl_snoc (n k : Nat) : bl n (k + 1) = bl n k ++ [((n / 2 ^ k % 2 : Nat) : Int)] := by simp [bl, List.range_succ]
theorem bl_get (n k i : Nat) (h : i < k) : rd (bl n k) (i : Int) = ((n / 2 ^ i % 2 : Nat) : Int) := by
  unfold rd bl; rw [Int.toNat_natCast, List.getD_eq_getElem?_getD]; simp [h]
theorem shr_nat (n i : Nat) (hi : i ≤ 64) : shr .u64 (n : Int) (i : Int) = ((n / 2 ^ i : Nat) : Int) := by
  unfold shr
  rw [Int.toNat_natCast, show min i (IntKind.bits .u64) = i from Nat.min_eq_left hi]
  exact_mod_cast rfl
theorem bit_nat (n i : Nat) (hi : i ≤ 64) (hn : n < 2 ^ 64) : wrap64 (Go.bits .and .u64 (shr .u64 (n : Int) (i : Int)) 1) = ((n / 2 ^ i % 2 : Nat) : Int) := by
  rw [shr_nat n i hi]
  have h1 : n / 2 ^ i < 2 ^ 64 := Nat.lt_of_le_of_lt (Nat.div_le_self _ _) hn
  have h2 := (u64_nat (n / 2 ^ i) 1 h1 (by decide)).1
  rw [show ((1 : Nat) : Int) = 1 from rfl] at h2
  rw [h2, Nat.and_one_is_mod]
  exact r_w64 (by omega) (by omega)

theorem bits_l1 (hi : Int) (H : Nat) (hH : IntKind.u64.wrap hi = (H : Int)) (hlt : H < 2 ^ 64) (lo : Int) (d : Nat) :
    ∀ (k i : Nat) (x : List Int), i + d = 64 → d < k → x.length = 64 + i → apogeeref01_bits.l1 k (x ++ []) (i : Int) hi lo = some (x ++ (bl H 64).drop i) := by
  induction d with
  | zero =>
    intro k i x hd hk hx
    obtain ⟨k, rfl⟩ : ∃ m, k = m + 1 := ⟨k - 1, by omega⟩
    obtain rfl : i = 64 := by omega
    simp only [apogeeref01_bits.l1]; rw [if_neg (by omega)]
    rw [List.drop_of_length_le (by rw [bl_len]; exact Nat.le_refl _)]
  | succ d ih =>
    intro k i x hd hk hx
    obtain ⟨k, rfl⟩ : ∃ m, k = m + 1 := ⟨k - 1, by omega⟩
    simp only [apogeeref01_bits.l1, List.append_nil]
    rw [if_pos (by omega), if_pos (by omega), if_pos (by omega), hH, bit_nat H i (by omega) hlt, r_w64 (by omega) (by omega)]
    have := ih k (i + 1) (x ++ [((H / 2 ^ i % 2 : Nat) : Int)]) (by omega) (by omega) (by simp [hx]; omega)
    rw [List.append_nil] at this
    rw [show ((i : Int) + 1) = ((i + 1 : Nat) : Int) by omega, this, List.append_assoc]
    congr 2
    have hg : i < (bl H 64).length := by rw [bl_len]; omega
    rw [List.drop_eq_getElem_cons hg]
    simp [bl]

theorem bits_l0 (hi : Int) (H L : Nat) (hH : IntKind.u64.wrap hi = (H : Int)) (hlt : H < 2 ^ 64) (hL : L < 2 ^ 64) (d : Nat) :
    ∀ (k i : Nat), i + d = 64 → d + 66 < k → apogeeref01_bits.l0 k (bl L i) (i : Int) hi (L : Int) = some (bl L 64 ++ bl H 64) := by
  induction d with
  | zero =>
    intro k i hd hk
    obtain ⟨k, rfl⟩ : ∃ m, k = m + 1 := ⟨k - 1, by omega⟩
    obtain rfl : i = 64 := by omega
    simp only [apogeeref01_bits.l0]; rw [if_neg (by omega)]
    have := bits_l1 hi H hH hlt (L : Int) 64 k 0 (bl L 64) (by omega) (by omega) (by rw [bl_len])
    simpa using this
  | succ d ih =>
    intro k i hd hk
    obtain ⟨k, rfl⟩ : ∃ m, k = m + 1 := ⟨k - 1, by omega⟩
    simp only [apogeeref01_bits.l0]
    rw [if_pos (by omega), if_pos (by omega), if_pos (by rw [bl_len]; omega), bit_nat L i (by omega) hL, r_w64 (by omega) (by omega), ← bl_snoc, show ((i : Int) + 1) = ((i + 1 : Nat) : Int) by omega]
    exact ih k (i + 1) (by omega) (by omega)

/-- A number of 128 bits, as a pair. -/
def hiw (v : Int) : Int := wrap64 (v / 18446744073709551616)
def low (v : Int) : Int := v % 18446744073709551616
/-- Its 128 bits as one number from 0 on. -/
def nat (v : Int) : Nat := (v % 340282366920938463463374607431768211456).toNat

theorem bl_join (v : Int) : bl (low v).toNat 64 ++ bl (IntKind.u64.wrap (hiw v)).toNat 64 = bl (nat v) 128 := by
  have e1 : (low v).toNat = nat v % 2 ^ 64 := by unfold low nat; omega
  have e2 : (IntKind.u64.wrap (hiw v)).toNat = nat v / 2 ^ 64 := by unfold hiw nat; rw [u64w]; unfold wrap64; omega
  rw [e1, e2]
  apply List.ext_getElem
  · simp [bl]
  · intro i h1 h2
    have hi : i < 128 := by simpa [bl] using h2
    rw [List.getElem_append]
    by_cases c : i < 64
    · rw [dif_pos (by rw [bl_len]; exact c)]
      simp only [bl, List.getElem_map, List.getElem_range]
      congr 1
      have : (2 : Nat) ^ 64 = 2 ^ i * 2 ^ (64 - i) := by rw [← Nat.pow_add]; congr 1; omega
      rw [this, Nat.mod_mul_right_div_self, Nat.mod_mod_of_dvd _ ⟨2 ^ (64 - i - 1), by rw [show 64 - i = (64 - i - 1) + 1 by omega, Nat.pow_succ]; simp [Nat.mul_comm]⟩]
    · rw [dif_neg (by rw [bl_len]; exact c)]
      simp only [bl, List.getElem_map, List.getElem_range, List.length_map, List.length_range]
      rw [Nat.div_div_eq_div_mul, ← Nat.pow_add, show 64 + (i - 64) = i by omega]

theorem bits_spec (k : Nat) (hk : 131 ≤ k) (v : Int) : apogeeref01_bits.f k (hiw v) (low v) = some (bl (nat v) 128) := by
  unfold apogeeref01_bits.f
  have hl : low v = ((low v).toNat : Int) := by unfold low; omega
  have h1 : (low v).toNat < 2 ^ 64 := by unfold low; omega
  have h2 : IntKind.u64.wrap (hiw v) = ((IntKind.u64.wrap (hiw v)).toNat : Int) := by rw [u64w]; omega
  have h3 : (IntKind.u64.wrap (hiw v)).toNat < 2 ^ 64 := by rw [u64w]; omega
  have := bits_l0 (hiw v) _ _ h2 h3 h1 64 k 0 (by omega) (by omega)
  rw [← hl, bl_join] at this
  exact this

theorem or_bit (x i : Nat) (hx : x < 2 ^ i) (hi : i < 64) : Go.bits .or .u64 (x : Int) (shl .u64 1 (i : Int)) = ((x + 2 ^ i : Nat) : Int) := by
  have hp : 2 ^ i < 2 ^ 64 := Nat.pow_lt_pow_right (by decide) hi
  have e : shl .u64 1 (i : Int) = ((2 ^ i : Nat) : Int) := by
    unfold shl
    rw [Int.toNat_natCast, show min i (IntKind.bits .u64) = i from Nat.min_eq_left (show i ≤ 64 by omega), Int.one_mul]
    rw [show ((2 : Int) ^ i) = ((2 ^ i : Nat) : Int) by exact_mod_cast rfl]
    exact r_u64 (by omega) (by omega)
  rw [e, (u64_nat x (2 ^ i) (by omega) hp).2]
  congr 1
  have := Nat.two_pow_add_eq_or_of_lt hx 1
  rw [Nat.mul_one] at this
  rw [Nat.or_comm, ← this, Nat.add_comm]

theorem mod_step (n i : Nat) : n % 2 ^ (i + 1) = n % 2 ^ i + (if n / 2 ^ i % 2 = 1 then 2 ^ i else 0) := by
  rw [Nat.pow_succ, Nat.mod_mul]
  rcases Nat.mod_two_eq_zero_or_one (n / 2 ^ i) with h | h <;> simp [h]

theorem value_l0 (V : Nat) (hV : V < 2 ^ 128) (d : Nat) : ∀ (k i : Nat), i + d = 64 → d < k →
    apogeeref01_value.l0 k (bl V 128) ((V / 2 ^ 64 % 2 ^ i : Nat) : Int) (i : Int) 0 ((V % 2 ^ i : Nat) : Int) = some (wrap64 ((V / 2 ^ 64 : Nat) : Int), ((V % 2 ^ 64 : Nat) : Int)) := by
  induction d with
  | zero =>
    intro k i hd hk
    obtain ⟨k, rfl⟩ : ∃ m, k = m + 1 := ⟨k - 1, by omega⟩
    obtain rfl : i = 64 := by omega
    simp only [apogeeref01_value.l0]; rw [if_neg (by omega)]
    rw [Nat.mod_eq_of_lt (show V / 2 ^ 64 < 2 ^ 64 by omega)]
  | succ d ih =>
    intro k i hd hk
    obtain ⟨k, rfl⟩ : ∃ m, k = m + 1 := ⟨k - 1, by omega⟩
    have e64 : wrap64 (64 + (i : Int)) = ((64 + i : Nat) : Int) := by rw [r_w64 (by omega) (by omega)]; omega
    have e1 : wrap64 ((i : Int) + 1) = ((i + 1 : Nat) : Int) := by rw [r_w64 (by omega) (by omega)]; omega
    have b1 : V % 2 ^ i < 2 ^ i := Nat.mod_lt _ (Nat.two_pow_pos i)
    have b2 : V / 2 ^ 64 % 2 ^ i < 2 ^ i := Nat.mod_lt _ (Nat.two_pow_pos i)
    have dd : V / 2 ^ (64 + i) = V / 2 ^ 64 / 2 ^ i := by rw [Nat.div_div_eq_div_mul, ← Nat.pow_add]
    have g1 := ih k (i + 1) (by omega) (by omega)
    rw [mod_step V i, mod_step (V / 2 ^ 64) i] at g1
    simp only [apogeeref01_value.l0]
    rw [if_pos (by omega), if_pos (by omega), if_pos (by rw [bl_len]; omega), e64, e1, bl_get V 128 i (by omega), bl_get V 128 (64 + i) (by omega), bl_len, dd, or_bit _ i b1 (by omega), or_bit _ i b2 (by omega)]
    by_cases c1 : V / 2 ^ i % 2 = 1
    · rw [if_pos (by omega), if_pos (by omega), if_pos (by omega)]
      rw [if_pos c1] at g1
      by_cases c2 : V / 2 ^ 64 / 2 ^ i % 2 = 1
      · rw [if_pos (by omega)]; rw [if_pos c2] at g1; exact g1
      · rw [if_neg (by omega)]; rw [if_neg c2] at g1; exact g1
    · rw [if_neg (by omega), if_pos (by omega), if_pos (by omega)]
      rw [if_neg c1] at g1
      by_cases c2 : V / 2 ^ 64 / 2 ^ i % 2 = 1
      · rw [if_pos (by omega)]; rw [if_pos c2] at g1; exact g1
      · rw [if_neg (by omega)]; rw [if_neg c2] at g1; exact g1

theorem carry_step (a b i : Nat) : (a % 2 ^ (i + 1) + b % 2 ^ (i + 1)) / 2 ^ (i + 1) = (a / 2 ^ i % 2 + b / 2 ^ i % 2 + (a % 2 ^ i + b % 2 ^ i) / 2 ^ i) / 2 ∧
    (a + b) / 2 ^ i % 2 = (a / 2 ^ i % 2 + b / 2 ^ i % 2 + (a % 2 ^ i + b % 2 ^ i) / 2 ^ i) % 2 := by
  have hp : 0 < 2 ^ i := Nat.two_pow_pos i
  have ea := Nat.div_add_mod a (2 ^ i)
  have eb := Nat.div_add_mod b (2 ^ i)
  constructor
  · rw [Nat.pow_succ, ← Nat.div_div_eq_div_mul, Nat.mod_mul, Nat.mod_mul]
    congr 1
    rw [show a % 2 ^ i + 2 ^ i * (a / 2 ^ i % 2) + (b % 2 ^ i + 2 ^ i * (b / 2 ^ i % 2)) = (a % 2 ^ i + b % 2 ^ i) + 2 ^ i * (a / 2 ^ i % 2 + b / 2 ^ i % 2) by rw [Nat.mul_add]; omega]
    rw [Nat.add_mul_div_left _ _ hp]; omega
  · have : (a + b) / 2 ^ i = (a / 2 ^ i + b / 2 ^ i) + (a % 2 ^ i + b % 2 ^ i) / 2 ^ i := by
      conv => lhs; rw [← ea, ← eb]
      rw [show 2 ^ i * (a / 2 ^ i) + a % 2 ^ i + (2 ^ i * (b / 2 ^ i) + b % 2 ^ i) = (a % 2 ^ i + b % 2 ^ i) + 2 ^ i * (a / 2 ^ i + b / 2 ^ i) by rw [Nat.mul_add]; omega]
      rw [Nat.add_mul_div_left _ _ hp]; omega
    rw [this]; omega

theorem bl_mod (n k : Nat) : bl (n % 2 ^ k) k = bl n k := by
  unfold bl
  apply List.map_congr_left
  intro i hi
  have hi : i < k := by simpa using hi
  congr 1
  have : (2 : Nat) ^ k = 2 ^ i * 2 ^ (k - i) := by rw [← Nat.pow_add]; congr 1; omega
  rw [this, Nat.mod_mul_right_div_self, Nat.mod_mod_of_dvd _ ⟨2 ^ (k - i - 1), by rw [show k - i = (k - i - 1) + 1 by omega, Nat.pow_succ]; simp [Nat.mul_comm]⟩]

theorem plus_l0 (a b : Nat) (d : Nat) : ∀ (k i : Nat), i + d = 128 → d + 70 < k →
    apogeeref01_plus.l0 k (bl a 128) (bl b 128) (bl (a + b) i) (((a % 2 ^ i + b % 2 ^ i) / 2 ^ i : Nat) : Int) (i : Int) = some (wrap64 (((a + b) % 2 ^ 128 / 2 ^ 64 : Nat) : Int), ((((a + b) % 2 ^ 128) % 2 ^ 64 : Nat) : Int)) := by
  induction d with
  | zero =>
    intro k i hd hk
    obtain ⟨k, rfl⟩ : ∃ m, k = m + 1 := ⟨k - 1, by omega⟩
    obtain rfl : i = 128 := by omega
    simp only [apogeeref01_plus.l0]; rw [if_neg (by omega)]
    unfold apogeeref01_value.f
    rw [← bl_mod]
    have := value_l0 ((a + b) % 2 ^ 128) (Nat.mod_lt _ (by decide)) 64 k 0 (by omega) (by omega)
    rw [show ((((a + b) % 2 ^ 128 / 2 ^ 64 % 2 ^ 0 : Nat)) : Int) = 0 by simp [Nat.mod_one], show ((((a + b) % 2 ^ 128 % 2 ^ 0 : Nat)) : Int) = 0 by simp [Nat.mod_one]] at this
    rw [show ((0 : Nat) : Int) = 0 from rfl] at this
    rw [this]; rfl
  | succ d ih =>
    intro k i hd hk
    obtain ⟨k, rfl⟩ : ∃ m, k = m + 1 := ⟨k - 1, by omega⟩
    have hp : 0 < 2 ^ i := Nat.two_pow_pos i
    have hc : (a % 2 ^ i + b % 2 ^ i) / 2 ^ i ≤ 1 := by
      have h1 := Nat.mod_lt a hp
      have h2 := Nat.mod_lt b hp
      have : (a % 2 ^ i + b % 2 ^ i) / 2 ^ i < 2 := by rw [Nat.div_lt_iff_lt_mul hp]; omega
      omega
    obtain ⟨c1, c2⟩ := carry_step a b i
    have g := ih k (i + 1) (by omega) (by omega)
    rw [bl_snoc (a + b) i, c2, c1] at g
    clear c1 c2
    have e1 : wrap64 ((i : Int) + 1) = ((i + 1 : Nat) : Int) := by rw [r_w64 (by omega) (by omega)]; omega
    simp only [apogeeref01_plus.l0]
    rw [if_pos (by omega), if_pos (by omega), if_pos (by rw [bl_len]; omega), if_pos (by rw [bl_len]; omega), if_pos (by rw [bl_len]; omega), bl_get a 128 i (by omega), bl_get b 128 i (by omega), e1]
    have hx : a / 2 ^ i % 2 ≤ 1 := Nat.le_of_lt_succ (Nat.mod_lt _ (by decide))
    have hy : b / 2 ^ i % 2 ≤ 1 := Nat.le_of_lt_succ (Nat.mod_lt _ (by decide))
    generalize a / 2 ^ i % 2 = x at *
    generalize b / 2 ^ i % 2 = y at *
    generalize (a % 2 ^ i + b % 2 ^ i) / 2 ^ i = c at *
    have hs : wrap64 (wrap64 ((x : Int) + (y : Int)) + (c : Int)) = ((x + y + c : Nat) : Int) := by
      rw [r_w64 (n := (x : Int) + (y : Int)) (by omega) (by omega), r_w64 (by omega) (by omega)]; omega
    rw [hs, Int.tmod_eq_emod_of_nonneg (by omega), Int.tdiv_eq_ediv_of_nonneg (by omega)]
    have hs3 : x + y + c ≤ 3 := by omega
    generalize x + y + c = s at *
    rw [show ((s : Int) % 2) = ((s % 2 : Nat) : Int) by omega, show ((s : Int) / 2) = ((s / 2 : Nat) : Int) by omega, r_w64 (n := ((s / 2 : Nat) : Int)) (by omega) (by omega)]
    exact g

/-- SUMS. -/
theorem plus_spec (k : Nat) (hk : 200 ≤ k) (a b : Int) : apogeeref01_plus.f k (hiw a) (low a) (hiw b) (low b) = some (hiw (a + b), low (a + b)) := by
  unfold apogeeref01_plus.f
  rw [bits_spec k (by omega) a, bits_spec k (by omega) b]
  simp only [Option.bind_some]
  have := plus_l0 (nat a) (nat b) 128 k 0 (by omega) (by omega)
  rw [show (((nat a % 2 ^ 0 + nat b % 2 ^ 0) / 2 ^ 0 : Nat) : Int) = 0 by simp [Nat.mod_one], show ((0 : Nat) : Int) = 0 from rfl, show bl (nat a + nat b) 0 = [] from rfl] at this
  rw [this]
  have e : (nat a + nat b) % 2 ^ 128 = nat (a + b) := by unfold nat; omega
  rw [e]
  refine congrArg some (Prod.ext ?_ ?_)
  · show wrap64 _ = hiw _; unfold hiw nat wrap64; omega
  · show ((nat (a + b) % 2 ^ 64 : Nat) : Int) = low (a + b); unfold nat low; omega

theorem of_spec (n : Int) (h : -9223372036854775808 ≤ n) (h' : n < 9223372036854775808) : apogeeref01_Of.f n = some (hiw n, low n) := by
  unfold apogeeref01_Of.f hiw low
  rw [u64w]
  by_cases c : n < 0
  · rw [if_pos c, show n / 18446744073709551616 = -1 by omega]; rw [r_w64 (by omega) (by omega)]
  · rw [if_neg c, show n / 18446744073709551616 = 0 by omega]; rw [r_w64 (by omega) (by omega)]

theorem xor_hi (x : Int) (h : -9223372036854775808 ≤ x) (h' : x < 9223372036854775808) : Go.bits .xor .i64 (-1) x = -1 - x := by
  show IntKind.i64.wrap ((BitVec.ofInt 64 (-1) ^^^ BitVec.ofInt 64 x).toNat : Int) = _
  have e : BitVec.ofInt 64 (-1) ^^^ BitVec.ofInt 64 x = ~~~ BitVec.ofInt 64 x := by
    rw [show BitVec.ofInt 64 (-1) = BitVec.allOnes 64 by decide, BitVec.allOnes_xor]
  rw [e, BitVec.toNat_not, i64w, BitVec.toNat_ofInt]; omega
theorem xor_lo (x : Int) (h : 0 ≤ x) (h' : x < 18446744073709551616) : Go.bits .xor .u64 18446744073709551615 x = 18446744073709551615 - x := by
  show IntKind.u64.wrap ((BitVec.ofInt 64 18446744073709551615 ^^^ BitVec.ofInt 64 x).toNat : Int) = _
  have e : BitVec.ofInt 64 18446744073709551615 ^^^ BitVec.ofInt 64 x = ~~~ BitVec.ofInt 64 x := by
    rw [show BitVec.ofInt 64 18446744073709551615 = BitVec.allOnes 64 by decide, BitVec.allOnes_xor]
  rw [e, BitVec.toNat_not, u64w, BitVec.toNat_ofInt]; omega

/-- THE OTHER SIGN. -/
theorem flip_spec (k : Nat) (hk : 200 ≤ k) (a : Int) : apogeeref01_Flip.f k (hiw a) (low a) = some (hiw (-a), low (-a)) := by
  unfold apogeeref01_Flip.f
  have h1 : -9223372036854775808 ≤ hiw a ∧ hiw a < 9223372036854775808 := by unfold hiw wrap64; omega
  have h2 : 0 ≤ low a ∧ low a < 18446744073709551616 := by unfold low; omega
  rw [xor_hi _ h1.1 h1.2, xor_lo _ h2.1 h2.2]
  have e1 : -1 - hiw a = hiw (-1 - a) := by unfold hiw wrap64; omega
  have e2 : 18446744073709551615 - low a = low (-1 - a) := by unfold low; omega
  have e3 : (0 : Int) = hiw 1 := by unfold hiw wrap64; decide
  have e4 : (1 : Int) = low 1 := by unfold low; decide
  have := plus_spec k hk (-1 - a) 1
  rw [← e1, ← e2, ← e3, ← e4] at this
  rw [this]
  simp only [Option.bind_some]
  rw [show -1 - a + 1 = -a by omega]

theorem mul_l0 (a b : Int) (n : Nat) (hn : (n : Int) = b % 18446744073709551616) (hb : -9223372036854775808 ≤ b) (hb' : b < 9223372036854775808) (d : Nat) : ∀ (k i : Nat), i + d = 64 → d + 202 < k →
    apogeeref01_Mul.l0 k b (n : Int) (i : Int) (hiw (a * 2 ^ i)) (low (a * 2 ^ i)) (hiw (a * ((n % 2 ^ i : Nat) : Int))) (low (a * ((n % 2 ^ i : Nat) : Int))) = some (hiw (a * b), low (a * b)) := by
  induction d with
  | zero =>
    intro k i hd hk
    obtain ⟨k, rfl⟩ : ∃ m, k = m + 1 := ⟨k - 1, by omega⟩
    obtain rfl : i = 64 := by omega
    simp only [apogeeref01_Mul.l0]; rw [if_neg (by omega)]
    have hm : n % 2 ^ 64 = n := Nat.mod_eq_of_lt (by omega)
    rw [hm]
    by_cases c : b < 0
    · rw [if_pos c, flip_spec k (by omega)]
      simp only [Option.bind_some]
      rw [plus_spec k (by omega)]
      simp only [Option.bind_some]
      rw [hn, show b % 18446744073709551616 = b + 2 ^ 64 by omega, Int.mul_add, show a * b + a * 2 ^ 64 + -(a * 2 ^ 64) = a * b by omega]
    · rw [if_neg c, hn, Int.emod_eq_of_lt (by omega) (by omega)]
  | succ d ih =>
    intro k i hd hk
    obtain ⟨k, rfl⟩ : ∃ m, k = m + 1 := ⟨k - 1, by omega⟩
    have g := ih k (i + 1) (by omega) (by omega)
    have e1 : wrap64 ((i : Int) + 1) = ((i + 1 : Nat) : Int) := by rw [r_w64 (by omega) (by omega)]; omega
    have e2 : a * 2 ^ (i + 1) = a * 2 ^ i + a * 2 ^ i := by rw [Int.pow_succ, ← Int.mul_assoc]; omega
    have hbit : Go.bits .and .u64 (shr .u64 (n : Int) (i : Int)) 1 = ((n / 2 ^ i % 2 : Nat) : Int) := by
      rw [shr_nat n i (by omega)]
      have h1 : n / 2 ^ i < 2 ^ 64 := Nat.lt_of_le_of_lt (Nat.div_le_self _ _) (by omega)
      have h2 := (u64_nat (n / 2 ^ i) 1 h1 (by decide)).1
      rw [show ((1 : Nat) : Int) = 1 from rfl] at h2
      rw [h2, Nat.and_one_is_mod]
    rw [e2, mod_step] at g
    simp only [apogeeref01_Mul.l0]
    rw [if_pos (by omega), if_pos (by omega), hbit, e1]
    by_cases c : n / 2 ^ i % 2 = 1
    · rw [if_pos (by omega), plus_spec k (by omega), plus_spec k (by omega)]
      simp only [Option.bind_some]
      rw [if_pos c] at g
      rw [show a * ((n % 2 ^ i + 2 ^ i : Nat) : Int) = a * ((n % 2 ^ i : Nat) : Int) + a * 2 ^ i by rw [Int.natCast_add, Int.mul_add, Int.natCast_pow]; rfl] at g
      exact g
    · rw [if_neg (by omega), plus_spec k (by omega)]
      simp only [Option.bind_some]
      rw [if_neg c, Nat.add_zero] at g
      exact g

/-- PRODUCTS. -/
theorem ref_mul (k : Nat) (hk : 267 ≤ k) (a b : Int) (ha : -9223372036854775808 ≤ a) (ha' : a < 9223372036854775808) (hb : -9223372036854775808 ≤ b) (hb' : b < 9223372036854775808) :
    apogeeref01_Mul.f k a b = some (hiw (a * b), low (a * b)) := by
  unfold apogeeref01_Mul.f
  rw [of_spec a ha ha']
  simp only [Option.bind_some]
  have hn : IntKind.u64.wrap b = (((b % 18446744073709551616).toNat : Nat) : Int) := by rw [u64w]; omega
  have := mul_l0 a b (b % 18446744073709551616).toNat (by omega) hb hb' 64 k 0 (by omega) (by omega)
  rw [hn]
  simp only [Nat.pow_zero, Nat.mod_one, Int.pow_zero, Int.mul_one, Int.natCast_zero, Int.mul_zero] at this
  rw [show hiw 0 = 0 by unfold hiw wrap64; decide, show low 0 = 0 by unfold low; decide] at this
  exact this

/-- WHICH ONE IS GREATER. -/
theorem ref_cmp (k : Nat) (hk : 1 ≤ k) (a b : Int) (ha : -170141183460469231731687303715884105728 ≤ a) (ha' : a < 170141183460469231731687303715884105728) (hb : -170141183460469231731687303715884105728 ≤ b) (hb' : b < 170141183460469231731687303715884105728) :
    apogeeref01_Cmp.f k (hiw a) (low a) (hiw b) (low b) = some (if a < b then -1 else if a = b then 0 else 1) := by
  obtain ⟨k, rfl⟩ : ∃ m, k = m + 1 := ⟨k - 1, by omega⟩
  have e1 : hiw a = a / 18446744073709551616 := by unfold hiw; rw [r_w64 (by omega) (by omega)]
  have e2 : hiw b = b / 18446744073709551616 := by unfold hiw; rw [r_w64 (by omega) (by omega)]
  unfold apogeeref01_Cmp.f
  rw [e1, e2]
  unfold low
  simp only [apogeeref01_Cmp.j0, if_true, decide_eq_true_iff, Bool.false_eq_true, if_false, Bool.and_eq_true, beq_iff_eq]
  split
  · rw [if_pos (by omega)]
  · split
    · by_cases c : a % 18446744073709551616 < b % 18446744073709551616
      · rw [if_pos c, if_pos (by omega)]
      · rw [if_neg c, if_neg (show ¬ a < b by omega)]
        by_cases e : a = b
        · rw [if_pos e, if_pos (by omega)]
        · rw [if_neg e, if_neg (by omega)]
    · rw [if_neg (by omega), if_neg (by omega), if_neg (by omega)]
end Go.Proofs.Ytejiaiincdamkaa.PFallTells
