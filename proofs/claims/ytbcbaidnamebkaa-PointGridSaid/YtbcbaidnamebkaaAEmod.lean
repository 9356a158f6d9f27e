/- The functions of the program: the table. No conditions. -/
import Derived.Test.YtbcbaidnamebkaaAEcode
import Derived.Test.YtbcbaidnamebkaaAEsnd18
import Derived.Test.YtbcbaidnamebkaaAEsym2
namespace Go.Proofs.Ytbcbaidnamebkaa.AE
set_option linter.unusedVariables false
set_option linter.unusedSimpArgs false
set_option linter.constructorNameAsVariable false
open Go Go.RowKit
set_option maxRecDepth 100000
def codes : FuncId → Option AFn
  | 3 => some c3
  | 4 => some c4
  | 5 => some c5
  | 6 => some c6
  | 7 => some c7
  | 8 => some c8
  | 9 => some c9
  | 10 => some c10
  | 11 => some c11
  | 12 => some c12
  | 13 => some c13
  | 14 => some c14
  | 15 => some c15
  | 16 => some c16
  | 17 => some c17
  | 18 => some c18
  | 19 => some c19
  | 20 => some c20
  | 21 => some c21
  | 22 => some c22
  | 23 => some c23
  | 24 => some c24
  | 25 => some c25
  | 26 => some c26
  | 27 => some c27
  | 28 => some c28
  | 29 => some c29
  | 30 => some c30
  | 31 => some c31
  | 32 => some c32
  | 33 => some c33
  | 34 => some c34
  | 35 => some c35
  | 36 => some c36
  | 37 => some c37
  | 38 => some c38
  | 39 => some c39
  | 40 => some c40
  | 41 => some c41
  | 42 => some c42
  | 43 => some c43
  | 44 => some c44
  | 45 => some c45
  | 46 => some c46
  | 47 => some c47
  | _ => none
/-- The sum of numbers of 64 bits. -/
def add64E : List AV → Option AV
  | [.int .u64 x, .int .u64 y, .int .u64 c] => match decide (0 ≤ x) && decide (0 ≤ y) && decide (0 ≤ c) && decide (c ≤ 1) with
    | true => some (.tup [.int .u64 ((x + y + c) % 18446744073709551616), .int .u64 ((x + y + c) / 18446744073709551616)])
    | false => none
  | _ => none
theorem add64_ok : ExtOK Try.prog 48 add64E := by
  intro args v h
  unfold add64E at h
  split at h <;> (try (cases h; done))
  rename_i x y c
  split at h <;> (try (cases h; done))
  rename_i hc
  simp only [Bool.and_eq_true, decide_eq_true_eq] at hc
  obtain ⟨⟨⟨h1, h2⟩, h3⟩, h4⟩ := hc
  cases h
  refine ⟨[(.u64, x), (.u64, y), (.u64, c)], rfl, .tuple #[.int .u64 ((x + y + c) % 18446744073709551616), .int .u64 ((x + y + c) / 18446744073709551616)], fun w => ?_, fun w bad => ?_⟩
  · rw [show ([(IntKind.u64, x), (.u64, y), (.u64, c)].map fun p => Value.int p.1 p.2).toArray = #[.int .u64 x, .int .u64 y, .int .u64 c] from rfl,
      run_callFunc_extern Try.func48 (by kernel_rfl) (by kernel_rfl) (by kernel_rfl) (e := add64Entry) (by kernel_rfl), run_add64 x y c h1 h2 h3 h4]
    rfl
  · refine .tup _ [.int .u64 ((x + y + c) % 18446744073709551616), .int .u64 ((x + y + c) / 18446744073709551616)] rfl fun i c' u hc hu => ?_
    match i, hc, hu with
    | 0, hc, hu => cases hc; cases hu; exact .int _ _
    | 1, hc, hu => cases hc; cases hu; exact .int _ _

def exts : FuncId → Option (List AV → Option AV)
  | 48 => some add64E
  | _ => none
def M : Mod := { code := codes, inl := inlF, ext := exts, fu := 1000000000000000000 }
def hm45 : List (Nat × Sh) := [(0, (.agg [(.i .i64), (.i .u64)])), (2, .any), (3, .any), (4, (.i .i64)), (6, (.i .i64)), (7, .b), (10, .any), (12, (.i .u64)), (13, (.i .i64)), (14, (.i .u64)), (15, (.i .u64)), (16, (.i .i64)), (17, .any), (18, .any), (3, .any), (8, (.i .i64)), (9, (.i .i64)), (4, (.i .i64)), (5, (.i .i64)), (19, (.i .i64)), (20, .b), (23, .any), (25, (.i .i64)), (26, (.i .u64)), (27, (.i .i64)), (28, (.i .u64)), (29, (.i .u64)), (30, (.i .i64)), (31, .any), (32, .any), (3, .any), (21, (.i .i64)), (22, (.i .i64)), (5, (.i .i64)), (33, .any), (2, .any)]
def hm46 : List (Nat × Sh) := [(0, .any), (6, (.agg [(.i .i64), (.i .u64)])), (4, (.i .u64)), (5, (.i .i64)), (7, (.i .i64)), (8, .b), (11, .any), (12, (.i .i64)), (14, (.i .i64)), (15, .b), (17, (.i .u64)), (18, (.i .i64)), (19, (.i .u64)), (20, (.i .u64)), (22, .any), (23, (.i .i64)), (24, (.i .i64)), (26, (.i .i64)), (27, .b), (28, (.i .u64)), (29, (.i .i64)), (30, (.i .u64)), (31, (.i .u64)), (4, (.i .u64)), (9, (.i .i64)), (10, (.i .i64)), (5, (.i .i64)), (32, (.i .u64)), (33, (.i .i64)), (35, (.agg [(.i .i64), (.i .u64)]))]
def hm37 : List (Nat × Sh) := [(0, (.agg [(.i .i64), (.i .u64)])), (1, (.agg [(.i .i64), (.i .u64)])), (11, (.agg [(.i .i64), (.i .u64)])), (12, .any), (13, (.agg [(.i .i64), (.i .u64)])), (14, .any), (5, .any), (6, .any), (7, .any), (8, (.i .i64)), (9, (.i .i64)), (15, (.i .i64)), (16, .b), (19, .any), (20, (.i .i64)), (22, (.i .i64)), (23, .any), (24, (.i .i64)), (26, (.i .i64)), (27, (.i .i64)), (28, (.i .i64)), (29, (.i .i64)), (10, (.i .i64)), (30, .any), (31, (.i .i64)), (32, (.i .i64)), (33, .any), (34, .any), (7, .any), (35, (.i .i64)), (36, (.i .i64)), (8, (.i .i64)), (17, (.i .i64)), (18, (.i .i64)), (9, (.i .i64)), (37, .any), (38, (.agg [(.i .i64), (.i .u64)]))]
def hm26 : List (Nat × Sh) := [(0, (.i .i64)), (1, (.i .i64)), (9, (.i .i64)), (10, (.agg [(.i .i64), (.i .u64)])), (11, (.agg [(.i .i64), (.i .u64)])), (12, (.i .i64)), (13, (.i .u64)), (7, (.i .u64)), (8, (.i .i64)), (14, (.i .i64)), (15, .b), (18, (.i .u64)), (19, (.i .i64)), (20, (.i .u64)), (21, (.i .u64)), (22, .b), (23, (.agg [(.i .i64), (.i .u64)])), (24, (.agg [(.i .i64), (.i .u64)])), (25, (.agg [(.i .i64), (.i .u64)])), (26, (.agg [(.i .i64), (.i .u64)])), (27, (.agg [(.i .i64), (.i .u64)])), (28, (.agg [(.i .i64), (.i .u64)])), (16, (.i .i64)), (17, (.i .i64)), (8, (.i .i64)), (29, (.i .i64)), (30, .b), (31, (.agg [(.i .i64), (.i .u64)])), (32, (.agg [(.i .i64), (.i .u64)])), (33, (.agg [(.i .i64), (.i .u64)])), (34, (.agg [(.i .i64), (.i .u64)])), (35, (.agg [(.i .i64), (.i .u64)]))]
def unr : FuncId → XU
  | 3 => ⟨false, false, h3⟩
  | 4 => ⟨false, false, h4⟩
  | 5 => ⟨true, false, h5⟩
  | 6 => ⟨false, false, h6⟩
  | 7 => ⟨true, false, h7⟩
  | 8 => ⟨false, false, h8⟩
  | 9 => ⟨false, false, h9⟩
  | 10 => ⟨false, false, h10⟩
  | 11 => ⟨false, false, h11⟩
  | 12 => ⟨false, false, h12⟩
  | 13 => ⟨false, false, h13⟩
  | 14 => ⟨false, false, h14⟩
  | 15 => ⟨false, false, h15⟩
  | 16 => ⟨false, false, h16⟩
  | 17 => ⟨false, false, h17⟩
  | 18 => ⟨false, false, h18⟩
  | 19 => ⟨false, false, h19⟩
  | 20 => ⟨false, false, h20⟩
  | 21 => ⟨false, false, h21⟩
  | 22 => ⟨false, false, h22⟩
  | 23 => ⟨false, false, h23⟩
  | 24 => ⟨false, false, h24⟩
  | 25 => ⟨false, false, h25⟩
  | 26 => ⟨false, true, hm26⟩
  | 27 => ⟨false, false, h27⟩
  | 28 => ⟨false, false, h28⟩
  | 29 => ⟨false, false, h29⟩
  | 30 => ⟨false, false, h30⟩
  | 31 => ⟨false, false, h31⟩
  | 32 => ⟨false, false, h32⟩
  | 33 => ⟨false, false, h33⟩
  | 34 => ⟨false, false, h34⟩
  | 35 => ⟨false, false, h35⟩
  | 36 => ⟨false, false, h36⟩
  | 37 => ⟨false, true, hm37⟩
  | 38 => ⟨false, false, h38⟩
  | 39 => ⟨false, false, h39⟩
  | 40 => ⟨false, false, h40⟩
  | 41 => ⟨false, false, h41⟩
  | 42 => ⟨false, false, h42⟩
  | 43 => ⟨false, false, h43⟩
  | 44 => ⟨false, false, h44⟩
  | 45 => ⟨false, true, hm45⟩
  | 46 => ⟨false, true, hm46⟩
  | 47 => ⟨false, false, h47⟩
  | _ => ⟨false, false, []⟩
theorem modOK : ModOK Try.prog M := by
  constructor
  · intro g fn h
    change codes g = some fn at h
    unfold codes at h
    split at h <;> (try (cases h; done))
    · cases h; exact c3_ok
    · cases h; exact c4_ok
    · cases h; exact c5_ok
    · cases h; exact c6_ok
    · cases h; exact c7_ok
    · cases h; exact c8_ok
    · cases h; exact c9_ok
    · cases h; exact c10_ok
    · cases h; exact c11_ok
    · cases h; exact c12_ok
    · cases h; exact c13_ok
    · cases h; exact c14_ok
    · cases h; exact c15_ok
    · cases h; exact c16_ok
    · cases h; exact c17_ok
    · cases h; exact c18_ok
    · cases h; exact c19_ok
    · cases h; exact c20_ok
    · cases h; exact c21_ok
    · cases h; exact c22_ok
    · cases h; exact c23_ok
    · cases h; exact c24_ok
    · cases h; exact c25_ok
    · cases h; exact c26_ok
    · cases h; exact c27_ok
    · cases h; exact c28_ok
    · cases h; exact c29_ok
    · cases h; exact c30_ok
    · cases h; exact c31_ok
    · cases h; exact c32_ok
    · cases h; exact c33_ok
    · cases h; exact c34_ok
    · cases h; exact c35_ok
    · cases h; exact c36_ok
    · cases h; exact c37_ok
    · cases h; exact c38_ok
    · cases h; exact c39_ok
    · cases h; exact c40_ok
    · cases h; exact c41_ok
    · cases h; exact c42_ok
    · cases h; exact c43_ok
    · cases h; exact c44_ok
    · cases h; exact c45_ok
    · cases h; exact c46_ok
    · cases h; exact c47_ok
  · intro g e h
    change exts g = some e at h
    unfold exts at h
    split at h <;> (try (cases h; done))
    · cases h; exact add64_ok
end Go.Proofs.Ytbcbaidnamebkaa.AE
