/- What the functions of points tell. No conditions. -/
import Derived.Test.YtbcbaidnamebkaaAEsymL
import Derived.Test.YtbcbaidnamebkaaAEnum
import Derived.Test.YtbcbaidnamebkaaGGeo
namespace Go.Proofs.Ytbcbaidnamebkaa.AE
set_option linter.unusedVariables false
set_option linter.unusedSimpArgs false
set_option linter.constructorNameAsVariable false
open Go Go.Proofs.Ytbcbaidnamebkaa.Geo
abbrev i64 (n : Int) : AV := .int .i64 n
abbrev u64 (n : Int) : AV := .int .u64 n
abbrev pt (p : Int × Int) : AV := .agg [.int .i64 p.1, .int .i64 p.2]

theorem s43 (d : Nat) (x : Int) : pcall M (d + 1) 43 [.int .i64 x] = some (.bool false) := told (r43 C0 d x) (by simp)
theorem s44 (d : Nat) (x : Int) : pcall M (d + 1) 44 [.int .u64 x] = some (.bool false) := told (r44 C0 d x) (by simp)
theorem s34 (d : Nat) (x y : Int) : pcall M (d + 2) 34 [.int .i64 x, .int .i64 y] = some (.int .i64 (cmp x y)) := told (r34 C0 (d + 1) x y) (by
  rw [s43, s43, C0_bool, C0_bool, cnd_f, cnd_f]
  unfold cmp
  by_cases h : x < y
  · simp [h, cnd_t]
  · by_cases h2 : y < x <;> simp [h, h2, cnd_t, cnd_f])
theorem s35 (d : Nat) (x y : Int) : pcall M (d + 2) 35 [.int .u64 x, .int .u64 y] = some (.int .i64 (cmp x y)) := told (r35 C0 (d + 1) x y) (by
  rw [s44, s44, C0_bool, C0_bool, cnd_f, cnd_f]
  unfold cmp
  by_cases h : x < y
  · simp [h, cnd_t]
  · by_cases h2 : y < x <;> simp [h, h2, cnd_t, cnd_f])
theorem s21 (d : Nat) (x : Int) : pcall M (d + 1) 21 [.int .i64 x] = some (.bool (decide (Okc x))) := told (r21 C0 d x) (by
  unfold Okc
  by_cases h : x ≥ -1099511627776 <;> by_cases h2 : x ≤ 1099511627776 <;> simp [h, h2, cnd_t, cnd_f])
theorem s10 (d : Nat) (p : Int × Int) : pcall M (d + 2) 10 [pt p] = some (.bool (decide (OkP p))) := told (r10 C0 (d + 1) p.1 p.2) (by
  rw [s21, s21, C0_bool, C0_bool]
  unfold OkP
  by_cases h : Okc p.1 <;> by_cases h2 : Okc p.2 <;> simp [h, h2, cnd_t, cnd_f])
theorem s31 (d : Nat) (p : Int × Int) : pcall M (d + 3) 31 [pt p] = some (.bool (!decide (OkP p))) := told (r31 C0 (d + 2) p.1 p.2) (by
  rw [s10, C0_bool])

theorem it_ret (R : St → (Ex → St → Ans) → Ans) (n : Nat) (s : St) (ids : List Nat) (ks : List (St → Ans)) (kr : St → Ans) : C0.iter R n s ids ks kr = xiter R n s fun e s' => match e with
    | .ret => kr s'
    | .exit i => xgo i ids ks s'
    | .normal => none := rfl
theorem xiter_s (R : St → (Ex → St → Ans) → Ans) (n : Nat) (s : St) (K : Ex → St → Ans) : xiter R (n + 1) s K = R s fun e s' => match e with
    | .normal => xiter R n s' K
    | .exit i => K (.exit i) s'
    | .ret => K .ret s' := rfl
def fi : List Pt → Int → Int
  | [], _ => -1
  | p :: l, i => if OkP p then fi l (i + 1) else i

theorem s42 (d : Nat) (ps : List Pt) (hl : ps.length < 1000000) : pcall M (d + 4) 42 [.lst (ps.map pt), .fn 31 [] []] = some (.int .i64 (fi ps 0)) := told (r42 C0 (d + 3) (ps.map pt) .nilp) (by
  rw [it_ret]
  have key : ∀ (l2 l1 : List Pt) (n : Nat) (x3 : Int) (v4 v6 v7 v8 v9 v10 v11 v12 v13 v14 v15 : AV), ps = l1 ++ l2 → l2.length < n →
      xiter (r42R0 C0 (d + 3) (ps.map pt) .nilp) n ⟨[.lst (ps.map pt), .fn 31 [] [], .tup [], .tup [], .int .i64 x3, v4, .lst (ps.map pt), .int .i64 (((ps.map pt).length : Nat) : Int), .int .i64 (l1.length : Nat), v6, v7, v8, v9, v10, v11, v12, v13, v14, v15], []⟩
        (fun e s' => match e with
          | .ret => r42E0 C0 (d + 3) (ps.map pt) .nilp s'
          | .exit i => xgo i [0] [r42X0_0 C0 (d + 3) (ps.map pt) .nilp] s'
          | .normal => none) = some (.int .i64 (fi l2 (l1.length : Nat))) := by
    intro l2
    induction l2 with
    | nil =>
      intro l1 n x3 v4 v6 v7 v8 v9 v10 v11 v12 v13 v14 v15 hps hn
      obtain ⟨n, rfl⟩ : ∃ m, n = m + 1 := ⟨n - 1, by simp at hn; omega⟩
      subst hps
      rw [xiter_s]
      simp [r42R0, r42X0_0, xgo, C0_same, C0_sameH, C0_int, C0_any, cnd_t, cnd_f, fi]
    | cons p l2 ih =>
      intro l1 n x3 v4 v6 v7 v8 v9 v10 v11 v12 v13 v14 v15 hps hn
      obtain ⟨n, rfl⟩ : ∃ m, n = m + 1 := ⟨n - 1, by simp at hn; omega⟩
      have hw : IntKind.wrap .i64 ((l1.length : Int) + 1) = ((l1 ++ [p]).length : Nat) := by
        rw [IntKind.wrap_i64]; simp; rw [hps] at hl; simp at hl; omega
      have hx : ps[l1.length]? = some p := by rw [hps]; simp
      have hlt : l1.length < ps.length := by rw [hps]; simp
      have hx2 : ps[l1.length]'hlt = p := by rw [List.getElem?_eq_getElem hlt] at hx; exact Option.some.inj hx
      rw [xiter_s]
      have h31 := s31 d p
      simp only [pt] at h31
      by_cases hp : OkP p
      · have := ih (l1 ++ [p]) n x3 (.int .i64 (l1.length : Nat)) (.bool true) (.int .i64 (l1.length : Nat)) (.fn 31 [] []) (.lst (ps.map pt)) (.int .i64 (l1.length : Nat)) (.fptr (pt p) 0) (pt p) (.bool false) v14 (.int .i64 ((l1 ++ [p]).length : Nat)) (by rw [hps]; simp) (by simp at hn; omega)
        simp only [fi, hp, if_true]
        rw [show ((l1.length : Nat) : Int) + 1 = ((l1 ++ [p]).length : Nat) by simp]
        rw [← this]
        simp [r42R0, C0_same, C0_sameH, C0_int, C0_any, C0_agg2, C0_bool, cnd_t, cnd_f, hlt, hx2, h31, hp, hw, pt]
      · simp [r42R0, r42E0, C0_same, C0_sameH, C0_int, C0_any, C0_agg2, C0_bool, cnd_t, cnd_f, hlt, hx2, h31, hp, pt, fi]
  exact key ps [] 1000000 0 _ _ _ _ _ _ _ _ _ _ _ rfl hl)
end Go.Proofs.Ytbcbaidnamebkaa.AE
