/- The texts that the law PolyTriangle needs, part 3. No conditions. -/
import Derived.Test.YtkfppigcjdapnaaMPolyTriangle2
namespace Go.Proofs.Ytkfppigcjdapnaa.Geo
/-- Is it said of an odd number of the first n? -/
def xr (f : Nat → Bool) : Nat → Bool
  | 0 => false
  | n + 1 => xor (xr f n) (f n)
theorem xr_congr {f g : Nat → Bool} : ∀ {n : Nat}, (∀ i, i < n → f i = g i) → xr f n = xr g n
  | 0, _ => rfl
  | n + 1, h => by simp only [xr]; rw [xr_congr (fun i hi => h i (by omega)), h n (by omega)]
theorem xr_shift (f : Nat → Bool) : ∀ m, xr f (m + 1) = xor (f 0) (xr (fun i => f (i + 1)) m)
  | 0 => by simp [xr]
  | m + 1 => by
    rw [xr, xr_shift f m]
    simp only [xr]
    cases f 0 <;> cases xr (fun i => f (i + 1)) m <;> cases f (m + 1) <;> rfl
/-- The ray from p meets an odd number of edges of the polygon of n corners. -/
def odd (p : Pt) (v : Nat → Pt) (n : Nat) : Bool := xr (fun i => decide (Crs p (v i) (v ((i + 1) % n)))) n
end Go.Proofs.Ytkfppigcjdapnaa.Geo

namespace Go.Proofs.Ytkfppigcjdapnaa.AE
set_option linter.unusedVariables false
set_option linter.unusedSimpArgs false
set_option linter.constructorNameAsVariable false
open Go Go.Proofs.Ytkfppigcjdapnaa.Geo
/-- Is the place's way to the right over the edge? -/
def crsB (ps : List Pt) (p : Pt) (i : Nat) : Bool := decide (Crs p (vv ps i) (vv ps (nx ps i)))
def sideUp (ps : List Pt) (p : Pt) : Nat → Nat → Bool → Int
  | 0, _, o => bif o then 1 else -1
  | m + 1, i, o => bif onB p (vv ps i) (vv ps (nx ps i)) then 0 else sideUp ps p m (i + 1) (xor o (crsB ps p i))
def sideB (ps : List Pt) (p : Pt) : Int := bif rightB ps then bif okb p then sideUp ps p ps.length 0 false else -1 else -1
theorem right_ok {ps : List Pt} (h : rightB ps = true) : 3 ≤ ps.length ∧ ps.length ≤ 8 ∧ ∀ p ∈ ps, OkP p := by
  unfold rightB at h
  exact simple_ok (Bool.and_eq_true_iff.mp h).1
theorem vv_ok {ps : List Pt} (h : ∀ p ∈ ps, OkP p) {i : Nat} (hi : i < ps.length) : OkP (vv ps i) := by
  have : vv ps i = ps[i] := by simp [vv, List.getD_eq_getElem?_getD, hi]
  rw [this]; exact h _ (List.getElem_mem _)
theorem crs_hi {p a b : Pt} (h : a.2 > b.2) : decide (Crs p a b) = decide (CrsU p b a) := by
  rw [decide_eq_decide]; unfold Crs
  exact ⟨fun g => g.elim (fun g => by unfold CrsU at g; omega) id, .inr⟩
theorem crs_lo {p a b : Pt} (h : ¬ a.2 > b.2) : decide (Crs p a b) = decide (CrsU p a b) := by
  rw [decide_eq_decide]; unfold Crs
  exact ⟨fun g => g.elim id (fun g => by unfold CrsU at g; omega), .inl⟩
theorem crsU_f1 {p a b : Pt} (h : ¬ a.2 ≤ p.2) : decide (CrsU p a b) = false := decide_eq_false fun g => h g.1
theorem crsU_f2 {p a b : Pt} (h : ¬ p.2 < b.2) : decide (CrsU p a b) = false := decide_eq_false fun g => h g.2.1
theorem crsU_t {p a b : Pt} (h : a.2 ≤ p.2) (h2 : p.2 < b.2) (ha : OkP a) (hb : OkP b) (hp : OkP p) : decide (CrsU p a b) = decide (tn3 a b p > 0) := by
  rw [decide_eq_decide, tn3_sg ⟨ha, hb, hp⟩, sg_pos]
  exact ⟨fun g => g.2.2, fun g => ⟨h, h2, g⟩⟩
def sgn1 (o : Bool) : Int := bif o then 1 else -1
theorem sgn1_neg (o : Bool) : IntKind.wrap .i64 (0 - sgn1 o) = sgn1 (xor o true) := by cases o <;> simp [sgn1, i64w]
theorem sgn1_id (o : Bool) : sgn1 o = sgn1 (xor o false) := by cases o <;> rfl
theorem side0 (d : Nat) (ps : List Pt) (p : Pt) (hl : ps.length ≤ 140737488355328) (hok : ∀ q ∈ ps, OkP q) (hp : OkP p) : ∀ (m i f : Nat) (o : Bool) (H : Heap), i + m = ps.length → m < f → hget H 0 = some ⟨E24, [pt p]⟩ →
    L16_0 (d + 8) (ps.map pt) (.ptr 0 0 0) (ps.length : Nat) f (sgn1 o) (i : Nat) H = some (.int .i64 (sideUp ps p m i o)) := by
  intro m
  induction m with
  | zero =>
    intro i f o H hi hf h0
    obtain ⟨f, rfl⟩ : ∃ g, f = g + 1 := ⟨f - 1, by omega⟩
    rw [L16_0, decide_eq_false (by omega), cnd_f]; rfl
  | succ m ih =>
    intro i f o H hi hf h0
    obtain ⟨f, rfl⟩ : ∃ g, f = g + 1 := ⟨f - 1, by omega⟩
    have hil : i < ps.length := by omega
    have oa := vv_ok hok hil
    have ob := vv_ok hok (nx_lt hil)
    have w1 : IntKind.wrap .i64 ((i : Int) + 1) = ((i + 1 : Nat) : Int) := by rw [i64_small (by omega) (by omega)]; rfl
    rw [L16_0, decide_eq_true (by omega), cnd_t, w1, sgn1_neg]
    refine Eq.trans (snp_free (by rfl)) ?_
    refine Eq.trans (pl_tup (s39 (d + 7) ps i hil hl) (by rfl)) ?_
    refine Eq.trans (pl_agg (by rfl) (by rfl)) ?_; refine Eq.trans (pl_int (by rfl)) ?_; refine Eq.trans (pl_int (by rfl)) ?_; refine Eq.trans (pl_agg (by rfl) (by rfl)) ?_; refine Eq.trans (pl_int (by rfl)) ?_; refine Eq.trans (pl_int (by rfl)) ?_; refine Eq.trans (pl_len (by rfl)) ?_; refine Eq.trans al_n ?_; refine Eq.trans al_s ?_; refine Eq.trans (st_s (by rfl) (by rfl) (by rfl)) ?_; refine Eq.trans (st_s (by rfl) (by rfl) (by rfl)) ?_; refine Eq.trans (ld_ptr (hget_app h0) (by rfl) (by rfl)) ?_; refine Eq.trans (pl_agg (by rfl) (by rfl)) ?_; refine Eq.trans (pl_int (by rfl)) ?_; refine Eq.trans (pl_int (by rfl)) ?_; refine Eq.trans (ld_s (by rfl) (by rfl) (by rfl)) ?_; refine Eq.trans (pl_agg (by rfl) (by rfl)) ?_; refine Eq.trans (pl_int (by rfl)) ?_; refine Eq.trans (pl_int (by rfl)) ?_; refine Eq.trans (ld_s (by rfl) (by rfl) (by rfl)) ?_; refine Eq.trans (pl_agg (by rfl) (by rfl)) ?_; refine Eq.trans (pl_int (by rfl)) ?_; refine Eq.trans (pl_int (by rfl)) ?_
    refine Eq.trans (pl_bool (s27 d p (vv ps i) (vv ps (nx ps i)))) ?_
    simp only [sideUp]
    cases onB p (vv ps i) (vv ps (nx ps i))
    · refine Eq.trans (pl_f (by rfl)) ?_; refine Eq.trans sh_ptr ?_; refine Eq.trans (ld_s (by rfl) (by rfl) (by rfl)) ?_; refine Eq.trans (pl_int (by rfl)) ?_; refine Eq.trans sh_ptr ?_; refine Eq.trans (ld_s (by rfl) (by rfl) (by rfl)) ?_; refine Eq.trans (pl_int (by rfl)) ?_
      unfold crsB
      by_cases c1 : (vv ps i).2 > (vv ps (nx ps i)).2
      · rw [crs_hi c1, decide_eq_true c1, cnd_t]
        refine Eq.trans (ld_s (by rfl) (by rfl) (by rfl)) ?_; refine Eq.trans (pl_agg (by rfl) (by rfl)) ?_; refine Eq.trans (pl_int (by rfl)) ?_; refine Eq.trans (pl_int (by rfl)) ?_; refine Eq.trans (ld_s (by rfl) (by rfl) (by rfl)) ?_; refine Eq.trans (pl_agg (by rfl) (by rfl)) ?_; refine Eq.trans (pl_int (by rfl)) ?_; refine Eq.trans (pl_int (by rfl)) ?_; refine Eq.trans (st_s (by rfl) (by rfl) (by rfl)) ?_; refine Eq.trans (st_s (by rfl) (by rfl) (by rfl)) ?_; refine Eq.trans sh_ptr ?_; refine Eq.trans (ld_s (by rfl) (by rfl) (by rfl)) ?_; refine Eq.trans (pl_int (by rfl)) ?_; refine Eq.trans sh_ptr ?_; refine Eq.trans (ld_ptr (hget_app h0) (by rfl) (by rfl)) ?_; refine Eq.trans (pl_int (by rfl)) ?_
        by_cases c2 : (vv ps (nx ps i)).2 ≤ p.2
        · rw [decide_eq_true c2, cnd_t]
          refine Eq.trans sh_ptr ?_; refine Eq.trans (ld_ptr (hget_app h0) (by rfl) (by rfl)) ?_; refine Eq.trans (pl_int (by rfl)) ?_; refine Eq.trans sh_ptr ?_; refine Eq.trans (ld_s (by rfl) (by rfl) (by rfl)) ?_; refine Eq.trans (pl_int (by rfl)) ?_
          by_cases c3 : p.2 < (vv ps i).2
          · rw [decide_eq_true c3, cnd_t, crsU_t c2 c3 ob oa hp]
            refine Eq.trans (ld_s (by rfl) (by rfl) (by rfl)) ?_; refine Eq.trans (pl_agg (by rfl) (by rfl)) ?_; refine Eq.trans (pl_int (by rfl)) ?_; refine Eq.trans (pl_int (by rfl)) ?_; refine Eq.trans (ld_s (by rfl) (by rfl) (by rfl)) ?_; refine Eq.trans (pl_agg (by rfl) (by rfl)) ?_; refine Eq.trans (pl_int (by rfl)) ?_; refine Eq.trans (pl_int (by rfl)) ?_; refine Eq.trans (ld_ptr (hget_app h0) (by rfl) (by rfl)) ?_; refine Eq.trans (pl_agg (by rfl) (by rfl)) ?_; refine Eq.trans (pl_int (by rfl)) ?_; refine Eq.trans (pl_int (by rfl)) ?_
            refine Eq.trans (pl_int (s29 (d + 1) (vv ps (nx ps i)) (vv ps i) p)) ?_
            cases decide (tn3 (vv ps (nx ps i)) (vv ps i) p > 0)
            · refine Eq.trans (pl_f (by rfl)) ?_; rw [sgn1_id]; exact ih (i + 1) f _ _ (by omega) (by omega) (hget_app h0)
            · refine Eq.trans (pl_len (by rfl)) ?_; exact ih (i + 1) f _ _ (by omega) (by omega) (hget_app h0)
          · rw [decide_eq_false c3, cnd_f, crsU_f2 c3, sgn1_id]; exact ih (i + 1) f _ _ (by omega) (by omega) (hget_app h0)
        · rw [decide_eq_false c2, cnd_f, crsU_f1 c2, sgn1_id]; exact ih (i + 1) f _ _ (by omega) (by omega) (hget_app h0)
      · rw [crs_lo c1, decide_eq_false c1, cnd_f]
        refine Eq.trans sh_ptr ?_; refine Eq.trans (ld_s (by rfl) (by rfl) (by rfl)) ?_; refine Eq.trans (pl_int (by rfl)) ?_; refine Eq.trans sh_ptr ?_; refine Eq.trans (ld_ptr (hget_app h0) (by rfl) (by rfl)) ?_; refine Eq.trans (pl_int (by rfl)) ?_
        by_cases c2 : (vv ps i).2 ≤ p.2
        · rw [decide_eq_true c2, cnd_t]
          refine Eq.trans sh_ptr ?_; refine Eq.trans (ld_ptr (hget_app h0) (by rfl) (by rfl)) ?_; refine Eq.trans (pl_int (by rfl)) ?_; refine Eq.trans sh_ptr ?_; refine Eq.trans (ld_s (by rfl) (by rfl) (by rfl)) ?_; refine Eq.trans (pl_int (by rfl)) ?_
          by_cases c3 : p.2 < (vv ps (nx ps i)).2
          · rw [decide_eq_true c3, cnd_t, crsU_t c2 c3 oa ob hp]
            refine Eq.trans (ld_s (by rfl) (by rfl) (by rfl)) ?_; refine Eq.trans (pl_agg (by rfl) (by rfl)) ?_; refine Eq.trans (pl_int (by rfl)) ?_; refine Eq.trans (pl_int (by rfl)) ?_; refine Eq.trans (ld_s (by rfl) (by rfl) (by rfl)) ?_; refine Eq.trans (pl_agg (by rfl) (by rfl)) ?_; refine Eq.trans (pl_int (by rfl)) ?_; refine Eq.trans (pl_int (by rfl)) ?_; refine Eq.trans (ld_ptr (hget_app h0) (by rfl) (by rfl)) ?_; refine Eq.trans (pl_agg (by rfl) (by rfl)) ?_; refine Eq.trans (pl_int (by rfl)) ?_; refine Eq.trans (pl_int (by rfl)) ?_
            refine Eq.trans (pl_int (s29 (d + 1) (vv ps i) (vv ps (nx ps i)) p)) ?_
            cases decide (tn3 (vv ps i) (vv ps (nx ps i)) p > 0)
            · refine Eq.trans (pl_f (by rfl)) ?_; rw [sgn1_id]; exact ih (i + 1) f _ _ (by omega) (by omega) (hget_app h0)
            · refine Eq.trans (pl_len (by rfl)) ?_; exact ih (i + 1) f _ _ (by omega) (by omega) (hget_app h0)
          · rw [decide_eq_false c3, cnd_f, crsU_f2 c3, sgn1_id]; exact ih (i + 1) f _ _ (by omega) (by omega) (hget_app h0)
        · rw [decide_eq_false c2, cnd_f, crsU_f1 c2, sgn1_id]; exact ih (i + 1) f _ _ (by omega) (by omega) (hget_app h0)
    · rfl
theorem s16 (d : Nat) (ps : List Pt) (p : Pt) (hl : ps.length ≤ 140737488355328) : pcall M (d + 13) 16 [.lst (ps.map pt), pt p] = some (.int .i64 (sideB ps p)) := told (q16 (d + 12) _ _ _) (by
  refine Eq.trans (hop_eq (by rfl)) ?_; refine Eq.trans (snp_free (by rfl)) ?_
  refine Eq.trans (pl_bool (s15 d ps hl)) ?_
  refine Eq.trans (pl_len (by rfl)) ?_
  unfold sideB
  cases hr : rightB ps
  · rfl
  · refine Eq.trans (pl_f (by rfl)) ?_; refine Eq.trans (hop_eq (by rfl)) ?_; refine Eq.trans (pl_agg (by rfl) (by rfl)) ?_; refine Eq.trans (pl_int (by rfl)) ?_; refine Eq.trans (pl_int (by rfl)) ?_
    refine Eq.trans (pl_bool (s33 (d + 10) p)) ?_
    change cnd (!okb p) _ _ = _
    cases hp : okb p
    · rfl
    · refine Eq.trans (pl_f (by rfl)) ?_; refine Eq.trans (hop_eq (by rfl)) ?_; refine Eq.trans (pl_int (by rfl)) ?_
      rw [pmap_len]
      exact side0 (d + 4) ps p hl (right_ok hr).2.2 (okb_t.mp hp) ps.length 0 1000000000000000000 false _ (by omega) (by omega) rfl)
end Go.Proofs.Ytkfppigcjdapnaa.AE

namespace Go.Proofs.Ytkfppigcjdapnaa.AE
set_option linter.unusedVariables false
set_option linter.unusedSimpArgs false
set_option linter.constructorNameAsVariable false
open Go
theorem hg_z {Z X : Heap} {k : Nat} {b : Blk} (h : Z[k]? = some (some b)) : hget (Z ++ X) k = some b := by
  unfold hget
  have hk : k < Z.length := by
    rcases Nat.lt_or_ge k Z.length with h1 | h1
    · exact h1
    · rw [List.getElem?_eq_none h1] at h; cases h
  rw [List.getElem?_append_left hk, h]
theorem set_z {Z X : Heap} {k : Nat} {b : Blk} {x : Option Blk} (h : Z[k]? = some (some b)) : (Z ++ X).set k x = Z.set k x ++ X := by
  have hk : k < Z.length := by
    rcases Nat.lt_or_ge k Z.length with h1 | h1
    · exact h1
    · rw [List.getElem?_eq_none h1] at h; cases h
  rw [List.set_append_left _ _ hk]
theorem hg_o {Z G S : Heap} {z k : Nat} {b : Blk} (hz : Z.length = z) (h : S[k]? = some (some b)) : hget (Z ++ (G ++ S)) (z + (G.length + k)) = some b := by
  subst hz
  unfold hget
  rw [List.getElem?_append_right (by omega), show Z.length + (G.length + k) - Z.length = G.length + k by omega, List.getElem?_append_right (by omega), show G.length + k - G.length = k by omega, h]
theorem set_o {Z G S : Heap} {z k : Nat} {x : Option Blk} (hz : Z.length = z) : (Z ++ (G ++ S)).set (z + (G.length + k)) x = Z ++ (G ++ S.set k x) := by
  subst hz
  rw [List.set_append_right _ _ (by omega), show Z.length + (G.length + k) - Z.length = G.length + k by omega, List.set_append_right _ _ (by omega), show G.length + k - G.length = k by omega]
theorem al_o {Z G S : Heap} {z s : Nat} {e : ETy} {K : AV → Heap → Ans} (hz : Z.length = z) (hs : S.length = s) : C0.hop (Z ++ (G ++ S)) (.alloc e) K = K (.ptr (z + (G.length + s)) 0 0) (Z ++ (G ++ (S ++ [some ⟨e, [e.zero]⟩]))) := by
  subst hz hs
  refine (hop_eq rfl).trans ?_
  simp only [evO, List.length_append, List.append_assoc]
theorem bx_o {Z G S : Heap} {z s : Nat} {e : ETy} {x : AV} {K : AV → Heap → Ans} (hz : Z.length = z) (hs : S.length = s) (h : elOk e x = true) : C0.hop (Z ++ (G ++ S)) (.box e (.v x)) K = K (.ptr (z + (G.length + s)) 0 0) (Z ++ (G ++ (S ++ [some ⟨e, [x]⟩]))) := by
  subst hz hs
  refine (hop_eq (v := .ptr (Z ++ (G ++ S)).length 0 0) (H' := (Z ++ (G ++ S)) ++ [some ⟨e, [x]⟩]) (by simp [aop, evO, h])).trans ?_
  simp only [List.length_append, List.append_assoc]
theorem ld_z {Z X : Heap} {k i j n : Nat} {ag : Bool} {b : Blk} {el v : AV} {K : AV → Heap → Ans} (h : Z[k]? = some (some b)) (hi : b.els[i]? = some el) (hs : sub ag n j el = some v) :
    C0.hop (Z ++ X) (.load ag n (.v (.ptr k i j))) K = K v (Z ++ X) := ld_ptr (hg_z h) hi hs
theorem ld_o {Z G S : Heap} {z k i j n : Nat} {ag : Bool} {b : Blk} {el v : AV} {K : AV → Heap → Ans} (hz : Z.length = z) (h : S[k]? = some (some b)) (hi : b.els[i]? = some el) (hs : sub ag n j el = some v) :
    C0.hop (Z ++ (G ++ S)) (.load ag n (.v (.ptr (z + (G.length + k)) i j))) K = K v (Z ++ (G ++ S)) := ld_ptr (hg_o hz h) hi hs
theorem st_z {Z X : Heap} {k i j n : Nat} {b : Blk} {el el' x : AV} {K : AV → Heap → Ans} (h : Z[k]? = some (some b)) (hi : b.els[i]? = some el) (hs : putSub n j x el = some el') :
    C0.hop (Z ++ X) (.store n (.v (.ptr k i j)) (.v x)) K = K .undef (Z.set k (some { b with els := b.els.set i el' }) ++ X) := by
  rw [st_ptr (hg_z h) hi hs, set_z h]
theorem st_o {Z G S : Heap} {z k i j n : Nat} {b : Blk} {el el' x : AV} {K : AV → Heap → Ans} (hz : Z.length = z) (h : S[k]? = some (some b)) (hi : b.els[i]? = some el) (hs : putSub n j x el = some el') :
    C0.hop (Z ++ (G ++ S)) (.store n (.v (.ptr (z + (G.length + k)) i j)) (.v x)) K = K .undef (Z ++ (G ++ S.set k (some { b with els := b.els.set i el' }))) := by
  rw [st_ptr (hg_o hz h) hi hs, set_o hz]
theorem sub_w {cs : List AV} {n : Nat} (h : cs.length = n) : sub true n 0 (.agg cs) = some (.agg cs) := by
  subst h; simp [sub]
theorem ld_zw {Z X : Heap} {k i n : Nat} {b : Blk} {cs : List AV} {K : AV → Heap → Ans} (h : Z[k]? = some (some b)) (hi : b.els[i]? = some (.agg cs)) (hn : cs.length = n) :
    C0.hop (Z ++ X) (.load true n (.v (.ptr k i 0))) K = K (.agg cs) (Z ++ X) := ld_z h hi (sub_w hn)
theorem ld_ow {Z G S : Heap} {z k i n : Nat} {b : Blk} {cs : List AV} {K : AV → Heap → Ans} (hz : Z.length = z) (h : S[k]? = some (some b)) (hi : b.els[i]? = some (.agg cs)) (hn : cs.length = n) :
    C0.hop (Z ++ (G ++ S)) (.load true n (.v (.ptr (z + (G.length + k)) i 0))) K = K (.agg cs) (Z ++ (G ++ S)) := ld_o hz h hi (sub_w hn)
theorem gen_at {l : List AV} {i : Nat} {a : AV} (h : l[i]? = some a) : l[i]? = some a := h
theorem h_any {H : Heap} {io : IOp} {K : AV → Heap → Ans} : C0.hop H io K = C0.hop ([] ++ (H ++ [])) io K := by rw [List.nil_append, List.append_nil]
/-- One more onto a slice of one's own, whatever was made since. -/
theorem app_go {H S : Heap} {e : ETy} {v x : AV} {l : List AV} {K : AV → Heap → Ans} {r : Ans} (ho : Own H e v l) (hx : elOk e x = true) (hs : (l.length + 1) * e.bytes ≤ 140737488355328) (hs2 : l.length + 1 ≤ 9223372036854775807)
    (hk : ∀ v' H', Own H' e v' (l ++ [x]) → (∀ id b, ¬ names v id → hget H id = some b → hget H' id = some b) → K v' H' = r) : (C0.hop ([] ++ (H ++ S)) (.mkrow e 1 [(0, .v x)]) fun r H1 => C0.hop H1 (.app e (.v v) (.v r)) K) = r := by
  have ho' : Own ([] ++ (H ++ S)) e v l := own_keep ho fun id b _ h => by rw [List.nil_append]; exact hget_app h
  obtain ⟨v', H', h1, h2, h3, h4, h5⟩ := app_one ho' hx hs hs2
  rw [h1]; exact hk v' H' h2 (fun id b hn h => h5 id b hn (by rw [List.nil_append]; exact hget_app h))
/-- Memory at the start. -/
theorem h_start {io : IOp} {K : AV → Heap → Ans} : C0.hop [] io K = C0.hop ([] ++ ([] ++ [])) io K := rfl
theorem h_more {Z G : Heap} {io : IOp} {K : AV → Heap → Ans} : C0.hop (Z ++ G) io K = C0.hop (Z ++ (G ++ [])) io K := by rw [List.append_nil]
theorem pl_zsl {o : Option AV} {b : Bool} {K : List AV → Ans} {Z : Bool → Ans} (h : o = some (.zsl b)) : C0.lst o K Z = Z b := by subst h; rfl
theorem c_ort {b : Bool} {x y : Ans} : cnd (b || true) x y = x := by cases b <;> rfl
theorem c_nt {x y : Ans} : cnd (!true) x y = y := rfl
theorem c_nf {x y : Ans} : cnd (!false) x y = x := rfl
theorem f_free {H : Heap} {v : AV} (h : snap 12 H v = v) : C0.fin H v = some v := by rw [C0_fin, h]
theorem at8 (a b c d e f g h i : AV) (l : List AV) : (a :: b :: c :: d :: e :: f :: g :: h :: i :: l)[8]? = some i := rfl
theorem at9 (a b c d e f g h i j : AV) (l : List AV) : (a :: b :: c :: d :: e :: f :: g :: h :: i :: j :: l)[9]? = some j := rfl
theorem at10 (a b c d e f g h i j k : AV) (l : List AV) : (a :: b :: c :: d :: e :: f :: g :: h :: i :: j :: k :: l)[10]? = some k := rfl
theorem tt {a b c : Ans} (h : a = b) (k : b = c) : a = c := h.trans k
theorem w2 {k : IntKind} {o : Option AV} {n : Int} {K : Int → Ans} (h : o = some (.int k n) := by first | with_reducible rfl | exact at0 _ _ | exact at1 _ _ _ | exact at2 _ _ _ _ | exact at3 _ _ _ _ _ | exact at4 _ _ _ _ _ _ | exact at5 _ _ _ _ _ _ _ | exact at6 _ _ _ _ _ _ _ _ | exact at7 _ _ _ _ _ _ _ _ _ | exact at8 _ _ _ _ _ _ _ _ _ _ | exact at9 _ _ _ _ _ _ _ _ _ _ _ | exact at10 _ _ _ _ _ _ _ _ _ _ _ _ | exact gen_at (by with_unfolding_all rfl)) : C0.int k o K = K n := pl_int h
theorem w3 {o : Option AV} {n : Bool} {K : Bool → Ans} (h : o = some (.bool n) := by first | with_reducible rfl | exact at0 _ _ | exact at1 _ _ _ | exact at2 _ _ _ _ | exact at3 _ _ _ _ _ | exact at4 _ _ _ _ _ _ | exact at5 _ _ _ _ _ _ _ | exact at6 _ _ _ _ _ _ _ _ | exact at7 _ _ _ _ _ _ _ _ _ | exact at8 _ _ _ _ _ _ _ _ _ _ | exact at9 _ _ _ _ _ _ _ _ _ _ _ | exact at10 _ _ _ _ _ _ _ _ _ _ _ _ | exact gen_at (by with_unfolding_all rfl)) : C0.bool o K = K n := pl_bool h
theorem w4 {o : Option AV} {v : AV} {K : AV → Ans} (h : o = some v := by first | with_reducible rfl | exact at0 _ _ | exact at1 _ _ _ | exact at2 _ _ _ _ | exact at3 _ _ _ _ _ | exact at4 _ _ _ _ _ _ | exact at5 _ _ _ _ _ _ _ | exact at6 _ _ _ _ _ _ _ _ | exact at7 _ _ _ _ _ _ _ _ _ | exact at8 _ _ _ _ _ _ _ _ _ _ | exact at9 _ _ _ _ _ _ _ _ _ _ _ | exact at10 _ _ _ _ _ _ _ _ _ _ _ _ | exact gen_at (by with_unfolding_all rfl)) : C0.any o K = K v := pl_any h
theorem w5 {o : Option AV} {n : List UInt8} {K : List UInt8 → Ans} (h : o = some (.str n) := by first | with_reducible rfl | exact at0 _ _ | exact at1 _ _ _ | exact at2 _ _ _ _ | exact at3 _ _ _ _ _ | exact at4 _ _ _ _ _ _ | exact at5 _ _ _ _ _ _ _ | exact at6 _ _ _ _ _ _ _ _ | exact at7 _ _ _ _ _ _ _ _ _ | exact at8 _ _ _ _ _ _ _ _ _ _ | exact at9 _ _ _ _ _ _ _ _ _ _ _ | exact at10 _ _ _ _ _ _ _ _ _ _ _ _ | exact gen_at (by with_unfolding_all rfl)) : C0.str o K = K n := pl_str h
theorem w6 {o : Option AV} {l : List AV} {K : List AV → Ans} {Z : Bool → Ans} (h : o = some (.lst l) := by first | with_reducible rfl | exact at0 _ _ | exact at1 _ _ _ | exact at2 _ _ _ _ | exact at3 _ _ _ _ _ | exact at4 _ _ _ _ _ _ | exact at5 _ _ _ _ _ _ _ | exact at6 _ _ _ _ _ _ _ _ | exact at7 _ _ _ _ _ _ _ _ _ | exact at8 _ _ _ _ _ _ _ _ _ _ | exact at9 _ _ _ _ _ _ _ _ _ _ _ | exact at10 _ _ _ _ _ _ _ _ _ _ _ _ | exact gen_at (by with_unfolding_all rfl)) : C0.lst o K Z = K l := pl_lst h
theorem w7 {o : Option AV} {b : Bool} {K : List AV → Ans} {Z : Bool → Ans} (h : o = some (.zsl b) := by first | with_reducible rfl | exact at0 _ _ | exact at1 _ _ _ | exact at2 _ _ _ _ | exact at3 _ _ _ _ _ | exact at4 _ _ _ _ _ _ | exact at5 _ _ _ _ _ _ _ | exact at6 _ _ _ _ _ _ _ _ | exact at7 _ _ _ _ _ _ _ _ _ | exact at8 _ _ _ _ _ _ _ _ _ _ | exact at9 _ _ _ _ _ _ _ _ _ _ _ | exact at10 _ _ _ _ _ _ _ _ _ _ _ _ | exact gen_at (by with_unfolding_all rfl)) : C0.lst o K Z = Z b := pl_zsl h
theorem w8 {n : Nat} {o : Option AV} {l : List AV} {K : List AV → Ans} (h : o = some (.agg l) := by first | with_reducible rfl | exact at0 _ _ | exact at1 _ _ _ | exact at2 _ _ _ _ | exact at3 _ _ _ _ _ | exact at4 _ _ _ _ _ _ | exact at5 _ _ _ _ _ _ _ | exact at6 _ _ _ _ _ _ _ _ | exact at7 _ _ _ _ _ _ _ _ _ | exact at8 _ _ _ _ _ _ _ _ _ _ | exact at9 _ _ _ _ _ _ _ _ _ _ _ | exact at10 _ _ _ _ _ _ _ _ _ _ _ _ | exact gen_at (by with_unfolding_all rfl)) (h2 : l.length = n := by with_unfolding_all rfl) : C0.agg n o K = K l := pl_agg h h2
theorem w9 {n : Nat} {o : Option AV} {l : List AV} {K : List AV → Ans} (h : o = some (.tup l) := by first | with_reducible rfl | exact at0 _ _ | exact at1 _ _ _ | exact at2 _ _ _ _ | exact at3 _ _ _ _ _ | exact at4 _ _ _ _ _ _ | exact at5 _ _ _ _ _ _ _ | exact at6 _ _ _ _ _ _ _ _ | exact at7 _ _ _ _ _ _ _ _ _ | exact at8 _ _ _ _ _ _ _ _ _ _ | exact at9 _ _ _ _ _ _ _ _ _ _ _ | exact at10 _ _ _ _ _ _ _ _ _ _ _ _ | exact gen_at (by with_unfolding_all rfl)) (h2 : l.length = n := by with_unfolding_all rfl) : C0.tup n o K = K l := pl_tup h h2
theorem wf {Z X : Heap} {k i n : Nat} {b : Blk} {cs : List AV} {K : AV → Heap → Ans} (h : Z[k]? = some (some b) := by with_unfolding_all rfl) (hi : b.els[i]? = some (.agg cs) := by with_unfolding_all rfl) (hn : cs.length = n := by with_unfolding_all rfl) :
    C0.hop (Z ++ X) (.load true n (.v (.ptr k i 0))) K = K (.agg cs) (Z ++ X) := ld_zw h hi hn
theorem wg {Z G S : Heap} {z k i n : Nat} {b : Blk} {cs : List AV} {K : AV → Heap → Ans} (hz : Z.length = z := by with_unfolding_all rfl) (h : S[k]? = some (some b) := by with_unfolding_all rfl) (hi : b.els[i]? = some (.agg cs) := by with_unfolding_all rfl) (hn : cs.length = n := by with_unfolding_all rfl) :
    C0.hop (Z ++ (G ++ S)) (.load true n (.v (.ptr (z + (G.length + k)) i 0))) K = K (.agg cs) (Z ++ (G ++ S)) := ld_ow hz h hi hn
theorem wh {Z X : Heap} {k i j n : Nat} {ag : Bool} {b : Blk} {el v : AV} {K : AV → Heap → Ans} (h : Z[k]? = some (some b) := by with_unfolding_all rfl) (hi : b.els[i]? = some el := by with_unfolding_all rfl) (hs : sub ag n j el = some v := by with_unfolding_all rfl) :
    C0.hop (Z ++ X) (.load ag n (.v (.ptr k i j))) K = K v (Z ++ X) := ld_z h hi hs
theorem wi {Z G S : Heap} {z k i j n : Nat} {ag : Bool} {b : Blk} {el v : AV} {K : AV → Heap → Ans} (hz : Z.length = z := by with_unfolding_all rfl) (h : S[k]? = some (some b) := by with_unfolding_all rfl) (hi : b.els[i]? = some el := by with_unfolding_all rfl) (hs : sub ag n j el = some v := by with_unfolding_all rfl) :
    C0.hop (Z ++ (G ++ S)) (.load ag n (.v (.ptr (z + (G.length + k)) i j))) K = K v (Z ++ (G ++ S)) := ld_o hz h hi hs
theorem wj {Z X : Heap} {k i j n : Nat} {b : Blk} {el el' x : AV} {K : AV → Heap → Ans} (h : Z[k]? = some (some b) := by with_unfolding_all rfl) (hi : b.els[i]? = some el := by with_unfolding_all rfl) (hs : putSub n j x el = some el' := by with_unfolding_all rfl) :
    C0.hop (Z ++ X) (.store n (.v (.ptr k i j)) (.v x)) K = K .undef (Z.set k (some { b with els := b.els.set i el' }) ++ X) := st_z h hi hs
theorem wk {Z G S : Heap} {z k i j n : Nat} {b : Blk} {el el' x : AV} {K : AV → Heap → Ans} (hz : Z.length = z := by with_unfolding_all rfl) (h : S[k]? = some (some b) := by with_unfolding_all rfl) (hi : b.els[i]? = some el := by with_unfolding_all rfl) (hs : putSub n j x el = some el' := by with_unfolding_all rfl) :
    C0.hop (Z ++ (G ++ S)) (.store n (.v (.ptr (z + (G.length + k)) i j)) (.v x)) K = K .undef (Z ++ (G ++ S.set k (some { b with els := b.els.set i el' }))) := st_o hz h hi hs
theorem wl {Z G S : Heap} {z s : Nat} {e : ETy} {K : AV → Heap → Ans} (hz : Z.length = z := by with_unfolding_all rfl) (hs : S.length = s := by with_unfolding_all rfl) : C0.hop (Z ++ (G ++ S)) (.alloc e) K = K (.ptr (z + (G.length + s)) 0 0) (Z ++ (G ++ (S ++ [some ⟨e, [e.zero]⟩]))) := al_o hz hs
theorem wm {Z G S : Heap} {z s : Nat} {e : ETy} {x : AV} {K : AV → Heap → Ans} (hz : Z.length = z := by with_unfolding_all rfl) (hs : S.length = s := by with_unfolding_all rfl) (h : elOk e x = true := by with_unfolding_all rfl) : C0.hop (Z ++ (G ++ S)) (.box e (.v x)) K = K (.ptr (z + (G.length + s)) 0 0) (Z ++ (G ++ (S ++ [some ⟨e, [x]⟩]))) := bx_o hz hs h
theorem wn {H : Heap} {x v : AV} {j n : Nat} {ag : Bool} {K : AV → Heap → Ans} (hs : sub ag n j x = some v := by with_unfolding_all rfl) : C0.hop H (.load ag n (.v (.fptr x j))) K = K v H := ld_fptr hs
theorem wo {H : Heap} {args : List AV} {K : List AV → Bool → Ans} (h : args.all (noId DEPTH) = true := by with_unfolding_all rfl) : C0.snp H args K = K args true := snp_free h
theorem wx {H : Heap} {len es id i j : Nat} {q : Int} {K : AV → Heap → Ans} (h : (decide (0 ≤ q) && decide (q < (len : Int))) = true := by with_unfolding_all rfl) : C0.hop H (.ixAA len es (.v (.ptr id i j)) (.v (.int .i64 q))) K = K (.ptr id i (j + q.toNat * es)) H := by
  have h' : 0 ≤ q ∧ q < (len : Int) := by simpa using h
  exact hop_eq (by simp only [aop, evO, aInt, aShift]; rw [if_pos h'])
end Go.Proofs.Ytkfppigcjdapnaa.AE

namespace Go.Proofs.Ytkfppigcjdapnaa.AE
set_option linter.unusedVariables false
set_option linter.unusedSimpArgs false
set_option linter.constructorNameAsVariable false
open Go Go.Proofs.Ytkfppigcjdapnaa.Geo
abbrev Bx := Pt × Pt
abbrev bx (b : Bx) : AV := .agg [.int .i64 b.1.1, .int .i64 b.1.2, .int .i64 b.2.1, .int .i64 b.2.2]
def zB : Bx := ((0, 0), (0, 0))
theorem drop_vv {ps : List Pt} {i : Nat} (h : i < ps.length) : ps.drop i = vv ps i :: ps.drop (i + 1) := by
  rw [List.drop_eq_getElem_cons h]; unfold vv; rw [List.getD_eq_getElem?_getD, List.getElem?_eq_getElem h]; rfl
theorem wsuc {i : Nat} (h : (i : Int) < 9223372036854775807) : IntKind.wrap .i64 ((i : Int) + 1) = ((i + 1 : Nat) : Int) := by rw [IntKind.wrap_i64]; omega
theorem ix_pts {ps : List Pt} {i : Nat} {H : Heap} {K : AV → Heap → Ans} (h : i < ps.length) : C0.hop H (.ixAS .any 2 (.v (.lst (ps.map pt))) (.v (.int .i64 (i : Nat)))) K = K (.fptr (pt (vv ps i)) 0) H := ix_lst (by omega) (vv_at h) (by rfl)
theorem ix_pts0 {ps : List Pt} {H : Heap} {K : AV → Heap → Ans} (h : 0 < ps.length) : C0.hop H (.ixAS .any 2 (.v (.lst (ps.map pt))) (.v (.int .i64 0))) K = K (.fptr (pt (vv ps 0)) 0) H := ix_pts (i := 0) h
theorem sideUp_on (ps : List Pt) (p : Pt) : ∀ (m i : Nat) (o : Bool), (∃ j, i ≤ j ∧ j < i + m ∧ onB p (vv ps j) (vv ps (nx ps j)) = true) → sideUp ps p m i o = 0
  | 0, i, o, ⟨j, h1, h2, _⟩ => (by omega)
  | m + 1, i, o, ⟨j, h1, h2, h3⟩ => by
    simp only [sideUp]
    cases h : onB p (vv ps i) (vv ps (nx ps i))
    · have hj : j ≠ i := fun e => by subst e; rw [h] at h3; cases h3
      exact sideUp_on ps p m (i + 1) _ ⟨j, by omega, by omega, h3⟩
    · rfl
theorem sideUp_off (ps : List Pt) (p : Pt) : ∀ (m i : Nat) (o : Bool), (∀ j, i ≤ j → j < i + m → onB p (vv ps j) (vv ps (nx ps j)) = false) → sideUp ps p m i o = sgn1 (xor o (xr (fun k => crsB ps p (i + k)) m))
  | 0, i, o, h => by simp [sideUp, xr, sgn1]
  | m + 1, i, o, h => by
    simp only [sideUp, h i (Nat.le_refl _) (by omega), cond_false]
    rw [sideUp_off ps p m (i + 1) _ (fun j a b => h j (by omega) (by omega)), xr_shift]
    have e : xr (fun k => crsB ps p (i + 1 + k)) m = xr (fun k => crsB ps p (i + (k + 1))) m := xr_congr fun k _ => by rw [Nat.add_assoc, Nat.add_comm 1 k]
    rw [e, Nat.add_zero, Bool.xor_assoc]
theorem onB_off {p a b : Pt} (h : ¬ On p a b) : onB p a b = false := decide_eq_false fun g => h g.2
theorem sideB_odd {ps : List Pt} {p : Pt} (hr : rightB ps = true) (hp : okb p = true) (h : ∀ j, j < ps.length → ¬ On p (vv ps j) (vv ps (nx ps j))) : sideB ps p = sgn1 (odd p (vv ps) ps.length) := by
  unfold sideB
  rw [hr, hp]
  simp only [cond_true]
  rw [sideUp_off ps p ps.length 0 false (fun j _ b => onB_off (h j (by omega)))]
  simp only [Bool.false_xor, Nat.zero_add]
  rfl
theorem sideB_on {ps : List Pt} {p : Pt} (hr : rightB ps = true) (hp : okb p = true) {j : Nat} (hj : j < ps.length) (h : On p (vv ps j) (vv ps (nx ps j))) : sideB ps p = 0 := by
  have ok := (right_ok hr).2.2
  unfold sideB
  rw [hr, hp]
  exact sideUp_on ps p ps.length 0 false ⟨j, by omega, by omega, onB_t.mpr ⟨⟨okb_t.mp hp, vv_ok ok hj, vv_ok ok (nx_lt hj)⟩, h⟩⟩
end Go.Proofs.Ytkfppigcjdapnaa.AE

namespace Go.Proofs.Ytkfppigcjdapnaa.AE
set_option linter.unusedVariables false
set_option linter.unusedSimpArgs false
set_option linter.constructorNameAsVariable false
open Go Go.Proofs.Ytkfppigcjdapnaa.Geo
attribute [local irreducible] pcall C0
def bbStep (b : Bx) (p : Pt) : Bx := ((if p.1 < b.1.1 then p.1 else b.1.1, if p.2 < b.1.2 then p.2 else b.1.2), (if p.1 > b.2.1 then p.1 else b.2.1, if p.2 > b.2.2 then p.2 else b.2.2))
def bbX (ps : List Pt) : Bx := ps.foldl bbStep (vv ps 0, vv ps 0)
theorem bounds0 (d : Nat) (ps : List Pt) (hl : ps.length ≤ 140737488355328) : ∀ (m i f : Nat) (b : Bx) (G : Heap), i + m = ps.length → m < f →
    L11_0 d (ps.map pt) (.ptr 0 0 0) (ps.length : Nat) f (i : Nat) ([some ⟨E28, [bx b]⟩] ++ G) = some (.tup [bx ((ps.drop i).foldl bbStep b), .bool true]) := by
  intro m
  induction m with
  | zero =>
    intro i f b G hi hf
    obtain ⟨f, rfl⟩ : ∃ g, f = g + 1 := ⟨f - 1, by omega⟩
    rw [L11_0, decide_eq_false (by omega), cnd_f, X11_0_0, List.drop_eq_nil_of_le (by omega)]
    repeat with_reducible first | refine tt sh_ptr ?_ | refine tt sh_fptr ?_ | refine tt w2 ?_ | refine tt w3 ?_ | refine tt w8 ?_ | refine tt w9 ?_ | refine tt wf ?_ | refine tt wg ?_ | refine tt wh ?_ | refine tt wi ?_ | refine tt wj ?_ | refine tt wk ?_ | refine tt wl ?_ | refine tt wn ?_ | refine tt c_ort ?_ | refine tt c_nt ?_ | refine tt c_nf ?_ | refine tt (cnd_t _ _) ?_ | refine tt (cnd_f _ _) ?_ | refine tt w6 ?_ | refine tt w4 ?_ | refine tt w5 ?_ | refine tt w7 ?_ | refine tt wm ?_ | refine tt wo ?_ | refine tt wx ?_ | refine tt nil_ptr ?_ | refine tt len_lst ?_ | refine tt len_zsl ?_
    exact f_free (by rfl)
  | succ m ih =>
    intro i f b G hi hf
    obtain ⟨f, rfl⟩ : ∃ g, f = g + 1 := ⟨f - 1, by omega⟩
    have hil : i < ps.length := by omega
    rw [L11_0, decide_eq_true (by omega), cnd_t]
    refine Eq.trans h_more ?_
    repeat with_reducible first | refine tt sh_ptr ?_ | refine tt sh_fptr ?_ | refine tt w2 ?_ | refine tt w3 ?_ | refine tt w8 ?_ | refine tt w9 ?_ | refine tt wf ?_ | refine tt wg ?_ | refine tt wh ?_ | refine tt wi ?_ | refine tt wj ?_ | refine tt wk ?_ | refine tt wl ?_ | refine tt wn ?_ | refine tt c_ort ?_ | refine tt c_nt ?_ | refine tt c_nf ?_ | refine tt (cnd_t _ _) ?_ | refine tt (cnd_f _ _) ?_ | refine tt w6 ?_ | refine tt w4 ?_ | refine tt w5 ?_ | refine tt w7 ?_ | refine tt wm ?_ | refine tt wo ?_ | refine tt wx ?_ | refine tt nil_ptr ?_ | refine tt len_lst ?_ | refine tt len_zsl ?_ | refine tt (ix_pts hil) ?_
    rw [wsuc (by omega), drop_vv hil]
    exact ih (i + 1) f (bbStep b (vv ps i)) _ (by omega) (by omega)
theorem s11 (d : Nat) (ps : List Pt) (hl : ps.length ≤ 140737488355328) : pcall M (d + 13) 11 [.lst (ps.map pt)] = some (.tup [bx (bif rightB ps then bbX ps else zB), .bool (rightB ps)]) := told (q11 (d + 12) _) (by
  refine Eq.trans h_start ?_
  repeat with_reducible first | refine tt sh_ptr ?_ | refine tt sh_fptr ?_ | refine tt w2 ?_ | refine tt w3 ?_ | refine tt w8 ?_ | refine tt w9 ?_ | refine tt wf ?_ | refine tt wg ?_ | refine tt wh ?_ | refine tt wi ?_ | refine tt wj ?_ | refine tt wk ?_ | refine tt wl ?_ | refine tt wn ?_ | refine tt c_ort ?_ | refine tt c_nt ?_ | refine tt c_nf ?_ | refine tt (cnd_t _ _) ?_ | refine tt (cnd_f _ _) ?_ | refine tt w6 ?_ | refine tt w4 ?_ | refine tt w5 ?_ | refine tt w7 ?_ | refine tt wm ?_ | refine tt wo ?_ | refine tt wx ?_ | refine tt nil_ptr ?_ | refine tt len_lst ?_ | refine tt len_zsl ?_
  refine Eq.trans (pl_bool (s15 d ps hl)) ?_
  repeat with_reducible first | refine tt sh_ptr ?_ | refine tt sh_fptr ?_ | refine tt w2 ?_ | refine tt w3 ?_ | refine tt w8 ?_ | refine tt w9 ?_ | refine tt wf ?_ | refine tt wg ?_ | refine tt wh ?_ | refine tt wi ?_ | refine tt wj ?_ | refine tt wk ?_ | refine tt wl ?_ | refine tt wn ?_ | refine tt c_ort ?_ | refine tt c_nt ?_ | refine tt c_nf ?_ | refine tt (cnd_t _ _) ?_ | refine tt (cnd_f _ _) ?_ | refine tt w6 ?_ | refine tt w4 ?_ | refine tt w5 ?_ | refine tt w7 ?_ | refine tt wm ?_ | refine tt wo ?_ | refine tt wx ?_ | refine tt nil_ptr ?_ | refine tt len_lst ?_ | refine tt len_zsl ?_
  cases hr : rightB ps
  · repeat with_reducible first | refine tt sh_ptr ?_ | refine tt sh_fptr ?_ | refine tt w2 ?_ | refine tt w3 ?_ | refine tt w8 ?_ | refine tt w9 ?_ | refine tt wf ?_ | refine tt wg ?_ | refine tt wh ?_ | refine tt wi ?_ | refine tt wj ?_ | refine tt wk ?_ | refine tt wl ?_ | refine tt wn ?_ | refine tt c_ort ?_ | refine tt c_nt ?_ | refine tt c_nf ?_ | refine tt (cnd_t _ _) ?_ | refine tt (cnd_f _ _) ?_ | refine tt w6 ?_ | refine tt w4 ?_ | refine tt w5 ?_ | refine tt w7 ?_ | refine tt wm ?_ | refine tt wo ?_ | refine tt wx ?_ | refine tt nil_ptr ?_ | refine tt len_lst ?_ | refine tt len_zsl ?_
    exact f_free (by rfl)
  · have h3 := (right_ok hr).1
    repeat with_reducible first | refine tt sh_ptr ?_ | refine tt sh_fptr ?_ | refine tt w2 ?_ | refine tt w3 ?_ | refine tt w8 ?_ | refine tt w9 ?_ | refine tt wf ?_ | refine tt wg ?_ | refine tt wh ?_ | refine tt wi ?_ | refine tt wj ?_ | refine tt wk ?_ | refine tt wl ?_ | refine tt wn ?_ | refine tt c_ort ?_ | refine tt c_nt ?_ | refine tt c_nf ?_ | refine tt (cnd_t _ _) ?_ | refine tt (cnd_f _ _) ?_ | refine tt w6 ?_ | refine tt w4 ?_ | refine tt w5 ?_ | refine tt w7 ?_ | refine tt wm ?_ | refine tt wo ?_ | refine tt wx ?_ | refine tt nil_ptr ?_ | refine tt len_lst ?_ | refine tt len_zsl ?_ | refine tt (ix_pts0 (by omega)) ?_
    rw [pmap_len]
    obtain ⟨fuel, hfuel⟩ : ∃ f : Nat, f = 1000000000000000000 := ⟨_, rfl⟩; rw [← hfuel]
    exact bounds0 (d + 12) ps hl ps.length 0 fuel (vv ps 0, vv ps 0) [] (by omega) (by omega))
end Go.Proofs.Ytkfppigcjdapnaa.AE

namespace Go.Proofs.Ytkfppigcjdapnaa.AE
set_option linter.unusedVariables false
set_option linter.unusedSimpArgs false
set_option linter.constructorNameAsVariable false
open Go Go.Proofs.Ytkfppigcjdapnaa.Geo
theorem s64 (d : Nat) (x : Int) (h : -9223372036854775808 ≤ x) (h' : x < 9223372036854775808) : pcall M (d + 1) 64 [.int .i64 x] = some (.agg [.int .i64 (hiw x), .int .u64 (low x)]) := told (r64 C0 d x) (by
  rw [show ((2 : Int) ^ (min (Int.toNat 63) 64)) = 9223372036854775808 from by decide, Int.fdiv_eq_ediv_of_nonneg x (by decide)]
  have e1 : x / 9223372036854775808 = hiw x := by unfold hiw; rw [i64w]; omega
  have e2 : IntKind.wrap .u64 x = low x := by unfold low; rw [u64w]
  rw [e1, e2])
def fitB (v : Int) : Bool := decide (-9223372036854775808 ≤ v ∧ v < 9223372036854775808)
theorem s71 (d : Nat) (v : Int) (h : -170141183460469231731687303715884105728 ≤ v) (h' : v < 170141183460469231731687303715884105728) : pcall M (d + 2) 71 [.agg [.int .i64 (hiw v), .int .u64 (low v)]] = some (.tup [.int .i64 (if fitB v then v else 0), .bool (fitB v)]) := told (r71 C0 (d + 1) _ _) (by
  have hw : -9223372036854775808 ≤ IntKind.wrap .i64 (low v) ∧ IntKind.wrap .i64 (low v) < 9223372036854775808 := by rw [i64w]; omega
  rw [s64 d _ hw.1 hw.2, C0_agg2]
  simp only [at0, at1, C0_int]
  by_cases hf : fitB v = true
  · have h2 := of_decide_eq_true hf
    have e : IntKind.wrap .i64 (low v) = v := by unfold low; rw [i64w]; omega
    rw [e, hf]
    simp [cnd_f]
  · have h2 : ¬ (-9223372036854775808 ≤ v ∧ v < 9223372036854775808) := fun g => hf (decide_eq_true g)
    have e : (hiw (IntKind.wrap .i64 (low v)) == hiw v) = false := by
      rw [beq_eq_false_iff_ne]
      unfold hiw low
      rw [i64w, i64w, i64w]
      omega
    rw [e, Bool.eq_false_iff.mpr hf]
    simp [cnd_t])
theorem s63 (d : Nat) (v : Int) (h : -170141183460469231731687303715884105728 ≤ v) (h' : v < 170141183460469231731687303715884105728) : pcall M (d + 3) 63 [.agg [.int .i64 (hiw v), .int .u64 (low v)], .bool true] = some (.tup [.int .i64 (if fitB v then v else 0), .bool (fitB v)]) := told (r63 C0 (d + 2) _ _ true) (by
  rw [s71 d v h h', C0_tup2]
  simp only [at0, at1, C0_int, C0_bool, Bool.not_true, cnd_f])
end Go.Proofs.Ytkfppigcjdapnaa.AE

namespace Go.Proofs.Ytkfppigcjdapnaa.AE
set_option linter.unusedVariables false
set_option linter.unusedSimpArgs false
set_option linter.constructorNameAsVariable false
open Go Go.Proofs.Ytkfppigcjdapnaa.Geo
theorem add64_e (x y c : Int) (hx : 0 ≤ x) (hy : 0 ≤ y) (hc : 0 ≤ c) (hc' : c ≤ 1) : add64E [.int .u64 x, .int .u64 y, .int .u64 c] = some (.tup [.int .u64 ((x + y + c) % 18446744073709551616), .int .u64 ((x + y + c) / 18446744073709551616)]) := by
  simp [add64E, hx, hy, hc, hc']
theorem s41 (d : Nat) (x y : Int) (hx : -9223372036854775808 ≤ x) (hx' : x < 9223372036854775808) (hy : -9223372036854775808 ≤ y) (hy' : y < 9223372036854775808) :
    pcall M (d + 1) 41 [.agg [.int .i64 (hiw x), .int .u64 (low x)], .agg [.int .i64 (hiw y), .int .u64 (low y)]] = some (.tup [.agg [.int .i64 (hiw (x + y)), .int .u64 (low (x + y))], .bool true]) := told (r41 C0 d _ _ _ _) (by
  have l0 : 0 ≤ low x ∧ low x < 18446744073709551616 := by unfold low; omega
  have l1 : 0 ≤ low y ∧ low y < 18446744073709551616 := by unfold low; omega
  have hhx : hiw x = if x < 0 then -1 else 0 := by unfold hiw; rw [i64w]; split <;> omega
  have hhy : hiw y = if y < 0 then -1 else 0 := by unfold hiw; rw [i64w]; split <;> omega
  rw [add64_e _ _ _ l0.1 l1.1 (by decide) (by decide), C0_tup2]
  simp only [at0, at1, C0_int]
  rw [add64_e _ _ _ (by rw [u64w]; omega) (by rw [u64w]; omega) (by omega) (by omega), C0_tup2]
  simp only [at0, at1, C0_int, Int.add_zero]
  have e1 : (low x + low y) % 18446744073709551616 = low (x + y) := by unfold low; omega
  have e2 : IntKind.wrap .i64 ((IntKind.wrap .u64 (hiw x) + IntKind.wrap .u64 (hiw y) + (low x + low y) / 18446744073709551616) % 18446744073709551616) = hiw (x + y) := by
    rw [u64w, u64w, i64w]
    have : hiw (x + y) = (x + y) / 18446744073709551616 := by unfold hiw; rw [i64_small (by omega) (by omega)]
    rw [this, hhx, hhy]
    unfold low
    split <;> split <;> omega
  rw [e1, e2]
  have hs : hiw (x + y) = if x + y < 0 then -1 else 0 := by unfold hiw; rw [i64w]; split <;> omega
  have b1 := bits_rng_i64 .xor (hiw x) (hiw (x + y))
  have b2 := bits_rng_i64 .xor (hiw y) (hiw (x + y))
  have key : ¬ Go.bits .and .i64 (Go.bits .xor .i64 (hiw x) (hiw (x + y))) (Go.bits .xor .i64 (hiw y) (hiw (x + y))) < 0 := by
    rw [bits_and_sgn _ _ b1.1 b1.2 b2.1 b2.2, bits_xor_sgn _ _ (by rw [hhx]; split <;> omega) (by rw [hhx]; split <;> omega) (by rw [hs]; split <;> omega) (by rw [hs]; split <;> omega), bits_xor_sgn _ _ (by rw [hhy]; split <;> omega) (by rw [hhy]; split <;> omega) (by rw [hs]; split <;> omega) (by rw [hs]; split <;> omega), hhx, hhy, hs]
    split <;> split <;> split <;> omega
  rw [decide_eq_false key, cnd_f])
theorem s51 (d : Nat) (x y : Int) (hx : -9223372036854775808 ≤ x) (hx' : x < 9223372036854775808) (hy : -9223372036854775808 ≤ y) (hy' : y < 9223372036854775808) :
    pcall M (d + 4) 51 [.int .i64 x, .int .i64 y] = some (.tup [.int .i64 (if fitB (x + y) then x + y else 0), .bool (fitB (x + y))]) := told (r51 C0 (d + 3) _ _) (by
  rw [s64 (d + 2) x hx hx', s64 (d + 2) y hy hy', C0_agg2]
  simp only [at0, at1, C0_int, C0_agg2]
  rw [s41 (d + 2) x y hx hx' hy hy', C0_tup2]
  simp only [at0, at1, C0_int, C0_agg2, C0_bool]
  rw [s63 d (x + y) (by omega) (by omega), C0_tup2]
  simp only [at0, at1, C0_int, C0_bool])
end Go.Proofs.Ytkfppigcjdapnaa.AE

namespace Go.Proofs.Ytkfppigcjdapnaa.AE
set_option linter.unusedVariables false
set_option linter.unusedSimpArgs false
set_option linter.constructorNameAsVariable false
open Go
def In126 (x : Int) : Prop := -85070591730234615865843651857942052864 ≤ x ∧ x ≤ 85070591730234615865843651857942052864
theorem hiw_div {x : Int} (h : -170141183460469231731687303715884105728 ≤ x) (h' : x < 170141183460469231731687303715884105728) : hiw x = x / 18446744073709551616 := by
  unfold hiw; rw [i64_small (by omega) (by omega)]
theorem wadd (d : Nat) (x y : Int) (hx : In126 x) (hy : In126 y) (hz : In126 (x + y)) : pcall M (d + 1) 41 [wd x, wd y] = some (.tup [wd (x + y), .bool true]) := told (r41 C0 d _ _ _ _) (by
  unfold In126 at hx hy hz
  have l0 := low_rng x
  have l1 := low_rng y
  have hhx := hiw_div (x := x) (by omega) (by omega)
  have hhy := hiw_div (x := y) (by omega) (by omega)
  have hs := hiw_div (x := x + y) (by omega) (by omega)
  rw [add64_e _ _ _ l0.1 l1.1 (by decide) (by decide), C0_tup2]
  simp only [at0, at1, C0_int]
  rw [add64_e _ _ _ (by rw [u64w]; omega) (by rw [u64w]; omega) (by omega) (by omega), C0_tup2]
  simp only [at0, at1, C0_int, Int.add_zero]
  have e1 : (low x + low y) % 18446744073709551616 = low (x + y) := by unfold low; omega
  have e2 : IntKind.wrap .i64 ((IntKind.wrap .u64 (hiw x) + IntKind.wrap .u64 (hiw y) + (low x + low y) / 18446744073709551616) % 18446744073709551616) = hiw (x + y) := by
    rw [u64w, u64w, i64w, hs, hhx, hhy]
    unfold low
    omega
  rw [e1, e2]
  have b1 := bits_rng_i64 .xor (hiw x) (hiw (x + y))
  have b2 := bits_rng_i64 .xor (hiw y) (hiw (x + y))
  have r1 := hiw_rng x
  have r2 := hiw_rng y
  have r3 := hiw_rng (x + y)
  have key : ¬ Go.bits .and .i64 (Go.bits .xor .i64 (hiw x) (hiw (x + y))) (Go.bits .xor .i64 (hiw y) (hiw (x + y))) < 0 := by
    rw [bits_and_sgn _ _ b1.1 b1.2 b2.1 b2.2, bits_xor_sgn _ _ r1.1 r1.2 r3.1 r3.2, bits_xor_sgn _ _ r2.1 r2.2 r3.1 r3.2, hhx, hhy, hs]
    omega
  rw [decide_eq_false key, cnd_f])
theorem sub64_e (x y c : Int) (hx : 0 ≤ x) (hy : 0 ≤ y) (hy' : y < 18446744073709551616) (hc : 0 ≤ c) (hc' : c ≤ 1) : sub64E [.int .u64 x, .int .u64 y, .int .u64 c] = some (.tup [.int .u64 ((x - y - c) % 18446744073709551616), .int .u64 (if x < y + c then 1 else 0)]) := by
  simp [sub64E, hx, hy, hc, hc', hy']
theorem wsub (d : Nat) (x y : Int) (hx : In126 x) (hy : In126 y) (hz : In126 (x - y)) : pcall M (d + 1) 43 [wd x, wd y] = some (.tup [wd (x - y), .bool true]) := told (r43 C0 d _ _ _ _) (by
  unfold In126 at hx hy hz
  have l0 := low_rng x
  have l1 := low_rng y
  have hhx := hiw_div (x := x) (by omega) (by omega)
  have hhy := hiw_div (x := y) (by omega) (by omega)
  have hs := hiw_div (x := x - y) (by omega) (by omega)
  rw [sub64_e _ _ _ l0.1 l1.1 l1.2 (by decide) (by decide), C0_tup2]
  simp only [at0, at1, C0_int]
  rw [sub64_e _ _ _ (by rw [u64w]; omega) (by rw [u64w]; omega) (by rw [u64w]; omega) (by omega) (by omega), C0_tup2]
  simp only [at0, at1, C0_int, Int.sub_zero, Int.add_zero]
  have e1 : (low x - low y) % 18446744073709551616 = low (x - y) := by unfold low; omega
  have e2 : IntKind.wrap .i64 ((IntKind.wrap .u64 (hiw x) - IntKind.wrap .u64 (hiw y) - (if low x < low y then 1 else 0)) % 18446744073709551616) = hiw (x - y) := by
    rw [u64w, u64w, i64w, hs, hhx, hhy]
    unfold low
    omega
  rw [e1, e2]
  have b1 := bits_rng_i64 .xor (hiw x) (hiw y)
  have b2 := bits_rng_i64 .xor (hiw x) (hiw (x - y))
  have r1 := hiw_rng x
  have r2 := hiw_rng y
  have r3 := hiw_rng (x - y)
  have key : ¬ Go.bits .and .i64 (Go.bits .xor .i64 (hiw x) (hiw y)) (Go.bits .xor .i64 (hiw x) (hiw (x - y))) < 0 := by
    rw [bits_and_sgn _ _ b1.1 b1.2 b2.1 b2.2, bits_xor_sgn _ _ r1.1 r1.2 r2.1 r2.2, bits_xor_sgn _ _ r1.1 r1.2 r3.1 r3.2, hhx, hhy, hs]
    omega
  rw [decide_eq_false key, cnd_f])
end Go.Proofs.Ytkfppigcjdapnaa.AE

namespace Go.Proofs.Ytkfppigcjdapnaa.AE
set_option linter.unusedVariables false
set_option linter.unusedSimpArgs false
set_option linter.constructorNameAsVariable false
open Go Go.Proofs.Ytkfppigcjdapnaa.Geo
attribute [local irreducible] pcall C0
def nearP (p : Pt) : Prop := -1073741824 ≤ p.1 ∧ p.1 ≤ 1073741824 ∧ -1073741824 ≤ p.2 ∧ p.2 ≤ 1073741824
theorem near_right {ps : List Pt} (h : rightB ps = true) : ∀ p ∈ ps, nearP p := by
  unfold rightB at h
  have h2 := (Bool.and_eq_true_iff.mp h).2
  intro p hp
  have : farB p = false := by
    cases hf : farB p
    · rfl
    · have : ps.any farB = true := List.any_eq_true.mpr ⟨p, hp, hf⟩
      rw [this] at h2; cases h2
  unfold farB at this
  have := of_decide_eq_true (by simpa using this : decide (-1073741824 ≤ p.1 ∧ p.1 ≤ 1073741824 ∧ -1073741824 ≤ p.2 ∧ p.2 ≤ 1073741824) = true)
  exact this
theorem vv_near {ps : List Pt} (h : ∀ p ∈ ps, nearP p) {i : Nat} (hi : i < ps.length) : nearP (vv ps i) := by
  have : vv ps i = ps[i] := by simp [vv, List.getD_eq_getElem?_getD, hi]
  rw [this]; exact h _ (List.getElem_mem _)
/-- Twice the area, edge by edge. -/
def leftSum (ps : List Pt) : Nat → Nat → Int → Int
  | 0, _, s => s
  | m + 1, i, s => leftSum ps m (i + 1) (s + (vv ps i).1 * (vv ps (nx ps i)).2 - (vv ps i).2 * (vv ps (nx ps i)).1)
def leftB (ps : List Pt) : Bool := rightB ps && decide (leftSum ps ps.length 0 0 > 0)
theorem prod60 {x y : Int} (hx : -1073741824 ≤ x) (hx' : x ≤ 1073741824) (hy : -1073741824 ≤ y) (hy' : y ≤ 1073741824) : -1152921504606846976 ≤ x * y ∧ x * y ≤ 1152921504606846976 := by
  have := prod_bd (m := 1073741824) hx hx' hy hy'
  omega
theorem wd0 : (.agg [.int .i64 0, .int .u64 0] : AV) = wd 0 := by
  have e1 : hiw 0 = 0 := by decide
  have e2 : low 0 = 0 := by decide
  rw [wd, e1, e2]
theorem s44 (d : Nat) (a : Int) (h : In126 a) : pcall M (d + 4) 44 [wd a] = some (.int .i64 (cmp a 0)) := told (r44 C0 (d + 3) _ _) (by
  unfold In126 at h
  rw [wd0]
  exact pl_int (s54 d a 0 (by omega) (by omega) (by omega) (by omega)))
theorem cmp_pos (a : Int) : decide (cmp a 0 > 0) = decide (a > 0) := by
  rw [decide_eq_decide]; unfold cmp; split <;> (try split) <;> omega
theorem left0 (d : Nat) (ps : List Pt) (hl : ps.length ≤ 8) (hn : ∀ p ∈ ps, nearP p) : ∀ (m i f : Nat) (s : Int) (G : Heap), i + m = ps.length → m < f →
    -(2305843009213693952 * (i : Int)) ≤ s → s ≤ 2305843009213693952 * (i : Int) →
    L18_0 (d + 4) (ps.map pt) (.ptr 0 0 0) (ps.length : Nat) f (i : Nat) ([some ⟨E57, [wd s]⟩] ++ G) = some (.bool (decide (leftSum ps m i s > 0))) := by
  intro m
  induction m with
  | zero =>
    intro i f s G hi hf h1 h2
    obtain ⟨f, rfl⟩ : ∃ g, f = g + 1 := ⟨f - 1, by omega⟩
    rw [L18_0, decide_eq_false (by omega), cnd_f, X18_0_0]
    repeat with_reducible first | refine tt sh_ptr ?_ | refine tt sh_fptr ?_ | refine tt w2 ?_ | refine tt w3 ?_ | refine tt w8 ?_ | refine tt w9 ?_ | refine tt wf ?_ | refine tt wg ?_ | refine tt wh ?_ | refine tt wi ?_ | refine tt wj ?_ | refine tt wk ?_ | refine tt wl ?_ | refine tt wn ?_ | refine tt c_ort ?_ | refine tt c_nt ?_ | refine tt c_nf ?_ | refine tt (cnd_t _ _) ?_ | refine tt (cnd_f _ _) ?_ | refine tt w6 ?_ | refine tt w4 ?_ | refine tt w5 ?_ | refine tt w7 ?_ | refine tt wm ?_ | refine tt wo ?_ | refine tt wx ?_ | refine tt nil_ptr ?_ | refine tt len_lst ?_ | refine tt len_zsl ?_
    refine Eq.trans (pl_int (s44 d s (by unfold In126; omega))) ?_
    rw [cmp_pos]
    exact f_free (by rfl)
  | succ m ih =>
    intro i f s G hi hf h1 h2
    obtain ⟨f, rfl⟩ : ∃ g, f = g + 1 := ⟨f - 1, by omega⟩
    have hil : i < ps.length := by omega
    have n1 := vv_near hn hil
    have n2 := vv_near hn (nx_lt hil)
    unfold nearP at n1 n2
    have p1 := prod60 (x := (vv ps i).1) (y := (vv ps (nx ps i)).2) (by omega) (by omega) (by omega) (by omega)
    have p2 := prod60 (x := (vv ps i).2) (y := (vv ps (nx ps i)).1) (by omega) (by omega) (by omega) (by omega)
    rw [L18_0, decide_eq_true (by omega), cnd_t]
    repeat with_reducible first | refine tt sh_ptr ?_ | refine tt sh_fptr ?_ | refine tt w2 ?_ | refine tt w3 ?_ | refine tt w8 ?_ | refine tt w9 ?_ | refine tt wf ?_ | refine tt wg ?_ | refine tt wh ?_ | refine tt wi ?_ | refine tt wj ?_ | refine tt wk ?_ | refine tt wl ?_ | refine tt wn ?_ | refine tt c_ort ?_ | refine tt c_nt ?_ | refine tt c_nf ?_ | refine tt (cnd_t _ _) ?_ | refine tt (cnd_f _ _) ?_ | refine tt w6 ?_ | refine tt w4 ?_ | refine tt w5 ?_ | refine tt w7 ?_ | refine tt wm ?_ | refine tt wo ?_ | refine tt wx ?_ | refine tt nil_ptr ?_ | refine tt len_lst ?_ | refine tt len_zsl ?_
    refine Eq.trans (pl_tup (s39 (d + 3) ps i hil (by omega)) (by rfl)) ?_
    repeat with_reducible first | refine tt sh_ptr ?_ | refine tt sh_fptr ?_ | refine tt w2 ?_ | refine tt w3 ?_ | refine tt w8 ?_ | refine tt w9 ?_ | refine tt wf ?_ | refine tt wg ?_ | refine tt wh ?_ | refine tt wi ?_ | refine tt wj ?_ | refine tt wk ?_ | refine tt wl ?_ | refine tt wn ?_ | refine tt c_ort ?_ | refine tt c_nt ?_ | refine tt c_nf ?_ | refine tt (cnd_t _ _) ?_ | refine tt (cnd_f _ _) ?_ | refine tt w6 ?_ | refine tt w4 ?_ | refine tt w5 ?_ | refine tt w7 ?_ | refine tt wm ?_ | refine tt wo ?_ | refine tt wx ?_ | refine tt nil_ptr ?_ | refine tt len_lst ?_ | refine tt len_zsl ?_
    refine Eq.trans h_more ?_
    repeat with_reducible first | refine tt sh_ptr ?_ | refine tt sh_fptr ?_ | refine tt w2 ?_ | refine tt w3 ?_ | refine tt w8 ?_ | refine tt w9 ?_ | refine tt wf ?_ | refine tt wg ?_ | refine tt wh ?_ | refine tt wi ?_ | refine tt wj ?_ | refine tt wk ?_ | refine tt wl ?_ | refine tt wn ?_ | refine tt c_ort ?_ | refine tt c_nt ?_ | refine tt c_nf ?_ | refine tt (cnd_t _ _) ?_ | refine tt (cnd_f _ _) ?_ | refine tt w6 ?_ | refine tt w4 ?_ | refine tt w5 ?_ | refine tt w7 ?_ | refine tt wm ?_ | refine tt wo ?_ | refine tt wx ?_ | refine tt nil_ptr ?_ | refine tt len_lst ?_ | refine tt len_zsl ?_
    refine Eq.trans (pl_agg (s42 (d + 2) _ _ (by omega) (by omega) (by omega) (by omega)) (by rfl)) ?_
    repeat with_reducible first | refine tt sh_ptr ?_ | refine tt sh_fptr ?_ | refine tt w2 ?_ | refine tt w3 ?_ | refine tt w8 ?_ | refine tt w9 ?_ | refine tt wf ?_ | refine tt wg ?_ | refine tt wh ?_ | refine tt wi ?_ | refine tt wj ?_ | refine tt wk ?_ | refine tt wl ?_ | refine tt wn ?_ | refine tt c_ort ?_ | refine tt c_nt ?_ | refine tt c_nf ?_ | refine tt (cnd_t _ _) ?_ | refine tt (cnd_f _ _) ?_ | refine tt w6 ?_ | refine tt w4 ?_ | refine tt w5 ?_ | refine tt w7 ?_ | refine tt wm ?_ | refine tt wo ?_ | refine tt wx ?_ | refine tt nil_ptr ?_ | refine tt len_lst ?_ | refine tt len_zsl ?_
    refine Eq.trans (pl_tup (wadd (d + 3) s _ (by unfold In126; omega) (by unfold In126; omega) (by unfold In126; omega)) (by rfl)) ?_
    repeat with_reducible first | refine tt sh_ptr ?_ | refine tt sh_fptr ?_ | refine tt w2 ?_ | refine tt w3 ?_ | refine tt w8 ?_ | refine tt w9 ?_ | refine tt wf ?_ | refine tt wg ?_ | refine tt wh ?_ | refine tt wi ?_ | refine tt wj ?_ | refine tt wk ?_ | refine tt wl ?_ | refine tt wn ?_ | refine tt c_ort ?_ | refine tt c_nt ?_ | refine tt c_nf ?_ | refine tt (cnd_t _ _) ?_ | refine tt (cnd_f _ _) ?_ | refine tt w6 ?_ | refine tt w4 ?_ | refine tt w5 ?_ | refine tt w7 ?_ | refine tt wm ?_ | refine tt wo ?_ | refine tt wx ?_ | refine tt nil_ptr ?_ | refine tt len_lst ?_ | refine tt len_zsl ?_
    refine Eq.trans (pl_agg (s42 (d + 2) _ _ (by omega) (by omega) (by omega) (by omega)) (by rfl)) ?_
    repeat with_reducible first | refine tt sh_ptr ?_ | refine tt sh_fptr ?_ | refine tt w2 ?_ | refine tt w3 ?_ | refine tt w8 ?_ | refine tt w9 ?_ | refine tt wf ?_ | refine tt wg ?_ | refine tt wh ?_ | refine tt wi ?_ | refine tt wj ?_ | refine tt wk ?_ | refine tt wl ?_ | refine tt wn ?_ | refine tt c_ort ?_ | refine tt c_nt ?_ | refine tt c_nf ?_ | refine tt (cnd_t _ _) ?_ | refine tt (cnd_f _ _) ?_ | refine tt w6 ?_ | refine tt w4 ?_ | refine tt w5 ?_ | refine tt w7 ?_ | refine tt wm ?_ | refine tt wo ?_ | refine tt wx ?_ | refine tt nil_ptr ?_ | refine tt len_lst ?_ | refine tt len_zsl ?_
    refine Eq.trans (pl_tup (wsub (d + 3) (s + (vv ps i).1 * (vv ps (nx ps i)).2) _ (by unfold In126; omega) (by unfold In126; omega) (by unfold In126; omega)) (by rfl)) ?_
    repeat with_reducible first | refine tt sh_ptr ?_ | refine tt sh_fptr ?_ | refine tt w2 ?_ | refine tt w3 ?_ | refine tt w8 ?_ | refine tt w9 ?_ | refine tt wf ?_ | refine tt wg ?_ | refine tt wh ?_ | refine tt wi ?_ | refine tt wj ?_ | refine tt wk ?_ | refine tt wl ?_ | refine tt wn ?_ | refine tt c_ort ?_ | refine tt c_nt ?_ | refine tt c_nf ?_ | refine tt (cnd_t _ _) ?_ | refine tt (cnd_f _ _) ?_ | refine tt w6 ?_ | refine tt w4 ?_ | refine tt w5 ?_ | refine tt w7 ?_ | refine tt wm ?_ | refine tt wo ?_ | refine tt wx ?_ | refine tt nil_ptr ?_ | refine tt len_lst ?_ | refine tt len_zsl ?_
    rw [wsuc (by omega)]
    exact ih (i + 1) f (s + (vv ps i).1 * (vv ps (nx ps i)).2 - (vv ps i).2 * (vv ps (nx ps i)).1) _ (by omega) (by omega) (by omega) (by omega)
theorem s18 (d : Nat) (ps : List Pt) (hl : ps.length ≤ 140737488355328) : pcall M (d + 13) 18 [.lst (ps.map pt)] = some (.bool (leftB ps)) := told (q18 (d + 12) _) (by
  repeat with_reducible first | refine tt sh_ptr ?_ | refine tt sh_fptr ?_ | refine tt w2 ?_ | refine tt w3 ?_ | refine tt w8 ?_ | refine tt w9 ?_ | refine tt wf ?_ | refine tt wg ?_ | refine tt wh ?_ | refine tt wi ?_ | refine tt wj ?_ | refine tt wk ?_ | refine tt wl ?_ | refine tt wn ?_ | refine tt c_ort ?_ | refine tt c_nt ?_ | refine tt c_nf ?_ | refine tt (cnd_t _ _) ?_ | refine tt (cnd_f _ _) ?_ | refine tt w6 ?_ | refine tt w4 ?_ | refine tt w5 ?_ | refine tt w7 ?_ | refine tt wm ?_ | refine tt wo ?_ | refine tt wx ?_ | refine tt nil_ptr ?_ | refine tt len_lst ?_ | refine tt len_zsl ?_
  refine Eq.trans (pl_bool (s15 d ps hl)) ?_
  repeat with_reducible first | refine tt sh_ptr ?_ | refine tt sh_fptr ?_ | refine tt w2 ?_ | refine tt w3 ?_ | refine tt w8 ?_ | refine tt w9 ?_ | refine tt wf ?_ | refine tt wg ?_ | refine tt wh ?_ | refine tt wi ?_ | refine tt wj ?_ | refine tt wk ?_ | refine tt wl ?_ | refine tt wn ?_ | refine tt c_ort ?_ | refine tt c_nt ?_ | refine tt c_nf ?_ | refine tt (cnd_t _ _) ?_ | refine tt (cnd_f _ _) ?_ | refine tt w6 ?_ | refine tt w4 ?_ | refine tt w5 ?_ | refine tt w7 ?_ | refine tt wm ?_ | refine tt wo ?_ | refine tt wx ?_ | refine tt nil_ptr ?_ | refine tt len_lst ?_ | refine tt len_zsl ?_
  unfold leftB
  cases hr : rightB ps
  · repeat with_reducible first | refine tt sh_ptr ?_ | refine tt sh_fptr ?_ | refine tt w2 ?_ | refine tt w3 ?_ | refine tt w8 ?_ | refine tt w9 ?_ | refine tt wf ?_ | refine tt wg ?_ | refine tt wh ?_ | refine tt wi ?_ | refine tt wj ?_ | refine tt wk ?_ | refine tt wl ?_ | refine tt wn ?_ | refine tt c_ort ?_ | refine tt c_nt ?_ | refine tt c_nf ?_ | refine tt (cnd_t _ _) ?_ | refine tt (cnd_f _ _) ?_ | refine tt w6 ?_ | refine tt w4 ?_ | refine tt w5 ?_ | refine tt w7 ?_ | refine tt wm ?_ | refine tt wo ?_ | refine tt wx ?_ | refine tt nil_ptr ?_ | refine tt len_lst ?_ | refine tt len_zsl ?_
    exact f_free (by rfl)
  · have h3 := right_ok hr
    repeat with_reducible first | refine tt sh_ptr ?_ | refine tt sh_fptr ?_ | refine tt w2 ?_ | refine tt w3 ?_ | refine tt w8 ?_ | refine tt w9 ?_ | refine tt wf ?_ | refine tt wg ?_ | refine tt wh ?_ | refine tt wi ?_ | refine tt wj ?_ | refine tt wk ?_ | refine tt wl ?_ | refine tt wn ?_ | refine tt c_ort ?_ | refine tt c_nt ?_ | refine tt c_nf ?_ | refine tt (cnd_t _ _) ?_ | refine tt (cnd_f _ _) ?_ | refine tt w6 ?_ | refine tt w4 ?_ | refine tt w5 ?_ | refine tt w7 ?_ | refine tt wm ?_ | refine tt wo ?_ | refine tt wx ?_ | refine tt nil_ptr ?_ | refine tt len_lst ?_ | refine tt len_zsl ?_
    refine Eq.trans h_start ?_
    repeat with_reducible first | refine tt sh_ptr ?_ | refine tt sh_fptr ?_ | refine tt w2 ?_ | refine tt w3 ?_ | refine tt w8 ?_ | refine tt w9 ?_ | refine tt wf ?_ | refine tt wg ?_ | refine tt wh ?_ | refine tt wi ?_ | refine tt wj ?_ | refine tt wk ?_ | refine tt wl ?_ | refine tt wn ?_ | refine tt c_ort ?_ | refine tt c_nt ?_ | refine tt c_nf ?_ | refine tt (cnd_t _ _) ?_ | refine tt (cnd_f _ _) ?_ | refine tt w6 ?_ | refine tt w4 ?_ | refine tt w5 ?_ | refine tt w7 ?_ | refine tt wm ?_ | refine tt wo ?_ | refine tt wx ?_ | refine tt nil_ptr ?_ | refine tt len_lst ?_ | refine tt len_zsl ?_
    rw [pmap_len, wd0]
    obtain ⟨fuel, hfuel⟩ : ∃ f : Nat, f = 1000000000000000000 := ⟨_, rfl⟩; rw [← hfuel]
    exact left0 (d + 8) ps h3.2.1 (near_right hr) ps.length 0 fuel 0 [] (by omega) (by omega) (by omega) (by omega))
end Go.Proofs.Ytkfppigcjdapnaa.AE

namespace Go.Proofs.Ytkfppigcjdapnaa.AE
set_option linter.unusedVariables false
set_option linter.unusedSimpArgs false
set_option linter.constructorNameAsVariable false
open Go Go.Proofs.Ytkfppigcjdapnaa.Geo
attribute [local irreducible] pcall C0
/-- The corner that comes i-th, round the other way. -/
def bk (ps : List Pt) (i : Nat) : Pt := vv ps ((ps.length - i) % ps.length)
def backL (ps : List Pt) : List Pt := (List.range ps.length).map (bk ps)
theorem back_len (ps : List Pt) : (backL ps).length = ps.length := by simp [backL]
theorem ptE (p : Pt) : elOk E24 (pt p) = true := rfl
theorem snap_pts {H : Heap} {e : ETy} {v : AV} {l : List Pt} (ho : Own H e v (l.map pt)) : snap 12 H v = .lst (l.map pt) :=
  snap_own (k := 10) ho fun x hx => by
    obtain ⟨n, _, rfl⟩ := List.mem_map.mp hx
    rfl
end Go.Proofs.Ytkfppigcjdapnaa.AE

namespace Go.Proofs.Ytkfppigcjdapnaa.AE
set_option linter.unusedVariables false
set_option linter.unusedSimpArgs false
set_option linter.constructorNameAsVariable false
open Go Go.Proofs.Ytkfppigcjdapnaa.Geo
/-- Inside of 64 bits. -/
def In64 (x : Int) : Prop := -9223372036854775808 ≤ x ∧ x < 9223372036854775808
def mvB (p : Pt) (x y : Int) : Bool := decide (OkP p ∧ OkP (mv p x y))
theorem mvB_t {p : Pt} {x y : Int} : mvB p x y = true ↔ OkP p ∧ OkP (mv p x y) := decide_eq_true_iff
theorem fit_ok {x : Int} (h : Okc x) : fitB x = true := decide_eq_true (by unfold Okc at h; omega)
theorem s25 (d : Nat) (p : Pt) (x y : Int) (h1 : In64 p.1) (h2 : In64 p.2) (h3 : In64 x) (h4 : In64 y) :
    pcall M (d + 7) 25 [pt p, .int .i64 x, .int .i64 y] = some (if mvB p x y then .tup [pt (mv p x y), .bool true] else .tup [pt (0, 0), .bool false]) := told (r25 C0 (d + 6) _ _ _ _) (by
  rw [s51 (d + 2) _ _ h1.1 h1.2 h3.1 h3.2, C0_tup2]
  simp only [at0, at1, C0_int, C0_bool]
  rw [s51 (d + 2) _ _ h2.1 h2.2 h4.1 h4.2, C0_tup2]
  simp only [at0, at1, C0_int, C0_bool]
  by_cases f1 : fitB (p.1 + x) = true
  · by_cases f2 : fitB (p.2 + y) = true
    · rw [f1, f2]
      simp only [if_true]
      have h22 : pcall M (d + 6) 52 [.lst [.agg [.int .i64 p.1, .int .i64 p.2], .agg [.int .i64 (p.1 + x), .int .i64 (p.2 + y)]]] = some (.bool (okB [p, mv p x y])) := s52 d [p, mv p x y] (by simp)
      rw [h22, C0_bool]
      have hk : okB [p, mv p x y] = mvB p x y := by rw [Bool.eq_iff_iff, okB_t, mvB_t]; simp
      rw [hk]
      cases mvB p x y <;> rfl
    · have hm : ¬ mvB p x y = true := fun g => f2 (fit_ok (mvB_t.mp g).2.2)
      rw [if_neg hm, f1, Bool.eq_false_iff.mpr f2]; rfl
  · have hm : ¬ mvB p x y = true := fun g => f1 (fit_ok (mvB_t.mp g).2.1)
    rw [if_neg hm, Bool.eq_false_iff.mpr f1]; rfl)
end Go.Proofs.Ytkfppigcjdapnaa.AE

namespace Go.Proofs.Ytkfppigcjdapnaa.AE
set_option linter.unusedVariables false
set_option linter.unusedSimpArgs false
set_option linter.constructorNameAsVariable false
open Go Go.Proofs.Ytkfppigcjdapnaa.Geo
attribute [local irreducible] pcall C0
def mvL (ps : List Pt) (x y : Int) : List Pt := ps.map fun p => mv p x y
def moveB (ps : List Pt) (x y : Int) : Bool := ps.all (fun p => mvB p x y) && (rightB ps && rightB (mvL ps x y))
def moveR (ps : List Pt) (x y : Int) : AV := bif moveB ps x y then .tup [.lst ((mvL ps x y).map pt), .bool true] else .tup [.lst [], .bool false]
theorem snp_pts {H : Heap} {e : ETy} {v : AV} {l : List Pt} {K : List AV → Bool → Ans} (ho : Own H e v (l.map pt)) (hne : l ≠ []) : C0.snp H [v] K = K [.lst (l.map pt)] false := by
  have hs := snap_pts ho
  rcases ho with ⟨h, _⟩ | ⟨id, rfl, h⟩
  · exact absurd (by simpa using h) hne
  · rw [snp_id (by rfl)]
    simp only [List.map_cons, List.map_nil]
    rw [show DEPTH = 12 from rfl, hs]
theorem snap_tupP {H : Heap} {v : AV} {l : List Pt} {b : Bool} (ho : Own H E24 v (l.map pt)) : snap 12 H (.tup [v, .bool b]) = .tup [.lst (l.map pt), .bool b] := by
  have : snap 11 H v = .lst (l.map pt) := snap_own (k := 9) ho fun x hx => by
    obtain ⟨n, _, rfl⟩ := List.mem_map.mp hx
    rfl
  show AV.tup [snap 11 H v, .bool b] = _
  rw [this]
theorem take_vv {ps : List Pt} {i : Nat} (h : i < ps.length) : ps.take (i + 1) = ps.take i ++ [vv ps i] := by
  rw [List.take_add_one]; unfold vv; rw [List.getD_eq_getElem?_getD, List.getElem?_eq_getElem h]; rfl
theorem moveR_no {ps : List Pt} {x y : Int} (h : moveB ps x y = false) : moveR ps x y = .tup [.lst [], .bool false] := by unfold moveR; rw [h]; rfl
theorem move0 (d : Nat) (ps : List Pt) (x y : Int) (hl : ps.length ≤ 1000000) (h64 : ∀ p ∈ ps, In64 p.1 ∧ In64 p.2) (hx : In64 x) (hy : In64 y) : ∀ (m i f : Nat) (v : AV) (H : Heap), i + m = ps.length → m < f →
    Own H E24 v ((mvL (ps.take i) x y).map pt) → (∀ p ∈ ps.take i, mvB p x y = true) →
    L24_0 (d + 12) (ps.map pt) x y (ps.length : Nat) f v (i : Nat) H = some (moveR ps x y) := by
  intro m
  induction m with
  | zero =>
    intro i f v H hi hf ho ha
    obtain ⟨f, rfl⟩ : ∃ g, f = g + 1 := ⟨f - 1, by omega⟩
    rw [List.take_of_length_le (by omega)] at ho ha
    rw [L24_0, decide_eq_false (by omega), cnd_f, X24_0_0]
    repeat with_reducible first | refine tt sh_ptr ?_ | refine tt sh_fptr ?_ | refine tt w2 ?_ | refine tt w3 ?_ | refine tt w8 ?_ | refine tt w9 ?_ | refine tt wf ?_ | refine tt wg ?_ | refine tt wh ?_ | refine tt wi ?_ | refine tt wj ?_ | refine tt wk ?_ | refine tt wl ?_ | refine tt wn ?_ | refine tt c_ort ?_ | refine tt c_nt ?_ | refine tt c_nf ?_ | refine tt (cnd_t _ _) ?_ | refine tt (cnd_f _ _) ?_ | refine tt w6 ?_ | refine tt w4 ?_ | refine tt w5 ?_ | refine tt w7 ?_ | refine tt wm ?_ | refine tt wo ?_ | refine tt wx ?_ | refine tt nil_ptr ?_ | refine tt len_lst ?_ | refine tt len_zsl ?_
    refine Eq.trans (pl_bool (s15 d ps (by omega))) ?_
    repeat with_reducible first | refine tt sh_ptr ?_ | refine tt sh_fptr ?_ | refine tt w2 ?_ | refine tt w3 ?_ | refine tt w8 ?_ | refine tt w9 ?_ | refine tt wf ?_ | refine tt wg ?_ | refine tt wh ?_ | refine tt wi ?_ | refine tt wj ?_ | refine tt wk ?_ | refine tt wl ?_ | refine tt wn ?_ | refine tt c_ort ?_ | refine tt c_nt ?_ | refine tt c_nf ?_ | refine tt (cnd_t _ _) ?_ | refine tt (cnd_f _ _) ?_ | refine tt w6 ?_ | refine tt w4 ?_ | refine tt w5 ?_ | refine tt w7 ?_ | refine tt wm ?_ | refine tt wo ?_ | refine tt wx ?_ | refine tt nil_ptr ?_ | refine tt len_lst ?_ | refine tt len_zsl ?_
    have hall : ps.all (fun p => mvB p x y) = true := List.all_eq_true.mpr ha
    cases hr : rightB ps
    · repeat with_reducible first | refine tt sh_ptr ?_ | refine tt sh_fptr ?_ | refine tt w2 ?_ | refine tt w3 ?_ | refine tt w8 ?_ | refine tt w9 ?_ | refine tt wf ?_ | refine tt wg ?_ | refine tt wh ?_ | refine tt wi ?_ | refine tt wj ?_ | refine tt wk ?_ | refine tt wl ?_ | refine tt wn ?_ | refine tt c_ort ?_ | refine tt c_nt ?_ | refine tt c_nf ?_ | refine tt (cnd_t _ _) ?_ | refine tt (cnd_f _ _) ?_ | refine tt w6 ?_ | refine tt w4 ?_ | refine tt w5 ?_ | refine tt w7 ?_ | refine tt wm ?_ | refine tt wo ?_ | refine tt wx ?_ | refine tt nil_ptr ?_ | refine tt len_lst ?_ | refine tt len_zsl ?_
      rw [moveR_no (by unfold moveB; rw [hr]; simp)]
      rw [C0_fin]; rfl
    · repeat with_reducible first | refine tt sh_ptr ?_ | refine tt sh_fptr ?_ | refine tt w2 ?_ | refine tt w3 ?_ | refine tt w8 ?_ | refine tt w9 ?_ | refine tt wf ?_ | refine tt wg ?_ | refine tt wh ?_ | refine tt wi ?_ | refine tt wj ?_ | refine tt wk ?_ | refine tt wl ?_ | refine tt wn ?_ | refine tt c_ort ?_ | refine tt c_nt ?_ | refine tt c_nf ?_ | refine tt (cnd_t _ _) ?_ | refine tt (cnd_f _ _) ?_ | refine tt w6 ?_ | refine tt w4 ?_ | refine tt w5 ?_ | refine tt w7 ?_ | refine tt wm ?_ | refine tt wo ?_ | refine tt wx ?_ | refine tt nil_ptr ?_ | refine tt len_lst ?_ | refine tt len_zsl ?_
      have h3 := (right_ok hr).1
      refine Eq.trans (snp_pts ho (by intro h; have := congrArg List.length h; unfold mvL at this; rw [List.length_map, List.length_nil] at this; omega)) ?_
      refine Eq.trans (pl_bool (s15 d (mvL ps x y) (by simp [mvL]; omega))) ?_
      repeat with_reducible first | refine tt sh_ptr ?_ | refine tt sh_fptr ?_ | refine tt w2 ?_ | refine tt w3 ?_ | refine tt w8 ?_ | refine tt w9 ?_ | refine tt wf ?_ | refine tt wg ?_ | refine tt wh ?_ | refine tt wi ?_ | refine tt wj ?_ | refine tt wk ?_ | refine tt wl ?_ | refine tt wn ?_ | refine tt c_ort ?_ | refine tt c_nt ?_ | refine tt c_nf ?_ | refine tt (cnd_t _ _) ?_ | refine tt (cnd_f _ _) ?_ | refine tt w6 ?_ | refine tt w4 ?_ | refine tt w5 ?_ | refine tt w7 ?_ | refine tt wm ?_ | refine tt wo ?_ | refine tt wx ?_ | refine tt nil_ptr ?_ | refine tt len_lst ?_ | refine tt len_zsl ?_
      cases hm : rightB (mvL ps x y)
      · repeat with_reducible first | refine tt sh_ptr ?_ | refine tt sh_fptr ?_ | refine tt w2 ?_ | refine tt w3 ?_ | refine tt w8 ?_ | refine tt w9 ?_ | refine tt wf ?_ | refine tt wg ?_ | refine tt wh ?_ | refine tt wi ?_ | refine tt wj ?_ | refine tt wk ?_ | refine tt wl ?_ | refine tt wn ?_ | refine tt c_ort ?_ | refine tt c_nt ?_ | refine tt c_nf ?_ | refine tt (cnd_t _ _) ?_ | refine tt (cnd_f _ _) ?_ | refine tt w6 ?_ | refine tt w4 ?_ | refine tt w5 ?_ | refine tt w7 ?_ | refine tt wm ?_ | refine tt wo ?_ | refine tt wx ?_ | refine tt nil_ptr ?_ | refine tt len_lst ?_ | refine tt len_zsl ?_
        rw [moveR_no (by unfold moveB; rw [hm]; simp)]
        rw [C0_fin]; rfl
      · repeat with_reducible first | refine tt sh_ptr ?_ | refine tt sh_fptr ?_ | refine tt w2 ?_ | refine tt w3 ?_ | refine tt w8 ?_ | refine tt w9 ?_ | refine tt wf ?_ | refine tt wg ?_ | refine tt wh ?_ | refine tt wi ?_ | refine tt wj ?_ | refine tt wk ?_ | refine tt wl ?_ | refine tt wn ?_ | refine tt c_ort ?_ | refine tt c_nt ?_ | refine tt c_nf ?_ | refine tt (cnd_t _ _) ?_ | refine tt (cnd_f _ _) ?_ | refine tt w6 ?_ | refine tt w4 ?_ | refine tt w5 ?_ | refine tt w7 ?_ | refine tt wm ?_ | refine tt wo ?_ | refine tt wx ?_ | refine tt nil_ptr ?_ | refine tt len_lst ?_ | refine tt len_zsl ?_
        rw [C0_fin, snap_tupP ho]
        have : moveB ps x y = true := by unfold moveB; rw [hall, hr, hm]; rfl
        unfold moveR; rw [this]; rfl
  | succ m ih =>
    intro i f v H hi hf ho ha
    obtain ⟨f, rfl⟩ : ∃ g, f = g + 1 := ⟨f - 1, by omega⟩
    have hil : i < ps.length := by omega
    have hmem : vv ps i ∈ ps := by
      have : vv ps i = ps[i] := by simp [vv, List.getD_eq_getElem?_getD, hil]
      rw [this]; exact List.getElem_mem _
    have hp := h64 _ hmem
    rw [L24_0, decide_eq_true (by omega), cnd_t]
    refine Eq.trans (ix_pts hil) ?_
    repeat with_reducible first | refine tt sh_ptr ?_ | refine tt sh_fptr ?_ | refine tt w2 ?_ | refine tt w3 ?_ | refine tt w8 ?_ | refine tt w9 ?_ | refine tt wf ?_ | refine tt wg ?_ | refine tt wh ?_ | refine tt wi ?_ | refine tt wj ?_ | refine tt wk ?_ | refine tt wl ?_ | refine tt wn ?_ | refine tt c_ort ?_ | refine tt c_nt ?_ | refine tt c_nf ?_ | refine tt (cnd_t _ _) ?_ | refine tt (cnd_f _ _) ?_ | refine tt w6 ?_ | refine tt w4 ?_ | refine tt w5 ?_ | refine tt w7 ?_ | refine tt wm ?_ | refine tt wo ?_ | refine tt wx ?_ | refine tt nil_ptr ?_ | refine tt len_lst ?_ | refine tt len_zsl ?_
    refine Eq.trans h_any ?_
    repeat with_reducible first | refine tt sh_ptr ?_ | refine tt sh_fptr ?_ | refine tt w2 ?_ | refine tt w3 ?_ | refine tt w8 ?_ | refine tt w9 ?_ | refine tt wf ?_ | refine tt wg ?_ | refine tt wh ?_ | refine tt wi ?_ | refine tt wj ?_ | refine tt wk ?_ | refine tt wl ?_ | refine tt wn ?_ | refine tt c_ort ?_ | refine tt c_nt ?_ | refine tt c_nf ?_ | refine tt (cnd_t _ _) ?_ | refine tt (cnd_f _ _) ?_ | refine tt w6 ?_ | refine tt w4 ?_ | refine tt w5 ?_ | refine tt w7 ?_ | refine tt wm ?_ | refine tt wo ?_ | refine tt wx ?_ | refine tt nil_ptr ?_ | refine tt len_lst ?_ | refine tt len_zsl ?_
    have mm := s25 (d + 5) (vv ps i) x y hp.1 hp.2 hx hy
    cases hv : mvB (vv ps i) x y
    · rw [hv, if_neg (by decide)] at mm
      refine Eq.trans (pl_tup mm (by rfl)) ?_
      repeat with_reducible first | refine tt sh_ptr ?_ | refine tt sh_fptr ?_ | refine tt w2 ?_ | refine tt w3 ?_ | refine tt w8 ?_ | refine tt w9 ?_ | refine tt wf ?_ | refine tt wg ?_ | refine tt wh ?_ | refine tt wi ?_ | refine tt wj ?_ | refine tt wk ?_ | refine tt wl ?_ | refine tt wn ?_ | refine tt c_ort ?_ | refine tt c_nt ?_ | refine tt c_nf ?_ | refine tt (cnd_t _ _) ?_ | refine tt (cnd_f _ _) ?_ | refine tt w6 ?_ | refine tt w4 ?_ | refine tt w5 ?_ | refine tt w7 ?_ | refine tt wm ?_ | refine tt wo ?_ | refine tt wx ?_ | refine tt nil_ptr ?_ | refine tt len_lst ?_ | refine tt len_zsl ?_
      rw [E24_0, moveR_no (by
        unfold moveB
        rw [show ps.all (fun p => mvB p x y) = false from List.all_eq_false.mpr ⟨_, hmem, by rw [hv]; decide⟩]; rfl)]
      rw [C0_fin]; rfl
    · rw [hv, if_pos rfl] at mm
      refine Eq.trans (pl_tup mm (by rfl)) ?_
      repeat with_reducible first | refine tt sh_ptr ?_ | refine tt sh_fptr ?_ | refine tt w2 ?_ | refine tt w3 ?_ | refine tt w8 ?_ | refine tt w9 ?_ | refine tt wf ?_ | refine tt wg ?_ | refine tt wh ?_ | refine tt wi ?_ | refine tt wj ?_ | refine tt wk ?_ | refine tt wl ?_ | refine tt wn ?_ | refine tt c_ort ?_ | refine tt c_nt ?_ | refine tt c_nf ?_ | refine tt (cnd_t _ _) ?_ | refine tt (cnd_f _ _) ?_ | refine tt w6 ?_ | refine tt w4 ?_ | refine tt w5 ?_ | refine tt w7 ?_ | refine tt wm ?_ | refine tt wo ?_ | refine tt wx ?_ | refine tt nil_ptr ?_ | refine tt len_lst ?_ | refine tt len_zsl ?_
      refine app_go ho (ptE (mv (vv ps i) x y)) ?_ ?_ fun v' H' ho' _ => ?_
      · rw [List.length_map]; unfold mvL; rw [List.length_map, List.length_take]; show (_ + 1) * 16 ≤ _; omega
      · rw [List.length_map]; unfold mvL; rw [List.length_map, List.length_take]; omega
      · rw [wsuc (by omega)]
        refine ih (i + 1) f v' H' (by omega) (by omega) ?_ ?_
        · rw [take_vv hil]; unfold mvL at ho' ⊢; rw [List.map_append, List.map_append]; exact ho'
        · rw [take_vv hil]
          intro p hp'
          rcases List.mem_append.mp hp' with h | h
          · exact ha p h
          · rw [List.mem_singleton.mp h]; exact hv
theorem s24 (d : Nat) (ps : List Pt) (x y : Int) (hl : ps.length ≤ 1000000) (h64 : ∀ p ∈ ps, In64 p.1 ∧ In64 p.2) (hx : In64 x) (hy : In64 y) : pcall M (d + 13) 24 [.lst (ps.map pt), .int .i64 x, .int .i64 y] = some (moveR ps x y) := told (q24 (d + 12) _ _ _) (by
  repeat with_reducible first | refine tt sh_ptr ?_ | refine tt sh_fptr ?_ | refine tt w2 ?_ | refine tt w3 ?_ | refine tt w8 ?_ | refine tt w9 ?_ | refine tt wf ?_ | refine tt wg ?_ | refine tt wh ?_ | refine tt wi ?_ | refine tt wj ?_ | refine tt wk ?_ | refine tt wl ?_ | refine tt wn ?_ | refine tt c_ort ?_ | refine tt c_nt ?_ | refine tt c_nf ?_ | refine tt (cnd_t _ _) ?_ | refine tt (cnd_f _ _) ?_ | refine tt w6 ?_ | refine tt w4 ?_ | refine tt w5 ?_ | refine tt w7 ?_ | refine tt wm ?_ | refine tt wo ?_ | refine tt wx ?_ | refine tt nil_ptr ?_ | refine tt len_lst ?_ | refine tt len_zsl ?_
  rw [pmap_len]
  obtain ⟨fuel, hfuel⟩ : ∃ f : Nat, f = 1000000000000000000 := ⟨_, rfl⟩; rw [← hfuel]
  exact move0 d ps x y hl h64 hx hy ps.length 0 fuel (.zsl true) [] (by omega) (by omega) (.inl ⟨rfl, true, rfl⟩) (by simp))
end Go.Proofs.Ytkfppigcjdapnaa.AE

namespace Go.Proofs.Ytkfppigcjdapnaa.AE
set_option linter.unusedVariables false
set_option linter.unusedSimpArgs false
set_option linter.constructorNameAsVariable false
open Go Go.Proofs.Ytkfppigcjdapnaa.Geo
attribute [local irreducible] pcall C0
/-- Turned round at both ends, i places of each. -/
def rv (ps : List Pt) (i k : Nat) : Pt := if k = 0 then vv ps 0 else if k - 1 < i ∨ ps.length - 1 ≤ k - 1 + i then bk ps k else vv ps k
def rvL (ps : List Pt) (i : Nat) : List Pt := (List.range ps.length).map (rv ps i)
theorem rvL_len (ps : List Pt) (i : Nat) : (rvL ps i).length = ps.length := by simp [rvL]
theorem rvL_at {ps : List Pt} {i k : Nat} (h : k < ps.length) : ((rvL ps i).map pt)[k]? = some (pt (rv ps i k)) := by simp [rvL, h]
theorem rvL_0 (ps : List Pt) : rvL ps 0 = ps := by
  apply List.ext_getElem
  · exact rvL_len ps 0
  · intro k h1 h2
    have e : (rvL ps 0)[k]'h1 = rv ps 0 k := by simp [rvL]
    have e2 : ps[k] = vv ps k := by unfold vv; rw [List.getD_eq_getElem?_getD, List.getElem?_eq_getElem h2]; rfl
    rw [e, e2]
    unfold rv
    split
    · rename_i h; rw [h]
    · rw [if_neg (by omega)]
theorem rvL_end {ps : List Pt} {i : Nat} (h : ps.length - 1 ≤ 2 * i + 1) : rvL ps i = backL ps := by
  apply List.ext_getElem
  · rw [rvL_len, back_len]
  · intro k h1 h2
    rw [rvL_len] at h1
    have e : (rvL ps i)[k]'(by rw [rvL_len]; exact h1) = rv ps i k := by simp [rvL]
    have e2 : (backL ps)[k]'h2 = bk ps k := by simp [backL]
    rw [e, e2]
    unfold rv
    split
    · rename_i h; subst h; unfold bk; simp
    · split
      · rfl
      · unfold bk
        rw [Nat.mod_eq_of_lt (by omega)]
        congr 1; omega
theorem rvL_step {ps : List Pt} {i j : Nat} (hj : i + j + 2 = ps.length) (hij : i < j) : (((rvL ps i).map pt).set (1 + i) (pt (vv ps (1 + j)))).set (1 + j) (pt (vv ps (1 + i))) = (rvL ps (i + 1)).map pt := by
  apply List.ext_getElem?
  intro k
  by_cases hk : k < ps.length
  · rw [rvL_at hk]
    by_cases h1 : k = 1 + j
    · subst h1
      rw [List.getElem?_set_self (by rw [List.length_set, List.length_map, rvL_len]; exact hk)]
      congr 2
      unfold rv
      rw [if_neg (by omega), if_pos (by omega)]
      unfold bk
      rw [Nat.mod_eq_of_lt (by omega)]; congr 1; omega
    · rw [List.getElem?_set_ne (by omega)]
      by_cases h2 : k = 1 + i
      · subst h2
        rw [List.getElem?_set_self (by rw [List.length_map, rvL_len]; exact hk)]
        congr 2
        unfold rv
        rw [if_neg (by omega), if_pos (by omega)]
        unfold bk
        rw [Nat.mod_eq_of_lt (by omega)]; congr 1; omega
      · rw [List.getElem?_set_ne (by omega), rvL_at hk]
        congr 2
        unfold rv
        split
        · rfl
        · by_cases c : k - 1 < i ∨ ps.length - 1 ≤ k - 1 + i
          · rw [if_pos c, if_pos (by omega)]
          · rw [if_neg c, if_neg (by omega)]
  · rw [List.getElem?_eq_none (by simp [rvL]; omega), List.getElem?_eq_none (by simp [rvL]; omega)]
theorem rv_mid {ps : List Pt} {i k : Nat} (h0 : 0 < k) (h1 : i ≤ k - 1) (h2 : k - 1 + i < ps.length - 1) : rv ps i k = vv ps k := by
  unfold rv; rw [if_neg (by omega), if_neg (by omega)]
theorem sub_pt (p : Pt) : sub true 2 0 (pt p) = some (pt p) := rfl
theorem back0 (d : Nat) (ps : List Pt) (hl : ps.length ≤ 1000000) (h2 : 2 ≤ ps.length) : ∀ (m i f : Nat) (H : Heap), ps.length - 2 - i ≤ m → m < f → 2 * i ≤ ps.length → hget H 1 = some ⟨E24, (rvL ps i).map pt⟩ →
    L21_4 d (.slc 1 0 ps.length) (.slc 1 1 (ps.length - 1)) f (i : Nat) ((ps.length : Int) - 2 - (i : Int)) H = some (.lst ((backL ps).map pt)) := by
  intro m
  induction m with
  | zero =>
    intro i f H hm hf hi h1
    obtain ⟨f, rfl⟩ : ∃ g, f = g + 1 := ⟨f - 1, by omega⟩
    rw [L21_4, decide_eq_false (by omega), cnd_f, X21_4_0, C0_fin]
    rw [snap_pts (l := rvL ps i) (.inr ⟨1, by rw [List.length_map, rvL_len], h1⟩), rvL_end (by omega)]
  | succ m ih =>
    intro i f H hm hf hi h1
    obtain ⟨f, rfl⟩ : ∃ g, f = g + 1 := ⟨f - 1, by omega⟩
    by_cases hc : 2 * i + 2 < ps.length
    · obtain ⟨j, hj⟩ : ∃ j, i + j + 2 = ps.length := ⟨ps.length - 2 - i, by omega⟩
      have hij : i < j := by omega
      have ej : (ps.length : Int) - 2 - (i : Int) = (j : Nat) := by omega
      rw [ej, L21_4, decide_eq_true (by omega), cnd_t]
      have qi : (((i : Nat) : Int)).toNat = i := by omega
      have qj : (((j : Nat) : Int)).toNat = j := by omega
      have ix : ∀ {q : Nat} {H : Heap} {els : List AV} {K : AV → Heap → Ans}, hget H 1 = some ⟨E24, els⟩ → q + 1 < ps.length → C0.hop H (.ixAS .any 2 (.v (.slc 1 1 (ps.length - 1))) (.v (.int .i64 (q : Nat)))) K = K (.ptr 1 (1 + q) 0) H := by
        intro q H els K hh hq
        refine Eq.trans (ix_slc (es := 2) (q := ((q : Nat) : Int)) hh (by omega) (by omega) rfl) ?_
        rw [show (((q : Nat) : Int)).toNat = q by omega]
      refine Eq.trans (ix h1 (by omega)) ?_
      refine Eq.trans (ld_ptr h1 (rvL_at (by omega)) (sub_pt _)) ?_
      rw [rv_mid (by omega) (by omega) (by omega)]
      repeat with_reducible first | refine tt sh_ptr ?_ | refine tt sh_fptr ?_ | refine tt w2 ?_ | refine tt w3 ?_ | refine tt w8 ?_ | refine tt w9 ?_ | refine tt wf ?_ | refine tt wg ?_ | refine tt wh ?_ | refine tt wi ?_ | refine tt wj ?_ | refine tt wk ?_ | refine tt wl ?_ | refine tt wn ?_ | refine tt c_ort ?_ | refine tt c_nt ?_ | refine tt c_nf ?_ | refine tt (cnd_t _ _) ?_ | refine tt (cnd_f _ _) ?_ | refine tt w6 ?_ | refine tt w4 ?_ | refine tt w5 ?_ | refine tt w7 ?_ | refine tt wm ?_ | refine tt wo ?_ | refine tt wx ?_ | refine tt nil_ptr ?_ | refine tt len_lst ?_ | refine tt len_zsl ?_
      refine Eq.trans (ix h1 (by omega)) ?_
      refine Eq.trans (ld_ptr h1 (rvL_at (by omega)) (sub_pt _)) ?_
      rw [rv_mid (by omega) (by omega) (by omega)]
      repeat with_reducible first | refine tt sh_ptr ?_ | refine tt sh_fptr ?_ | refine tt w2 ?_ | refine tt w3 ?_ | refine tt w8 ?_ | refine tt w9 ?_ | refine tt wf ?_ | refine tt wg ?_ | refine tt wh ?_ | refine tt wi ?_ | refine tt wj ?_ | refine tt wk ?_ | refine tt wl ?_ | refine tt wn ?_ | refine tt c_ort ?_ | refine tt c_nt ?_ | refine tt c_nf ?_ | refine tt (cnd_t _ _) ?_ | refine tt (cnd_f _ _) ?_ | refine tt w6 ?_ | refine tt w4 ?_ | refine tt w5 ?_ | refine tt w7 ?_ | refine tt wm ?_ | refine tt wo ?_ | refine tt wx ?_ | refine tt nil_ptr ?_ | refine tt len_lst ?_ | refine tt len_zsl ?_
      refine Eq.trans (ix h1 (by omega)) ?_
      refine Eq.trans (st_ptr (el' := pt (vv ps (1 + j))) h1 (rvL_at (by omega)) (by rfl)) ?_
      refine Eq.trans (ix (hget_set (hg_lt h1)) (by omega)) ?_
      refine Eq.trans (st_ptr (el := pt (rv ps i (1 + j))) (el' := pt (vv ps (1 + i))) (hget_set (hg_lt h1)) (by rw [List.getElem?_set_ne (by omega), rvL_at (by omega)]) (by rfl)) ?_
      rw [wsuc (by omega), show IntKind.wrap .i64 (((j : Nat) : Int) - 1) = (ps.length : Int) - 2 - ((i + 1 : Nat) : Int) by rw [IntKind.wrap_i64]; omega]
      refine ih (i + 1) f _ (by omega) (by omega) (by omega) ?_
      rw [hget_set (by rw [List.length_set]; exact hg_lt h1)]
      simp only [rvL_step hj hij]
    · rw [L21_4, decide_eq_false (by omega), cnd_f, X21_4_0, C0_fin]
      rw [snap_pts (l := rvL ps i) (.inr ⟨1, by rw [List.length_map, rvL_len], h1⟩), rvL_end (by omega)]
theorem all_ptE (ps : List Pt) : (ps.map pt).all (elOk E24) = true := by
  rw [List.all_eq_true]; intro x hx; obtain ⟨p, _, rfl⟩ := List.mem_map.mp hx; rfl
theorem s21 (d : Nat) (ps : List Pt) (hl : ps.length ≤ 1000000) (h0 : 0 < ps.length) : pcall M (d + 1) 21 [.lst (ps.map pt)] = some (.lst ((backL ps).map pt)) := told (q21 d _) (by
  obtain ⟨p, l, rfl⟩ : ∃ p l, ps = p :: l := by cases ps with | nil => cases h0 | cons p l => exact ⟨p, l, rfl⟩
  generalize hps : p :: l = ps at *
  refine Eq.trans (pl_bool (show clr (.lst (ps.map pt)) = some (.bool false) by rw [← hps]; rfl)) ?_
  rw [cnd_f]
  have e1 : aop noCall (evO []) [] (.eqv false 2 [] (.v (.lst (ps.map pt))) (.v (.zsl true))) = some (.bool false, []) := by rw [← hps]; rfl
  refine Eq.trans (hop_eq e1) ?_
  repeat with_reducible first | refine tt sh_ptr ?_ | refine tt sh_fptr ?_ | refine tt w2 ?_ | refine tt w3 ?_ | refine tt w8 ?_ | refine tt w9 ?_ | refine tt wf ?_ | refine tt wg ?_ | refine tt wh ?_ | refine tt wi ?_ | refine tt wj ?_ | refine tt wk ?_ | refine tt wl ?_ | refine tt wn ?_ | refine tt c_ort ?_ | refine tt c_nt ?_ | refine tt c_nf ?_ | refine tt (cnd_t _ _) ?_ | refine tt (cnd_f _ _) ?_ | refine tt w6 ?_ | refine tt w4 ?_ | refine tt w5 ?_ | refine tt w7 ?_ | refine tt wm ?_ | refine tt wo ?_ | refine tt wx ?_ | refine tt nil_ptr ?_ | refine tt len_lst ?_ | refine tt len_zsl ?_
  have e2 : aop noCall (evO []) [] (.mkrow E24 0 []) = some (.slc 0 0 0, [some ⟨E24, []⟩]) := rfl
  refine Eq.trans (hop_eq e2) ?_
  have e3 : aop noCall (evO []) [some ⟨E24, []⟩] (.app E24 (.v (.slc 0 0 0)) (.v (.lst (ps.map pt)))) = some (.slc 1 0 ps.length, [none, some ⟨E24, ps.map pt⟩]) := by
    have b : (ps.map pt).length = ps.length := List.length_map _
    have c := all_ptE ps
    have hb : (E24).bytes = 16 := rfl
    simp only [aop, evO, elsOf, aApp]
    rw [show hget [some (Blk.mk E24 [])] 0 = some ⟨E24, []⟩ from rfl]
    simp only
    rw [if_pos ⟨rfl, by rw [b, hb]; omega, by rw [b]; omega, trivial, trivial, c⟩, b]
    simp
  refine Eq.trans (hop_eq e3) ?_
  have hh : hget [none, some (Blk.mk E24 (ps.map pt))] 1 = some ⟨E24, ps.map pt⟩ := rfl
  have own : Own [none, some (Blk.mk E24 (ps.map pt))] E24 (.slc 1 0 ps.length) (ps.map pt) := .inr ⟨1, by rw [List.length_map], hh⟩
  refine Eq.trans (len_own own) ?_
  repeat with_reducible first | refine tt sh_ptr ?_ | refine tt sh_fptr ?_ | refine tt w2 ?_ | refine tt w3 ?_ | refine tt w8 ?_ | refine tt w9 ?_ | refine tt wf ?_ | refine tt wg ?_ | refine tt wh ?_ | refine tt wi ?_ | refine tt wj ?_ | refine tt wk ?_ | refine tt wl ?_ | refine tt wn ?_ | refine tt c_ort ?_ | refine tt c_nt ?_ | refine tt c_nf ?_ | refine tt (cnd_t _ _) ?_ | refine tt (cnd_f _ _) ?_ | refine tt w6 ?_ | refine tt w4 ?_ | refine tt w5 ?_ | refine tt w7 ?_ | refine tt wm ?_ | refine tt wo ?_ | refine tt wx ?_ | refine tt nil_ptr ?_ | refine tt len_lst ?_ | refine tt len_zsl ?_
  rw [List.length_map]
  by_cases h2 : (ps.length : Int) > 1
  · rw [decide_eq_true h2, cnd_t]
    have e4 : aop noCall (evO []) [none, some (Blk.mk E24 (ps.map pt))] (.subV 2 (.v (.slc 1 0 ps.length)) (some (.v (.int .i64 1))) none none) = some (.slc 1 1 (ps.length - 1), [none, some ⟨E24, ps.map pt⟩]) := by
      simp only [aop, evO, Option.map, aSubV, lenOf, hh, bound, aInt]
      rw [if_pos ⟨by decide, by omega⟩]
      simp only
      rw [if_neg (by simp), if_neg (by intro hx; have : (1 : Int).toNat = 1 := rfl; omega), if_neg (by simp), if_pos (show (E24).es = 2 from rfl)]
      rfl
    refine Eq.trans (hop_eq e4) ?_
    refine Eq.trans (hop_eq (v := .int .i64 ((ps.length - 1 : Nat) : Int)) rfl) ?_
    repeat with_reducible first | refine tt sh_ptr ?_ | refine tt sh_fptr ?_ | refine tt w2 ?_ | refine tt w3 ?_ | refine tt w8 ?_ | refine tt w9 ?_ | refine tt wf ?_ | refine tt wg ?_ | refine tt wh ?_ | refine tt wi ?_ | refine tt wj ?_ | refine tt wk ?_ | refine tt wl ?_ | refine tt wn ?_ | refine tt c_ort ?_ | refine tt c_nt ?_ | refine tt c_nf ?_ | refine tt (cnd_t _ _) ?_ | refine tt (cnd_f _ _) ?_ | refine tt w6 ?_ | refine tt w4 ?_ | refine tt w5 ?_ | refine tt w7 ?_ | refine tt wm ?_ | refine tt wo ?_ | refine tt wx ?_ | refine tt nil_ptr ?_ | refine tt len_lst ?_ | refine tt len_zsl ?_
    rw [show IntKind.wrap .i64 (((ps.length - 1 : Nat) : Int) - 1) = (ps.length : Int) - 2 - ((0 : Nat) : Int) by rw [IntKind.wrap_i64]; omega]
    obtain ⟨fuel, hfuel⟩ : ∃ f : Nat, f = 1000000000000000000 := ⟨_, rfl⟩; rw [← hfuel]
    exact back0 d ps hl (by omega) ps.length 0 fuel _ (by omega) (by omega) (by omega) (by rw [rvL_0]; rfl)
  · rw [decide_eq_false h2, cnd_f, C0_fin, snap_pts own]
    have h1 : rvL ps 0 = backL ps := rvL_end (by omega)
    rw [← h1, rvL_0])
end Go.Proofs.Ytkfppigcjdapnaa.AE

namespace Go.Proofs.Ytkfppigcjdapnaa.AE
set_option linter.unusedVariables false
set_option linter.unusedSimpArgs false
set_option linter.constructorNameAsVariable false
open Go
set_option maxRecDepth 100000
/-- apogee/apogeelaw11.awake -/
theorem r9 (C : Cb) (d : Nat)  : xcall C M unr d 9 [] =
 C.lst (pcall M d 30 []) (fun l0 =>
 C.tup 2 (pcall M d 11 [(.lst l0)]) fun l2 =>
 C.agg 4 l2[0]? fun l3 =>
 C.int .i64 l3[0]? fun x4 =>
 C.int .i64 l3[1]? fun x5 =>
 C.int .i64 l3[2]? fun x6 =>
 C.int .i64 l3[3]? fun x7 =>
 C.bool l2[1]? fun b8 =>
 C.lst (pcall M d 30 []) (fun l9 =>
 C.tup 2 (pcall M d 24 [(.lst l9), (iz 1), (iz 1)]) fun l11 =>
 C.lst l11[0]? (fun l12 =>
 C.bool l11[1]? fun b14 =>
 C.lst (pcall M d 30 []) (fun l15 =>
 C.bool (pcall M d 15 [(.lst l15)]) fun b17 =>
 cnd b17
 (C.lst (pcall M d 30 []) (fun l18 =>
 C.bool (pcall M d 13 [(.lst l18)]) fun b20 =>
 cnd b20
 (C.bool (pcall M d 13 [(.lst [(.agg [(iz 0), (iz 0)]), (.agg [(iz 4), (iz 4)]), (.agg [(iz 4), (iz 0)]), (.agg [(iz 0), (iz 4)])])]) fun b21 =>
 cnd (!b21)
 (C.lst (pcall M d 30 []) (fun l22 =>
 C.int .i64 (pcall M d 16 [(.lst l22), (.agg [(iz 2), (iz 2)])]) fun x24 =>
 cnd (x24 == 1)
 (C.lst (pcall M d 30 []) (fun l25 =>
 C.int .i64 (pcall M d 16 [(.lst l25), (.agg [(iz 4), (iz 1)])]) fun x27 =>
 cnd (x27 == 0)
 (C.lst (pcall M d 30 []) (fun l28 =>
 C.int .i64 (pcall M d 16 [(.lst l28), (.agg [(iz 5), (iz 1)])]) fun x30 =>
 cnd (x30 == (-1))
 (C.lst (pcall M d 30 []) (fun l31 =>
 C.bool (pcall M d 18 [(.lst l31)]) fun b33 =>
 cnd b33
 (C.lst (pcall M d 30 []) (fun l34 =>
 C.lst (pcall M d 21 [(.lst l34)]) (fun l36 =>
 C.bool (pcall M d 18 [(.lst l36)]) fun b38 =>
 cnd (!b38)
 (cnd (xor false ((x4 == 0) && ((x5 == 0) && ((x6 == 4) && ((x7 == 4) && true)))))
 (cnd b8
 (cnd ((((List.length l12) : Nat) : Int) == 4)
 (C.agg 2 l12[0]? fun l39 =>
 C.int .i64 l39[0]? fun x40 =>
 C.int .i64 l39[1]? fun x41 =>
 cnd (xor false ((x40 == 1) && ((x41 == 1) && true)))
 (cnd b14
 (C.int .i64 (pcall M d 16 [(.lst [(.agg [(iz 0), (iz 0)]), (.agg [(iz 4), (iz 4)]), (.agg [(iz 4), (iz 0)]), (.agg [(iz 0), (iz 4)])]), (.agg [(iz 1), (iz 2)])]) fun x42 =>
 some (.bool (x42 == (-1))))
 (some bf))
 (some bf))
 (some bf))
 (some bf))
 (some bf))
 (some bf))
 (fun z37 =>
 none))
 (fun z35 =>
 none))
 (some bf))
 (fun z32 =>
 none))
 (some bf))
 (fun z29 =>
 none))
 (some bf))
 (fun z26 =>
 none))
 (some bf))
 (fun z23 =>
 none))
 (some bf))
 (some bf))
 (fun z19 =>
 none))
 (some bf))
 (fun z16 =>
 none))
 (fun z13 =>
 none))
 (fun z10 =>
 none))
 (fun z1 =>
 none) := by kernel_rfl
end Go.Proofs.Ytkfppigcjdapnaa.AE

namespace Go.Proofs.Ytkfppigcjdapnaa.AE
set_option linter.unusedVariables false
set_option linter.unusedSimpArgs false
set_option linter.constructorNameAsVariable false
open Go Go.Proofs.Ytkfppigcjdapnaa.Geo
set_option maxRecDepth 100000
attribute [local irreducible] pcall C0
def sq4 : List Pt := [(0, 0), (4, 0), (4, 4), (0, 4)]
def bow4 : List Pt := [(0, 0), (4, 4), (4, 0), (0, 4)]
theorem s30 (d : Nat) : pcall M (d + 1) 30 [] = some (.lst (sq4.map pt)) := told (r30 C0 d) rfl
theorem awake : pcall M 40 9 [] = some (.bool true) := told (r9 C0 39) (by
  have q := s30 38
  have in1 : In64 1 := by unfold In64; omega
  have h64 : ∀ p ∈ sq4, In64 p.1 ∧ In64 p.2 := by
    intro p hp
    unfold sq4 at hp
    simp only [List.mem_cons, List.mem_nil_iff, or_false] at hp
    unfold In64
    rcases hp with h | h | h | h <;> subst h <;> simp
  have f1 : pcall M 39 11 [.lst (sq4.map pt)] = some (.tup [bx ((0, 0), (4, 4)), .bool true]) := (s11 26 sq4 (by decide)).trans (by
    rw [show rightB sq4 = true by kernel_rfl, show bbX sq4 = ((0, 0), (4, 4)) by kernel_rfl]; rfl)
  have f2 : pcall M 39 24 [.lst (sq4.map pt), .int .i64 1, .int .i64 1] = some (.tup [.lst [pt (1, 1), pt (5, 1), pt (5, 5), pt (1, 5)], .bool true]) := (s24 26 sq4 1 1 (by decide) h64 in1 in1).trans (by
    unfold moveR; rw [show moveB sq4 1 1 = true by kernel_rfl]; rfl)
  have f3 : pcall M 39 15 [.lst (sq4.map pt)] = some (.bool true) := (s15 27 sq4 (by decide)).trans (by rw [show rightB sq4 = true by kernel_rfl])
  have f4 : pcall M 39 13 [.lst (sq4.map pt)] = some (.bool true) := (s13 28 sq4 (by decide)).trans (by rw [show simpleB sq4 = true by kernel_rfl])
  have f5 : pcall M 39 13 [.lst (bow4.map pt)] = some (.bool false) := (s13 28 bow4 (by decide)).trans (by rw [show simpleB bow4 = false by kernel_rfl])
  have f6 : pcall M 39 16 [.lst (sq4.map pt), pt (2, 2)] = some (.int .i64 1) := (s16 26 sq4 (2, 2) (by decide)).trans (by rw [show sideB sq4 (2, 2) = 1 by kernel_rfl])
  have f7 : pcall M 39 16 [.lst (sq4.map pt), pt (4, 1)] = some (.int .i64 0) := (s16 26 sq4 (4, 1) (by decide)).trans (by rw [show sideB sq4 (4, 1) = 0 by kernel_rfl])
  have f8 : pcall M 39 16 [.lst (sq4.map pt), pt (5, 1)] = some (.int .i64 (-1)) := (s16 26 sq4 (5, 1) (by decide)).trans (by rw [show sideB sq4 (5, 1) = -1 by kernel_rfl])
  have f9 : pcall M 39 18 [.lst (sq4.map pt)] = some (.bool true) := (s18 26 sq4 (by decide)).trans (by rw [show leftB sq4 = true by kernel_rfl])
  have f10 : pcall M 39 21 [.lst (sq4.map pt)] = some (.lst ((backL sq4).map pt)) := s21 38 sq4 (by decide) (by decide)
  have f11 : pcall M 39 18 [.lst ((backL sq4).map pt)] = some (.bool false) := (s18 26 (backL sq4) (by rw [back_len]; decide)).trans (by rw [show leftB (backL sq4) = false by kernel_rfl])
  have f12 : pcall M 39 16 [.lst (bow4.map pt), pt (1, 2)] = some (.int .i64 (-1)) := (s16 26 bow4 (1, 2) (by decide)).trans (by rw [show sideB bow4 (1, 2) = -1 by kernel_rfl])
  refine Eq.trans (pl_lst q) ?_
  refine Eq.trans (pl_tup f1 (by rfl)) ?_
  repeat with_reducible first | refine tt sh_ptr ?_ | refine tt sh_fptr ?_ | refine tt w2 ?_ | refine tt w3 ?_ | refine tt w8 ?_ | refine tt w9 ?_ | refine tt wf ?_ | refine tt wg ?_ | refine tt wh ?_ | refine tt wi ?_ | refine tt wj ?_ | refine tt wk ?_ | refine tt wl ?_ | refine tt wn ?_ | refine tt c_ort ?_ | refine tt c_nt ?_ | refine tt c_nf ?_ | refine tt (cnd_t _ _) ?_ | refine tt (cnd_f _ _) ?_ | refine tt w6 ?_ | refine tt w4 ?_ | refine tt w5 ?_ | refine tt w7 ?_ | refine tt wm ?_ | refine tt wo ?_ | refine tt wx ?_ | refine tt nil_ptr ?_ | refine tt len_lst ?_ | refine tt len_zsl ?_
  refine Eq.trans (pl_lst q) ?_
  refine Eq.trans (pl_tup f2 (by rfl)) ?_
  repeat with_reducible first | refine tt sh_ptr ?_ | refine tt sh_fptr ?_ | refine tt w2 ?_ | refine tt w3 ?_ | refine tt w8 ?_ | refine tt w9 ?_ | refine tt wf ?_ | refine tt wg ?_ | refine tt wh ?_ | refine tt wi ?_ | refine tt wj ?_ | refine tt wk ?_ | refine tt wl ?_ | refine tt wn ?_ | refine tt c_ort ?_ | refine tt c_nt ?_ | refine tt c_nf ?_ | refine tt (cnd_t _ _) ?_ | refine tt (cnd_f _ _) ?_ | refine tt w6 ?_ | refine tt w4 ?_ | refine tt w5 ?_ | refine tt w7 ?_ | refine tt wm ?_ | refine tt wo ?_ | refine tt wx ?_ | refine tt nil_ptr ?_ | refine tt len_lst ?_ | refine tt len_zsl ?_
  refine Eq.trans (pl_lst q) ?_
  refine Eq.trans (pl_bool f3) ?_
  repeat with_reducible first | refine tt sh_ptr ?_ | refine tt sh_fptr ?_ | refine tt w2 ?_ | refine tt w3 ?_ | refine tt w8 ?_ | refine tt w9 ?_ | refine tt wf ?_ | refine tt wg ?_ | refine tt wh ?_ | refine tt wi ?_ | refine tt wj ?_ | refine tt wk ?_ | refine tt wl ?_ | refine tt wn ?_ | refine tt c_ort ?_ | refine tt c_nt ?_ | refine tt c_nf ?_ | refine tt (cnd_t _ _) ?_ | refine tt (cnd_f _ _) ?_ | refine tt w6 ?_ | refine tt w4 ?_ | refine tt w5 ?_ | refine tt w7 ?_ | refine tt wm ?_ | refine tt wo ?_ | refine tt wx ?_ | refine tt nil_ptr ?_ | refine tt len_lst ?_ | refine tt len_zsl ?_
  refine Eq.trans (pl_lst q) ?_
  refine Eq.trans (pl_bool f4) ?_
  repeat with_reducible first | refine tt sh_ptr ?_ | refine tt sh_fptr ?_ | refine tt w2 ?_ | refine tt w3 ?_ | refine tt w8 ?_ | refine tt w9 ?_ | refine tt wf ?_ | refine tt wg ?_ | refine tt wh ?_ | refine tt wi ?_ | refine tt wj ?_ | refine tt wk ?_ | refine tt wl ?_ | refine tt wn ?_ | refine tt c_ort ?_ | refine tt c_nt ?_ | refine tt c_nf ?_ | refine tt (cnd_t _ _) ?_ | refine tt (cnd_f _ _) ?_ | refine tt w6 ?_ | refine tt w4 ?_ | refine tt w5 ?_ | refine tt w7 ?_ | refine tt wm ?_ | refine tt wo ?_ | refine tt wx ?_ | refine tt nil_ptr ?_ | refine tt len_lst ?_ | refine tt len_zsl ?_
  refine Eq.trans (pl_bool f5) ?_
  repeat with_reducible first | refine tt sh_ptr ?_ | refine tt sh_fptr ?_ | refine tt w2 ?_ | refine tt w3 ?_ | refine tt w8 ?_ | refine tt w9 ?_ | refine tt wf ?_ | refine tt wg ?_ | refine tt wh ?_ | refine tt wi ?_ | refine tt wj ?_ | refine tt wk ?_ | refine tt wl ?_ | refine tt wn ?_ | refine tt c_ort ?_ | refine tt c_nt ?_ | refine tt c_nf ?_ | refine tt (cnd_t _ _) ?_ | refine tt (cnd_f _ _) ?_ | refine tt w6 ?_ | refine tt w4 ?_ | refine tt w5 ?_ | refine tt w7 ?_ | refine tt wm ?_ | refine tt wo ?_ | refine tt wx ?_ | refine tt nil_ptr ?_ | refine tt len_lst ?_ | refine tt len_zsl ?_
  refine Eq.trans (pl_lst q) ?_
  refine Eq.trans (pl_int f6) ?_
  refine Eq.trans (pl_len (by rfl)) ?_
  refine Eq.trans (pl_lst q) ?_
  refine Eq.trans (pl_int f7) ?_
  refine Eq.trans (pl_len (by rfl)) ?_
  refine Eq.trans (pl_lst q) ?_
  refine Eq.trans (pl_int f8) ?_
  refine Eq.trans (pl_len (by rfl)) ?_
  refine Eq.trans (pl_lst q) ?_
  refine Eq.trans (pl_bool f9) ?_
  repeat with_reducible first | refine tt sh_ptr ?_ | refine tt sh_fptr ?_ | refine tt w2 ?_ | refine tt w3 ?_ | refine tt w8 ?_ | refine tt w9 ?_ | refine tt wf ?_ | refine tt wg ?_ | refine tt wh ?_ | refine tt wi ?_ | refine tt wj ?_ | refine tt wk ?_ | refine tt wl ?_ | refine tt wn ?_ | refine tt c_ort ?_ | refine tt c_nt ?_ | refine tt c_nf ?_ | refine tt (cnd_t _ _) ?_ | refine tt (cnd_f _ _) ?_ | refine tt w6 ?_ | refine tt w4 ?_ | refine tt w5 ?_ | refine tt w7 ?_ | refine tt wm ?_ | refine tt wo ?_ | refine tt wx ?_ | refine tt nil_ptr ?_ | refine tt len_lst ?_ | refine tt len_zsl ?_
  refine Eq.trans (pl_lst q) ?_
  refine Eq.trans (pl_lst f10) ?_
  refine Eq.trans (pl_bool f11) ?_
  repeat with_reducible first | refine tt sh_ptr ?_ | refine tt sh_fptr ?_ | refine tt w2 ?_ | refine tt w3 ?_ | refine tt w8 ?_ | refine tt w9 ?_ | refine tt wf ?_ | refine tt wg ?_ | refine tt wh ?_ | refine tt wi ?_ | refine tt wj ?_ | refine tt wk ?_ | refine tt wl ?_ | refine tt wn ?_ | refine tt c_ort ?_ | refine tt c_nt ?_ | refine tt c_nf ?_ | refine tt (cnd_t _ _) ?_ | refine tt (cnd_f _ _) ?_ | refine tt w6 ?_ | refine tt w4 ?_ | refine tt w5 ?_ | refine tt w7 ?_ | refine tt wm ?_ | refine tt wo ?_ | refine tt wx ?_ | refine tt nil_ptr ?_ | refine tt len_lst ?_ | refine tt len_zsl ?_
  refine Eq.trans (pl_len (by rfl)) ?_
  repeat with_reducible first | refine tt sh_ptr ?_ | refine tt sh_fptr ?_ | refine tt w2 ?_ | refine tt w3 ?_ | refine tt w8 ?_ | refine tt w9 ?_ | refine tt wf ?_ | refine tt wg ?_ | refine tt wh ?_ | refine tt wi ?_ | refine tt wj ?_ | refine tt wk ?_ | refine tt wl ?_ | refine tt wn ?_ | refine tt c_ort ?_ | refine tt c_nt ?_ | refine tt c_nf ?_ | refine tt (cnd_t _ _) ?_ | refine tt (cnd_f _ _) ?_ | refine tt w6 ?_ | refine tt w4 ?_ | refine tt w5 ?_ | refine tt w7 ?_ | refine tt wm ?_ | refine tt wo ?_ | refine tt wx ?_ | refine tt nil_ptr ?_ | refine tt len_lst ?_ | refine tt len_zsl ?_
  refine Eq.trans (pl_len (by rfl)) ?_
  repeat with_reducible first | refine tt sh_ptr ?_ | refine tt sh_fptr ?_ | refine tt w2 ?_ | refine tt w3 ?_ | refine tt w8 ?_ | refine tt w9 ?_ | refine tt wf ?_ | refine tt wg ?_ | refine tt wh ?_ | refine tt wi ?_ | refine tt wj ?_ | refine tt wk ?_ | refine tt wl ?_ | refine tt wn ?_ | refine tt c_ort ?_ | refine tt c_nt ?_ | refine tt c_nf ?_ | refine tt (cnd_t _ _) ?_ | refine tt (cnd_f _ _) ?_ | refine tt w6 ?_ | refine tt w4 ?_ | refine tt w5 ?_ | refine tt w7 ?_ | refine tt wm ?_ | refine tt wo ?_ | refine tt wx ?_ | refine tt nil_ptr ?_ | refine tt len_lst ?_ | refine tt len_zsl ?_
  refine Eq.trans (pl_len (by rfl)) ?_
  repeat with_reducible first | refine tt sh_ptr ?_ | refine tt sh_fptr ?_ | refine tt w2 ?_ | refine tt w3 ?_ | refine tt w8 ?_ | refine tt w9 ?_ | refine tt wf ?_ | refine tt wg ?_ | refine tt wh ?_ | refine tt wi ?_ | refine tt wj ?_ | refine tt wk ?_ | refine tt wl ?_ | refine tt wn ?_ | refine tt c_ort ?_ | refine tt c_nt ?_ | refine tt c_nf ?_ | refine tt (cnd_t _ _) ?_ | refine tt (cnd_f _ _) ?_ | refine tt w6 ?_ | refine tt w4 ?_ | refine tt w5 ?_ | refine tt w7 ?_ | refine tt wm ?_ | refine tt wo ?_ | refine tt wx ?_ | refine tt nil_ptr ?_ | refine tt len_lst ?_ | refine tt len_zsl ?_
  exact pl_int f12)
end Go.Proofs.Ytkfppigcjdapnaa.AE

namespace Go.Proofs.Ytkfppigcjdapnaa.Geo
/-- On the line, and between in width where that isn't one width: on the way. -/
theorem On_of_width {p a b : Pt} (h : TN a b p = 0) (h1 : a.1 ≤ p.1) (h2 : p.1 ≤ b.1) (h3 : a.1 < b.1) : On p a b := by
  have e : TN (a.2, a.1) (b.2, b.1) (p.2, p.1) = 0 := by
    have : TN (a.2, a.1) (b.2, b.1) (p.2, p.1) = -TN a b p := by unfold TN; grind
    omega
  have k := (On_of_height (p := (p.2, p.1)) (a := (a.2, a.1)) (b := (b.2, b.1)) e h1 h2 h3).2
  refine ⟨h, ?_⟩
  unfold Btw at k ⊢
  exact ⟨k.2, k.1⟩
def HasB (x0 y0 x1 y1 : Int) (p : Pt) : Prop := x0 ≤ p.1 ∧ p.1 ≤ x1 ∧ y0 ≤ p.2 ∧ p.2 ≤ y1
instance (x0 y0 x1 y1 : Int) (p : Pt) : Decidable (HasB x0 y0 x1 y1 p) := by unfold HasB; infer_instance
end Go.Proofs.Ytkfppigcjdapnaa.Geo

namespace Go.Proofs.Ytkfppigcjdapnaa.Geo
theorem tri_sum (a b c p : Pt) : TN a b p + TN b c p + TN c a p = TN a b c := by unfold TN; grind
theorem tri_h (a b c p : Pt) : TN a b c * (p.2 - a.2) = TN a b p * (c.2 - a.2) + TN c a p * (b.2 - a.2) := by unfold TN; grind
theorem tri_w (a b c p : Pt) : TN a b c * (p.1 - a.1) = TN a b p * (c.1 - a.1) + TN c a p * (b.1 - a.1) := by unfold TN; grind
/-- Three in one line: one is between the other two. -/
theorem line3 {a b c : Pt} (h : TN a b c = 0) : On c a b ∨ On a b c ∨ On b c a := by
  have h1 : TN b c a = 0 := by rw [TN_cyc]; exact h
  have h2 : TN c a b = 0 := by rw [TN_cyc]; exact h1
  have s1 : TN b a c = 0 := by rw [TN_swap]; omega
  have s2 : TN c b a = 0 := by rw [TN_swap]; omega
  have s3 : TN a c b = 0 := by rw [TN_swap]; omega
  have W : ∀ p u v : Pt, TN u v p = 0 → TN v u p = 0 → ((u.1 ≤ p.1 ∧ p.1 ≤ v.1 ∧ u.1 < v.1) ∨ (v.1 ≤ p.1 ∧ p.1 ≤ u.1 ∧ v.1 < u.1) ∨ (u.2 ≤ p.2 ∧ p.2 ≤ v.2 ∧ u.2 < v.2) ∨ (v.2 ≤ p.2 ∧ p.2 ≤ u.2 ∧ v.2 < u.2)) → On p u v := by
    intro p u v e1 e2 hh
    rcases hh with ⟨x, y, z⟩ | ⟨x, y, z⟩ | ⟨x, y, z⟩ | ⟨x, y, z⟩
    · exact On_of_width e1 x y z
    · exact On_swap.mp (On_of_width e2 x y z)
    · exact On_of_height e1 x y z
    · exact On_swap.mp (On_of_height e2 x y z)
  by_cases e : a = b
  · subst e; exact .inr (.inl (On_a _ _))
  · by_cases e2 : b = c
    · subst e2; exact .inl (On_b _ _)
    · by_cases e3 : a = c
      · subst e3; exact .inl (On_a _ _)
      · have d1 : a.1 ≠ b.1 ∨ a.2 ≠ b.2 := by
          apply Classical.byContradiction; intro hn; exact e (Prod.ext (by omega) (by omega))
        have d2 : b.1 ≠ c.1 ∨ b.2 ≠ c.2 := by
          apply Classical.byContradiction; intro hn; exact e2 (Prod.ext (by omega) (by omega))
        by_cases x : a.1 = b.1 ∧ b.1 = c.1
        · rcases (show (a.2 ≤ c.2 ∧ c.2 ≤ b.2 ∧ a.2 < b.2) ∨ (b.2 ≤ c.2 ∧ c.2 ≤ a.2 ∧ b.2 < a.2) ∨ (b.2 ≤ a.2 ∧ a.2 ≤ c.2 ∧ b.2 < c.2) ∨ (c.2 ≤ a.2 ∧ a.2 ≤ b.2 ∧ c.2 < b.2) ∨ (c.2 ≤ b.2 ∧ b.2 ≤ a.2 ∧ c.2 < a.2) ∨ (a.2 ≤ b.2 ∧ b.2 ≤ c.2 ∧ a.2 < c.2) by omega) with g | g | g | g | g | g
          · exact .inl (W _ _ _ h s1 (by omega))
          · exact .inl (W _ _ _ h s1 (by omega))
          · exact .inr (.inl (W _ _ _ h1 s2 (by omega)))
          · exact .inr (.inl (W _ _ _ h1 s2 (by omega)))
          · exact .inr (.inr (W _ _ _ h2 s3 (by omega)))
          · exact .inr (.inr (W _ _ _ h2 s3 (by omega)))
        · rcases (show (a.1 ≤ c.1 ∧ c.1 ≤ b.1 ∧ a.1 < b.1) ∨ (b.1 ≤ c.1 ∧ c.1 ≤ a.1 ∧ b.1 < a.1) ∨ (b.1 ≤ a.1 ∧ a.1 ≤ c.1 ∧ b.1 < c.1) ∨ (c.1 ≤ a.1 ∧ a.1 ≤ b.1 ∧ c.1 < b.1) ∨ (c.1 ≤ b.1 ∧ b.1 ≤ a.1 ∧ c.1 < a.1) ∨ (a.1 ≤ b.1 ∧ b.1 ≤ c.1 ∧ a.1 < c.1) by omega) with g | g | g | g | g | g
          · exact .inl (W _ _ _ h s1 (by omega))
          · exact .inl (W _ _ _ h s1 (by omega))
          · exact .inr (.inl (W _ _ _ h1 s2 (by omega)))
          · exact .inr (.inl (W _ _ _ h1 s2 (by omega)))
          · exact .inr (.inr (W _ _ _ h2 s3 (by omega)))
          · exact .inr (.inr (W _ _ _ h2 s3 (by omega)))
/-- On an edge: the other turns are none to the right. -/
theorem on_edge {a b c p : Pt} (ht : TN a b c > 0) (h : On p a b) : TN a b p = 0 ∧ TN b c p ≥ 0 ∧ TN c a p ≥ 0 := by
  obtain ⟨h0, hb⟩ := h
  have e1 := tri_w a b c p
  have e2 := tri_h a b c p
  have es := tri_sum a b c p
  rw [h0, Int.zero_mul, Int.zero_add] at e1 e2
  refine ⟨h0, ?_⟩
  unfold Btw at hb
  generalize hT : TN a b c = T at *
  generalize hC : TN c a p = C at *
  generalize hB : TN b c p = B at *
  have key : ∀ u w : Int, T * w = C * u → u ≠ 0 → ((0 ≤ w ∧ w ≤ u) ∨ (u ≤ w ∧ w ≤ 0)) → 0 ≤ C ∧ C ≤ T := by
    intro u w e hu hw
    have e' : T * (u - w) = (T - C) * u := by grind
    rcases Int.lt_or_gt_of_ne hu with hu | hu
    · have w0 : u ≤ w ∧ w ≤ 0 := by omega
      have p1 : T * w ≤ 0 := mul_pn (by omega) w0.2
      have p2 : T * (u - w) ≤ 0 := mul_pn (by omega) (by omega)
      constructor
      · apply Classical.byContradiction; intro hn
        have := mul_nn_pos (x := C) (y := u) (by omega) hu
        omega
      · apply Classical.byContradiction; intro hn
        have := mul_nn_pos (x := T - C) (y := u) (by omega) hu
        omega
    · have w0 : 0 ≤ w ∧ w ≤ u := by omega
      have p1 : 0 ≤ T * w := Int.mul_nonneg (by omega) w0.1
      have p2 : 0 ≤ T * (u - w) := Int.mul_nonneg (by omega) (by omega)
      constructor
      · apply Classical.byContradiction; intro hn
        have := mul_np_neg (x := C) (y := u) (by omega) hu
        omega
      · apply Classical.byContradiction; intro hn
        have := mul_np_neg (x := T - C) (y := u) (by omega) hu
        omega
  have : 0 ≤ C ∧ C ≤ T := by
    by_cases u1 : b.1 - a.1 = 0
    · by_cases u2 : b.2 - a.2 = 0
      · exfalso
        have : T = 0 := by rw [← hT]; unfold TN; rw [u1, u2]; simp
        omega
      · exact key _ _ e2 u2 (by omega)
    · exact key _ _ e1 u1 (by omega)
  omega
/-- No turn to the right, and one none: on that edge. -/
theorem edge_on {a b c p : Pt} (ht : TN a b c > 0) (h0 : TN a b p = 0) (h1 : TN b c p ≥ 0) (h2 : TN c a p ≥ 0) : On p a b := by
  refine ⟨h0, ?_⟩
  have e1 := tri_w a b c p
  have e2 := tri_h a b c p
  have es := tri_sum a b c p
  rw [h0, Int.zero_mul, Int.zero_add] at e1 e2
  generalize hT : TN a b c = T at *
  generalize hC : TN c a p = C at *
  generalize hB : TN b c p = B at *
  have key : ∀ u w : Int, T * w = C * u → (0 ≤ w ∧ w ≤ u) ∨ (u ≤ w ∧ w ≤ 0) := by
    intro u w e
    have e' : T * (u - w) = B * u := by rw [show B = T - C by omega]; grind
    rcases Int.le_total 0 u with hu | hu
    · have p1 := Int.mul_nonneg h2 hu
      have p2 := Int.mul_nonneg h1 hu
      left
      constructor
      · apply Classical.byContradiction; intro hn
        have := mul_pn_neg (x := T) (y := w) (by omega) (by omega)
        omega
      · apply Classical.byContradiction; intro hn
        have := mul_pn_neg (x := T) (y := u - w) (by omega) (by omega)
        omega
    · have p1 := mul_pn (x := C) (y := u) (by omega) hu
      have p2 := mul_pn (x := B) (y := u) (by omega) hu
      right
      constructor
      · apply Classical.byContradiction; intro hn
        have := Int.mul_pos (a := T) (b := u - w) (by omega) (by omega)
        omega
      · apply Classical.byContradiction; intro hn
        have := Int.mul_pos (a := T) (b := w) (by omega) (by omega)
        omega
  have k1 := key _ _ e1
  have k2 := key _ _ e2
  unfold Btw; omega
/-- How many edges the ray meets: odd? -/
def tri3 (p a b c : Pt) : Bool := xor (decide (Crs p a b)) (xor (decide (Crs p b c)) (decide (Crs p c a)))
theorem tri3_cyc (p a b c : Pt) : tri3 p b c a = tri3 p a b c := by
  unfold tri3
  cases decide (Crs p a b) <;> cases decide (Crs p b c) <;> cases decide (Crs p c a) <;> rfl
theorem tri3_rev (p a b c : Pt) : tri3 p a c b = tri3 p a b c := by
  unfold tri3
  rw [decide_eq_decide.2 (Crs_swap (p := p) (a := c) (b := a)), decide_eq_decide.2 (Crs_swap (p := p) (a := b) (b := c)), decide_eq_decide.2 (Crs_swap (p := p) (a := a) (b := b))]
  cases decide (Crs p a b) <;> cases decide (Crs p b c) <;> cases decide (Crs p c a) <;> rfl
/-- One corner alone at or below, or above: the ray's parity. -/
theorem tri_one {a b c p : Pt} (ht : TN a b c > 0) (ha : TN a b p ≠ 0) (hc : TN c a p ≠ 0) (h : (a.2 ≤ p.2 ∧ p.2 < b.2 ∧ p.2 < c.2) ∨ (p.2 < a.2 ∧ b.2 ≤ p.2 ∧ c.2 ≤ p.2)) (hb : TN b c p ≠ 0 ∨ True) :
    (TN a b p > 0 ∧ TN b c p > 0 ∧ TN c a p > 0 → tri3 p a b c = true) ∧ (TN a b p < 0 ∨ TN b c p < 0 ∨ TN c a p < 0 → tri3 p a b c = false) := by
  have e := tri_h a b c p
  have es := tri_sum a b c p
  have sA : TN b a p = -TN a b p := TN_swap a b p
  have sC : TN a c p = -TN c a p := TN_swap c a p
  have nb : ¬ Crs p b c := by unfold Crs CrsU; omega
  unfold tri3
  rw [decide_eq_false nb, Bool.false_xor]
  have ca : Crs p a b ↔ ((a.2 ≤ p.2 ∧ p.2 < b.2 ∧ TN a b p > 0) ∨ (b.2 ≤ p.2 ∧ p.2 < a.2 ∧ TN a b p < 0)) := by unfold Crs CrsU; rw [sA]; omega
  have cc : Crs p c a ↔ ((c.2 ≤ p.2 ∧ p.2 < a.2 ∧ TN c a p > 0) ∨ (a.2 ≤ p.2 ∧ p.2 < c.2 ∧ TN c a p < 0)) := by unfold Crs CrsU; rw [sC]; omega
  rw [decide_eq_decide.2 ca, decide_eq_decide.2 cc]
  rcases h with ⟨h1, h2, h3⟩ | ⟨h1, h2, h3⟩
  · have d1 : decide ((a.2 ≤ p.2 ∧ p.2 < b.2 ∧ (TN a b p) > 0) ∨ (b.2 ≤ p.2 ∧ p.2 < a.2 ∧ (TN a b p) < 0)) = decide ((TN a b p) > 0) := by rw [decide_eq_decide]; omega
    have d2 : decide ((c.2 ≤ p.2 ∧ p.2 < a.2 ∧ (TN c a p) > 0) ∨ (a.2 ≤ p.2 ∧ p.2 < c.2 ∧ (TN c a p) < 0)) = decide ((TN c a p) < 0) := by rw [decide_eq_decide]; omega
    rw [d1, d2]
    constructor
    · rintro ⟨x, y, z⟩; rw [decide_eq_true x, decide_eq_false (by omega)]; rfl
    · intro hn
      rcases Int.lt_or_gt_of_ne ha with x | x <;> rcases Int.lt_or_gt_of_ne hc with z | z
      · exfalso
        have p0 := Int.mul_nonneg (show 0 ≤ (TN a b c) by omega) (show 0 ≤ p.2 - a.2 by omega)
        have p1 := mul_np_neg (x := TN a b p) (y := c.2 - a.2) x (by omega)
        have p2 := mul_np_neg (x := (TN c a p)) (y := b.2 - a.2) z (by omega)
        omega
      · rw [decide_eq_false (by omega), decide_eq_false (by omega)]; rfl
      · rw [decide_eq_true x, decide_eq_true z]; rfl
      · exfalso
        have y : (TN b c p) < 0 := by omega
        have p1 := Int.mul_nonneg (show 0 ≤ (TN a b p) by omega) (show 0 ≤ c.2 - p.2 - 1 by omega)
        have p2 := Int.mul_nonneg (show 0 ≤ (TN c a p) by omega) (show 0 ≤ b.2 - p.2 - 1 by omega)
        have p3 := mul_np (x := (TN b c p)) (y := p.2 - a.2) (by omega) (by omega)
        have e3 : (TN b c p) * (p.2 - a.2) = (TN a b c) * (p.2 - a.2) - (TN a b p) * (p.2 - a.2) - (TN c a p) * (p.2 - a.2) := by rw [show (TN b c p) = (TN a b c) - (TN a b p) - (TN c a p) by omega]; grind
        have e4 : (TN a b p) * (c.2 - a.2) = (TN a b p) * (c.2 - p.2 - 1) + (TN a b p) * (p.2 - a.2) + (TN a b p) := by grind
        have e5 : (TN c a p) * (b.2 - a.2) = (TN c a p) * (b.2 - p.2 - 1) + (TN c a p) * (p.2 - a.2) + (TN c a p) := by grind
        omega
  · have d1 : decide ((a.2 ≤ p.2 ∧ p.2 < b.2 ∧ (TN a b p) > 0) ∨ (b.2 ≤ p.2 ∧ p.2 < a.2 ∧ (TN a b p) < 0)) = decide ((TN a b p) < 0) := by rw [decide_eq_decide]; omega
    have d2 : decide ((c.2 ≤ p.2 ∧ p.2 < a.2 ∧ (TN c a p) > 0) ∨ (a.2 ≤ p.2 ∧ p.2 < c.2 ∧ (TN c a p) < 0)) = decide ((TN c a p) > 0) := by rw [decide_eq_decide]; omega
    rw [d1, d2]
    constructor
    · rintro ⟨x, y, z⟩; rw [decide_eq_false (by omega), decide_eq_true z]; rfl
    · intro hn
      rcases Int.lt_or_gt_of_ne ha with x | x <;> rcases Int.lt_or_gt_of_ne hc with z | z
      · exfalso
        have p0 := mul_pn_neg (x := (TN a b c)) (y := p.2 - a.2) (by omega) (by omega)
        have p1 := mul_nn_pos (x := TN a b p) (y := c.2 - a.2) x (by omega)
        have p2 := mul_nn_pos (x := (TN c a p)) (y := b.2 - a.2) z (by omega)
        omega
      · rw [decide_eq_true x, decide_eq_true z]; rfl
      · rw [decide_eq_false (by omega), decide_eq_false (by omega)]; rfl
      · exfalso
        have y : (TN b c p) < 0 := by omega
        have p1 := mul_pn (x := TN a b p) (y := c.2 - p.2) (by omega) (by omega)
        have p2 := mul_pn (x := (TN c a p)) (y := b.2 - p.2) (by omega) (by omega)
        have p3 := mul_nn_pos (x := (TN b c p)) (y := p.2 - a.2) y (by omega)
        have e3 : (TN b c p) * (p.2 - a.2) = (TN a b c) * (p.2 - a.2) - (TN a b p) * (p.2 - a.2) - (TN c a p) * (p.2 - a.2) := by rw [show (TN b c p) = (TN a b c) - (TN a b p) - (TN c a p) by omega]; grind
        have e4 : (TN a b p) * (c.2 - a.2) = (TN a b p) * (c.2 - p.2) + (TN a b p) * (p.2 - a.2) := by grind
        have e5 : (TN c a p) * (b.2 - a.2) = (TN c a p) * (b.2 - p.2) + (TN c a p) * (p.2 - a.2) := by grind
        omega
/-- THE LAW: inside by turns is inside by the ray. -/
theorem tri_ray {a b c p : Pt} (ht : TN a b c > 0) (n1 : ¬ On p a b) (n2 : ¬ On p b c) (n3 : ¬ On p c a) :
    (TN a b p > 0 ∧ TN b c p > 0 ∧ TN c a p > 0 → tri3 p a b c = true) ∧ (TN a b p < 0 ∨ TN b c p < 0 ∨ TN c a p < 0 → tri3 p a b c = false) := by
  have hz : ∀ u v : Pt, ¬ On p u v → (u.2 ≤ p.2 ∧ p.2 < v.2) ∨ (v.2 ≤ p.2 ∧ p.2 < u.2) → TN u v p ≠ 0 := by
    intro u v hn h h0
    rcases h with h | h
    · exact hn (On_of_height h0 h.1 (by omega) (by omega))
    · exact hn (On_swap.mp (On_of_height (by rw [TN_swap]; omega) h.1 (by omega) (by omega)))
  have t2 : TN b c a > 0 := by rw [TN_cyc]; exact ht
  have t3 : TN c a b > 0 := by rw [TN_cyc]; exact t2
  have c2 := tri3_cyc p a b c
  have c3 := tri3_cyc p b c a
  by_cases sa : a.2 ≤ p.2 <;> by_cases sb : b.2 ≤ p.2 <;> by_cases sc : c.2 ≤ p.2
  · -- all at or below
    have f : tri3 p a b c = false := by unfold tri3 Crs CrsU; simp only [show ¬ p.2 < a.2 by omega, show ¬ p.2 < b.2 by omega, show ¬ p.2 < c.2 by omega]; simp
    refine ⟨fun ⟨x, y, z⟩ => ?_, fun _ => f⟩
    exfalso
    have e1 := tri_h a b c p
    have e2 := tri_h b c a p
    rw [TN_cyc] at e2
    have e3 := tri_h c a b p
    rw [TN_cyc, TN_cyc] at e3
    have es := tri_sum a b c p
    generalize hT : TN a b c = T at *
    generalize TN a b p = A at *
    generalize TN b c p = B at *
    generalize TN c a p = C at *
    have ka := Int.mul_nonneg (show 0 ≤ B by omega) (show 0 ≤ p.2 - a.2 by omega)
    have kb := Int.mul_nonneg (show 0 ≤ C by omega) (show 0 ≤ p.2 - b.2 by omega)
    have kc := Int.mul_nonneg (show 0 ≤ A by omega) (show 0 ≤ p.2 - c.2 by omega)
    have z0 : B * (p.2 - a.2) + C * (p.2 - b.2) + A * (p.2 - c.2) = 0 := by
      have : B * (p.2 - a.2) = T * (p.2 - a.2) - A * (p.2 - a.2) - C * (p.2 - a.2) := by rw [show B = T - A - C by omega]; grind
      rw [this, e1]; grind
    have za : p.2 - a.2 = 0 := by
      have : B * (p.2 - a.2) = 0 := by omega
      rcases Int.mul_eq_zero.mp this with h | h <;> omega
    have zb : p.2 - b.2 = 0 := by
      have : C * (p.2 - b.2) = 0 := by omega
      rcases Int.mul_eq_zero.mp this with h | h <;> omega
    have zc : p.2 - c.2 = 0 := by
      have : A * (p.2 - c.2) = 0 := by omega
      rcases Int.mul_eq_zero.mp this with h | h <;> omega
    have q : TN a b c = 0 := by
      unfold TN
      rw [show c.2 - a.2 = 0 by omega, show b.2 - a.2 = 0 by omega]; simp
    omega
  · have := tri_one t3 (hz c a n3 (by omega)) (hz b c n2 (by omega)) (by omega) (.inr trivial)
    rw [c3, c2] at this
    exact ⟨fun h => this.1 ⟨h.2.2, h.1, h.2.1⟩, fun h => this.2 (by omega)⟩
  · have := tri_one t2 (hz b c n2 (by omega)) (hz a b n1 (by omega)) (by omega) (.inr trivial)
    rw [c2] at this
    exact ⟨fun h => this.1 ⟨h.2.1, h.2.2, h.1⟩, fun h => this.2 (by omega)⟩
  · exact tri_one ht (hz a b n1 (by omega)) (hz c a n3 (by omega)) (by omega) (.inr trivial)
  · exact tri_one ht (hz a b n1 (by omega)) (hz c a n3 (by omega)) (by omega) (.inr trivial)
  · have := tri_one t2 (hz b c n2 (by omega)) (hz a b n1 (by omega)) (by omega) (.inr trivial)
    rw [c2] at this
    exact ⟨fun h => this.1 ⟨h.2.1, h.2.2, h.1⟩, fun h => this.2 (by omega)⟩
  · have := tri_one t3 (hz c a n3 (by omega)) (hz b c n2 (by omega)) (by omega) (.inr trivial)
    rw [c3, c2] at this
    exact ⟨fun h => this.1 ⟨h.2.2, h.1, h.2.1⟩, fun h => this.2 (by omega)⟩
  · have f : tri3 p a b c = false := by unfold tri3 Crs CrsU; simp only [show ¬ a.2 ≤ p.2 by omega, show ¬ b.2 ≤ p.2 by omega, show ¬ c.2 ≤ p.2 by omega]; simp
    refine ⟨fun ⟨x, y, z⟩ => ?_, fun _ => f⟩
    exfalso
    have e1 := tri_h a b c p
    have es := tri_sum a b c p
    generalize TN a b c = T at *
    generalize TN a b p = A at *
    generalize TN b c p = B at *
    generalize TN c a p = C at *
    have ka := Int.mul_pos (show 0 < B by omega) (show 0 < a.2 - p.2 by omega)
    have kb := Int.mul_pos (show 0 < C by omega) (show 0 < b.2 - p.2 by omega)
    have kc := Int.mul_pos (show 0 < A by omega) (show 0 < c.2 - p.2 by omega)
    have z0 : B * (a.2 - p.2) + C * (b.2 - p.2) + A * (c.2 - p.2) = 0 := by
      have h1 : B * (a.2 - p.2) = T * (a.2 - p.2) - A * (a.2 - p.2) - C * (a.2 - p.2) := by rw [show B = T - A - C by omega]; grind
      have h2 : T * (a.2 - p.2) = -(T * (p.2 - a.2)) := by grind
      rw [h1, h2, e1]; grind
    omega
end Go.Proofs.Ytkfppigcjdapnaa.Geo

namespace Go.Proofs.Ytkfppigcjdapnaa.AE
set_option linter.unusedVariables false
set_option linter.unusedSimpArgs false
set_option linter.constructorNameAsVariable false
open Go Go.Proofs.Ytkfppigcjdapnaa.Geo
theorem simple_pair {ps : List Pt} (h : simpleB ps = true) {k i : Nat} (hk : k < i) (hi : i < ps.length) : vv ps i ≠ vv ps k ∧ apartB ps k i = true := by
  unfold simpleB at h
  simp only [Bool.and_eq_true] at h
  have h1 := h.2.2.2
  unfold allPairs at h1
  have h2 := (upAll_iff _ _ _).mp h1 i (by omega) (by omega)
  have h3 := (upAll_iff _ _ _).mp h2 k (by omega) (by omega)
  unfold pairB at h3
  simp only [Bool.and_eq_true, Bool.not_eq_true', decide_eq_false_iff_not] at h3
  exact h3
theorem onB_no {p a b : Pt} (h : onB p a b = false) (hp : OkP p) (ha : OkP a) (hb : OkP b) : ¬ On p a b := fun ho => by
  rw [onB_t.mpr ⟨⟨hp, ha, hb⟩, ho⟩] at h; cases h
theorem adj {ps : List Pt} (h : simpleB ps = true) {i : Nat} (hi : i < ps.length) : ¬ On (vv ps (nx ps (nx ps i))) (vv ps i) (vv ps (nx ps i)) ∧ ¬ On (vv ps i) (vv ps (nx ps i)) (vv ps (nx ps (nx ps i))) ∧ vv ps i ≠ vv ps (nx ps i) := by
  obtain ⟨h3, h8, ok⟩ := simple_ok h
  have oi := vv_ok ok hi
  have oj := vv_ok ok (nx_lt hi)
  have okk := vv_ok ok (nx_lt (nx_lt hi))
  by_cases hl : i + 1 < ps.length
  · have e : nx ps i = i + 1 := Nat.mod_eq_of_lt hl
    obtain ⟨g1, g2⟩ := simple_pair h (k := i) (i := i + 1) (by omega) hl
    unfold apartB at g2
    rw [if_pos e] at g2
    simp only [Bool.and_eq_true, Bool.not_eq_true'] at g2
    rw [e] at g2 oj okk ⊢
    exact ⟨onB_no g2.1 okk oi oj, onB_no g2.2 oi oj okk, fun hh => g1 hh.symm⟩
  · have e : nx ps i = 0 := by unfold nx; rw [show i + 1 = ps.length by omega, Nat.mod_self]
    have e0 : nx ps 0 = 1 := Nat.mod_eq_of_lt (by omega)
    obtain ⟨g1, g2⟩ := simple_pair h (k := 0) (i := i) (by omega) hi
    unfold apartB at g2
    rw [if_neg (by rw [e0]; omega), if_pos e] at g2
    simp only [Bool.and_eq_true, Bool.not_eq_true'] at g2
    rw [e, e0] at g2 okk ⊢
    rw [e] at oj
    exact ⟨onB_no g2.2 okk oi oj, onB_no g2.1 oi oj okk, g1⟩
end Go.Proofs.Ytkfppigcjdapnaa.AE

namespace Go.Proofs.Ytkfppigcjdapnaa.AE
set_option linter.unusedVariables false
set_option linter.unusedSimpArgs false
set_option linter.constructorNameAsVariable false
open Go Go.Proofs.Ytkfppigcjdapnaa.Geo
def nearB (q : Pt) : Bool := !farB q
theorem nearB_t {q : Pt} : nearB q = true ↔ nearP q := by
  unfold nearB farB nearP; simp only [Bool.not_not, decide_eq_true_iff]
theorem near_ok {q : Pt} (h : nearB q = true) : OkP q := by
  have := nearB_t.mp h
  unfold nearP at this
  exact ⟨⟨by omega, by omega⟩, by omega, by omega⟩
theorem v3_0 (a b c : Pt) : vv [a, b, c] 0 = a := rfl
theorem v3_1 (a b c : Pt) : vv [a, b, c] 1 = b := rfl
theorem v3_2 (a b c : Pt) : vv [a, b, c] 2 = c := rfl
theorem n3_0 (a b c : Pt) : nx [a, b, c] 0 = 1 := rfl
theorem n3_1 (a b c : Pt) : nx [a, b, c] 1 = 2 := rfl
theorem n3_2 (a b c : Pt) : nx [a, b, c] 2 = 0 := by simp [nx]
theorem tri_right (a b c : Pt) : rightB [a, b, c] = (nearB a && (nearB b && (nearB c && decide (TN a b c ≠ 0)))) := by
  rw [Bool.eq_iff_iff]
  constructor
  · intro h
    have hs : simpleB [a, b, c] = true := by unfold rightB at h; exact (Bool.and_eq_true_iff.mp h).1
    have hn := near_right h
    obtain ⟨g1, g2, _⟩ := adj hs (i := 0) (by simp)
    obtain ⟨_, g3, _⟩ := adj hs (i := 1) (by simp)
    rw [n3_0, n3_1, v3_0, v3_1, v3_2] at g1 g2
    rw [n3_1, n3_2, v3_1, v3_2, v3_0] at g3
    have ht : TN a b c ≠ 0 := fun e => by
      rcases line3 e with h | h | h
      · exact g1 h
      · exact g2 h
      · exact g3 h
    rw [nearB_t.mpr (hn a (by simp)), nearB_t.mpr (hn b (by simp)), nearB_t.mpr (hn c (by simp)), decide_eq_true ht]; rfl
  · intro h
    simp only [Bool.and_eq_true, decide_eq_true_iff] at h
    obtain ⟨ha, hb, hc, ht⟩ := h
    have oa := near_ok ha
    have ob := near_ok hb
    have oc := near_ok hc
    have e1 : onB c a b = false := onB_off fun h => ht h.1
    have e2 : onB a b c = false := onB_off fun h => ht (by have := h.1; rw [TN_cyc] at this; exact this)
    have e3 : onB b c a = false := onB_off fun h => ht (by have := h.1; rw [TN_cyc, TN_cyc] at this; exact this)
    have d1 : b ≠ a := fun e => ht (by rw [e]; exact TN_aab _ _)
    have d2 : c ≠ a := fun e => ht (by rw [e]; exact TN_aba _ _)
    have d3 : c ≠ b := fun e => ht (by rw [e]; exact TN_abb _ _)
    have p1 : pairB [a, b, c] 0 1 = true := by
      unfold pairB apartB
      rw [n3_0, n3_1, v3_0, v3_1, v3_2, decide_eq_false d1, if_pos rfl, e1, e2]; rfl
    have p2 : pairB [a, b, c] 0 2 = true := by
      unfold pairB apartB
      rw [n3_0, n3_2, v3_0, v3_1, v3_2, decide_eq_false d2, if_neg (by decide), if_pos rfl, e1, e3]; rfl
    have p3 : pairB [a, b, c] 1 2 = true := by
      unfold pairB apartB
      rw [n3_1, n3_2, v3_0, v3_1, v3_2, decide_eq_false d3, if_pos rfl, e2, e3]; rfl
    have hall : allPairs [a, b, c] = true := by
      unfold allPairs
      simp only [List.length_cons, List.length_nil, upAll, Nat.zero_add, Nat.reduceAdd, Bool.and_true, p1, p2, p3]
    unfold rightB simpleB
    rw [hall]
    have f1 : okb a = true := okb_t.mpr oa
    have f2 : okb b = true := okb_t.mpr ob
    have f3 : okb c = true := okb_t.mpr oc
    unfold nearB at ha hb hc
    simp only [Bool.not_eq_true'] at ha hb hc
    simp [f1, f2, f3, ha, hb, hc]
def wantI (x y z : Int) : Int := if min x (min y z) > 0 then 1 else if min x (min y z) = 0 then 0 else -1
theorem odd3 (p a b c : Pt) : odd p (vv [a, b, c]) [a, b, c].length = tri3 p a b c := by
  unfold odd tri3
  simp only [List.length_cons, List.length_nil, Nat.zero_add, Nat.reduceAdd, xr, Bool.false_xor]
  rw [show (0 + 1) % 3 = 1 from rfl, show (1 + 1) % 3 = 2 from rfl, show (2 + 1) % 3 = 0 from rfl, v3_0, v3_1, v3_2, Bool.xor_assoc]
theorem sg_p {v : Int} (h : v > 0) : sg v = 1 := by rcases sg_cases v with ⟨h1, h2⟩ | ⟨h1, h2⟩ | ⟨h1, h2⟩ <;> omega
theorem sg_n {v : Int} (h : v < 0) : sg v = -1 := by rcases sg_cases v with ⟨h1, h2⟩ | ⟨h1, h2⟩ | ⟨h1, h2⟩ <;> omega
theorem sg_0 {v : Int} (h : v = 0) : sg v = 0 := by rcases sg_cases v with ⟨h1, h2⟩ | ⟨h1, h2⟩ | ⟨h1, h2⟩ <;> omega
/-- Of a triangle that turns to the left. -/
theorem tri_pos {a b c p : Pt} (ht : TN a b c > 0) :
    ((On p a b ∨ On p b c ∨ On p c a) → wantI (sg (TN a b p)) (sg (TN b c p)) (sg (TN c a p)) = 0) ∧
    ((¬ On p a b ∧ ¬ On p b c ∧ ¬ On p c a) → wantI (sg (TN a b p)) (sg (TN b c p)) (sg (TN c a p)) = sgn1 (tri3 p a b c)) := by
  have t2 : TN b c a > 0 := by rw [TN_cyc]; exact ht
  have t3 : TN c a b > 0 := by rw [TN_cyc]; exact t2
  have sgs := fun v => sg_cases v
  constructor
  · intro h
    have hh : TN a b p ≥ 0 ∧ TN b c p ≥ 0 ∧ TN c a p ≥ 0 ∧ (TN a b p = 0 ∨ TN b c p = 0 ∨ TN c a p = 0) := by
      rcases h with h | h | h
      · have := on_edge ht h; omega
      · have := on_edge t2 h; omega
      · have := on_edge t3 h; omega
    unfold wantI
    rcases sgs (TN a b p) with h1 | h1 | h1 <;> rcases sgs (TN b c p) with h2 | h2 | h2 <;> rcases sgs (TN c a p) with h3 | h3 | h3 <;> first | (exfalso; omega) | (rw [h1.2, h2.2, h3.2]; rfl)
  · rintro ⟨n1, n2, n3⟩
    obtain ⟨r1, r2⟩ := tri_ray ht n1 n2 n3
    have nz : ¬ (TN a b p ≥ 0 ∧ TN b c p ≥ 0 ∧ TN c a p ≥ 0 ∧ (TN a b p = 0 ∨ TN b c p = 0 ∨ TN c a p = 0)) := by
      rintro ⟨x, y, z, h | h | h⟩
      · exact n1 (edge_on ht h y z)
      · exact n2 (edge_on t2 h z x)
      · exact n3 (edge_on t3 h x y)
    by_cases hp : TN a b p > 0 ∧ TN b c p > 0 ∧ TN c a p > 0
    · rw [r1 hp, sg_p hp.1, sg_p hp.2.1, sg_p hp.2.2]; rfl
    · rw [r2 (by omega)]
      unfold wantI
      rcases sgs (TN a b p) with h1 | h1 | h1 <;> rcases sgs (TN b c p) with h2 | h2 | h2 <;> rcases sgs (TN c a p) with h3 | h3 | h3 <;> first | (exfalso; omega) | (rw [h1.2, h2.2, h3.2]; rfl)
theorem tri_side {a b c p : Pt} (hr : rightB [a, b, c] = true) (hp : okb p = true) :
    sideB [a, b, c] p = wantI (sg (TN a b p) * sg (TN a b c)) (sg (TN b c p) * sg (TN a b c)) (sg (TN c a p) * sg (TN a b c)) := by
  have ht : TN a b c ≠ 0 := by
    rw [tri_right] at hr
    simp only [Bool.and_eq_true, decide_eq_true_iff] at hr
    exact hr.2.2.2
  have side : ∀ w, ((On p a b ∨ On p b c ∨ On p c a) → w = 0) → ((¬ On p a b ∧ ¬ On p b c ∧ ¬ On p c a) → w = sgn1 (tri3 p a b c)) → sideB [a, b, c] p = w := by
    intro w h1 h2
    by_cases h : On p a b ∨ On p b c ∨ On p c a
    · rw [h1 h]
      rcases h with h | h | h
      · exact sideB_on hr hp (j := 0) (by simp) h
      · exact sideB_on hr hp (j := 1) (by simp) h
      · exact sideB_on hr hp (j := 2) (by simp) (by rw [n3_2, v3_2, v3_0]; exact h)
    · have n1 : ¬ On p a b := fun g => h (.inl g)
      have n2 : ¬ On p b c := fun g => h (.inr (.inl g))
      have n3 : ¬ On p c a := fun g => h (.inr (.inr g))
      rw [h2 ⟨n1, n2, n3⟩, sideB_odd hr hp (fun j hj => by
        have hj : j < 3 := hj
        rcases (show j = 0 ∨ j = 1 ∨ j = 2 by omega) with e | e | e <;> subst e
        · exact n1
        · exact n2
        · rw [n3_2, v3_2, v3_0]; exact n3), odd3]
  rcases Int.lt_or_gt_of_ne ht with h | h
  · have t' : TN a c b > 0 := by have := TN_rev b a c; rw [TN_swap] at this; have e := TN_cyc a c b; have e2 := TN_swap a c b; unfold TN at *; grind
    obtain ⟨g1, g2⟩ := tri_pos (a := a) (b := c) (c := b) (p := p) t'
    have e : wantI (sg (TN a b p) * sg (TN a b c)) (sg (TN b c p) * sg (TN a b c)) (sg (TN c a p) * sg (TN a b c)) = wantI (sg (TN a c p)) (sg (TN c b p)) (sg (TN b a p)) := by
      rw [sg_n h, TN_swap c a p, TN_swap b c p, TN_swap a b p, sg_neg, sg_neg, sg_neg]
      unfold wantI
      have q1 : sg (TN a b p) * -1 = -sg (TN a b p) := by omega
      have q2 : sg (TN b c p) * -1 = -sg (TN b c p) := by omega
      have q3 : sg (TN c a p) * -1 = -sg (TN c a p) := by omega
      rw [q1, q2, q3]
      generalize -sg (TN a b p) = x
      generalize -sg (TN b c p) = y
      generalize -sg (TN c a p) = z
      have : min x (min y z) = min z (min y x) := by omega
      rw [this]
    rw [e]
    refine side _ (fun hh => g1 (by
      rcases hh with hh | hh | hh
      · exact .inr (.inr (On_swap.mpr hh))
      · exact .inr (.inl (On_swap.mpr hh))
      · exact .inl (On_swap.mpr hh))) (fun hh => ?_)
    rw [g2 ⟨fun g => hh.2.2 (On_swap.mp g), fun g => hh.2.1 (On_swap.mp g), fun g => hh.1 (On_swap.mp g)⟩, tri3_rev]
  · obtain ⟨g1, g2⟩ := tri_pos (a := a) (b := b) (c := c) (p := p) h
    rw [sg_p h, Int.mul_one, Int.mul_one, Int.mul_one]
    exact side _ g1 g2
theorem tri_left {a b c : Pt} (hr : rightB [a, b, c] = true) : leftB [a, b, c] = decide (sg (TN a b c) > 0) := by
  unfold leftB
  rw [hr, Bool.true_and, decide_eq_decide, sg_pos]
  have : leftSum [a, b, c] [a, b, c].length 0 0 = TN a b c := by
    show leftSum [a, b, c] 3 0 0 = _
    simp only [leftSum, Nat.zero_add, Nat.reduceAdd, n3_0, n3_1, n3_2, v3_0, v3_1, v3_2]
    unfold TN; grind
  rw [this]
end Go.Proofs.Ytkfppigcjdapnaa.AE

namespace Go.Proofs.Ytkfppigcjdapnaa.AE
set_option linter.unusedVariables false
set_option linter.unusedSimpArgs false
set_option linter.constructorNameAsVariable false
open Go
set_option maxRecDepth 100000
def r7R2 (C : Cb) (d : Nat) (a0 a1 a2 a3 a4 a5 a6 a7 : Int) (v0 v2 v4 v6 : AV) (x11 x12 x16 x17 x21 x22 : Int) (v23 : AV) (b43 b44 b45 : Bool) (v46 v47 v48 : AV) (x53 : Int) (k55 : Ex → St → Ans) (x59 : Int) (v86 : AV) : St → (Ex → St → Ans) → Ans := fun s87 k88 =>
 cnd ((List.length s87.env) == 124)
 (C.same s87.env[0]? (.agg [(iz a0), (iz a1)]) <|
 C.same s87.env[1]? (.agg [(iz a2), (iz a3)]) <|
 C.same s87.env[2]? (.agg [(iz a4), (iz a5)]) <|
 C.same s87.env[3]? (.agg [(iz a6), (iz a7)]) <|
 C.same s87.env[4]? v0 <|
 C.same s87.env[5]? v2 <|
 C.same s87.env[6]? v4 <|
 C.same s87.env[7]? v6 <|
 C.same s87.env[8]? bf <|
 C.same s87.env[9]? v23 <|
 C.bool s87.env[10]? fun b90 =>
 C.same s87.env[11]? tz <|
 C.any s87.env[12]? fun v91 =>
 C.same s87.env[13]? tz <|
 C.same s87.env[14]? tz <|
 C.same s87.env[15]? tz <|
 C.same s87.env[16]? tz <|
 C.same s87.env[17]? tz <|
 C.same s87.env[18]? (.agg [(iz x11), (iz x12)]) <|
 C.same s87.env[19]? (.agg [(iz x16), (iz x17)]) <|
 C.same s87.env[20]? (.agg [(iz x21), (iz x22)]) <|
 C.same s87.env[21]? v23 <|
 C.same s87.env[22]? (.bool b43) <|
 C.same s87.env[23]? (.bool b44) <|
 C.same s87.env[24]? (.bool b45) <|
 C.same s87.env[25]? v46 <|
 C.same s87.env[26]? v47 <|
 C.same s87.env[27]? v48 <|
 C.same s87.env[28]? bf <|
 C.same s87.env[29]? tz <|
 C.same s87.env[30]? v23 <|
 C.same s87.env[31]? (iz x53) <|
 C.same s87.env[32]? (iz x59) <|
 C.same s87.env[33]? bt <|
 C.any s87.env[34]? fun v92 =>
 C.any s87.env[35]? fun v93 =>
 C.any s87.env[36]? fun v94 =>
 C.any s87.env[37]? fun v95 =>
 C.any s87.env[38]? fun v96 =>
 C.any s87.env[39]? fun v97 =>
 C.any s87.env[40]? fun v98 =>
 C.any s87.env[41]? fun v99 =>
 C.any s87.env[42]? fun v100 =>
 C.any s87.env[43]? fun v101 =>
 C.any s87.env[44]? fun v102 =>
 C.any s87.env[45]? fun v103 =>
 C.any s87.env[46]? fun v104 =>
 C.any s87.env[47]? fun v105 =>
 C.any s87.env[48]? fun v106 =>
 C.any s87.env[49]? fun v107 =>
 C.any s87.env[50]? fun v108 =>
 C.any s87.env[51]? fun v109 =>
 C.any s87.env[52]? fun v110 =>
 C.any s87.env[53]? fun v111 =>
 C.any s87.env[54]? fun v112 =>
 C.any s87.env[55]? fun v113 =>
 C.any s87.env[56]? fun v114 =>
 C.any s87.env[57]? fun v115 =>
 C.any s87.env[58]? fun v116 =>
 C.same s87.env[59]? v86 <|
 C.same s87.env[60]? tz <|
 C.same s87.env[61]? tz <|
 C.same s87.env[62]? tz <|
 C.same s87.env[63]? tz <|
 C.same s87.env[64]? tz <|
 C.same s87.env[65]? tz <|
 C.same s87.env[66]? tz <|
 C.same s87.env[67]? tz <|
 C.same s87.env[68]? tz <|
 C.same s87.env[69]? tz <|
 C.same s87.env[70]? tz <|
 C.same s87.env[71]? tz <|
 C.same s87.env[72]? tz <|
 C.same s87.env[73]? tz <|
 C.same s87.env[74]? tz <|
 C.same s87.env[75]? tz <|
 C.same s87.env[76]? tz <|
 C.same s87.env[77]? tz <|
 C.same s87.env[78]? tz <|
 C.same s87.env[79]? tz <|
 C.same s87.env[80]? tz <|
 C.same s87.env[81]? tz <|
 C.same s87.env[82]? tz <|
 C.same s87.env[83]? tz <|
 C.same s87.env[84]? tz <|
 C.same s87.env[85]? tz <|
 C.same s87.env[86]? tz <|
 C.same s87.env[87]? tz <|
 C.same s87.env[88]? tz <|
 C.same s87.env[89]? tz <|
 C.same s87.env[90]? tz <|
 C.same s87.env[91]? tz <|
 C.same s87.env[92]? tz <|
 C.same s87.env[93]? tz <|
 C.same s87.env[94]? tz <|
 C.same s87.env[95]? tz <|
 C.same s87.env[96]? tz <|
 C.same s87.env[97]? tz <|
 C.same s87.env[98]? tz <|
 C.same s87.env[99]? tz <|
 C.same s87.env[100]? tz <|
 C.same s87.env[101]? tz <|
 C.same s87.env[102]? tz <|
 C.same s87.env[103]? tz <|
 C.same s87.env[104]? tz <|
 C.same s87.env[105]? tz <|
 C.same s87.env[106]? tz <|
 C.same s87.env[107]? tz <|
 C.same s87.env[108]? tz <|
 C.same s87.env[109]? tz <|
 C.same s87.env[110]? tz <|
 C.same s87.env[111]? tz <|
 C.same s87.env[112]? tz <|
 C.same s87.env[113]? tz <|
 C.same s87.env[114]? tz <|
 C.same s87.env[115]? tz <|
 C.same s87.env[116]? tz <|
 C.same s87.env[117]? tz <|
 C.same s87.env[118]? tz <|
 C.same s87.env[119]? tz <|
 C.same s87.env[120]? tz <|
 C.same s87.env[121]? tz <|
 C.same s87.env[122]? tz <|
 C.same s87.env[123]? tz <|
 C.hop (St.H s87) (.ixAS .any 2 (.v v23) (.v (iz x59))) fun v117 h118 =>
 C.hop h118 (.load true 2 (.v v117)) fun v119 h120 =>
 C.agg 2 (some v119) fun l121 =>
 C.int .i64 l121[0]? fun x122 =>
 C.int .i64 l121[1]? fun x123 =>
 C.hop h120 (.alloc E24) fun v124 h125 =>
 C.hop h125 (.store 2 (.v v124) (.v (.agg [(iz x122), (iz x123)]))) fun v126 h127 =>
 cnd b90
 (C.hop h127 (.fldA 0 (.v v124)) fun v128 h129 =>
 C.hop h129 (.load false 1 (.v v128)) fun v130 h131 =>
 C.int .i64 (some v130) fun x132 =>
 C.hop h131 (.fldA 0 (.v v124)) fun v133 h134 =>
 C.hop h134 (.load false 1 (.v v133)) fun v135 h136 =>
 C.int .i64 (some v135) fun x137 =>
 C.hop h136 (.fldA 1 (.v v124)) fun v138 h139 =>
 C.hop h139 (.load false 1 (.v v138)) fun v140 h141 =>
 C.int .i64 (some v140) fun x142 =>
 C.hop h141 (.fldA 1 (.v v124)) fun v143 h144 =>
 C.hop h144 (.load false 1 (.v v143)) fun v145 h146 =>
 C.int .i64 (some v145) fun x147 =>
 cnd (decide ((if ((IntKind.wrap .i64 (0 - x147)) > (if (x142 > (if ((IntKind.wrap .i64 (0 - x137)) > x132) then (IntKind.wrap .i64 (0 - x137)) else x132)) then x142 else (if ((IntKind.wrap .i64 (0 - x137)) > x132) then (IntKind.wrap .i64 (0 - x137)) else x132))) then (IntKind.wrap .i64 (0 - x147)) else (if (x142 > (if ((IntKind.wrap .i64 (0 - x137)) > x132) then (IntKind.wrap .i64 (0 - x137)) else x132)) then x142 else (if ((IntKind.wrap .i64 (0 - x137)) > x132) then (IntKind.wrap .i64 (0 - x137)) else x132))) ≤ 1073741824))
 (C.hop h146 (.fldA 0 (.v v124)) fun v148 h149 =>
 C.hop h149 (.load false 1 (.v v148)) fun v150 h151 =>
 C.int .i64 (some v150) fun x152 =>
 C.hop h151 (.fldA 1 (.v v124)) fun v153 h154 =>
 C.hop h154 (.load false 1 (.v v153)) fun v155 h156 =>
 C.int .i64 (some v155) fun x157 =>
 k88 (.exit 2000000) ⟨[(.agg [(iz a0), (iz a1)]), (.agg [(iz a2), (iz a3)]), (.agg [(iz a4), (iz a5)]), (.agg [(iz a6), (iz a7)]), v0, v2, v4, v6, bf, v23, (.bool (decide ((if (x157 < x152) then x157 else x152) ≥ (-1073741824)))), tz, v124, tz, tz, tz, tz, tz, (.agg [(iz x11), (iz x12)]), (.agg [(iz x16), (iz x17)]), (.agg [(iz x21), (iz x22)]), v23, (.bool b43), (.bool b44), (.bool b45), v46, v47, v48, bf, tz, v23, (iz x53), (iz x59), bt, v117, (.agg [(iz x122), (iz x123)]), (.bool b90), bt, v128, (iz x132), v133, (iz x137), (iz (IntKind.wrap .i64 (0 - x137))), v138, (iz x142), v143, (iz x147), (iz (IntKind.wrap .i64 (0 - x147))), (iz (if ((IntKind.wrap .i64 (0 - x147)) > (if (x142 > (if ((IntKind.wrap .i64 (0 - x137)) > x132) then (IntKind.wrap .i64 (0 - x137)) else x132)) then x142 else (if ((IntKind.wrap .i64 (0 - x137)) > x132) then (IntKind.wrap .i64 (0 - x137)) else x132))) then (IntKind.wrap .i64 (0 - x147)) else (if (x142 > (if ((IntKind.wrap .i64 (0 - x137)) > x132) then (IntKind.wrap .i64 (0 - x137)) else x132)) then x142 else (if ((IntKind.wrap .i64 (0 - x137)) > x132) then (IntKind.wrap .i64 (0 - x137)) else x132)))), (.bool (decide ((if ((IntKind.wrap .i64 (0 - x147)) > (if (x142 > (if ((IntKind.wrap .i64 (0 - x137)) > x132) then (IntKind.wrap .i64 (0 - x137)) else x132)) then x142 else (if ((IntKind.wrap .i64 (0 - x137)) > x132) then (IntKind.wrap .i64 (0 - x137)) else x132))) then (IntKind.wrap .i64 (0 - x147)) else (if (x142 > (if ((IntKind.wrap .i64 (0 - x137)) > x132) then (IntKind.wrap .i64 (0 - x137)) else x132)) then x142 else (if ((IntKind.wrap .i64 (0 - x137)) > x132) then (IntKind.wrap .i64 (0 - x137)) else x132))) ≤ 1073741824))), (.bool (decide ((if ((IntKind.wrap .i64 (0 - x147)) > (if (x142 > (if ((IntKind.wrap .i64 (0 - x137)) > x132) then (IntKind.wrap .i64 (0 - x137)) else x132)) then x142 else (if ((IntKind.wrap .i64 (0 - x137)) > x132) then (IntKind.wrap .i64 (0 - x137)) else x132))) then (IntKind.wrap .i64 (0 - x147)) else (if (x142 > (if ((IntKind.wrap .i64 (0 - x137)) > x132) then (IntKind.wrap .i64 (0 - x137)) else x132)) then x142 else (if ((IntKind.wrap .i64 (0 - x137)) > x132) then (IntKind.wrap .i64 (0 - x137)) else x132))) ≤ 1073741824))), bt, v148, (iz x152), v153, (iz x157), (iz (if (x157 < x152) then x157 else x152)), (.bool (decide ((if (x157 < x152) then x157 else x152) ≥ (-1073741824)))), (.bool (decide ((if (x157 < x152) then x157 else x152) ≥ (-1073741824)))), v86, tz, tz, tz, tz, tz, tz, tz, tz, tz, tz, tz, tz, tz, tz, tz, tz, tz, tz, tz, tz, tz, tz, tz, tz, tz, tz, tz, tz, tz, tz, tz, tz, tz, tz, tz, tz, tz, tz, tz, tz, tz, tz, tz, tz, tz, tz, tz, tz, tz, tz, tz, tz, tz, tz, tz, tz, tz, tz, tz, tz, tz, tz, tz, tz], h156⟩)
 (k88 (.exit 2000000) ⟨[(.agg [(iz a0), (iz a1)]), (.agg [(iz a2), (iz a3)]), (.agg [(iz a4), (iz a5)]), (.agg [(iz a6), (iz a7)]), v0, v2, v4, v6, bf, v23, bf, tz, v124, tz, tz, tz, tz, tz, (.agg [(iz x11), (iz x12)]), (.agg [(iz x16), (iz x17)]), (.agg [(iz x21), (iz x22)]), v23, (.bool b43), (.bool b44), (.bool b45), v46, v47, v48, bf, tz, v23, (iz x53), (iz x59), bt, v117, (.agg [(iz x122), (iz x123)]), (.bool b90), bt, v128, (iz x132), v133, (iz x137), (iz (IntKind.wrap .i64 (0 - x137))), v138, (iz x142), v143, (iz x147), (iz (IntKind.wrap .i64 (0 - x147))), (iz (if ((IntKind.wrap .i64 (0 - x147)) > (if (x142 > (if ((IntKind.wrap .i64 (0 - x137)) > x132) then (IntKind.wrap .i64 (0 - x137)) else x132)) then x142 else (if ((IntKind.wrap .i64 (0 - x137)) > x132) then (IntKind.wrap .i64 (0 - x137)) else x132))) then (IntKind.wrap .i64 (0 - x147)) else (if (x142 > (if ((IntKind.wrap .i64 (0 - x137)) > x132) then (IntKind.wrap .i64 (0 - x137)) else x132)) then x142 else (if ((IntKind.wrap .i64 (0 - x137)) > x132) then (IntKind.wrap .i64 (0 - x137)) else x132)))), (.bool (decide ((if ((IntKind.wrap .i64 (0 - x147)) > (if (x142 > (if ((IntKind.wrap .i64 (0 - x137)) > x132) then (IntKind.wrap .i64 (0 - x137)) else x132)) then x142 else (if ((IntKind.wrap .i64 (0 - x137)) > x132) then (IntKind.wrap .i64 (0 - x137)) else x132))) then (IntKind.wrap .i64 (0 - x147)) else (if (x142 > (if ((IntKind.wrap .i64 (0 - x137)) > x132) then (IntKind.wrap .i64 (0 - x137)) else x132)) then x142 else (if ((IntKind.wrap .i64 (0 - x137)) > x132) then (IntKind.wrap .i64 (0 - x137)) else x132))) ≤ 1073741824))), (.bool (decide ((if ((IntKind.wrap .i64 (0 - x147)) > (if (x142 > (if ((IntKind.wrap .i64 (0 - x137)) > x132) then (IntKind.wrap .i64 (0 - x137)) else x132)) then x142 else (if ((IntKind.wrap .i64 (0 - x137)) > x132) then (IntKind.wrap .i64 (0 - x137)) else x132))) then (IntKind.wrap .i64 (0 - x147)) else (if (x142 > (if ((IntKind.wrap .i64 (0 - x137)) > x132) then (IntKind.wrap .i64 (0 - x137)) else x132)) then x142 else (if ((IntKind.wrap .i64 (0 - x137)) > x132) then (IntKind.wrap .i64 (0 - x137)) else x132))) ≤ 1073741824))), bf, tz, tz, tz, tz, tz, tz, bf, v86, tz, tz, tz, tz, tz, tz, tz, tz, tz, tz, tz, tz, tz, tz, tz, tz, tz, tz, tz, tz, tz, tz, tz, tz, tz, tz, tz, tz, tz, tz, tz, tz, tz, tz, tz, tz, tz, tz, tz, tz, tz, tz, tz, tz, tz, tz, tz, tz, tz, tz, tz, tz, tz, tz, tz, tz, tz, tz, tz, tz, tz, tz, tz, tz], h146⟩))
 (k88 (.exit 2000000) ⟨[(.agg [(iz a0), (iz a1)]), (.agg [(iz a2), (iz a3)]), (.agg [(iz a4), (iz a5)]), (.agg [(iz a6), (iz a7)]), v0, v2, v4, v6, bf, v23, bf, tz, v124, tz, tz, tz, tz, tz, (.agg [(iz x11), (iz x12)]), (.agg [(iz x16), (iz x17)]), (.agg [(iz x21), (iz x22)]), v23, (.bool b43), (.bool b44), (.bool b45), v46, v47, v48, bf, tz, v23, (iz x53), (iz x59), bt, v117, (.agg [(iz x122), (iz x123)]), (.bool b90), bf, tz, tz, tz, tz, tz, tz, tz, tz, tz, tz, tz, tz, bf, bf, tz, tz, tz, tz, tz, tz, bf, v86, tz, tz, tz, tz, tz, tz, tz, tz, tz, tz, tz, tz, tz, tz, tz, tz, tz, tz, tz, tz, tz, tz, tz, tz, tz, tz, tz, tz, tz, tz, tz, tz, tz, tz, tz, tz, tz, tz, tz, tz, tz, tz, tz, tz, tz, tz, tz, tz, tz, tz, tz, tz, tz, tz, tz, tz, tz, tz, tz, tz, tz, tz, tz, tz], h127⟩))
 (none)
def r7X2_0 (C : Cb) (d : Nat) (a0 a1 a2 a3 a4 a5 a6 a7 : Int) (v0 v2 v4 v6 : AV) (x11 x12 x16 x17 x21 x22 : Int) (v23 : AV) (b43 b44 b45 : Bool) (v46 v47 v48 : AV) (x53 : Int) (k55 : Ex → St → Ans) (x59 : Int) (v86 : AV) : St → Ans := fun s158 =>
 cnd ((List.length s158.env) == 124)
 (C.same s158.env[0]? (.agg [(iz a0), (iz a1)]) <|
 C.same s158.env[1]? (.agg [(iz a2), (iz a3)]) <|
 C.same s158.env[2]? (.agg [(iz a4), (iz a5)]) <|
 C.same s158.env[3]? (.agg [(iz a6), (iz a7)]) <|
 C.same s158.env[4]? v0 <|
 C.same s158.env[5]? v2 <|
 C.same s158.env[6]? v4 <|
 C.same s158.env[7]? v6 <|
 C.same s158.env[8]? bf <|
 C.same s158.env[9]? v23 <|
 C.bool s158.env[10]? fun b159 =>
 C.same s158.env[11]? tz <|
 C.any s158.env[12]? fun v160 =>
 C.same s158.env[13]? tz <|
 C.same s158.env[14]? tz <|
 C.same s158.env[15]? tz <|
 C.same s158.env[16]? tz <|
 C.same s158.env[17]? tz <|
 C.same s158.env[18]? (.agg [(iz x11), (iz x12)]) <|
 C.same s158.env[19]? (.agg [(iz x16), (iz x17)]) <|
 C.same s158.env[20]? (.agg [(iz x21), (iz x22)]) <|
 C.same s158.env[21]? v23 <|
 C.same s158.env[22]? (.bool b43) <|
 C.same s158.env[23]? (.bool b44) <|
 C.same s158.env[24]? (.bool b45) <|
 C.same s158.env[25]? v46 <|
 C.same s158.env[26]? v47 <|
 C.same s158.env[27]? v48 <|
 C.same s158.env[28]? bf <|
 C.same s158.env[29]? tz <|
 C.same s158.env[30]? v23 <|
 C.same s158.env[31]? (iz x53) <|
 C.same s158.env[32]? (iz x59) <|
 C.same s158.env[33]? bt <|
 C.any s158.env[34]? fun v161 =>
 C.agg 2 s158.env[35]? fun l162 =>
 C.int .i64 l162[0]? fun x163 =>
 C.int .i64 l162[1]? fun x164 =>
 C.bool s158.env[36]? fun b165 =>
 C.bool s158.env[37]? fun b166 =>
 C.any s158.env[38]? fun v167 =>
 C.any s158.env[39]? fun v168 =>
 C.any s158.env[40]? fun v169 =>
 C.any s158.env[41]? fun v170 =>
 C.any s158.env[42]? fun v171 =>
 C.any s158.env[43]? fun v172 =>
 C.any s158.env[44]? fun v173 =>
 C.any s158.env[45]? fun v174 =>
 C.any s158.env[46]? fun v175 =>
 C.any s158.env[47]? fun v176 =>
 C.any s158.env[48]? fun v177 =>
 C.any s158.env[49]? fun v178 =>
 C.bool s158.env[50]? fun b179 =>
 C.bool s158.env[51]? fun b180 =>
 C.any s158.env[52]? fun v181 =>
 C.any s158.env[53]? fun v182 =>
 C.any s158.env[54]? fun v183 =>
 C.any s158.env[55]? fun v184 =>
 C.any s158.env[56]? fun v185 =>
 C.any s158.env[57]? fun v186 =>
 C.bool s158.env[58]? fun b187 =>
 C.same s158.env[59]? v86 <|
 C.same s158.env[60]? tz <|
 C.same s158.env[61]? tz <|
 C.same s158.env[62]? tz <|
 C.same s158.env[63]? tz <|
 C.same s158.env[64]? tz <|
 C.same s158.env[65]? tz <|
 C.same s158.env[66]? tz <|
 C.same s158.env[67]? tz <|
 C.same s158.env[68]? tz <|
 C.same s158.env[69]? tz <|
 C.same s158.env[70]? tz <|
 C.same s158.env[71]? tz <|
 C.same s158.env[72]? tz <|
 C.same s158.env[73]? tz <|
 C.same s158.env[74]? tz <|
 C.same s158.env[75]? tz <|
 C.same s158.env[76]? tz <|
 C.same s158.env[77]? tz <|
 C.same s158.env[78]? tz <|
 C.same s158.env[79]? tz <|
 C.same s158.env[80]? tz <|
 C.same s158.env[81]? tz <|
 C.same s158.env[82]? tz <|
 C.same s158.env[83]? tz <|
 C.same s158.env[84]? tz <|
 C.same s158.env[85]? tz <|
 C.same s158.env[86]? tz <|
 C.same s158.env[87]? tz <|
 C.same s158.env[88]? tz <|
 C.same s158.env[89]? tz <|
 C.same s158.env[90]? tz <|
 C.same s158.env[91]? tz <|
 C.same s158.env[92]? tz <|
 C.same s158.env[93]? tz <|
 C.same s158.env[94]? tz <|
 C.same s158.env[95]? tz <|
 C.same s158.env[96]? tz <|
 C.same s158.env[97]? tz <|
 C.same s158.env[98]? tz <|
 C.same s158.env[99]? tz <|
 C.same s158.env[100]? tz <|
 C.same s158.env[101]? tz <|
 C.same s158.env[102]? tz <|
 C.same s158.env[103]? tz <|
 C.same s158.env[104]? tz <|
 C.same s158.env[105]? tz <|
 C.same s158.env[106]? tz <|
 C.same s158.env[107]? tz <|
 C.same s158.env[108]? tz <|
 C.same s158.env[109]? tz <|
 C.same s158.env[110]? tz <|
 C.same s158.env[111]? tz <|
 C.same s158.env[112]? tz <|
 C.same s158.env[113]? tz <|
 C.same s158.env[114]? tz <|
 C.same s158.env[115]? tz <|
 C.same s158.env[116]? tz <|
 C.same s158.env[117]? tz <|
 C.same s158.env[118]? tz <|
 C.same s158.env[119]? tz <|
 C.same s158.env[120]? tz <|
 C.same s158.env[121]? tz <|
 C.same s158.env[122]? tz <|
 C.same s158.env[123]? tz <|
 k55 .normal ⟨[(.agg [(iz a0), (iz a1)]), (.agg [(iz a2), (iz a3)]), (.agg [(iz a4), (iz a5)]), (.agg [(iz a6), (iz a7)]), v0, v2, v4, v6, bf, v23, (.bool b159), tz, v160, tz, tz, tz, tz, tz, (.agg [(iz x11), (iz x12)]), (.agg [(iz x16), (iz x17)]), (.agg [(iz x21), (iz x22)]), v23, (.bool b43), (.bool b44), (.bool b45), v46, v47, v48, bf, tz, v23, (iz x53), (iz (IntKind.wrap .i64 (x59 + 1))), bt, v161, (.agg [(iz x163), (iz x164)]), (.bool b165), (.bool b166), v167, v168, v169, v170, v171, v172, v173, v174, v175, v176, v177, v178, (.bool b179), (.bool b180), v181, v182, v183, v184, v185, v186, (.bool b187), (iz (IntKind.wrap .i64 (x59 + 1))), tz, tz, tz, tz, tz, tz, tz, tz, tz, tz, tz, tz, tz, tz, tz, tz, tz, tz, tz, tz, tz, tz, tz, tz, tz, tz, tz, tz, tz, tz, tz, tz, tz, tz, tz, tz, tz, tz, tz, tz, tz, tz, tz, tz, tz, tz, tz, tz, tz, tz, tz, tz, tz, tz, tz, tz, tz, tz, tz, tz, tz, tz, tz, tz], (St.H s158)⟩)
 (none)
def r7E2 (C : Cb) (d : Nat) (a0 a1 a2 a3 a4 a5 a6 a7 : Int) (v0 v2 v4 v6 : AV) (x11 x12 x16 x17 x21 x22 : Int) (v23 : AV) (b43 b44 b45 : Bool) (v46 v47 v48 : AV) (x53 : Int) (k55 : Ex → St → Ans) (x59 : Int) (v86 : AV) : St → Ans := fun s89 =>
 cnd ((List.length s89.env) == 124)
 (C.same s89.env[0]? (.agg [(iz a0), (iz a1)]) <|
 C.same s89.env[1]? (.agg [(iz a2), (iz a3)]) <|
 C.same s89.env[2]? (.agg [(iz a4), (iz a5)]) <|
 C.same s89.env[3]? (.agg [(iz a6), (iz a7)]) <|
 C.same s89.env[4]? v0 <|
 C.same s89.env[5]? v2 <|
 C.same s89.env[6]? v4 <|
 C.same s89.env[7]? v6 <|
 C.same s89.env[8]? bf <|
 C.same s89.env[9]? v23 <|
 C.bool s89.env[10]? fun b188 =>
 C.same s89.env[11]? tz <|
 C.any s89.env[12]? fun v189 =>
 C.same s89.env[13]? tz <|
 C.same s89.env[14]? tz <|
 C.same s89.env[15]? tz <|
 C.same s89.env[16]? tz <|
 C.same s89.env[17]? tz <|
 C.same s89.env[18]? (.agg [(iz x11), (iz x12)]) <|
 C.same s89.env[19]? (.agg [(iz x16), (iz x17)]) <|
 C.same s89.env[20]? (.agg [(iz x21), (iz x22)]) <|
 C.same s89.env[21]? v23 <|
 C.same s89.env[22]? (.bool b43) <|
 C.same s89.env[23]? (.bool b44) <|
 C.same s89.env[24]? (.bool b45) <|
 C.same s89.env[25]? v46 <|
 C.same s89.env[26]? v47 <|
 C.same s89.env[27]? v48 <|
 C.same s89.env[28]? bf <|
 C.same s89.env[29]? tz <|
 C.same s89.env[30]? v23 <|
 C.same s89.env[31]? (iz x53) <|
 C.same s89.env[32]? (iz x59) <|
 C.same s89.env[33]? bt <|
 C.any s89.env[34]? fun v190 =>
 C.any s89.env[35]? fun v191 =>
 C.any s89.env[36]? fun v192 =>
 C.any s89.env[37]? fun v193 =>
 C.any s89.env[38]? fun v194 =>
 C.any s89.env[39]? fun v195 =>
 C.any s89.env[40]? fun v196 =>
 C.any s89.env[41]? fun v197 =>
 C.any s89.env[42]? fun v198 =>
 C.any s89.env[43]? fun v199 =>
 C.any s89.env[44]? fun v200 =>
 C.any s89.env[45]? fun v201 =>
 C.any s89.env[46]? fun v202 =>
 C.any s89.env[47]? fun v203 =>
 C.any s89.env[48]? fun v204 =>
 C.any s89.env[49]? fun v205 =>
 C.any s89.env[50]? fun v206 =>
 C.any s89.env[51]? fun v207 =>
 C.any s89.env[52]? fun v208 =>
 C.any s89.env[53]? fun v209 =>
 C.any s89.env[54]? fun v210 =>
 C.any s89.env[55]? fun v211 =>
 C.any s89.env[56]? fun v212 =>
 C.any s89.env[57]? fun v213 =>
 C.any s89.env[58]? fun v214 =>
 C.same s89.env[59]? v86 <|
 C.same s89.env[60]? tz <|
 C.same s89.env[61]? tz <|
 C.same s89.env[62]? tz <|
 C.same s89.env[63]? tz <|
 C.same s89.env[64]? tz <|
 C.same s89.env[65]? tz <|
 C.same s89.env[66]? tz <|
 C.same s89.env[67]? tz <|
 C.same s89.env[68]? tz <|
 C.same s89.env[69]? tz <|
 C.same s89.env[70]? tz <|
 C.same s89.env[71]? tz <|
 C.same s89.env[72]? tz <|
 C.same s89.env[73]? tz <|
 C.same s89.env[74]? tz <|
 C.same s89.env[75]? tz <|
 C.same s89.env[76]? tz <|
 C.same s89.env[77]? tz <|
 C.same s89.env[78]? tz <|
 C.same s89.env[79]? tz <|
 C.same s89.env[80]? tz <|
 C.same s89.env[81]? tz <|
 C.same s89.env[82]? tz <|
 C.same s89.env[83]? tz <|
 C.same s89.env[84]? tz <|
 C.same s89.env[85]? tz <|
 C.same s89.env[86]? tz <|
 C.same s89.env[87]? tz <|
 C.same s89.env[88]? tz <|
 C.same s89.env[89]? tz <|
 C.same s89.env[90]? tz <|
 C.same s89.env[91]? tz <|
 C.same s89.env[92]? tz <|
 C.same s89.env[93]? tz <|
 C.same s89.env[94]? tz <|
 C.same s89.env[95]? tz <|
 C.same s89.env[96]? tz <|
 C.same s89.env[97]? tz <|
 C.same s89.env[98]? tz <|
 C.same s89.env[99]? tz <|
 C.same s89.env[100]? tz <|
 C.same s89.env[101]? tz <|
 C.same s89.env[102]? tz <|
 C.same s89.env[103]? tz <|
 C.same s89.env[104]? tz <|
 C.same s89.env[105]? tz <|
 C.same s89.env[106]? tz <|
 C.same s89.env[107]? tz <|
 C.same s89.env[108]? tz <|
 C.same s89.env[109]? tz <|
 C.same s89.env[110]? tz <|
 C.same s89.env[111]? tz <|
 C.same s89.env[112]? tz <|
 C.same s89.env[113]? tz <|
 C.same s89.env[114]? tz <|
 C.same s89.env[115]? tz <|
 C.same s89.env[116]? tz <|
 C.same s89.env[117]? tz <|
 C.same s89.env[118]? tz <|
 C.same s89.env[119]? tz <|
 C.same s89.env[120]? tz <|
 C.same s89.env[121]? tz <|
 C.same s89.env[122]? tz <|
 C.same s89.env[123]? tz <|
 none)
 (none)
def r7R7 (C : Cb) (d : Nat) (a0 a1 a2 a3 a4 a5 a6 a7 : Int) (v0 v2 v4 v6 : AV) (x11 x12 x16 x17 x21 x22 : Int) (v23 : AV) (b43 b44 b45 : Bool) (v46 v47 v48 : AV) (x53 : Int) (b216 : Bool) (v217 : AV) (x218 : Int) (v219 v220 v221 v222 v223 v224 v225 v226 v227 v228 v229 v230 v231 v232 v233 v234 v235 v236 v237 v238 v239 v240 v241 v242 v243 v244 v245 : AV) (x249 x250 x254 x255 x259 x260 x261 : Int) (v277 : AV) (b278 b279 b280 : Bool) (v281 v282 : AV) (b283 b295 b296 b297 : Bool) (v298 v299 : AV) (x312 x313 x317 x318 x322 x323 x324 x328 x329 x333 x334 x338 x339 x340 x344 x345 x349 x350 x354 x355 x356 x374 : Int) (b375 : Bool) (x376 x377 x378 x379 : Int) (b380 : Bool) (v381 v382 v383 v384 v385 v386 : AV) : St → (Ex → St → Ans) → Ans := fun s387 k388 =>
 cnd ((List.length s387.env) == 124)
 (C.same s387.env[0]? (.agg [(iz a0), (iz a1)]) <|
 C.same s387.env[1]? (.agg [(iz a2), (iz a3)]) <|
 C.same s387.env[2]? (.agg [(iz a4), (iz a5)]) <|
 C.same s387.env[3]? (.agg [(iz a6), (iz a7)]) <|
 C.same s387.env[4]? v0 <|
 C.same s387.env[5]? v2 <|
 C.same s387.env[6]? v4 <|
 C.same s387.env[7]? v6 <|
 C.bool s387.env[8]? fun b390 =>
 C.same s387.env[9]? v23 <|
 C.same s387.env[10]? (.bool b216) <|
 C.same s387.env[11]? tz <|
 C.same s387.env[12]? v217 <|
 C.same s387.env[13]? (iz x261) <|
 C.same s387.env[14]? (iz (IntKind.wrap .i64 (x324 * x261))) <|
 C.same s387.env[15]? (iz (IntKind.wrap .i64 (x340 * x261))) <|
 C.same s387.env[16]? (iz (IntKind.wrap .i64 (x356 * x261))) <|
 C.same s387.env[17]? (iz x374) <|
 C.same s387.env[18]? (.agg [(iz x11), (iz x12)]) <|
 C.same s387.env[19]? (.agg [(iz x16), (iz x17)]) <|
 C.same s387.env[20]? (.agg [(iz x21), (iz x22)]) <|
 C.same s387.env[21]? v23 <|
 C.same s387.env[22]? (.bool b43) <|
 C.same s387.env[23]? (.bool b44) <|
 C.same s387.env[24]? (.bool b45) <|
 C.same s387.env[25]? v46 <|
 C.same s387.env[26]? v47 <|
 C.same s387.env[27]? v48 <|
 C.same s387.env[28]? bf <|
 C.same s387.env[29]? tz <|
 C.same s387.env[30]? v23 <|
 C.same s387.env[31]? (iz x53) <|
 C.same s387.env[32]? (iz x218) <|
 C.same s387.env[33]? v219 <|
 C.same s387.env[34]? v220 <|
 C.same s387.env[35]? v221 <|
 C.same s387.env[36]? v222 <|
 C.same s387.env[37]? v223 <|
 C.same s387.env[38]? v224 <|
 C.same s387.env[39]? v225 <|
 C.same s387.env[40]? v226 <|
 C.same s387.env[41]? v227 <|
 C.same s387.env[42]? v228 <|
 C.same s387.env[43]? v229 <|
 C.same s387.env[44]? v230 <|
 C.same s387.env[45]? v231 <|
 C.same s387.env[46]? v232 <|
 C.same s387.env[47]? v233 <|
 C.same s387.env[48]? v234 <|
 C.same s387.env[49]? v235 <|
 C.same s387.env[50]? v236 <|
 C.same s387.env[51]? v237 <|
 C.same s387.env[52]? v238 <|
 C.same s387.env[53]? v239 <|
 C.same s387.env[54]? v240 <|
 C.same s387.env[55]? v241 <|
 C.same s387.env[56]? v242 <|
 C.same s387.env[57]? v243 <|
 C.same s387.env[58]? v244 <|
 C.same s387.env[59]? v245 <|
 C.same s387.env[60]? (.agg [(iz x249), (iz x250)]) <|
 C.same s387.env[61]? (.agg [(iz x254), (iz x255)]) <|
 C.same s387.env[62]? (.agg [(iz x259), (iz x260)]) <|
 C.same s387.env[63]? (iz x261) <|
 C.same s387.env[64]? v277 <|
 C.same s387.env[65]? (.bool b278) <|
 C.same s387.env[66]? (.bool b279) <|
 C.same s387.env[67]? (.bool b280) <|
 C.same s387.env[68]? v281 <|
 C.same s387.env[69]? v282 <|
 C.same s387.env[70]? (.bool b283) <|
 C.same s387.env[71]? bf <|
 C.same s387.env[72]? (.bool b295) <|
 C.same s387.env[73]? (.bool b296) <|
 C.same s387.env[74]? (.bool b297) <|
 C.same s387.env[75]? v298 <|
 C.same s387.env[76]? v299 <|
 C.same s387.env[77]? bf <|
 C.same s387.env[78]? tz <|
 C.same s387.env[79]? tz <|
 C.same s387.env[80]? tz <|
 C.same s387.env[81]? tz <|
 C.same s387.env[82]? (.agg [(iz x312), (iz x313)]) <|
 C.same s387.env[83]? (.agg [(iz x317), (iz x318)]) <|
 C.same s387.env[84]? (.agg [(iz x322), (iz x323)]) <|
 C.same s387.env[85]? (iz x324) <|
 C.same s387.env[86]? (iz x261) <|
 C.same s387.env[87]? (iz (IntKind.wrap .i64 (x324 * x261))) <|
 C.same s387.env[88]? (.agg [(iz x328), (iz x329)]) <|
 C.same s387.env[89]? (.agg [(iz x333), (iz x334)]) <|
 C.same s387.env[90]? (.agg [(iz x338), (iz x339)]) <|
 C.same s387.env[91]? (iz x340) <|
 C.same s387.env[92]? (iz x261) <|
 C.same s387.env[93]? (iz (IntKind.wrap .i64 (x340 * x261))) <|
 C.same s387.env[94]? (.agg [(iz x344), (iz x345)]) <|
 C.same s387.env[95]? (.agg [(iz x349), (iz x350)]) <|
 C.same s387.env[96]? (.agg [(iz x354), (iz x355)]) <|
 C.same s387.env[97]? (iz x356) <|
 C.same s387.env[98]? (iz x261) <|
 C.same s387.env[99]? (iz (IntKind.wrap .i64 (x356 * x261))) <|
 C.same s387.env[100]? (.bool b375) <|
 C.same s387.env[101]? (iz x376) <|
 C.same s387.env[102]? (iz x377) <|
 C.same s387.env[103]? (iz x378) <|
 C.same s387.env[104]? (iz x379) <|
 C.same s387.env[105]? (.bool b380) <|
 C.same s387.env[106]? v381 <|
 C.same s387.env[107]? v382 <|
 C.same s387.env[108]? v383 <|
 C.same s387.env[109]? v384 <|
 C.same s387.env[110]? v385 <|
 C.same s387.env[111]? v386 <|
 C.any s387.env[112]? fun v391 =>
 C.any s387.env[113]? fun v392 =>
 C.any s387.env[114]? fun v393 =>
 C.any s387.env[115]? fun v394 =>
 C.any s387.env[116]? fun v395 =>
 C.any s387.env[117]? fun v396 =>
 C.any s387.env[118]? fun v397 =>
 C.any s387.env[119]? fun v398 =>
 C.any s387.env[120]? fun v399 =>
 C.any s387.env[121]? fun v400 =>
 C.any s387.env[122]? fun v401 =>
 C.any s387.env[123]? fun v402 =>
 C.hop (St.H s387) (.load true 2 (.v v6)) fun v403 h404 =>
 C.agg 2 (some v403) fun l405 =>
 C.int .i64 l405[0]? fun x406 =>
 C.int .i64 l405[1]? fun x407 =>
 C.snp h404 [v23, (.agg [(iz x406), (iz x407)])] fun l408 b409 =>
 C.int .i64 (pcall M d 16 l408) fun x410 =>
 cnd (b409 || true)
 (cnd (x410 == x374)
 (C.snp h404 [v23] fun l411 b412 =>
 C.bool (pcall M d 18 l411) fun b413 =>
 cnd (b412 || true)
 (k388 (.exit 2000000) ⟨[(.agg [(iz a0), (iz a1)]), (.agg [(iz a2), (iz a3)]), (.agg [(iz a4), (iz a5)]), (.agg [(iz a6), (iz a7)]), v0, v2, v4, v6, (.bool (xor false (b413 == (decide (x261 > 0))))), v23, (.bool b216), tz, v217, (iz x261), (iz (IntKind.wrap .i64 (x324 * x261))), (iz (IntKind.wrap .i64 (x340 * x261))), (iz (IntKind.wrap .i64 (x356 * x261))), (iz x374), (.agg [(iz x11), (iz x12)]), (.agg [(iz x16), (iz x17)]), (.agg [(iz x21), (iz x22)]), v23, (.bool b43), (.bool b44), (.bool b45), v46, v47, v48, bf, tz, v23, (iz x53), (iz x218), v219, v220, v221, v222, v223, v224, v225, v226, v227, v228, v229, v230, v231, v232, v233, v234, v235, v236, v237, v238, v239, v240, v241, v242, v243, v244, v245, (.agg [(iz x249), (iz x250)]), (.agg [(iz x254), (iz x255)]), (.agg [(iz x259), (iz x260)]), (iz x261), v277, (.bool b278), (.bool b279), (.bool b280), v281, v282, (.bool b283), bf, (.bool b295), (.bool b296), (.bool b297), v298, v299, bf, tz, tz, tz, tz, (.agg [(iz x312), (iz x313)]), (.agg [(iz x317), (iz x318)]), (.agg [(iz x322), (iz x323)]), (iz x324), (iz x261), (iz (IntKind.wrap .i64 (x324 * x261))), (.agg [(iz x328), (iz x329)]), (.agg [(iz x333), (iz x334)]), (.agg [(iz x338), (iz x339)]), (iz x340), (iz x261), (iz (IntKind.wrap .i64 (x340 * x261))), (.agg [(iz x344), (iz x345)]), (.agg [(iz x349), (iz x350)]), (.agg [(iz x354), (iz x355)]), (iz x356), (iz x261), (iz (IntKind.wrap .i64 (x356 * x261))), (.bool b375), (iz x376), (iz x377), (iz x378), (iz x379), (.bool b380), v381, v382, v383, v384, v385, v386, v23, (.agg [(iz x406), (iz x407)]), (iz x410), (iz x374), (.bool (x410 == x374)), bt, v23, (.bool b413), (iz x261), (.bool (decide (x261 > 0))), (.bool (xor false (b413 == (decide (x261 > 0))))), (.bool (xor false (b413 == (decide (x261 > 0)))))], h404⟩)
 (none))
 (k388 (.exit 2000000) ⟨[(.agg [(iz a0), (iz a1)]), (.agg [(iz a2), (iz a3)]), (.agg [(iz a4), (iz a5)]), (.agg [(iz a6), (iz a7)]), v0, v2, v4, v6, bf, v23, (.bool b216), tz, v217, (iz x261), (iz (IntKind.wrap .i64 (x324 * x261))), (iz (IntKind.wrap .i64 (x340 * x261))), (iz (IntKind.wrap .i64 (x356 * x261))), (iz x374), (.agg [(iz x11), (iz x12)]), (.agg [(iz x16), (iz x17)]), (.agg [(iz x21), (iz x22)]), v23, (.bool b43), (.bool b44), (.bool b45), v46, v47, v48, bf, tz, v23, (iz x53), (iz x218), v219, v220, v221, v222, v223, v224, v225, v226, v227, v228, v229, v230, v231, v232, v233, v234, v235, v236, v237, v238, v239, v240, v241, v242, v243, v244, v245, (.agg [(iz x249), (iz x250)]), (.agg [(iz x254), (iz x255)]), (.agg [(iz x259), (iz x260)]), (iz x261), v277, (.bool b278), (.bool b279), (.bool b280), v281, v282, (.bool b283), bf, (.bool b295), (.bool b296), (.bool b297), v298, v299, bf, tz, tz, tz, tz, (.agg [(iz x312), (iz x313)]), (.agg [(iz x317), (iz x318)]), (.agg [(iz x322), (iz x323)]), (iz x324), (iz x261), (iz (IntKind.wrap .i64 (x324 * x261))), (.agg [(iz x328), (iz x329)]), (.agg [(iz x333), (iz x334)]), (.agg [(iz x338), (iz x339)]), (iz x340), (iz x261), (iz (IntKind.wrap .i64 (x340 * x261))), (.agg [(iz x344), (iz x345)]), (.agg [(iz x349), (iz x350)]), (.agg [(iz x354), (iz x355)]), (iz x356), (iz x261), (iz (IntKind.wrap .i64 (x356 * x261))), (.bool b375), (iz x376), (iz x377), (iz x378), (iz x379), (.bool b380), v381, v382, v383, v384, v385, v386, v23, (.agg [(iz x406), (iz x407)]), (iz x410), (iz x374), (.bool (x410 == x374)), bf, tz, tz, tz, tz, tz, bf], h404⟩))
 (none))
 (none)
def r7X7_0 (C : Cb) (d : Nat) (a0 a1 a2 a3 a4 a5 a6 a7 : Int) (v0 v2 v4 v6 : AV) (x11 x12 x16 x17 x21 x22 : Int) (v23 : AV) (b43 b44 b45 : Bool) (v46 v47 v48 : AV) (x53 : Int) (b216 : Bool) (v217 : AV) (x218 : Int) (v219 v220 v221 v222 v223 v224 v225 v226 v227 v228 v229 v230 v231 v232 v233 v234 v235 v236 v237 v238 v239 v240 v241 v242 v243 v244 v245 : AV) (x249 x250 x254 x255 x259 x260 x261 : Int) (v277 : AV) (b278 b279 b280 : Bool) (v281 v282 : AV) (b283 b295 b296 b297 : Bool) (v298 v299 : AV) (x312 x313 x317 x318 x322 x323 x324 x328 x329 x333 x334 x338 x339 x340 x344 x345 x349 x350 x354 x355 x356 x374 : Int) (b375 : Bool) (x376 x377 x378 x379 : Int) (b380 : Bool) (v381 v382 v383 v384 v385 v386 : AV) : St → Ans := fun s414 =>
 cnd ((List.length s414.env) == 124)
 (C.same s414.env[0]? (.agg [(iz a0), (iz a1)]) <|
 C.same s414.env[1]? (.agg [(iz a2), (iz a3)]) <|
 C.same s414.env[2]? (.agg [(iz a4), (iz a5)]) <|
 C.same s414.env[3]? (.agg [(iz a6), (iz a7)]) <|
 C.same s414.env[4]? v0 <|
 C.same s414.env[5]? v2 <|
 C.same s414.env[6]? v4 <|
 C.same s414.env[7]? v6 <|
 C.bool s414.env[8]? fun b415 =>
 C.same s414.env[9]? v23 <|
 C.same s414.env[10]? (.bool b216) <|
 C.same s414.env[11]? tz <|
 C.same s414.env[12]? v217 <|
 C.same s414.env[13]? (iz x261) <|
 C.same s414.env[14]? (iz (IntKind.wrap .i64 (x324 * x261))) <|
 C.same s414.env[15]? (iz (IntKind.wrap .i64 (x340 * x261))) <|
 C.same s414.env[16]? (iz (IntKind.wrap .i64 (x356 * x261))) <|
 C.same s414.env[17]? (iz x374) <|
 C.same s414.env[18]? (.agg [(iz x11), (iz x12)]) <|
 C.same s414.env[19]? (.agg [(iz x16), (iz x17)]) <|
 C.same s414.env[20]? (.agg [(iz x21), (iz x22)]) <|
 C.same s414.env[21]? v23 <|
 C.same s414.env[22]? (.bool b43) <|
 C.same s414.env[23]? (.bool b44) <|
 C.same s414.env[24]? (.bool b45) <|
 C.same s414.env[25]? v46 <|
 C.same s414.env[26]? v47 <|
 C.same s414.env[27]? v48 <|
 C.same s414.env[28]? bf <|
 C.same s414.env[29]? tz <|
 C.same s414.env[30]? v23 <|
 C.same s414.env[31]? (iz x53) <|
 C.same s414.env[32]? (iz x218) <|
 C.same s414.env[33]? v219 <|
 C.same s414.env[34]? v220 <|
 C.same s414.env[35]? v221 <|
 C.same s414.env[36]? v222 <|
 C.same s414.env[37]? v223 <|
 C.same s414.env[38]? v224 <|
 C.same s414.env[39]? v225 <|
 C.same s414.env[40]? v226 <|
 C.same s414.env[41]? v227 <|
 C.same s414.env[42]? v228 <|
 C.same s414.env[43]? v229 <|
 C.same s414.env[44]? v230 <|
 C.same s414.env[45]? v231 <|
 C.same s414.env[46]? v232 <|
 C.same s414.env[47]? v233 <|
 C.same s414.env[48]? v234 <|
 C.same s414.env[49]? v235 <|
 C.same s414.env[50]? v236 <|
 C.same s414.env[51]? v237 <|
 C.same s414.env[52]? v238 <|
 C.same s414.env[53]? v239 <|
 C.same s414.env[54]? v240 <|
 C.same s414.env[55]? v241 <|
 C.same s414.env[56]? v242 <|
 C.same s414.env[57]? v243 <|
 C.same s414.env[58]? v244 <|
 C.same s414.env[59]? v245 <|
 C.same s414.env[60]? (.agg [(iz x249), (iz x250)]) <|
 C.same s414.env[61]? (.agg [(iz x254), (iz x255)]) <|
 C.same s414.env[62]? (.agg [(iz x259), (iz x260)]) <|
 C.same s414.env[63]? (iz x261) <|
 C.same s414.env[64]? v277 <|
 C.same s414.env[65]? (.bool b278) <|
 C.same s414.env[66]? (.bool b279) <|
 C.same s414.env[67]? (.bool b280) <|
 C.same s414.env[68]? v281 <|
 C.same s414.env[69]? v282 <|
 C.same s414.env[70]? (.bool b283) <|
 C.same s414.env[71]? bf <|
 C.same s414.env[72]? (.bool b295) <|
 C.same s414.env[73]? (.bool b296) <|
 C.same s414.env[74]? (.bool b297) <|
 C.same s414.env[75]? v298 <|
 C.same s414.env[76]? v299 <|
 C.same s414.env[77]? bf <|
 C.same s414.env[78]? tz <|
 C.same s414.env[79]? tz <|
 C.same s414.env[80]? tz <|
 C.same s414.env[81]? tz <|
 C.same s414.env[82]? (.agg [(iz x312), (iz x313)]) <|
 C.same s414.env[83]? (.agg [(iz x317), (iz x318)]) <|
 C.same s414.env[84]? (.agg [(iz x322), (iz x323)]) <|
 C.same s414.env[85]? (iz x324) <|
 C.same s414.env[86]? (iz x261) <|
 C.same s414.env[87]? (iz (IntKind.wrap .i64 (x324 * x261))) <|
 C.same s414.env[88]? (.agg [(iz x328), (iz x329)]) <|
 C.same s414.env[89]? (.agg [(iz x333), (iz x334)]) <|
 C.same s414.env[90]? (.agg [(iz x338), (iz x339)]) <|
 C.same s414.env[91]? (iz x340) <|
 C.same s414.env[92]? (iz x261) <|
 C.same s414.env[93]? (iz (IntKind.wrap .i64 (x340 * x261))) <|
 C.same s414.env[94]? (.agg [(iz x344), (iz x345)]) <|
 C.same s414.env[95]? (.agg [(iz x349), (iz x350)]) <|
 C.same s414.env[96]? (.agg [(iz x354), (iz x355)]) <|
 C.same s414.env[97]? (iz x356) <|
 C.same s414.env[98]? (iz x261) <|
 C.same s414.env[99]? (iz (IntKind.wrap .i64 (x356 * x261))) <|
 C.same s414.env[100]? (.bool b375) <|
 C.same s414.env[101]? (iz x376) <|
 C.same s414.env[102]? (iz x377) <|
 C.same s414.env[103]? (iz x378) <|
 C.same s414.env[104]? (iz x379) <|
 C.same s414.env[105]? (.bool b380) <|
 C.same s414.env[106]? v381 <|
 C.same s414.env[107]? v382 <|
 C.same s414.env[108]? v383 <|
 C.same s414.env[109]? v384 <|
 C.same s414.env[110]? v385 <|
 C.same s414.env[111]? v386 <|
 C.any s414.env[112]? fun v416 =>
 C.agg 2 s414.env[113]? fun l417 =>
 C.int .i64 l417[0]? fun x418 =>
 C.int .i64 l417[1]? fun x419 =>
 C.int .i64 s414.env[114]? fun x420 =>
 C.int .i64 s414.env[115]? fun x421 =>
 C.bool s414.env[116]? fun b422 =>
 C.bool s414.env[117]? fun b423 =>
 C.any s414.env[118]? fun v424 =>
 C.any s414.env[119]? fun v425 =>
 C.any s414.env[120]? fun v426 =>
 C.any s414.env[121]? fun v427 =>
 C.any s414.env[122]? fun v428 =>
 C.bool s414.env[123]? fun b429 =>
 C.fin (St.H s414) (.bool b415))
 (none)
def r7E7 (C : Cb) (d : Nat) (a0 a1 a2 a3 a4 a5 a6 a7 : Int) (v0 v2 v4 v6 : AV) (x11 x12 x16 x17 x21 x22 : Int) (v23 : AV) (b43 b44 b45 : Bool) (v46 v47 v48 : AV) (x53 : Int) (b216 : Bool) (v217 : AV) (x218 : Int) (v219 v220 v221 v222 v223 v224 v225 v226 v227 v228 v229 v230 v231 v232 v233 v234 v235 v236 v237 v238 v239 v240 v241 v242 v243 v244 v245 : AV) (x249 x250 x254 x255 x259 x260 x261 : Int) (v277 : AV) (b278 b279 b280 : Bool) (v281 v282 : AV) (b283 b295 b296 b297 : Bool) (v298 v299 : AV) (x312 x313 x317 x318 x322 x323 x324 x328 x329 x333 x334 x338 x339 x340 x344 x345 x349 x350 x354 x355 x356 x374 : Int) (b375 : Bool) (x376 x377 x378 x379 : Int) (b380 : Bool) (v381 v382 v383 v384 v385 v386 : AV) : St → Ans := fun s389 =>
 cnd ((List.length s389.env) == 124)
 (C.same s389.env[0]? (.agg [(iz a0), (iz a1)]) <|
 C.same s389.env[1]? (.agg [(iz a2), (iz a3)]) <|
 C.same s389.env[2]? (.agg [(iz a4), (iz a5)]) <|
 C.same s389.env[3]? (.agg [(iz a6), (iz a7)]) <|
 C.same s389.env[4]? v0 <|
 C.same s389.env[5]? v2 <|
 C.same s389.env[6]? v4 <|
 C.same s389.env[7]? v6 <|
 C.bool s389.env[8]? fun b430 =>
 C.same s389.env[9]? v23 <|
 C.same s389.env[10]? (.bool b216) <|
 C.same s389.env[11]? tz <|
 C.same s389.env[12]? v217 <|
 C.same s389.env[13]? (iz x261) <|
 C.same s389.env[14]? (iz (IntKind.wrap .i64 (x324 * x261))) <|
 C.same s389.env[15]? (iz (IntKind.wrap .i64 (x340 * x261))) <|
 C.same s389.env[16]? (iz (IntKind.wrap .i64 (x356 * x261))) <|
 C.same s389.env[17]? (iz x374) <|
 C.same s389.env[18]? (.agg [(iz x11), (iz x12)]) <|
 C.same s389.env[19]? (.agg [(iz x16), (iz x17)]) <|
 C.same s389.env[20]? (.agg [(iz x21), (iz x22)]) <|
 C.same s389.env[21]? v23 <|
 C.same s389.env[22]? (.bool b43) <|
 C.same s389.env[23]? (.bool b44) <|
 C.same s389.env[24]? (.bool b45) <|
 C.same s389.env[25]? v46 <|
 C.same s389.env[26]? v47 <|
 C.same s389.env[27]? v48 <|
 C.same s389.env[28]? bf <|
 C.same s389.env[29]? tz <|
 C.same s389.env[30]? v23 <|
 C.same s389.env[31]? (iz x53) <|
 C.same s389.env[32]? (iz x218) <|
 C.same s389.env[33]? v219 <|
 C.same s389.env[34]? v220 <|
 C.same s389.env[35]? v221 <|
 C.same s389.env[36]? v222 <|
 C.same s389.env[37]? v223 <|
 C.same s389.env[38]? v224 <|
 C.same s389.env[39]? v225 <|
 C.same s389.env[40]? v226 <|
 C.same s389.env[41]? v227 <|
 C.same s389.env[42]? v228 <|
 C.same s389.env[43]? v229 <|
 C.same s389.env[44]? v230 <|
 C.same s389.env[45]? v231 <|
 C.same s389.env[46]? v232 <|
 C.same s389.env[47]? v233 <|
 C.same s389.env[48]? v234 <|
 C.same s389.env[49]? v235 <|
 C.same s389.env[50]? v236 <|
 C.same s389.env[51]? v237 <|
 C.same s389.env[52]? v238 <|
 C.same s389.env[53]? v239 <|
 C.same s389.env[54]? v240 <|
 C.same s389.env[55]? v241 <|
 C.same s389.env[56]? v242 <|
 C.same s389.env[57]? v243 <|
 C.same s389.env[58]? v244 <|
 C.same s389.env[59]? v245 <|
 C.same s389.env[60]? (.agg [(iz x249), (iz x250)]) <|
 C.same s389.env[61]? (.agg [(iz x254), (iz x255)]) <|
 C.same s389.env[62]? (.agg [(iz x259), (iz x260)]) <|
 C.same s389.env[63]? (iz x261) <|
 C.same s389.env[64]? v277 <|
 C.same s389.env[65]? (.bool b278) <|
 C.same s389.env[66]? (.bool b279) <|
 C.same s389.env[67]? (.bool b280) <|
 C.same s389.env[68]? v281 <|
 C.same s389.env[69]? v282 <|
 C.same s389.env[70]? (.bool b283) <|
 C.same s389.env[71]? bf <|
 C.same s389.env[72]? (.bool b295) <|
 C.same s389.env[73]? (.bool b296) <|
 C.same s389.env[74]? (.bool b297) <|
 C.same s389.env[75]? v298 <|
 C.same s389.env[76]? v299 <|
 C.same s389.env[77]? bf <|
 C.same s389.env[78]? tz <|
 C.same s389.env[79]? tz <|
 C.same s389.env[80]? tz <|
 C.same s389.env[81]? tz <|
 C.same s389.env[82]? (.agg [(iz x312), (iz x313)]) <|
 C.same s389.env[83]? (.agg [(iz x317), (iz x318)]) <|
 C.same s389.env[84]? (.agg [(iz x322), (iz x323)]) <|
 C.same s389.env[85]? (iz x324) <|
 C.same s389.env[86]? (iz x261) <|
 C.same s389.env[87]? (iz (IntKind.wrap .i64 (x324 * x261))) <|
 C.same s389.env[88]? (.agg [(iz x328), (iz x329)]) <|
 C.same s389.env[89]? (.agg [(iz x333), (iz x334)]) <|
 C.same s389.env[90]? (.agg [(iz x338), (iz x339)]) <|
 C.same s389.env[91]? (iz x340) <|
 C.same s389.env[92]? (iz x261) <|
 C.same s389.env[93]? (iz (IntKind.wrap .i64 (x340 * x261))) <|
 C.same s389.env[94]? (.agg [(iz x344), (iz x345)]) <|
 C.same s389.env[95]? (.agg [(iz x349), (iz x350)]) <|
 C.same s389.env[96]? (.agg [(iz x354), (iz x355)]) <|
 C.same s389.env[97]? (iz x356) <|
 C.same s389.env[98]? (iz x261) <|
 C.same s389.env[99]? (iz (IntKind.wrap .i64 (x356 * x261))) <|
 C.same s389.env[100]? (.bool b375) <|
 C.same s389.env[101]? (iz x376) <|
 C.same s389.env[102]? (iz x377) <|
 C.same s389.env[103]? (iz x378) <|
 C.same s389.env[104]? (iz x379) <|
 C.same s389.env[105]? (.bool b380) <|
 C.same s389.env[106]? v381 <|
 C.same s389.env[107]? v382 <|
 C.same s389.env[108]? v383 <|
 C.same s389.env[109]? v384 <|
 C.same s389.env[110]? v385 <|
 C.same s389.env[111]? v386 <|
 C.any s389.env[112]? fun v431 =>
 C.any s389.env[113]? fun v432 =>
 C.any s389.env[114]? fun v433 =>
 C.any s389.env[115]? fun v434 =>
 C.any s389.env[116]? fun v435 =>
 C.any s389.env[117]? fun v436 =>
 C.any s389.env[118]? fun v437 =>
 C.any s389.env[119]? fun v438 =>
 C.any s389.env[120]? fun v439 =>
 C.any s389.env[121]? fun v440 =>
 C.any s389.env[122]? fun v441 =>
 C.any s389.env[123]? fun v442 =>
 none)
 (none)
def r7R6 (C : Cb) (d : Nat) (a0 a1 a2 a3 a4 a5 a6 a7 : Int) (v0 v2 v4 v6 : AV) (x11 x12 x16 x17 x21 x22 : Int) (v23 : AV) (b43 b44 b45 : Bool) (v46 v47 v48 : AV) (x53 : Int) (b216 : Bool) (v217 : AV) (x218 : Int) (v219 v220 v221 v222 v223 v224 v225 v226 v227 v228 v229 v230 v231 v232 v233 v234 v235 v236 v237 v238 v239 v240 v241 v242 v243 v244 v245 : AV) (x249 x250 x254 x255 x259 x260 x261 : Int) (v277 : AV) (b278 b279 b280 : Bool) (v281 v282 : AV) (b283 b295 b296 b297 : Bool) (v298 v299 : AV) (x312 x313 x317 x318 x322 x323 x324 x328 x329 x333 x334 x338 x339 x340 x344 x345 x349 x350 x354 x355 x356 : Int) : St → (Ex → St → Ans) → Ans := fun s357 k358 =>
 cnd ((List.length s357.env) == 124)
 (C.same s357.env[0]? (.agg [(iz a0), (iz a1)]) <|
 C.same s357.env[1]? (.agg [(iz a2), (iz a3)]) <|
 C.same s357.env[2]? (.agg [(iz a4), (iz a5)]) <|
 C.same s357.env[3]? (.agg [(iz a6), (iz a7)]) <|
 C.same s357.env[4]? v0 <|
 C.same s357.env[5]? v2 <|
 C.same s357.env[6]? v4 <|
 C.same s357.env[7]? v6 <|
 C.same s357.env[8]? bf <|
 C.same s357.env[9]? v23 <|
 C.same s357.env[10]? (.bool b216) <|
 C.same s357.env[11]? tz <|
 C.same s357.env[12]? v217 <|
 C.same s357.env[13]? (iz x261) <|
 C.same s357.env[14]? (iz (IntKind.wrap .i64 (x324 * x261))) <|
 C.same s357.env[15]? (iz (IntKind.wrap .i64 (x340 * x261))) <|
 C.same s357.env[16]? (iz (IntKind.wrap .i64 (x356 * x261))) <|
 C.int .i64 s357.env[17]? fun x360 =>
 C.same s357.env[18]? (.agg [(iz x11), (iz x12)]) <|
 C.same s357.env[19]? (.agg [(iz x16), (iz x17)]) <|
 C.same s357.env[20]? (.agg [(iz x21), (iz x22)]) <|
 C.same s357.env[21]? v23 <|
 C.same s357.env[22]? (.bool b43) <|
 C.same s357.env[23]? (.bool b44) <|
 C.same s357.env[24]? (.bool b45) <|
 C.same s357.env[25]? v46 <|
 C.same s357.env[26]? v47 <|
 C.same s357.env[27]? v48 <|
 C.same s357.env[28]? bf <|
 C.same s357.env[29]? tz <|
 C.same s357.env[30]? v23 <|
 C.same s357.env[31]? (iz x53) <|
 C.same s357.env[32]? (iz x218) <|
 C.same s357.env[33]? v219 <|
 C.same s357.env[34]? v220 <|
 C.same s357.env[35]? v221 <|
 C.same s357.env[36]? v222 <|
 C.same s357.env[37]? v223 <|
 C.same s357.env[38]? v224 <|
 C.same s357.env[39]? v225 <|
 C.same s357.env[40]? v226 <|
 C.same s357.env[41]? v227 <|
 C.same s357.env[42]? v228 <|
 C.same s357.env[43]? v229 <|
 C.same s357.env[44]? v230 <|
 C.same s357.env[45]? v231 <|
 C.same s357.env[46]? v232 <|
 C.same s357.env[47]? v233 <|
 C.same s357.env[48]? v234 <|
 C.same s357.env[49]? v235 <|
 C.same s357.env[50]? v236 <|
 C.same s357.env[51]? v237 <|
 C.same s357.env[52]? v238 <|
 C.same s357.env[53]? v239 <|
 C.same s357.env[54]? v240 <|
 C.same s357.env[55]? v241 <|
 C.same s357.env[56]? v242 <|
 C.same s357.env[57]? v243 <|
 C.same s357.env[58]? v244 <|
 C.same s357.env[59]? v245 <|
 C.same s357.env[60]? (.agg [(iz x249), (iz x250)]) <|
 C.same s357.env[61]? (.agg [(iz x254), (iz x255)]) <|
 C.same s357.env[62]? (.agg [(iz x259), (iz x260)]) <|
 C.same s357.env[63]? (iz x261) <|
 C.same s357.env[64]? v277 <|
 C.same s357.env[65]? (.bool b278) <|
 C.same s357.env[66]? (.bool b279) <|
 C.same s357.env[67]? (.bool b280) <|
 C.same s357.env[68]? v281 <|
 C.same s357.env[69]? v282 <|
 C.same s357.env[70]? (.bool b283) <|
 C.same s357.env[71]? bf <|
 C.same s357.env[72]? (.bool b295) <|
 C.same s357.env[73]? (.bool b296) <|
 C.same s357.env[74]? (.bool b297) <|
 C.same s357.env[75]? v298 <|
 C.same s357.env[76]? v299 <|
 C.same s357.env[77]? bf <|
 C.same s357.env[78]? tz <|
 C.same s357.env[79]? tz <|
 C.same s357.env[80]? tz <|
 C.same s357.env[81]? tz <|
 C.same s357.env[82]? (.agg [(iz x312), (iz x313)]) <|
 C.same s357.env[83]? (.agg [(iz x317), (iz x318)]) <|
 C.same s357.env[84]? (.agg [(iz x322), (iz x323)]) <|
 C.same s357.env[85]? (iz x324) <|
 C.same s357.env[86]? (iz x261) <|
 C.same s357.env[87]? (iz (IntKind.wrap .i64 (x324 * x261))) <|
 C.same s357.env[88]? (.agg [(iz x328), (iz x329)]) <|
 C.same s357.env[89]? (.agg [(iz x333), (iz x334)]) <|
 C.same s357.env[90]? (.agg [(iz x338), (iz x339)]) <|
 C.same s357.env[91]? (iz x340) <|
 C.same s357.env[92]? (iz x261) <|
 C.same s357.env[93]? (iz (IntKind.wrap .i64 (x340 * x261))) <|
 C.same s357.env[94]? (.agg [(iz x344), (iz x345)]) <|
 C.same s357.env[95]? (.agg [(iz x349), (iz x350)]) <|
 C.same s357.env[96]? (.agg [(iz x354), (iz x355)]) <|
 C.same s357.env[97]? (iz x356) <|
 C.same s357.env[98]? (iz x261) <|
 C.same s357.env[99]? (iz (IntKind.wrap .i64 (x356 * x261))) <|
 C.any s357.env[100]? fun v361 =>
 C.any s357.env[101]? fun v362 =>
 C.any s357.env[102]? fun v363 =>
 C.any s357.env[103]? fun v364 =>
 C.any s357.env[104]? fun v365 =>
 C.any s357.env[105]? fun v366 =>
 C.any s357.env[106]? fun v367 =>
 C.any s357.env[107]? fun v368 =>
 C.any s357.env[108]? fun v369 =>
 C.any s357.env[109]? fun v370 =>
 C.any s357.env[110]? fun v371 =>
 C.any s357.env[111]? fun v372 =>
 C.same s357.env[112]? tz <|
 C.same s357.env[113]? tz <|
 C.same s357.env[114]? tz <|
 C.same s357.env[115]? tz <|
 C.same s357.env[116]? tz <|
 C.same s357.env[117]? tz <|
 C.same s357.env[118]? tz <|
 C.same s357.env[119]? tz <|
 C.same s357.env[120]? tz <|
 C.same s357.env[121]? tz <|
 C.same s357.env[122]? tz <|
 C.same s357.env[123]? tz <|
 cnd (decide ((if ((IntKind.wrap .i64 (x356 * x261)) < (if ((IntKind.wrap .i64 (x340 * x261)) < (IntKind.wrap .i64 (x324 * x261))) then (IntKind.wrap .i64 (x340 * x261)) else (IntKind.wrap .i64 (x324 * x261)))) then (IntKind.wrap .i64 (x356 * x261)) else (if ((IntKind.wrap .i64 (x340 * x261)) < (IntKind.wrap .i64 (x324 * x261))) then (IntKind.wrap .i64 (x340 * x261)) else (IntKind.wrap .i64 (x324 * x261)))) > 0))
 (k358 (.exit 2000000) ⟨[(.agg [(iz a0), (iz a1)]), (.agg [(iz a2), (iz a3)]), (.agg [(iz a4), (iz a5)]), (.agg [(iz a6), (iz a7)]), v0, v2, v4, v6, bf, v23, (.bool b216), tz, v217, (iz x261), (iz (IntKind.wrap .i64 (x324 * x261))), (iz (IntKind.wrap .i64 (x340 * x261))), (iz (IntKind.wrap .i64 (x356 * x261))), (iz 1), (.agg [(iz x11), (iz x12)]), (.agg [(iz x16), (iz x17)]), (.agg [(iz x21), (iz x22)]), v23, (.bool b43), (.bool b44), (.bool b45), v46, v47, v48, bf, tz, v23, (iz x53), (iz x218), v219, v220, v221, v222, v223, v224, v225, v226, v227, v228, v229, v230, v231, v232, v233, v234, v235, v236, v237, v238, v239, v240, v241, v242, v243, v244, v245, (.agg [(iz x249), (iz x250)]), (.agg [(iz x254), (iz x255)]), (.agg [(iz x259), (iz x260)]), (iz x261), v277, (.bool b278), (.bool b279), (.bool b280), v281, v282, (.bool b283), bf, (.bool b295), (.bool b296), (.bool b297), v298, v299, bf, tz, tz, tz, tz, (.agg [(iz x312), (iz x313)]), (.agg [(iz x317), (iz x318)]), (.agg [(iz x322), (iz x323)]), (iz x324), (iz x261), (iz (IntKind.wrap .i64 (x324 * x261))), (.agg [(iz x328), (iz x329)]), (.agg [(iz x333), (iz x334)]), (.agg [(iz x338), (iz x339)]), (iz x340), (iz x261), (iz (IntKind.wrap .i64 (x340 * x261))), (.agg [(iz x344), (iz x345)]), (.agg [(iz x349), (iz x350)]), (.agg [(iz x354), (iz x355)]), (iz x356), (iz x261), (iz (IntKind.wrap .i64 (x356 * x261))), bt, (iz (IntKind.wrap .i64 (x324 * x261))), (iz (IntKind.wrap .i64 (x340 * x261))), (iz (IntKind.wrap .i64 (x356 * x261))), (iz (if ((IntKind.wrap .i64 (x356 * x261)) < (if ((IntKind.wrap .i64 (x340 * x261)) < (IntKind.wrap .i64 (x324 * x261))) then (IntKind.wrap .i64 (x340 * x261)) else (IntKind.wrap .i64 (x324 * x261)))) then (IntKind.wrap .i64 (x356 * x261)) else (if ((IntKind.wrap .i64 (x340 * x261)) < (IntKind.wrap .i64 (x324 * x261))) then (IntKind.wrap .i64 (x340 * x261)) else (IntKind.wrap .i64 (x324 * x261))))), (.bool (decide ((if ((IntKind.wrap .i64 (x356 * x261)) < (if ((IntKind.wrap .i64 (x340 * x261)) < (IntKind.wrap .i64 (x324 * x261))) then (IntKind.wrap .i64 (x340 * x261)) else (IntKind.wrap .i64 (x324 * x261)))) then (IntKind.wrap .i64 (x356 * x261)) else (if ((IntKind.wrap .i64 (x340 * x261)) < (IntKind.wrap .i64 (x324 * x261))) then (IntKind.wrap .i64 (x340 * x261)) else (IntKind.wrap .i64 (x324 * x261)))) > 0))), v367, v368, v369, v370, v371, v372, tz, tz, tz, tz, tz, tz, tz, tz, tz, tz, tz, tz], (St.H s357)⟩)
 (cnd ((if ((IntKind.wrap .i64 (x356 * x261)) < (if ((IntKind.wrap .i64 (x340 * x261)) < (IntKind.wrap .i64 (x324 * x261))) then (IntKind.wrap .i64 (x340 * x261)) else (IntKind.wrap .i64 (x324 * x261)))) then (IntKind.wrap .i64 (x356 * x261)) else (if ((IntKind.wrap .i64 (x340 * x261)) < (IntKind.wrap .i64 (x324 * x261))) then (IntKind.wrap .i64 (x340 * x261)) else (IntKind.wrap .i64 (x324 * x261)))) == 0)
 (k358 (.exit 2000000) ⟨[(.agg [(iz a0), (iz a1)]), (.agg [(iz a2), (iz a3)]), (.agg [(iz a4), (iz a5)]), (.agg [(iz a6), (iz a7)]), v0, v2, v4, v6, bf, v23, (.bool b216), tz, v217, (iz x261), (iz (IntKind.wrap .i64 (x324 * x261))), (iz (IntKind.wrap .i64 (x340 * x261))), (iz (IntKind.wrap .i64 (x356 * x261))), (iz 0), (.agg [(iz x11), (iz x12)]), (.agg [(iz x16), (iz x17)]), (.agg [(iz x21), (iz x22)]), v23, (.bool b43), (.bool b44), (.bool b45), v46, v47, v48, bf, tz, v23, (iz x53), (iz x218), v219, v220, v221, v222, v223, v224, v225, v226, v227, v228, v229, v230, v231, v232, v233, v234, v235, v236, v237, v238, v239, v240, v241, v242, v243, v244, v245, (.agg [(iz x249), (iz x250)]), (.agg [(iz x254), (iz x255)]), (.agg [(iz x259), (iz x260)]), (iz x261), v277, (.bool b278), (.bool b279), (.bool b280), v281, v282, (.bool b283), bf, (.bool b295), (.bool b296), (.bool b297), v298, v299, bf, tz, tz, tz, tz, (.agg [(iz x312), (iz x313)]), (.agg [(iz x317), (iz x318)]), (.agg [(iz x322), (iz x323)]), (iz x324), (iz x261), (iz (IntKind.wrap .i64 (x324 * x261))), (.agg [(iz x328), (iz x329)]), (.agg [(iz x333), (iz x334)]), (.agg [(iz x338), (iz x339)]), (iz x340), (iz x261), (iz (IntKind.wrap .i64 (x340 * x261))), (.agg [(iz x344), (iz x345)]), (.agg [(iz x349), (iz x350)]), (.agg [(iz x354), (iz x355)]), (iz x356), (iz x261), (iz (IntKind.wrap .i64 (x356 * x261))), bf, (iz (IntKind.wrap .i64 (x324 * x261))), (iz (IntKind.wrap .i64 (x340 * x261))), (iz (IntKind.wrap .i64 (x356 * x261))), (iz (if ((IntKind.wrap .i64 (x356 * x261)) < (if ((IntKind.wrap .i64 (x340 * x261)) < (IntKind.wrap .i64 (x324 * x261))) then (IntKind.wrap .i64 (x340 * x261)) else (IntKind.wrap .i64 (x324 * x261)))) then (IntKind.wrap .i64 (x356 * x261)) else (if ((IntKind.wrap .i64 (x340 * x261)) < (IntKind.wrap .i64 (x324 * x261))) then (IntKind.wrap .i64 (x340 * x261)) else (IntKind.wrap .i64 (x324 * x261))))), (.bool (decide ((if ((IntKind.wrap .i64 (x356 * x261)) < (if ((IntKind.wrap .i64 (x340 * x261)) < (IntKind.wrap .i64 (x324 * x261))) then (IntKind.wrap .i64 (x340 * x261)) else (IntKind.wrap .i64 (x324 * x261)))) then (IntKind.wrap .i64 (x356 * x261)) else (if ((IntKind.wrap .i64 (x340 * x261)) < (IntKind.wrap .i64 (x324 * x261))) then (IntKind.wrap .i64 (x340 * x261)) else (IntKind.wrap .i64 (x324 * x261)))) > 0))), bt, (iz (IntKind.wrap .i64 (x324 * x261))), (iz (IntKind.wrap .i64 (x340 * x261))), (iz (IntKind.wrap .i64 (x356 * x261))), (iz (if ((IntKind.wrap .i64 (x356 * x261)) < (if ((IntKind.wrap .i64 (x340 * x261)) < (IntKind.wrap .i64 (x324 * x261))) then (IntKind.wrap .i64 (x340 * x261)) else (IntKind.wrap .i64 (x324 * x261)))) then (IntKind.wrap .i64 (x356 * x261)) else (if ((IntKind.wrap .i64 (x340 * x261)) < (IntKind.wrap .i64 (x324 * x261))) then (IntKind.wrap .i64 (x340 * x261)) else (IntKind.wrap .i64 (x324 * x261))))), (.bool ((if ((IntKind.wrap .i64 (x356 * x261)) < (if ((IntKind.wrap .i64 (x340 * x261)) < (IntKind.wrap .i64 (x324 * x261))) then (IntKind.wrap .i64 (x340 * x261)) else (IntKind.wrap .i64 (x324 * x261)))) then (IntKind.wrap .i64 (x356 * x261)) else (if ((IntKind.wrap .i64 (x340 * x261)) < (IntKind.wrap .i64 (x324 * x261))) then (IntKind.wrap .i64 (x340 * x261)) else (IntKind.wrap .i64 (x324 * x261)))) == 0)), tz, tz, tz, tz, tz, tz, tz, tz, tz, tz, tz, tz], (St.H s357)⟩)
 (k358 (.exit 2000000) ⟨[(.agg [(iz a0), (iz a1)]), (.agg [(iz a2), (iz a3)]), (.agg [(iz a4), (iz a5)]), (.agg [(iz a6), (iz a7)]), v0, v2, v4, v6, bf, v23, (.bool b216), tz, v217, (iz x261), (iz (IntKind.wrap .i64 (x324 * x261))), (iz (IntKind.wrap .i64 (x340 * x261))), (iz (IntKind.wrap .i64 (x356 * x261))), (iz x360), (.agg [(iz x11), (iz x12)]), (.agg [(iz x16), (iz x17)]), (.agg [(iz x21), (iz x22)]), v23, (.bool b43), (.bool b44), (.bool b45), v46, v47, v48, bf, tz, v23, (iz x53), (iz x218), v219, v220, v221, v222, v223, v224, v225, v226, v227, v228, v229, v230, v231, v232, v233, v234, v235, v236, v237, v238, v239, v240, v241, v242, v243, v244, v245, (.agg [(iz x249), (iz x250)]), (.agg [(iz x254), (iz x255)]), (.agg [(iz x259), (iz x260)]), (iz x261), v277, (.bool b278), (.bool b279), (.bool b280), v281, v282, (.bool b283), bf, (.bool b295), (.bool b296), (.bool b297), v298, v299, bf, tz, tz, tz, tz, (.agg [(iz x312), (iz x313)]), (.agg [(iz x317), (iz x318)]), (.agg [(iz x322), (iz x323)]), (iz x324), (iz x261), (iz (IntKind.wrap .i64 (x324 * x261))), (.agg [(iz x328), (iz x329)]), (.agg [(iz x333), (iz x334)]), (.agg [(iz x338), (iz x339)]), (iz x340), (iz x261), (iz (IntKind.wrap .i64 (x340 * x261))), (.agg [(iz x344), (iz x345)]), (.agg [(iz x349), (iz x350)]), (.agg [(iz x354), (iz x355)]), (iz x356), (iz x261), (iz (IntKind.wrap .i64 (x356 * x261))), bf, (iz (IntKind.wrap .i64 (x324 * x261))), (iz (IntKind.wrap .i64 (x340 * x261))), (iz (IntKind.wrap .i64 (x356 * x261))), (iz (if ((IntKind.wrap .i64 (x356 * x261)) < (if ((IntKind.wrap .i64 (x340 * x261)) < (IntKind.wrap .i64 (x324 * x261))) then (IntKind.wrap .i64 (x340 * x261)) else (IntKind.wrap .i64 (x324 * x261)))) then (IntKind.wrap .i64 (x356 * x261)) else (if ((IntKind.wrap .i64 (x340 * x261)) < (IntKind.wrap .i64 (x324 * x261))) then (IntKind.wrap .i64 (x340 * x261)) else (IntKind.wrap .i64 (x324 * x261))))), (.bool (decide ((if ((IntKind.wrap .i64 (x356 * x261)) < (if ((IntKind.wrap .i64 (x340 * x261)) < (IntKind.wrap .i64 (x324 * x261))) then (IntKind.wrap .i64 (x340 * x261)) else (IntKind.wrap .i64 (x324 * x261)))) then (IntKind.wrap .i64 (x356 * x261)) else (if ((IntKind.wrap .i64 (x340 * x261)) < (IntKind.wrap .i64 (x324 * x261))) then (IntKind.wrap .i64 (x340 * x261)) else (IntKind.wrap .i64 (x324 * x261)))) > 0))), bf, (iz (IntKind.wrap .i64 (x324 * x261))), (iz (IntKind.wrap .i64 (x340 * x261))), (iz (IntKind.wrap .i64 (x356 * x261))), (iz (if ((IntKind.wrap .i64 (x356 * x261)) < (if ((IntKind.wrap .i64 (x340 * x261)) < (IntKind.wrap .i64 (x324 * x261))) then (IntKind.wrap .i64 (x340 * x261)) else (IntKind.wrap .i64 (x324 * x261)))) then (IntKind.wrap .i64 (x356 * x261)) else (if ((IntKind.wrap .i64 (x340 * x261)) < (IntKind.wrap .i64 (x324 * x261))) then (IntKind.wrap .i64 (x340 * x261)) else (IntKind.wrap .i64 (x324 * x261))))), (.bool ((if ((IntKind.wrap .i64 (x356 * x261)) < (if ((IntKind.wrap .i64 (x340 * x261)) < (IntKind.wrap .i64 (x324 * x261))) then (IntKind.wrap .i64 (x340 * x261)) else (IntKind.wrap .i64 (x324 * x261)))) then (IntKind.wrap .i64 (x356 * x261)) else (if ((IntKind.wrap .i64 (x340 * x261)) < (IntKind.wrap .i64 (x324 * x261))) then (IntKind.wrap .i64 (x340 * x261)) else (IntKind.wrap .i64 (x324 * x261)))) == 0)), tz, tz, tz, tz, tz, tz, tz, tz, tz, tz, tz, tz], (St.H s357)⟩)))
 (none)
def r7X6_0 (C : Cb) (d : Nat) (a0 a1 a2 a3 a4 a5 a6 a7 : Int) (v0 v2 v4 v6 : AV) (x11 x12 x16 x17 x21 x22 : Int) (v23 : AV) (b43 b44 b45 : Bool) (v46 v47 v48 : AV) (x53 : Int) (b216 : Bool) (v217 : AV) (x218 : Int) (v219 v220 v221 v222 v223 v224 v225 v226 v227 v228 v229 v230 v231 v232 v233 v234 v235 v236 v237 v238 v239 v240 v241 v242 v243 v244 v245 : AV) (x249 x250 x254 x255 x259 x260 x261 : Int) (v277 : AV) (b278 b279 b280 : Bool) (v281 v282 : AV) (b283 b295 b296 b297 : Bool) (v298 v299 : AV) (x312 x313 x317 x318 x322 x323 x324 x328 x329 x333 x334 x338 x339 x340 x344 x345 x349 x350 x354 x355 x356 : Int) : St → Ans := fun s373 =>
 cnd ((List.length s373.env) == 124)
 (C.same s373.env[0]? (.agg [(iz a0), (iz a1)]) <|
 C.same s373.env[1]? (.agg [(iz a2), (iz a3)]) <|
 C.same s373.env[2]? (.agg [(iz a4), (iz a5)]) <|
 C.same s373.env[3]? (.agg [(iz a6), (iz a7)]) <|
 C.same s373.env[4]? v0 <|
 C.same s373.env[5]? v2 <|
 C.same s373.env[6]? v4 <|
 C.same s373.env[7]? v6 <|
 C.same s373.env[8]? bf <|
 C.same s373.env[9]? v23 <|
 C.same s373.env[10]? (.bool b216) <|
 C.same s373.env[11]? tz <|
 C.same s373.env[12]? v217 <|
 C.same s373.env[13]? (iz x261) <|
 C.same s373.env[14]? (iz (IntKind.wrap .i64 (x324 * x261))) <|
 C.same s373.env[15]? (iz (IntKind.wrap .i64 (x340 * x261))) <|
 C.same s373.env[16]? (iz (IntKind.wrap .i64 (x356 * x261))) <|
 C.int .i64 s373.env[17]? fun x374 =>
 C.same s373.env[18]? (.agg [(iz x11), (iz x12)]) <|
 C.same s373.env[19]? (.agg [(iz x16), (iz x17)]) <|
 C.same s373.env[20]? (.agg [(iz x21), (iz x22)]) <|
 C.same s373.env[21]? v23 <|
 C.same s373.env[22]? (.bool b43) <|
 C.same s373.env[23]? (.bool b44) <|
 C.same s373.env[24]? (.bool b45) <|
 C.same s373.env[25]? v46 <|
 C.same s373.env[26]? v47 <|
 C.same s373.env[27]? v48 <|
 C.same s373.env[28]? bf <|
 C.same s373.env[29]? tz <|
 C.same s373.env[30]? v23 <|
 C.same s373.env[31]? (iz x53) <|
 C.same s373.env[32]? (iz x218) <|
 C.same s373.env[33]? v219 <|
 C.same s373.env[34]? v220 <|
 C.same s373.env[35]? v221 <|
 C.same s373.env[36]? v222 <|
 C.same s373.env[37]? v223 <|
 C.same s373.env[38]? v224 <|
 C.same s373.env[39]? v225 <|
 C.same s373.env[40]? v226 <|
 C.same s373.env[41]? v227 <|
 C.same s373.env[42]? v228 <|
 C.same s373.env[43]? v229 <|
 C.same s373.env[44]? v230 <|
 C.same s373.env[45]? v231 <|
 C.same s373.env[46]? v232 <|
 C.same s373.env[47]? v233 <|
 C.same s373.env[48]? v234 <|
 C.same s373.env[49]? v235 <|
 C.same s373.env[50]? v236 <|
 C.same s373.env[51]? v237 <|
 C.same s373.env[52]? v238 <|
 C.same s373.env[53]? v239 <|
 C.same s373.env[54]? v240 <|
 C.same s373.env[55]? v241 <|
 C.same s373.env[56]? v242 <|
 C.same s373.env[57]? v243 <|
 C.same s373.env[58]? v244 <|
 C.same s373.env[59]? v245 <|
 C.same s373.env[60]? (.agg [(iz x249), (iz x250)]) <|
 C.same s373.env[61]? (.agg [(iz x254), (iz x255)]) <|
 C.same s373.env[62]? (.agg [(iz x259), (iz x260)]) <|
 C.same s373.env[63]? (iz x261) <|
 C.same s373.env[64]? v277 <|
 C.same s373.env[65]? (.bool b278) <|
 C.same s373.env[66]? (.bool b279) <|
 C.same s373.env[67]? (.bool b280) <|
 C.same s373.env[68]? v281 <|
 C.same s373.env[69]? v282 <|
 C.same s373.env[70]? (.bool b283) <|
 C.same s373.env[71]? bf <|
 C.same s373.env[72]? (.bool b295) <|
 C.same s373.env[73]? (.bool b296) <|
 C.same s373.env[74]? (.bool b297) <|
 C.same s373.env[75]? v298 <|
 C.same s373.env[76]? v299 <|
 C.same s373.env[77]? bf <|
 C.same s373.env[78]? tz <|
 C.same s373.env[79]? tz <|
 C.same s373.env[80]? tz <|
 C.same s373.env[81]? tz <|
 C.same s373.env[82]? (.agg [(iz x312), (iz x313)]) <|
 C.same s373.env[83]? (.agg [(iz x317), (iz x318)]) <|
 C.same s373.env[84]? (.agg [(iz x322), (iz x323)]) <|
 C.same s373.env[85]? (iz x324) <|
 C.same s373.env[86]? (iz x261) <|
 C.same s373.env[87]? (iz (IntKind.wrap .i64 (x324 * x261))) <|
 C.same s373.env[88]? (.agg [(iz x328), (iz x329)]) <|
 C.same s373.env[89]? (.agg [(iz x333), (iz x334)]) <|
 C.same s373.env[90]? (.agg [(iz x338), (iz x339)]) <|
 C.same s373.env[91]? (iz x340) <|
 C.same s373.env[92]? (iz x261) <|
 C.same s373.env[93]? (iz (IntKind.wrap .i64 (x340 * x261))) <|
 C.same s373.env[94]? (.agg [(iz x344), (iz x345)]) <|
 C.same s373.env[95]? (.agg [(iz x349), (iz x350)]) <|
 C.same s373.env[96]? (.agg [(iz x354), (iz x355)]) <|
 C.same s373.env[97]? (iz x356) <|
 C.same s373.env[98]? (iz x261) <|
 C.same s373.env[99]? (iz (IntKind.wrap .i64 (x356 * x261))) <|
 C.bool s373.env[100]? fun b375 =>
 C.int .i64 s373.env[101]? fun x376 =>
 C.int .i64 s373.env[102]? fun x377 =>
 C.int .i64 s373.env[103]? fun x378 =>
 C.int .i64 s373.env[104]? fun x379 =>
 C.bool s373.env[105]? fun b380 =>
 C.any s373.env[106]? fun v381 =>
 C.any s373.env[107]? fun v382 =>
 C.any s373.env[108]? fun v383 =>
 C.any s373.env[109]? fun v384 =>
 C.any s373.env[110]? fun v385 =>
 C.any s373.env[111]? fun v386 =>
 C.same s373.env[112]? tz <|
 C.same s373.env[113]? tz <|
 C.same s373.env[114]? tz <|
 C.same s373.env[115]? tz <|
 C.same s373.env[116]? tz <|
 C.same s373.env[117]? tz <|
 C.same s373.env[118]? tz <|
 C.same s373.env[119]? tz <|
 C.same s373.env[120]? tz <|
 C.same s373.env[121]? tz <|
 C.same s373.env[122]? tz <|
 C.same s373.env[123]? tz <|
 C.iter (r7R7 C d a0 a1 a2 a3 a4 a5 a6 a7 v0 v2 v4 v6 x11 x12 x16 x17 x21 x22 v23 b43 b44 b45 v46 v47 v48 x53 b216 v217 x218 v219 v220 v221 v222 v223 v224 v225 v226 v227 v228 v229 v230 v231 v232 v233 v234 v235 v236 v237 v238 v239 v240 v241 v242 v243 v244 v245 x249 x250 x254 x255 x259 x260 x261 v277 b278 b279 b280 v281 v282 b283 b295 b296 b297 v298 v299 x312 x313 x317 x318 x322 x323 x324 x328 x329 x333 x334 x338 x339 x340 x344 x345 x349 x350 x354 x355 x356 x374 b375 x376 x377 x378 x379 b380 v381 v382 v383 v384 v385 v386) 1 ⟨[(.agg [(iz a0), (iz a1)]), (.agg [(iz a2), (iz a3)]), (.agg [(iz a4), (iz a5)]), (.agg [(iz a6), (iz a7)]), v0, v2, v4, v6, bf, v23, (.bool b216), tz, v217, (iz x261), (iz (IntKind.wrap .i64 (x324 * x261))), (iz (IntKind.wrap .i64 (x340 * x261))), (iz (IntKind.wrap .i64 (x356 * x261))), (iz x374), (.agg [(iz x11), (iz x12)]), (.agg [(iz x16), (iz x17)]), (.agg [(iz x21), (iz x22)]), v23, (.bool b43), (.bool b44), (.bool b45), v46, v47, v48, bf, tz, v23, (iz x53), (iz x218), v219, v220, v221, v222, v223, v224, v225, v226, v227, v228, v229, v230, v231, v232, v233, v234, v235, v236, v237, v238, v239, v240, v241, v242, v243, v244, v245, (.agg [(iz x249), (iz x250)]), (.agg [(iz x254), (iz x255)]), (.agg [(iz x259), (iz x260)]), (iz x261), v277, (.bool b278), (.bool b279), (.bool b280), v281, v282, (.bool b283), bf, (.bool b295), (.bool b296), (.bool b297), v298, v299, bf, tz, tz, tz, tz, (.agg [(iz x312), (iz x313)]), (.agg [(iz x317), (iz x318)]), (.agg [(iz x322), (iz x323)]), (iz x324), (iz x261), (iz (IntKind.wrap .i64 (x324 * x261))), (.agg [(iz x328), (iz x329)]), (.agg [(iz x333), (iz x334)]), (.agg [(iz x338), (iz x339)]), (iz x340), (iz x261), (iz (IntKind.wrap .i64 (x340 * x261))), (.agg [(iz x344), (iz x345)]), (.agg [(iz x349), (iz x350)]), (.agg [(iz x354), (iz x355)]), (iz x356), (iz x261), (iz (IntKind.wrap .i64 (x356 * x261))), (.bool b375), (iz x376), (iz x377), (iz x378), (iz x379), (.bool b380), v381, v382, v383, v384, v385, v386, tz, tz, tz, tz, tz, tz, tz, tz, tz, tz, tz, tz], (St.H s373)⟩ [2000000] [r7X7_0 C d a0 a1 a2 a3 a4 a5 a6 a7 v0 v2 v4 v6 x11 x12 x16 x17 x21 x22 v23 b43 b44 b45 v46 v47 v48 x53 b216 v217 x218 v219 v220 v221 v222 v223 v224 v225 v226 v227 v228 v229 v230 v231 v232 v233 v234 v235 v236 v237 v238 v239 v240 v241 v242 v243 v244 v245 x249 x250 x254 x255 x259 x260 x261 v277 b278 b279 b280 v281 v282 b283 b295 b296 b297 v298 v299 x312 x313 x317 x318 x322 x323 x324 x328 x329 x333 x334 x338 x339 x340 x344 x345 x349 x350 x354 x355 x356 x374 b375 x376 x377 x378 x379 b380 v381 v382 v383 v384 v385 v386] (r7E7 C d a0 a1 a2 a3 a4 a5 a6 a7 v0 v2 v4 v6 x11 x12 x16 x17 x21 x22 v23 b43 b44 b45 v46 v47 v48 x53 b216 v217 x218 v219 v220 v221 v222 v223 v224 v225 v226 v227 v228 v229 v230 v231 v232 v233 v234 v235 v236 v237 v238 v239 v240 v241 v242 v243 v244 v245 x249 x250 x254 x255 x259 x260 x261 v277 b278 b279 b280 v281 v282 b283 b295 b296 b297 v298 v299 x312 x313 x317 x318 x322 x323 x324 x328 x329 x333 x334 x338 x339 x340 x344 x345 x349 x350 x354 x355 x356 x374 b375 x376 x377 x378 x379 b380 v381 v382 v383 v384 v385 v386))
 (none)
def r7E6 (C : Cb) (d : Nat) (a0 a1 a2 a3 a4 a5 a6 a7 : Int) (v0 v2 v4 v6 : AV) (x11 x12 x16 x17 x21 x22 : Int) (v23 : AV) (b43 b44 b45 : Bool) (v46 v47 v48 : AV) (x53 : Int) (b216 : Bool) (v217 : AV) (x218 : Int) (v219 v220 v221 v222 v223 v224 v225 v226 v227 v228 v229 v230 v231 v232 v233 v234 v235 v236 v237 v238 v239 v240 v241 v242 v243 v244 v245 : AV) (x249 x250 x254 x255 x259 x260 x261 : Int) (v277 : AV) (b278 b279 b280 : Bool) (v281 v282 : AV) (b283 b295 b296 b297 : Bool) (v298 v299 : AV) (x312 x313 x317 x318 x322 x323 x324 x328 x329 x333 x334 x338 x339 x340 x344 x345 x349 x350 x354 x355 x356 : Int) : St → Ans := fun s359 =>
 cnd ((List.length s359.env) == 124)
 (C.same s359.env[0]? (.agg [(iz a0), (iz a1)]) <|
 C.same s359.env[1]? (.agg [(iz a2), (iz a3)]) <|
 C.same s359.env[2]? (.agg [(iz a4), (iz a5)]) <|
 C.same s359.env[3]? (.agg [(iz a6), (iz a7)]) <|
 C.same s359.env[4]? v0 <|
 C.same s359.env[5]? v2 <|
 C.same s359.env[6]? v4 <|
 C.same s359.env[7]? v6 <|
 C.same s359.env[8]? bf <|
 C.same s359.env[9]? v23 <|
 C.same s359.env[10]? (.bool b216) <|
 C.same s359.env[11]? tz <|
 C.same s359.env[12]? v217 <|
 C.same s359.env[13]? (iz x261) <|
 C.same s359.env[14]? (iz (IntKind.wrap .i64 (x324 * x261))) <|
 C.same s359.env[15]? (iz (IntKind.wrap .i64 (x340 * x261))) <|
 C.same s359.env[16]? (iz (IntKind.wrap .i64 (x356 * x261))) <|
 C.int .i64 s359.env[17]? fun x443 =>
 C.same s359.env[18]? (.agg [(iz x11), (iz x12)]) <|
 C.same s359.env[19]? (.agg [(iz x16), (iz x17)]) <|
 C.same s359.env[20]? (.agg [(iz x21), (iz x22)]) <|
 C.same s359.env[21]? v23 <|
 C.same s359.env[22]? (.bool b43) <|
 C.same s359.env[23]? (.bool b44) <|
 C.same s359.env[24]? (.bool b45) <|
 C.same s359.env[25]? v46 <|
 C.same s359.env[26]? v47 <|
 C.same s359.env[27]? v48 <|
 C.same s359.env[28]? bf <|
 C.same s359.env[29]? tz <|
 C.same s359.env[30]? v23 <|
 C.same s359.env[31]? (iz x53) <|
 C.same s359.env[32]? (iz x218) <|
 C.same s359.env[33]? v219 <|
 C.same s359.env[34]? v220 <|
 C.same s359.env[35]? v221 <|
 C.same s359.env[36]? v222 <|
 C.same s359.env[37]? v223 <|
 C.same s359.env[38]? v224 <|
 C.same s359.env[39]? v225 <|
 C.same s359.env[40]? v226 <|
 C.same s359.env[41]? v227 <|
 C.same s359.env[42]? v228 <|
 C.same s359.env[43]? v229 <|
 C.same s359.env[44]? v230 <|
 C.same s359.env[45]? v231 <|
 C.same s359.env[46]? v232 <|
 C.same s359.env[47]? v233 <|
 C.same s359.env[48]? v234 <|
 C.same s359.env[49]? v235 <|
 C.same s359.env[50]? v236 <|
 C.same s359.env[51]? v237 <|
 C.same s359.env[52]? v238 <|
 C.same s359.env[53]? v239 <|
 C.same s359.env[54]? v240 <|
 C.same s359.env[55]? v241 <|
 C.same s359.env[56]? v242 <|
 C.same s359.env[57]? v243 <|
 C.same s359.env[58]? v244 <|
 C.same s359.env[59]? v245 <|
 C.same s359.env[60]? (.agg [(iz x249), (iz x250)]) <|
 C.same s359.env[61]? (.agg [(iz x254), (iz x255)]) <|
 C.same s359.env[62]? (.agg [(iz x259), (iz x260)]) <|
 C.same s359.env[63]? (iz x261) <|
 C.same s359.env[64]? v277 <|
 C.same s359.env[65]? (.bool b278) <|
 C.same s359.env[66]? (.bool b279) <|
 C.same s359.env[67]? (.bool b280) <|
 C.same s359.env[68]? v281 <|
 C.same s359.env[69]? v282 <|
 C.same s359.env[70]? (.bool b283) <|
 C.same s359.env[71]? bf <|
 C.same s359.env[72]? (.bool b295) <|
 C.same s359.env[73]? (.bool b296) <|
 C.same s359.env[74]? (.bool b297) <|
 C.same s359.env[75]? v298 <|
 C.same s359.env[76]? v299 <|
 C.same s359.env[77]? bf <|
 C.same s359.env[78]? tz <|
 C.same s359.env[79]? tz <|
 C.same s359.env[80]? tz <|
 C.same s359.env[81]? tz <|
 C.same s359.env[82]? (.agg [(iz x312), (iz x313)]) <|
 C.same s359.env[83]? (.agg [(iz x317), (iz x318)]) <|
 C.same s359.env[84]? (.agg [(iz x322), (iz x323)]) <|
 C.same s359.env[85]? (iz x324) <|
 C.same s359.env[86]? (iz x261) <|
 C.same s359.env[87]? (iz (IntKind.wrap .i64 (x324 * x261))) <|
 C.same s359.env[88]? (.agg [(iz x328), (iz x329)]) <|
 C.same s359.env[89]? (.agg [(iz x333), (iz x334)]) <|
 C.same s359.env[90]? (.agg [(iz x338), (iz x339)]) <|
 C.same s359.env[91]? (iz x340) <|
 C.same s359.env[92]? (iz x261) <|
 C.same s359.env[93]? (iz (IntKind.wrap .i64 (x340 * x261))) <|
 C.same s359.env[94]? (.agg [(iz x344), (iz x345)]) <|
 C.same s359.env[95]? (.agg [(iz x349), (iz x350)]) <|
 C.same s359.env[96]? (.agg [(iz x354), (iz x355)]) <|
 C.same s359.env[97]? (iz x356) <|
 C.same s359.env[98]? (iz x261) <|
 C.same s359.env[99]? (iz (IntKind.wrap .i64 (x356 * x261))) <|
 C.any s359.env[100]? fun v444 =>
 C.any s359.env[101]? fun v445 =>
 C.any s359.env[102]? fun v446 =>
 C.any s359.env[103]? fun v447 =>
 C.any s359.env[104]? fun v448 =>
 C.any s359.env[105]? fun v449 =>
 C.any s359.env[106]? fun v450 =>
 C.any s359.env[107]? fun v451 =>
 C.any s359.env[108]? fun v452 =>
 C.any s359.env[109]? fun v453 =>
 C.any s359.env[110]? fun v454 =>
 C.any s359.env[111]? fun v455 =>
 C.same s359.env[112]? tz <|
 C.same s359.env[113]? tz <|
 C.same s359.env[114]? tz <|
 C.same s359.env[115]? tz <|
 C.same s359.env[116]? tz <|
 C.same s359.env[117]? tz <|
 C.same s359.env[118]? tz <|
 C.same s359.env[119]? tz <|
 C.same s359.env[120]? tz <|
 C.same s359.env[121]? tz <|
 C.same s359.env[122]? tz <|
 C.same s359.env[123]? tz <|
 none)
 (none)
def r7R5 (C : Cb) (d : Nat) (a0 a1 a2 a3 a4 a5 a6 a7 : Int) (v0 v2 v4 v6 : AV) (x11 x12 x16 x17 x21 x22 : Int) (v23 : AV) (b43 b44 b45 : Bool) (v46 v47 v48 : AV) (x53 : Int) (b216 : Bool) (v217 : AV) (x218 : Int) (v219 v220 v221 v222 v223 v224 v225 v226 v227 v228 v229 v230 v231 v232 v233 v234 v235 v236 v237 v238 v239 v240 v241 v242 v243 v244 v245 : AV) (x249 x250 x254 x255 x259 x260 x261 : Int) (v277 : AV) (b278 b279 b280 : Bool) (v281 v282 : AV) (b283 : Bool) : St → (Ex → St → Ans) → Ans := fun s285 k286 =>
 cnd ((List.length s285.env) == 124)
 (C.same s285.env[0]? (.agg [(iz a0), (iz a1)]) <|
 C.same s285.env[1]? (.agg [(iz a2), (iz a3)]) <|
 C.same s285.env[2]? (.agg [(iz a4), (iz a5)]) <|
 C.same s285.env[3]? (.agg [(iz a6), (iz a7)]) <|
 C.same s285.env[4]? v0 <|
 C.same s285.env[5]? v2 <|
 C.same s285.env[6]? v4 <|
 C.same s285.env[7]? v6 <|
 C.same s285.env[8]? bf <|
 C.same s285.env[9]? v23 <|
 C.same s285.env[10]? (.bool b216) <|
 C.same s285.env[11]? tz <|
 C.same s285.env[12]? v217 <|
 C.same s285.env[13]? (iz x261) <|
 C.same s285.env[14]? tz <|
 C.same s285.env[15]? tz <|
 C.same s285.env[16]? tz <|
 C.same s285.env[17]? tz <|
 C.same s285.env[18]? (.agg [(iz x11), (iz x12)]) <|
 C.same s285.env[19]? (.agg [(iz x16), (iz x17)]) <|
 C.same s285.env[20]? (.agg [(iz x21), (iz x22)]) <|
 C.same s285.env[21]? v23 <|
 C.same s285.env[22]? (.bool b43) <|
 C.same s285.env[23]? (.bool b44) <|
 C.same s285.env[24]? (.bool b45) <|
 C.same s285.env[25]? v46 <|
 C.same s285.env[26]? v47 <|
 C.same s285.env[27]? v48 <|
 C.same s285.env[28]? bf <|
 C.same s285.env[29]? tz <|
 C.same s285.env[30]? v23 <|
 C.same s285.env[31]? (iz x53) <|
 C.same s285.env[32]? (iz x218) <|
 C.same s285.env[33]? v219 <|
 C.same s285.env[34]? v220 <|
 C.same s285.env[35]? v221 <|
 C.same s285.env[36]? v222 <|
 C.same s285.env[37]? v223 <|
 C.same s285.env[38]? v224 <|
 C.same s285.env[39]? v225 <|
 C.same s285.env[40]? v226 <|
 C.same s285.env[41]? v227 <|
 C.same s285.env[42]? v228 <|
 C.same s285.env[43]? v229 <|
 C.same s285.env[44]? v230 <|
 C.same s285.env[45]? v231 <|
 C.same s285.env[46]? v232 <|
 C.same s285.env[47]? v233 <|
 C.same s285.env[48]? v234 <|
 C.same s285.env[49]? v235 <|
 C.same s285.env[50]? v236 <|
 C.same s285.env[51]? v237 <|
 C.same s285.env[52]? v238 <|
 C.same s285.env[53]? v239 <|
 C.same s285.env[54]? v240 <|
 C.same s285.env[55]? v241 <|
 C.same s285.env[56]? v242 <|
 C.same s285.env[57]? v243 <|
 C.same s285.env[58]? v244 <|
 C.same s285.env[59]? v245 <|
 C.same s285.env[60]? (.agg [(iz x249), (iz x250)]) <|
 C.same s285.env[61]? (.agg [(iz x254), (iz x255)]) <|
 C.same s285.env[62]? (.agg [(iz x259), (iz x260)]) <|
 C.same s285.env[63]? (iz x261) <|
 C.same s285.env[64]? v277 <|
 C.same s285.env[65]? (.bool b278) <|
 C.same s285.env[66]? (.bool b279) <|
 C.same s285.env[67]? (.bool b280) <|
 C.same s285.env[68]? v281 <|
 C.same s285.env[69]? v282 <|
 C.same s285.env[70]? (.bool b283) <|
 C.same s285.env[71]? bf <|
 C.any s285.env[72]? fun v288 =>
 C.any s285.env[73]? fun v289 =>
 C.any s285.env[74]? fun v290 =>
 C.any s285.env[75]? fun v291 =>
 C.any s285.env[76]? fun v292 =>
 C.any s285.env[77]? fun v293 =>
 C.same s285.env[78]? tz <|
 C.same s285.env[79]? tz <|
 C.same s285.env[80]? tz <|
 C.same s285.env[81]? tz <|
 C.same s285.env[82]? tz <|
 C.same s285.env[83]? tz <|
 C.same s285.env[84]? tz <|
 C.same s285.env[85]? tz <|
 C.same s285.env[86]? tz <|
 C.same s285.env[87]? tz <|
 C.same s285.env[88]? tz <|
 C.same s285.env[89]? tz <|
 C.same s285.env[90]? tz <|
 C.same s285.env[91]? tz <|
 C.same s285.env[92]? tz <|
 C.same s285.env[93]? tz <|
 C.same s285.env[94]? tz <|
 C.same s285.env[95]? tz <|
 C.same s285.env[96]? tz <|
 C.same s285.env[97]? tz <|
 C.same s285.env[98]? tz <|
 C.same s285.env[99]? tz <|
 C.same s285.env[100]? tz <|
 C.same s285.env[101]? tz <|
 C.same s285.env[102]? tz <|
 C.same s285.env[103]? tz <|
 C.same s285.env[104]? tz <|
 C.same s285.env[105]? tz <|
 C.same s285.env[106]? tz <|
 C.same s285.env[107]? tz <|
 C.same s285.env[108]? tz <|
 C.same s285.env[109]? tz <|
 C.same s285.env[110]? tz <|
 C.same s285.env[111]? tz <|
 C.same s285.env[112]? tz <|
 C.same s285.env[113]? tz <|
 C.same s285.env[114]? tz <|
 C.same s285.env[115]? tz <|
 C.same s285.env[116]? tz <|
 C.same s285.env[117]? tz <|
 C.same s285.env[118]? tz <|
 C.same s285.env[119]? tz <|
 C.same s285.env[120]? tz <|
 C.same s285.env[121]? tz <|
 C.same s285.env[122]? tz <|
 C.same s285.env[123]? tz <|
 cnd (!b216)
 (k286 (.exit 2000000) ⟨[(.agg [(iz a0), (iz a1)]), (.agg [(iz a2), (iz a3)]), (.agg [(iz a4), (iz a5)]), (.agg [(iz a6), (iz a7)]), v0, v2, v4, v6, bf, v23, (.bool b216), tz, v217, (iz x261), tz, tz, tz, tz, (.agg [(iz x11), (iz x12)]), (.agg [(iz x16), (iz x17)]), (.agg [(iz x21), (iz x22)]), v23, (.bool b43), (.bool b44), (.bool b45), v46, v47, v48, bf, tz, v23, (iz x53), (iz x218), v219, v220, v221, v222, v223, v224, v225, v226, v227, v228, v229, v230, v231, v232, v233, v234, v235, v236, v237, v238, v239, v240, v241, v242, v243, v244, v245, (.agg [(iz x249), (iz x250)]), (.agg [(iz x254), (iz x255)]), (.agg [(iz x259), (iz x260)]), (iz x261), v277, (.bool b278), (.bool b279), (.bool b280), v281, v282, (.bool b283), bf, (.bool b216), (.bool (!b216)), bt, tz, tz, bt, tz, tz, tz, tz, tz, tz, tz, tz, tz, tz, tz, tz, tz, tz, tz, tz, tz, tz, tz, tz, tz, tz, tz, tz, tz, tz, tz, tz, tz, tz, tz, tz, tz, tz, tz, tz, tz, tz, tz, tz, tz, tz, tz, tz, tz, tz], (St.H s285)⟩)
 (k286 (.exit 2000000) ⟨[(.agg [(iz a0), (iz a1)]), (.agg [(iz a2), (iz a3)]), (.agg [(iz a4), (iz a5)]), (.agg [(iz a6), (iz a7)]), v0, v2, v4, v6, bf, v23, (.bool b216), tz, v217, (iz x261), tz, tz, tz, tz, (.agg [(iz x11), (iz x12)]), (.agg [(iz x16), (iz x17)]), (.agg [(iz x21), (iz x22)]), v23, (.bool b43), (.bool b44), (.bool b45), v46, v47, v48, bf, tz, v23, (iz x53), (iz x218), v219, v220, v221, v222, v223, v224, v225, v226, v227, v228, v229, v230, v231, v232, v233, v234, v235, v236, v237, v238, v239, v240, v241, v242, v243, v244, v245, (.agg [(iz x249), (iz x250)]), (.agg [(iz x254), (iz x255)]), (.agg [(iz x259), (iz x260)]), (iz x261), v277, (.bool b278), (.bool b279), (.bool b280), v281, v282, (.bool b283), bf, (.bool b216), (.bool (!b216)), bf, (iz x261), (.bool (x261 == 0)), (.bool (x261 == 0)), tz, tz, tz, tz, tz, tz, tz, tz, tz, tz, tz, tz, tz, tz, tz, tz, tz, tz, tz, tz, tz, tz, tz, tz, tz, tz, tz, tz, tz, tz, tz, tz, tz, tz, tz, tz, tz, tz, tz, tz, tz, tz, tz, tz, tz, tz], (St.H s285)⟩))
 (none)
def r7X5_0 (C : Cb) (d : Nat) (a0 a1 a2 a3 a4 a5 a6 a7 : Int) (v0 v2 v4 v6 : AV) (x11 x12 x16 x17 x21 x22 : Int) (v23 : AV) (b43 b44 b45 : Bool) (v46 v47 v48 : AV) (x53 : Int) (b216 : Bool) (v217 : AV) (x218 : Int) (v219 v220 v221 v222 v223 v224 v225 v226 v227 v228 v229 v230 v231 v232 v233 v234 v235 v236 v237 v238 v239 v240 v241 v242 v243 v244 v245 : AV) (x249 x250 x254 x255 x259 x260 x261 : Int) (v277 : AV) (b278 b279 b280 : Bool) (v281 v282 : AV) (b283 : Bool) : St → Ans := fun s294 =>
 cnd ((List.length s294.env) == 124)
 (C.same s294.env[0]? (.agg [(iz a0), (iz a1)]) <|
 C.same s294.env[1]? (.agg [(iz a2), (iz a3)]) <|
 C.same s294.env[2]? (.agg [(iz a4), (iz a5)]) <|
 C.same s294.env[3]? (.agg [(iz a6), (iz a7)]) <|
 C.same s294.env[4]? v0 <|
 C.same s294.env[5]? v2 <|
 C.same s294.env[6]? v4 <|
 C.same s294.env[7]? v6 <|
 C.same s294.env[8]? bf <|
 C.same s294.env[9]? v23 <|
 C.same s294.env[10]? (.bool b216) <|
 C.same s294.env[11]? tz <|
 C.same s294.env[12]? v217 <|
 C.same s294.env[13]? (iz x261) <|
 C.same s294.env[14]? tz <|
 C.same s294.env[15]? tz <|
 C.same s294.env[16]? tz <|
 C.same s294.env[17]? tz <|
 C.same s294.env[18]? (.agg [(iz x11), (iz x12)]) <|
 C.same s294.env[19]? (.agg [(iz x16), (iz x17)]) <|
 C.same s294.env[20]? (.agg [(iz x21), (iz x22)]) <|
 C.same s294.env[21]? v23 <|
 C.same s294.env[22]? (.bool b43) <|
 C.same s294.env[23]? (.bool b44) <|
 C.same s294.env[24]? (.bool b45) <|
 C.same s294.env[25]? v46 <|
 C.same s294.env[26]? v47 <|
 C.same s294.env[27]? v48 <|
 C.same s294.env[28]? bf <|
 C.same s294.env[29]? tz <|
 C.same s294.env[30]? v23 <|
 C.same s294.env[31]? (iz x53) <|
 C.same s294.env[32]? (iz x218) <|
 C.same s294.env[33]? v219 <|
 C.same s294.env[34]? v220 <|
 C.same s294.env[35]? v221 <|
 C.same s294.env[36]? v222 <|
 C.same s294.env[37]? v223 <|
 C.same s294.env[38]? v224 <|
 C.same s294.env[39]? v225 <|
 C.same s294.env[40]? v226 <|
 C.same s294.env[41]? v227 <|
 C.same s294.env[42]? v228 <|
 C.same s294.env[43]? v229 <|
 C.same s294.env[44]? v230 <|
 C.same s294.env[45]? v231 <|
 C.same s294.env[46]? v232 <|
 C.same s294.env[47]? v233 <|
 C.same s294.env[48]? v234 <|
 C.same s294.env[49]? v235 <|
 C.same s294.env[50]? v236 <|
 C.same s294.env[51]? v237 <|
 C.same s294.env[52]? v238 <|
 C.same s294.env[53]? v239 <|
 C.same s294.env[54]? v240 <|
 C.same s294.env[55]? v241 <|
 C.same s294.env[56]? v242 <|
 C.same s294.env[57]? v243 <|
 C.same s294.env[58]? v244 <|
 C.same s294.env[59]? v245 <|
 C.same s294.env[60]? (.agg [(iz x249), (iz x250)]) <|
 C.same s294.env[61]? (.agg [(iz x254), (iz x255)]) <|
 C.same s294.env[62]? (.agg [(iz x259), (iz x260)]) <|
 C.same s294.env[63]? (iz x261) <|
 C.same s294.env[64]? v277 <|
 C.same s294.env[65]? (.bool b278) <|
 C.same s294.env[66]? (.bool b279) <|
 C.same s294.env[67]? (.bool b280) <|
 C.same s294.env[68]? v281 <|
 C.same s294.env[69]? v282 <|
 C.same s294.env[70]? (.bool b283) <|
 C.same s294.env[71]? bf <|
 C.bool s294.env[72]? fun b295 =>
 C.bool s294.env[73]? fun b296 =>
 C.bool s294.env[74]? fun b297 =>
 C.any s294.env[75]? fun v298 =>
 C.any s294.env[76]? fun v299 =>
 C.bool s294.env[77]? fun b300 =>
 C.same s294.env[78]? tz <|
 C.same s294.env[79]? tz <|
 C.same s294.env[80]? tz <|
 C.same s294.env[81]? tz <|
 C.same s294.env[82]? tz <|
 C.same s294.env[83]? tz <|
 C.same s294.env[84]? tz <|
 C.same s294.env[85]? tz <|
 C.same s294.env[86]? tz <|
 C.same s294.env[87]? tz <|
 C.same s294.env[88]? tz <|
 C.same s294.env[89]? tz <|
 C.same s294.env[90]? tz <|
 C.same s294.env[91]? tz <|
 C.same s294.env[92]? tz <|
 C.same s294.env[93]? tz <|
 C.same s294.env[94]? tz <|
 C.same s294.env[95]? tz <|
 C.same s294.env[96]? tz <|
 C.same s294.env[97]? tz <|
 C.same s294.env[98]? tz <|
 C.same s294.env[99]? tz <|
 C.same s294.env[100]? tz <|
 C.same s294.env[101]? tz <|
 C.same s294.env[102]? tz <|
 C.same s294.env[103]? tz <|
 C.same s294.env[104]? tz <|
 C.same s294.env[105]? tz <|
 C.same s294.env[106]? tz <|
 C.same s294.env[107]? tz <|
 C.same s294.env[108]? tz <|
 C.same s294.env[109]? tz <|
 C.same s294.env[110]? tz <|
 C.same s294.env[111]? tz <|
 C.same s294.env[112]? tz <|
 C.same s294.env[113]? tz <|
 C.same s294.env[114]? tz <|
 C.same s294.env[115]? tz <|
 C.same s294.env[116]? tz <|
 C.same s294.env[117]? tz <|
 C.same s294.env[118]? tz <|
 C.same s294.env[119]? tz <|
 C.same s294.env[120]? tz <|
 C.same s294.env[121]? tz <|
 C.same s294.env[122]? tz <|
 C.same s294.env[123]? tz <|
 cnd b300
 (C.hop (St.H s294) (.load true 2 (.v v6)) fun v301 h302 =>
 C.agg 2 (some v301) fun l303 =>
 C.int .i64 l303[0]? fun x304 =>
 C.int .i64 l303[1]? fun x305 =>
 C.snp h302 [v23, (.agg [(iz x304), (iz x305)])] fun l306 b307 =>
 C.int .i64 (pcall M d 16 l306) fun x308 =>
 cnd (b307 || true)
 (C.fin h302 (.bool (x308 == (-1))))
 (none))
 (C.hop (St.H s294) (.load true 2 (.v v0)) fun v309 h310 =>
 C.agg 2 (some v309) fun l311 =>
 C.int .i64 l311[0]? fun x312 =>
 C.int .i64 l311[1]? fun x313 =>
 C.hop h310 (.load true 2 (.v v2)) fun v314 h315 =>
 C.agg 2 (some v314) fun l316 =>
 C.int .i64 l316[0]? fun x317 =>
 C.int .i64 l316[1]? fun x318 =>
 C.hop h315 (.load true 2 (.v v6)) fun v319 h320 =>
 C.agg 2 (some v319) fun l321 =>
 C.int .i64 l321[0]? fun x322 =>
 C.int .i64 l321[1]? fun x323 =>
 C.int .i64 (pcall M d 29 [(.agg [(iz x312), (iz x313)]), (.agg [(iz x317), (iz x318)]), (.agg [(iz x322), (iz x323)])]) fun x324 =>
 C.hop h320 (.load true 2 (.v v2)) fun v325 h326 =>
 C.agg 2 (some v325) fun l327 =>
 C.int .i64 l327[0]? fun x328 =>
 C.int .i64 l327[1]? fun x329 =>
 C.hop h326 (.load true 2 (.v v4)) fun v330 h331 =>
 C.agg 2 (some v330) fun l332 =>
 C.int .i64 l332[0]? fun x333 =>
 C.int .i64 l332[1]? fun x334 =>
 C.hop h331 (.load true 2 (.v v6)) fun v335 h336 =>
 C.agg 2 (some v335) fun l337 =>
 C.int .i64 l337[0]? fun x338 =>
 C.int .i64 l337[1]? fun x339 =>
 C.int .i64 (pcall M d 29 [(.agg [(iz x328), (iz x329)]), (.agg [(iz x333), (iz x334)]), (.agg [(iz x338), (iz x339)])]) fun x340 =>
 C.hop h336 (.load true 2 (.v v4)) fun v341 h342 =>
 C.agg 2 (some v341) fun l343 =>
 C.int .i64 l343[0]? fun x344 =>
 C.int .i64 l343[1]? fun x345 =>
 C.hop h342 (.load true 2 (.v v0)) fun v346 h347 =>
 C.agg 2 (some v346) fun l348 =>
 C.int .i64 l348[0]? fun x349 =>
 C.int .i64 l348[1]? fun x350 =>
 C.hop h347 (.load true 2 (.v v6)) fun v351 h352 =>
 C.agg 2 (some v351) fun l353 =>
 C.int .i64 l353[0]? fun x354 =>
 C.int .i64 l353[1]? fun x355 =>
 C.int .i64 (pcall M d 29 [(.agg [(iz x344), (iz x345)]), (.agg [(iz x349), (iz x350)]), (.agg [(iz x354), (iz x355)])]) fun x356 =>
 C.iter (r7R6 C d a0 a1 a2 a3 a4 a5 a6 a7 v0 v2 v4 v6 x11 x12 x16 x17 x21 x22 v23 b43 b44 b45 v46 v47 v48 x53 b216 v217 x218 v219 v220 v221 v222 v223 v224 v225 v226 v227 v228 v229 v230 v231 v232 v233 v234 v235 v236 v237 v238 v239 v240 v241 v242 v243 v244 v245 x249 x250 x254 x255 x259 x260 x261 v277 b278 b279 b280 v281 v282 b283 b295 b296 b297 v298 v299 x312 x313 x317 x318 x322 x323 x324 x328 x329 x333 x334 x338 x339 x340 x344 x345 x349 x350 x354 x355 x356) 1 ⟨[(.agg [(iz a0), (iz a1)]), (.agg [(iz a2), (iz a3)]), (.agg [(iz a4), (iz a5)]), (.agg [(iz a6), (iz a7)]), v0, v2, v4, v6, bf, v23, (.bool b216), tz, v217, (iz x261), (iz (IntKind.wrap .i64 (x324 * x261))), (iz (IntKind.wrap .i64 (x340 * x261))), (iz (IntKind.wrap .i64 (x356 * x261))), (iz (-1)), (.agg [(iz x11), (iz x12)]), (.agg [(iz x16), (iz x17)]), (.agg [(iz x21), (iz x22)]), v23, (.bool b43), (.bool b44), (.bool b45), v46, v47, v48, bf, tz, v23, (iz x53), (iz x218), v219, v220, v221, v222, v223, v224, v225, v226, v227, v228, v229, v230, v231, v232, v233, v234, v235, v236, v237, v238, v239, v240, v241, v242, v243, v244, v245, (.agg [(iz x249), (iz x250)]), (.agg [(iz x254), (iz x255)]), (.agg [(iz x259), (iz x260)]), (iz x261), v277, (.bool b278), (.bool b279), (.bool b280), v281, v282, (.bool b283), bf, (.bool b295), (.bool b296), (.bool b297), v298, v299, bf, tz, tz, tz, tz, (.agg [(iz x312), (iz x313)]), (.agg [(iz x317), (iz x318)]), (.agg [(iz x322), (iz x323)]), (iz x324), (iz x261), (iz (IntKind.wrap .i64 (x324 * x261))), (.agg [(iz x328), (iz x329)]), (.agg [(iz x333), (iz x334)]), (.agg [(iz x338), (iz x339)]), (iz x340), (iz x261), (iz (IntKind.wrap .i64 (x340 * x261))), (.agg [(iz x344), (iz x345)]), (.agg [(iz x349), (iz x350)]), (.agg [(iz x354), (iz x355)]), (iz x356), (iz x261), (iz (IntKind.wrap .i64 (x356 * x261))), tz, tz, tz, tz, tz, tz, tz, tz, tz, tz, tz, tz, tz, tz, tz, tz, tz, tz, tz, tz, tz, tz, tz, tz], h352⟩ [2000000] [r7X6_0 C d a0 a1 a2 a3 a4 a5 a6 a7 v0 v2 v4 v6 x11 x12 x16 x17 x21 x22 v23 b43 b44 b45 v46 v47 v48 x53 b216 v217 x218 v219 v220 v221 v222 v223 v224 v225 v226 v227 v228 v229 v230 v231 v232 v233 v234 v235 v236 v237 v238 v239 v240 v241 v242 v243 v244 v245 x249 x250 x254 x255 x259 x260 x261 v277 b278 b279 b280 v281 v282 b283 b295 b296 b297 v298 v299 x312 x313 x317 x318 x322 x323 x324 x328 x329 x333 x334 x338 x339 x340 x344 x345 x349 x350 x354 x355 x356] (r7E6 C d a0 a1 a2 a3 a4 a5 a6 a7 v0 v2 v4 v6 x11 x12 x16 x17 x21 x22 v23 b43 b44 b45 v46 v47 v48 x53 b216 v217 x218 v219 v220 v221 v222 v223 v224 v225 v226 v227 v228 v229 v230 v231 v232 v233 v234 v235 v236 v237 v238 v239 v240 v241 v242 v243 v244 v245 x249 x250 x254 x255 x259 x260 x261 v277 b278 b279 b280 v281 v282 b283 b295 b296 b297 v298 v299 x312 x313 x317 x318 x322 x323 x324 x328 x329 x333 x334 x338 x339 x340 x344 x345 x349 x350 x354 x355 x356)))
 (none)
def r7E5 (C : Cb) (d : Nat) (a0 a1 a2 a3 a4 a5 a6 a7 : Int) (v0 v2 v4 v6 : AV) (x11 x12 x16 x17 x21 x22 : Int) (v23 : AV) (b43 b44 b45 : Bool) (v46 v47 v48 : AV) (x53 : Int) (b216 : Bool) (v217 : AV) (x218 : Int) (v219 v220 v221 v222 v223 v224 v225 v226 v227 v228 v229 v230 v231 v232 v233 v234 v235 v236 v237 v238 v239 v240 v241 v242 v243 v244 v245 : AV) (x249 x250 x254 x255 x259 x260 x261 : Int) (v277 : AV) (b278 b279 b280 : Bool) (v281 v282 : AV) (b283 : Bool) : St → Ans := fun s287 =>
 cnd ((List.length s287.env) == 124)
 (C.same s287.env[0]? (.agg [(iz a0), (iz a1)]) <|
 C.same s287.env[1]? (.agg [(iz a2), (iz a3)]) <|
 C.same s287.env[2]? (.agg [(iz a4), (iz a5)]) <|
 C.same s287.env[3]? (.agg [(iz a6), (iz a7)]) <|
 C.same s287.env[4]? v0 <|
 C.same s287.env[5]? v2 <|
 C.same s287.env[6]? v4 <|
 C.same s287.env[7]? v6 <|
 C.same s287.env[8]? bf <|
 C.same s287.env[9]? v23 <|
 C.same s287.env[10]? (.bool b216) <|
 C.same s287.env[11]? tz <|
 C.same s287.env[12]? v217 <|
 C.same s287.env[13]? (iz x261) <|
 C.same s287.env[14]? tz <|
 C.same s287.env[15]? tz <|
 C.same s287.env[16]? tz <|
 C.same s287.env[17]? tz <|
 C.same s287.env[18]? (.agg [(iz x11), (iz x12)]) <|
 C.same s287.env[19]? (.agg [(iz x16), (iz x17)]) <|
 C.same s287.env[20]? (.agg [(iz x21), (iz x22)]) <|
 C.same s287.env[21]? v23 <|
 C.same s287.env[22]? (.bool b43) <|
 C.same s287.env[23]? (.bool b44) <|
 C.same s287.env[24]? (.bool b45) <|
 C.same s287.env[25]? v46 <|
 C.same s287.env[26]? v47 <|
 C.same s287.env[27]? v48 <|
 C.same s287.env[28]? bf <|
 C.same s287.env[29]? tz <|
 C.same s287.env[30]? v23 <|
 C.same s287.env[31]? (iz x53) <|
 C.same s287.env[32]? (iz x218) <|
 C.same s287.env[33]? v219 <|
 C.same s287.env[34]? v220 <|
 C.same s287.env[35]? v221 <|
 C.same s287.env[36]? v222 <|
 C.same s287.env[37]? v223 <|
 C.same s287.env[38]? v224 <|
 C.same s287.env[39]? v225 <|
 C.same s287.env[40]? v226 <|
 C.same s287.env[41]? v227 <|
 C.same s287.env[42]? v228 <|
 C.same s287.env[43]? v229 <|
 C.same s287.env[44]? v230 <|
 C.same s287.env[45]? v231 <|
 C.same s287.env[46]? v232 <|
 C.same s287.env[47]? v233 <|
 C.same s287.env[48]? v234 <|
 C.same s287.env[49]? v235 <|
 C.same s287.env[50]? v236 <|
 C.same s287.env[51]? v237 <|
 C.same s287.env[52]? v238 <|
 C.same s287.env[53]? v239 <|
 C.same s287.env[54]? v240 <|
 C.same s287.env[55]? v241 <|
 C.same s287.env[56]? v242 <|
 C.same s287.env[57]? v243 <|
 C.same s287.env[58]? v244 <|
 C.same s287.env[59]? v245 <|
 C.same s287.env[60]? (.agg [(iz x249), (iz x250)]) <|
 C.same s287.env[61]? (.agg [(iz x254), (iz x255)]) <|
 C.same s287.env[62]? (.agg [(iz x259), (iz x260)]) <|
 C.same s287.env[63]? (iz x261) <|
 C.same s287.env[64]? v277 <|
 C.same s287.env[65]? (.bool b278) <|
 C.same s287.env[66]? (.bool b279) <|
 C.same s287.env[67]? (.bool b280) <|
 C.same s287.env[68]? v281 <|
 C.same s287.env[69]? v282 <|
 C.same s287.env[70]? (.bool b283) <|
 C.same s287.env[71]? bf <|
 C.any s287.env[72]? fun v456 =>
 C.any s287.env[73]? fun v457 =>
 C.any s287.env[74]? fun v458 =>
 C.any s287.env[75]? fun v459 =>
 C.any s287.env[76]? fun v460 =>
 C.any s287.env[77]? fun v461 =>
 C.same s287.env[78]? tz <|
 C.same s287.env[79]? tz <|
 C.same s287.env[80]? tz <|
 C.same s287.env[81]? tz <|
 C.same s287.env[82]? tz <|
 C.same s287.env[83]? tz <|
 C.same s287.env[84]? tz <|
 C.same s287.env[85]? tz <|
 C.same s287.env[86]? tz <|
 C.same s287.env[87]? tz <|
 C.same s287.env[88]? tz <|
 C.same s287.env[89]? tz <|
 C.same s287.env[90]? tz <|
 C.same s287.env[91]? tz <|
 C.same s287.env[92]? tz <|
 C.same s287.env[93]? tz <|
 C.same s287.env[94]? tz <|
 C.same s287.env[95]? tz <|
 C.same s287.env[96]? tz <|
 C.same s287.env[97]? tz <|
 C.same s287.env[98]? tz <|
 C.same s287.env[99]? tz <|
 C.same s287.env[100]? tz <|
 C.same s287.env[101]? tz <|
 C.same s287.env[102]? tz <|
 C.same s287.env[103]? tz <|
 C.same s287.env[104]? tz <|
 C.same s287.env[105]? tz <|
 C.same s287.env[106]? tz <|
 C.same s287.env[107]? tz <|
 C.same s287.env[108]? tz <|
 C.same s287.env[109]? tz <|
 C.same s287.env[110]? tz <|
 C.same s287.env[111]? tz <|
 C.same s287.env[112]? tz <|
 C.same s287.env[113]? tz <|
 C.same s287.env[114]? tz <|
 C.same s287.env[115]? tz <|
 C.same s287.env[116]? tz <|
 C.same s287.env[117]? tz <|
 C.same s287.env[118]? tz <|
 C.same s287.env[119]? tz <|
 C.same s287.env[120]? tz <|
 C.same s287.env[121]? tz <|
 C.same s287.env[122]? tz <|
 C.same s287.env[123]? tz <|
 none)
 (none)
def r7R4 (C : Cb) (d : Nat) (a0 a1 a2 a3 a4 a5 a6 a7 : Int) (v0 v2 v4 v6 : AV) (x11 x12 x16 x17 x21 x22 : Int) (v23 : AV) (b43 b44 b45 : Bool) (v46 v47 v48 : AV) (x53 : Int) (b216 : Bool) (v217 : AV) (x218 : Int) (v219 v220 v221 v222 v223 v224 v225 v226 v227 v228 v229 v230 v231 v232 v233 v234 v235 v236 v237 v238 v239 v240 v241 v242 v243 v244 v245 : AV) (x249 x250 x254 x255 x259 x260 x261 : Int) : St → (Ex → St → Ans) → Ans := fun s262 k263 =>
 cnd ((List.length s262.env) == 124)
 (C.same s262.env[0]? (.agg [(iz a0), (iz a1)]) <|
 C.same s262.env[1]? (.agg [(iz a2), (iz a3)]) <|
 C.same s262.env[2]? (.agg [(iz a4), (iz a5)]) <|
 C.same s262.env[3]? (.agg [(iz a6), (iz a7)]) <|
 C.same s262.env[4]? v0 <|
 C.same s262.env[5]? v2 <|
 C.same s262.env[6]? v4 <|
 C.same s262.env[7]? v6 <|
 C.same s262.env[8]? bf <|
 C.same s262.env[9]? v23 <|
 C.same s262.env[10]? (.bool b216) <|
 C.same s262.env[11]? tz <|
 C.same s262.env[12]? v217 <|
 C.same s262.env[13]? (iz x261) <|
 C.same s262.env[14]? tz <|
 C.same s262.env[15]? tz <|
 C.same s262.env[16]? tz <|
 C.same s262.env[17]? tz <|
 C.same s262.env[18]? (.agg [(iz x11), (iz x12)]) <|
 C.same s262.env[19]? (.agg [(iz x16), (iz x17)]) <|
 C.same s262.env[20]? (.agg [(iz x21), (iz x22)]) <|
 C.same s262.env[21]? v23 <|
 C.same s262.env[22]? (.bool b43) <|
 C.same s262.env[23]? (.bool b44) <|
 C.same s262.env[24]? (.bool b45) <|
 C.same s262.env[25]? v46 <|
 C.same s262.env[26]? v47 <|
 C.same s262.env[27]? v48 <|
 C.same s262.env[28]? bf <|
 C.same s262.env[29]? tz <|
 C.same s262.env[30]? v23 <|
 C.same s262.env[31]? (iz x53) <|
 C.same s262.env[32]? (iz x218) <|
 C.same s262.env[33]? v219 <|
 C.same s262.env[34]? v220 <|
 C.same s262.env[35]? v221 <|
 C.same s262.env[36]? v222 <|
 C.same s262.env[37]? v223 <|
 C.same s262.env[38]? v224 <|
 C.same s262.env[39]? v225 <|
 C.same s262.env[40]? v226 <|
 C.same s262.env[41]? v227 <|
 C.same s262.env[42]? v228 <|
 C.same s262.env[43]? v229 <|
 C.same s262.env[44]? v230 <|
 C.same s262.env[45]? v231 <|
 C.same s262.env[46]? v232 <|
 C.same s262.env[47]? v233 <|
 C.same s262.env[48]? v234 <|
 C.same s262.env[49]? v235 <|
 C.same s262.env[50]? v236 <|
 C.same s262.env[51]? v237 <|
 C.same s262.env[52]? v238 <|
 C.same s262.env[53]? v239 <|
 C.same s262.env[54]? v240 <|
 C.same s262.env[55]? v241 <|
 C.same s262.env[56]? v242 <|
 C.same s262.env[57]? v243 <|
 C.same s262.env[58]? v244 <|
 C.same s262.env[59]? v245 <|
 C.same s262.env[60]? (.agg [(iz x249), (iz x250)]) <|
 C.same s262.env[61]? (.agg [(iz x254), (iz x255)]) <|
 C.same s262.env[62]? (.agg [(iz x259), (iz x260)]) <|
 C.same s262.env[63]? (iz x261) <|
 C.any s262.env[64]? fun v265 =>
 C.any s262.env[65]? fun v266 =>
 C.any s262.env[66]? fun v267 =>
 C.any s262.env[67]? fun v268 =>
 C.any s262.env[68]? fun v269 =>
 C.any s262.env[69]? fun v270 =>
 C.any s262.env[70]? fun v271 =>
 C.any s262.env[71]? fun v272 =>
 C.same s262.env[72]? tz <|
 C.same s262.env[73]? tz <|
 C.same s262.env[74]? tz <|
 C.same s262.env[75]? tz <|
 C.same s262.env[76]? tz <|
 C.same s262.env[77]? tz <|
 C.same s262.env[78]? tz <|
 C.same s262.env[79]? tz <|
 C.same s262.env[80]? tz <|
 C.same s262.env[81]? tz <|
 C.same s262.env[82]? tz <|
 C.same s262.env[83]? tz <|
 C.same s262.env[84]? tz <|
 C.same s262.env[85]? tz <|
 C.same s262.env[86]? tz <|
 C.same s262.env[87]? tz <|
 C.same s262.env[88]? tz <|
 C.same s262.env[89]? tz <|
 C.same s262.env[90]? tz <|
 C.same s262.env[91]? tz <|
 C.same s262.env[92]? tz <|
 C.same s262.env[93]? tz <|
 C.same s262.env[94]? tz <|
 C.same s262.env[95]? tz <|
 C.same s262.env[96]? tz <|
 C.same s262.env[97]? tz <|
 C.same s262.env[98]? tz <|
 C.same s262.env[99]? tz <|
 C.same s262.env[100]? tz <|
 C.same s262.env[101]? tz <|
 C.same s262.env[102]? tz <|
 C.same s262.env[103]? tz <|
 C.same s262.env[104]? tz <|
 C.same s262.env[105]? tz <|
 C.same s262.env[106]? tz <|
 C.same s262.env[107]? tz <|
 C.same s262.env[108]? tz <|
 C.same s262.env[109]? tz <|
 C.same s262.env[110]? tz <|
 C.same s262.env[111]? tz <|
 C.same s262.env[112]? tz <|
 C.same s262.env[113]? tz <|
 C.same s262.env[114]? tz <|
 C.same s262.env[115]? tz <|
 C.same s262.env[116]? tz <|
 C.same s262.env[117]? tz <|
 C.same s262.env[118]? tz <|
 C.same s262.env[119]? tz <|
 C.same s262.env[120]? tz <|
 C.same s262.env[121]? tz <|
 C.same s262.env[122]? tz <|
 C.same s262.env[123]? tz <|
 C.snp (St.H s262) [v23] fun l273 b274 =>
 C.bool (pcall M d 15 l273) fun b275 =>
 cnd (b274 || true)
 (cnd b216
 (k263 (.exit 2000000) ⟨[(.agg [(iz a0), (iz a1)]), (.agg [(iz a2), (iz a3)]), (.agg [(iz a4), (iz a5)]), (.agg [(iz a6), (iz a7)]), v0, v2, v4, v6, bf, v23, (.bool b216), tz, v217, (iz x261), tz, tz, tz, tz, (.agg [(iz x11), (iz x12)]), (.agg [(iz x16), (iz x17)]), (.agg [(iz x21), (iz x22)]), v23, (.bool b43), (.bool b44), (.bool b45), v46, v47, v48, bf, tz, v23, (iz x53), (iz x218), v219, v220, v221, v222, v223, v224, v225, v226, v227, v228, v229, v230, v231, v232, v233, v234, v235, v236, v237, v238, v239, v240, v241, v242, v243, v244, v245, (.agg [(iz x249), (iz x250)]), (.agg [(iz x254), (iz x255)]), (.agg [(iz x259), (iz x260)]), (iz x261), v23, (.bool b275), (.bool b216), bt, (iz x261), (.bool (x261 != 0)), (.bool (x261 != 0)), (.bool (xor true (b275 == (x261 != 0)))), tz, tz, tz, tz, tz, tz, tz, tz, tz, tz, tz, tz, tz, tz, tz, tz, tz, tz, tz, tz, tz, tz, tz, tz, tz, tz, tz, tz, tz, tz, tz, tz, tz, tz, tz, tz, tz, tz, tz, tz, tz, tz, tz, tz, tz, tz, tz, tz, tz, tz, tz, tz], (St.H s262)⟩)
 (k263 (.exit 2000000) ⟨[(.agg [(iz a0), (iz a1)]), (.agg [(iz a2), (iz a3)]), (.agg [(iz a4), (iz a5)]), (.agg [(iz a6), (iz a7)]), v0, v2, v4, v6, bf, v23, (.bool b216), tz, v217, (iz x261), tz, tz, tz, tz, (.agg [(iz x11), (iz x12)]), (.agg [(iz x16), (iz x17)]), (.agg [(iz x21), (iz x22)]), v23, (.bool b43), (.bool b44), (.bool b45), v46, v47, v48, bf, tz, v23, (iz x53), (iz x218), v219, v220, v221, v222, v223, v224, v225, v226, v227, v228, v229, v230, v231, v232, v233, v234, v235, v236, v237, v238, v239, v240, v241, v242, v243, v244, v245, (.agg [(iz x249), (iz x250)]), (.agg [(iz x254), (iz x255)]), (.agg [(iz x259), (iz x260)]), (iz x261), v23, (.bool b275), (.bool b216), bf, tz, tz, bf, (.bool (xor true (b275 == false))), tz, tz, tz, tz, tz, tz, tz, tz, tz, tz, tz, tz, tz, tz, tz, tz, tz, tz, tz, tz, tz, tz, tz, tz, tz, tz, tz, tz, tz, tz, tz, tz, tz, tz, tz, tz, tz, tz, tz, tz, tz, tz, tz, tz, tz, tz, tz, tz, tz, tz, tz, tz], (St.H s262)⟩))
 (none))
 (none)
def r7X4_0 (C : Cb) (d : Nat) (a0 a1 a2 a3 a4 a5 a6 a7 : Int) (v0 v2 v4 v6 : AV) (x11 x12 x16 x17 x21 x22 : Int) (v23 : AV) (b43 b44 b45 : Bool) (v46 v47 v48 : AV) (x53 : Int) (b216 : Bool) (v217 : AV) (x218 : Int) (v219 v220 v221 v222 v223 v224 v225 v226 v227 v228 v229 v230 v231 v232 v233 v234 v235 v236 v237 v238 v239 v240 v241 v242 v243 v244 v245 : AV) (x249 x250 x254 x255 x259 x260 x261 : Int) : St → Ans := fun s276 =>
 cnd ((List.length s276.env) == 124)
 (C.same s276.env[0]? (.agg [(iz a0), (iz a1)]) <|
 C.same s276.env[1]? (.agg [(iz a2), (iz a3)]) <|
 C.same s276.env[2]? (.agg [(iz a4), (iz a5)]) <|
 C.same s276.env[3]? (.agg [(iz a6), (iz a7)]) <|
 C.same s276.env[4]? v0 <|
 C.same s276.env[5]? v2 <|
 C.same s276.env[6]? v4 <|
 C.same s276.env[7]? v6 <|
 C.same s276.env[8]? bf <|
 C.same s276.env[9]? v23 <|
 C.same s276.env[10]? (.bool b216) <|
 C.same s276.env[11]? tz <|
 C.same s276.env[12]? v217 <|
 C.same s276.env[13]? (iz x261) <|
 C.same s276.env[14]? tz <|
 C.same s276.env[15]? tz <|
 C.same s276.env[16]? tz <|
 C.same s276.env[17]? tz <|
 C.same s276.env[18]? (.agg [(iz x11), (iz x12)]) <|
 C.same s276.env[19]? (.agg [(iz x16), (iz x17)]) <|
 C.same s276.env[20]? (.agg [(iz x21), (iz x22)]) <|
 C.same s276.env[21]? v23 <|
 C.same s276.env[22]? (.bool b43) <|
 C.same s276.env[23]? (.bool b44) <|
 C.same s276.env[24]? (.bool b45) <|
 C.same s276.env[25]? v46 <|
 C.same s276.env[26]? v47 <|
 C.same s276.env[27]? v48 <|
 C.same s276.env[28]? bf <|
 C.same s276.env[29]? tz <|
 C.same s276.env[30]? v23 <|
 C.same s276.env[31]? (iz x53) <|
 C.same s276.env[32]? (iz x218) <|
 C.same s276.env[33]? v219 <|
 C.same s276.env[34]? v220 <|
 C.same s276.env[35]? v221 <|
 C.same s276.env[36]? v222 <|
 C.same s276.env[37]? v223 <|
 C.same s276.env[38]? v224 <|
 C.same s276.env[39]? v225 <|
 C.same s276.env[40]? v226 <|
 C.same s276.env[41]? v227 <|
 C.same s276.env[42]? v228 <|
 C.same s276.env[43]? v229 <|
 C.same s276.env[44]? v230 <|
 C.same s276.env[45]? v231 <|
 C.same s276.env[46]? v232 <|
 C.same s276.env[47]? v233 <|
 C.same s276.env[48]? v234 <|
 C.same s276.env[49]? v235 <|
 C.same s276.env[50]? v236 <|
 C.same s276.env[51]? v237 <|
 C.same s276.env[52]? v238 <|
 C.same s276.env[53]? v239 <|
 C.same s276.env[54]? v240 <|
 C.same s276.env[55]? v241 <|
 C.same s276.env[56]? v242 <|
 C.same s276.env[57]? v243 <|
 C.same s276.env[58]? v244 <|
 C.same s276.env[59]? v245 <|
 C.same s276.env[60]? (.agg [(iz x249), (iz x250)]) <|
 C.same s276.env[61]? (.agg [(iz x254), (iz x255)]) <|
 C.same s276.env[62]? (.agg [(iz x259), (iz x260)]) <|
 C.same s276.env[63]? (iz x261) <|
 C.any s276.env[64]? fun v277 =>
 C.bool s276.env[65]? fun b278 =>
 C.bool s276.env[66]? fun b279 =>
 C.bool s276.env[67]? fun b280 =>
 C.any s276.env[68]? fun v281 =>
 C.any s276.env[69]? fun v282 =>
 C.bool s276.env[70]? fun b283 =>
 C.bool s276.env[71]? fun b284 =>
 C.same s276.env[72]? tz <|
 C.same s276.env[73]? tz <|
 C.same s276.env[74]? tz <|
 C.same s276.env[75]? tz <|
 C.same s276.env[76]? tz <|
 C.same s276.env[77]? tz <|
 C.same s276.env[78]? tz <|
 C.same s276.env[79]? tz <|
 C.same s276.env[80]? tz <|
 C.same s276.env[81]? tz <|
 C.same s276.env[82]? tz <|
 C.same s276.env[83]? tz <|
 C.same s276.env[84]? tz <|
 C.same s276.env[85]? tz <|
 C.same s276.env[86]? tz <|
 C.same s276.env[87]? tz <|
 C.same s276.env[88]? tz <|
 C.same s276.env[89]? tz <|
 C.same s276.env[90]? tz <|
 C.same s276.env[91]? tz <|
 C.same s276.env[92]? tz <|
 C.same s276.env[93]? tz <|
 C.same s276.env[94]? tz <|
 C.same s276.env[95]? tz <|
 C.same s276.env[96]? tz <|
 C.same s276.env[97]? tz <|
 C.same s276.env[98]? tz <|
 C.same s276.env[99]? tz <|
 C.same s276.env[100]? tz <|
 C.same s276.env[101]? tz <|
 C.same s276.env[102]? tz <|
 C.same s276.env[103]? tz <|
 C.same s276.env[104]? tz <|
 C.same s276.env[105]? tz <|
 C.same s276.env[106]? tz <|
 C.same s276.env[107]? tz <|
 C.same s276.env[108]? tz <|
 C.same s276.env[109]? tz <|
 C.same s276.env[110]? tz <|
 C.same s276.env[111]? tz <|
 C.same s276.env[112]? tz <|
 C.same s276.env[113]? tz <|
 C.same s276.env[114]? tz <|
 C.same s276.env[115]? tz <|
 C.same s276.env[116]? tz <|
 C.same s276.env[117]? tz <|
 C.same s276.env[118]? tz <|
 C.same s276.env[119]? tz <|
 C.same s276.env[120]? tz <|
 C.same s276.env[121]? tz <|
 C.same s276.env[122]? tz <|
 C.same s276.env[123]? tz <|
 cnd b284
 (C.fin (St.H s276) bf)
 (C.iter (r7R5 C d a0 a1 a2 a3 a4 a5 a6 a7 v0 v2 v4 v6 x11 x12 x16 x17 x21 x22 v23 b43 b44 b45 v46 v47 v48 x53 b216 v217 x218 v219 v220 v221 v222 v223 v224 v225 v226 v227 v228 v229 v230 v231 v232 v233 v234 v235 v236 v237 v238 v239 v240 v241 v242 v243 v244 v245 x249 x250 x254 x255 x259 x260 x261 v277 b278 b279 b280 v281 v282 b283) 1 ⟨[(.agg [(iz a0), (iz a1)]), (.agg [(iz a2), (iz a3)]), (.agg [(iz a4), (iz a5)]), (.agg [(iz a6), (iz a7)]), v0, v2, v4, v6, bf, v23, (.bool b216), tz, v217, (iz x261), tz, tz, tz, tz, (.agg [(iz x11), (iz x12)]), (.agg [(iz x16), (iz x17)]), (.agg [(iz x21), (iz x22)]), v23, (.bool b43), (.bool b44), (.bool b45), v46, v47, v48, bf, tz, v23, (iz x53), (iz x218), v219, v220, v221, v222, v223, v224, v225, v226, v227, v228, v229, v230, v231, v232, v233, v234, v235, v236, v237, v238, v239, v240, v241, v242, v243, v244, v245, (.agg [(iz x249), (iz x250)]), (.agg [(iz x254), (iz x255)]), (.agg [(iz x259), (iz x260)]), (iz x261), v277, (.bool b278), (.bool b279), (.bool b280), v281, v282, (.bool b283), bf, tz, tz, tz, tz, tz, tz, tz, tz, tz, tz, tz, tz, tz, tz, tz, tz, tz, tz, tz, tz, tz, tz, tz, tz, tz, tz, tz, tz, tz, tz, tz, tz, tz, tz, tz, tz, tz, tz, tz, tz, tz, tz, tz, tz, tz, tz, tz, tz, tz, tz, tz, tz], (St.H s276)⟩ [2000000] [r7X5_0 C d a0 a1 a2 a3 a4 a5 a6 a7 v0 v2 v4 v6 x11 x12 x16 x17 x21 x22 v23 b43 b44 b45 v46 v47 v48 x53 b216 v217 x218 v219 v220 v221 v222 v223 v224 v225 v226 v227 v228 v229 v230 v231 v232 v233 v234 v235 v236 v237 v238 v239 v240 v241 v242 v243 v244 v245 x249 x250 x254 x255 x259 x260 x261 v277 b278 b279 b280 v281 v282 b283] (r7E5 C d a0 a1 a2 a3 a4 a5 a6 a7 v0 v2 v4 v6 x11 x12 x16 x17 x21 x22 v23 b43 b44 b45 v46 v47 v48 x53 b216 v217 x218 v219 v220 v221 v222 v223 v224 v225 v226 v227 v228 v229 v230 v231 v232 v233 v234 v235 v236 v237 v238 v239 v240 v241 v242 v243 v244 v245 x249 x250 x254 x255 x259 x260 x261 v277 b278 b279 b280 v281 v282 b283)))
 (none)
def r7E4 (C : Cb) (d : Nat) (a0 a1 a2 a3 a4 a5 a6 a7 : Int) (v0 v2 v4 v6 : AV) (x11 x12 x16 x17 x21 x22 : Int) (v23 : AV) (b43 b44 b45 : Bool) (v46 v47 v48 : AV) (x53 : Int) (b216 : Bool) (v217 : AV) (x218 : Int) (v219 v220 v221 v222 v223 v224 v225 v226 v227 v228 v229 v230 v231 v232 v233 v234 v235 v236 v237 v238 v239 v240 v241 v242 v243 v244 v245 : AV) (x249 x250 x254 x255 x259 x260 x261 : Int) : St → Ans := fun s264 =>
 cnd ((List.length s264.env) == 124)
 (C.same s264.env[0]? (.agg [(iz a0), (iz a1)]) <|
 C.same s264.env[1]? (.agg [(iz a2), (iz a3)]) <|
 C.same s264.env[2]? (.agg [(iz a4), (iz a5)]) <|
 C.same s264.env[3]? (.agg [(iz a6), (iz a7)]) <|
 C.same s264.env[4]? v0 <|
 C.same s264.env[5]? v2 <|
 C.same s264.env[6]? v4 <|
 C.same s264.env[7]? v6 <|
 C.same s264.env[8]? bf <|
 C.same s264.env[9]? v23 <|
 C.same s264.env[10]? (.bool b216) <|
 C.same s264.env[11]? tz <|
 C.same s264.env[12]? v217 <|
 C.same s264.env[13]? (iz x261) <|
 C.same s264.env[14]? tz <|
 C.same s264.env[15]? tz <|
 C.same s264.env[16]? tz <|
 C.same s264.env[17]? tz <|
 C.same s264.env[18]? (.agg [(iz x11), (iz x12)]) <|
 C.same s264.env[19]? (.agg [(iz x16), (iz x17)]) <|
 C.same s264.env[20]? (.agg [(iz x21), (iz x22)]) <|
 C.same s264.env[21]? v23 <|
 C.same s264.env[22]? (.bool b43) <|
 C.same s264.env[23]? (.bool b44) <|
 C.same s264.env[24]? (.bool b45) <|
 C.same s264.env[25]? v46 <|
 C.same s264.env[26]? v47 <|
 C.same s264.env[27]? v48 <|
 C.same s264.env[28]? bf <|
 C.same s264.env[29]? tz <|
 C.same s264.env[30]? v23 <|
 C.same s264.env[31]? (iz x53) <|
 C.same s264.env[32]? (iz x218) <|
 C.same s264.env[33]? v219 <|
 C.same s264.env[34]? v220 <|
 C.same s264.env[35]? v221 <|
 C.same s264.env[36]? v222 <|
 C.same s264.env[37]? v223 <|
 C.same s264.env[38]? v224 <|
 C.same s264.env[39]? v225 <|
 C.same s264.env[40]? v226 <|
 C.same s264.env[41]? v227 <|
 C.same s264.env[42]? v228 <|
 C.same s264.env[43]? v229 <|
 C.same s264.env[44]? v230 <|
 C.same s264.env[45]? v231 <|
 C.same s264.env[46]? v232 <|
 C.same s264.env[47]? v233 <|
 C.same s264.env[48]? v234 <|
 C.same s264.env[49]? v235 <|
 C.same s264.env[50]? v236 <|
 C.same s264.env[51]? v237 <|
 C.same s264.env[52]? v238 <|
 C.same s264.env[53]? v239 <|
 C.same s264.env[54]? v240 <|
 C.same s264.env[55]? v241 <|
 C.same s264.env[56]? v242 <|
 C.same s264.env[57]? v243 <|
 C.same s264.env[58]? v244 <|
 C.same s264.env[59]? v245 <|
 C.same s264.env[60]? (.agg [(iz x249), (iz x250)]) <|
 C.same s264.env[61]? (.agg [(iz x254), (iz x255)]) <|
 C.same s264.env[62]? (.agg [(iz x259), (iz x260)]) <|
 C.same s264.env[63]? (iz x261) <|
 C.any s264.env[64]? fun v462 =>
 C.any s264.env[65]? fun v463 =>
 C.any s264.env[66]? fun v464 =>
 C.any s264.env[67]? fun v465 =>
 C.any s264.env[68]? fun v466 =>
 C.any s264.env[69]? fun v467 =>
 C.any s264.env[70]? fun v468 =>
 C.any s264.env[71]? fun v469 =>
 C.same s264.env[72]? tz <|
 C.same s264.env[73]? tz <|
 C.same s264.env[74]? tz <|
 C.same s264.env[75]? tz <|
 C.same s264.env[76]? tz <|
 C.same s264.env[77]? tz <|
 C.same s264.env[78]? tz <|
 C.same s264.env[79]? tz <|
 C.same s264.env[80]? tz <|
 C.same s264.env[81]? tz <|
 C.same s264.env[82]? tz <|
 C.same s264.env[83]? tz <|
 C.same s264.env[84]? tz <|
 C.same s264.env[85]? tz <|
 C.same s264.env[86]? tz <|
 C.same s264.env[87]? tz <|
 C.same s264.env[88]? tz <|
 C.same s264.env[89]? tz <|
 C.same s264.env[90]? tz <|
 C.same s264.env[91]? tz <|
 C.same s264.env[92]? tz <|
 C.same s264.env[93]? tz <|
 C.same s264.env[94]? tz <|
 C.same s264.env[95]? tz <|
 C.same s264.env[96]? tz <|
 C.same s264.env[97]? tz <|
 C.same s264.env[98]? tz <|
 C.same s264.env[99]? tz <|
 C.same s264.env[100]? tz <|
 C.same s264.env[101]? tz <|
 C.same s264.env[102]? tz <|
 C.same s264.env[103]? tz <|
 C.same s264.env[104]? tz <|
 C.same s264.env[105]? tz <|
 C.same s264.env[106]? tz <|
 C.same s264.env[107]? tz <|
 C.same s264.env[108]? tz <|
 C.same s264.env[109]? tz <|
 C.same s264.env[110]? tz <|
 C.same s264.env[111]? tz <|
 C.same s264.env[112]? tz <|
 C.same s264.env[113]? tz <|
 C.same s264.env[114]? tz <|
 C.same s264.env[115]? tz <|
 C.same s264.env[116]? tz <|
 C.same s264.env[117]? tz <|
 C.same s264.env[118]? tz <|
 C.same s264.env[119]? tz <|
 C.same s264.env[120]? tz <|
 C.same s264.env[121]? tz <|
 C.same s264.env[122]? tz <|
 C.same s264.env[123]? tz <|
 none)
 (none)
def r7R1 (C : Cb) (d : Nat) (a0 a1 a2 a3 a4 a5 a6 a7 : Int) (v0 v2 v4 v6 : AV) (x11 x12 x16 x17 x21 x22 : Int) (v23 : AV) (b43 b44 b45 : Bool) (v46 v47 v48 : AV) (x53 : Int) : St → (Ex → St → Ans) → Ans := fun s54 k55 =>
 cnd ((List.length s54.env) == 124)
 (C.same s54.env[0]? (.agg [(iz a0), (iz a1)]) <|
 C.same s54.env[1]? (.agg [(iz a2), (iz a3)]) <|
 C.same s54.env[2]? (.agg [(iz a4), (iz a5)]) <|
 C.same s54.env[3]? (.agg [(iz a6), (iz a7)]) <|
 C.same s54.env[4]? v0 <|
 C.same s54.env[5]? v2 <|
 C.same s54.env[6]? v4 <|
 C.same s54.env[7]? v6 <|
 C.same s54.env[8]? bf <|
 C.same s54.env[9]? v23 <|
 C.bool s54.env[10]? fun b57 =>
 C.same s54.env[11]? tz <|
 C.any s54.env[12]? fun v58 =>
 C.same s54.env[13]? tz <|
 C.same s54.env[14]? tz <|
 C.same s54.env[15]? tz <|
 C.same s54.env[16]? tz <|
 C.same s54.env[17]? tz <|
 C.same s54.env[18]? (.agg [(iz x11), (iz x12)]) <|
 C.same s54.env[19]? (.agg [(iz x16), (iz x17)]) <|
 C.same s54.env[20]? (.agg [(iz x21), (iz x22)]) <|
 C.same s54.env[21]? v23 <|
 C.same s54.env[22]? (.bool b43) <|
 C.same s54.env[23]? (.bool b44) <|
 C.same s54.env[24]? (.bool b45) <|
 C.same s54.env[25]? v46 <|
 C.same s54.env[26]? v47 <|
 C.same s54.env[27]? v48 <|
 C.same s54.env[28]? bf <|
 C.same s54.env[29]? tz <|
 C.same s54.env[30]? v23 <|
 C.same s54.env[31]? (iz x53) <|
 C.int .i64 s54.env[32]? fun x59 =>
 C.any s54.env[33]? fun v60 =>
 C.any s54.env[34]? fun v61 =>
 C.any s54.env[35]? fun v62 =>
 C.any s54.env[36]? fun v63 =>
 C.any s54.env[37]? fun v64 =>
 C.any s54.env[38]? fun v65 =>
 C.any s54.env[39]? fun v66 =>
 C.any s54.env[40]? fun v67 =>
 C.any s54.env[41]? fun v68 =>
 C.any s54.env[42]? fun v69 =>
 C.any s54.env[43]? fun v70 =>
 C.any s54.env[44]? fun v71 =>
 C.any s54.env[45]? fun v72 =>
 C.any s54.env[46]? fun v73 =>
 C.any s54.env[47]? fun v74 =>
 C.any s54.env[48]? fun v75 =>
 C.any s54.env[49]? fun v76 =>
 C.any s54.env[50]? fun v77 =>
 C.any s54.env[51]? fun v78 =>
 C.any s54.env[52]? fun v79 =>
 C.any s54.env[53]? fun v80 =>
 C.any s54.env[54]? fun v81 =>
 C.any s54.env[55]? fun v82 =>
 C.any s54.env[56]? fun v83 =>
 C.any s54.env[57]? fun v84 =>
 C.any s54.env[58]? fun v85 =>
 C.any s54.env[59]? fun v86 =>
 C.same s54.env[60]? tz <|
 C.same s54.env[61]? tz <|
 C.same s54.env[62]? tz <|
 C.same s54.env[63]? tz <|
 C.same s54.env[64]? tz <|
 C.same s54.env[65]? tz <|
 C.same s54.env[66]? tz <|
 C.same s54.env[67]? tz <|
 C.same s54.env[68]? tz <|
 C.same s54.env[69]? tz <|
 C.same s54.env[70]? tz <|
 C.same s54.env[71]? tz <|
 C.same s54.env[72]? tz <|
 C.same s54.env[73]? tz <|
 C.same s54.env[74]? tz <|
 C.same s54.env[75]? tz <|
 C.same s54.env[76]? tz <|
 C.same s54.env[77]? tz <|
 C.same s54.env[78]? tz <|
 C.same s54.env[79]? tz <|
 C.same s54.env[80]? tz <|
 C.same s54.env[81]? tz <|
 C.same s54.env[82]? tz <|
 C.same s54.env[83]? tz <|
 C.same s54.env[84]? tz <|
 C.same s54.env[85]? tz <|
 C.same s54.env[86]? tz <|
 C.same s54.env[87]? tz <|
 C.same s54.env[88]? tz <|
 C.same s54.env[89]? tz <|
 C.same s54.env[90]? tz <|
 C.same s54.env[91]? tz <|
 C.same s54.env[92]? tz <|
 C.same s54.env[93]? tz <|
 C.same s54.env[94]? tz <|
 C.same s54.env[95]? tz <|
 C.same s54.env[96]? tz <|
 C.same s54.env[97]? tz <|
 C.same s54.env[98]? tz <|
 C.same s54.env[99]? tz <|
 C.same s54.env[100]? tz <|
 C.same s54.env[101]? tz <|
 C.same s54.env[102]? tz <|
 C.same s54.env[103]? tz <|
 C.same s54.env[104]? tz <|
 C.same s54.env[105]? tz <|
 C.same s54.env[106]? tz <|
 C.same s54.env[107]? tz <|
 C.same s54.env[108]? tz <|
 C.same s54.env[109]? tz <|
 C.same s54.env[110]? tz <|
 C.same s54.env[111]? tz <|
 C.same s54.env[112]? tz <|
 C.same s54.env[113]? tz <|
 C.same s54.env[114]? tz <|
 C.same s54.env[115]? tz <|
 C.same s54.env[116]? tz <|
 C.same s54.env[117]? tz <|
 C.same s54.env[118]? tz <|
 C.same s54.env[119]? tz <|
 C.same s54.env[120]? tz <|
 C.same s54.env[121]? tz <|
 C.same s54.env[122]? tz <|
 C.same s54.env[123]? tz <|
 cnd (decide (x59 < x53))
 (C.iter (r7R2 C d a0 a1 a2 a3 a4 a5 a6 a7 v0 v2 v4 v6 x11 x12 x16 x17 x21 x22 v23 b43 b44 b45 v46 v47 v48 x53 k55 x59 v86) 1 ⟨[(.agg [(iz a0), (iz a1)]), (.agg [(iz a2), (iz a3)]), (.agg [(iz a4), (iz a5)]), (.agg [(iz a6), (iz a7)]), v0, v2, v4, v6, bf, v23, (.bool b57), tz, v58, tz, tz, tz, tz, tz, (.agg [(iz x11), (iz x12)]), (.agg [(iz x16), (iz x17)]), (.agg [(iz x21), (iz x22)]), v23, (.bool b43), (.bool b44), (.bool b45), v46, v47, v48, bf, tz, v23, (iz x53), (iz x59), bt, v61, v62, v63, v64, v65, v66, v67, v68, v69, v70, v71, v72, v73, v74, v75, v76, v77, v78, v79, v80, v81, v82, v83, v84, v85, v86, tz, tz, tz, tz, tz, tz, tz, tz, tz, tz, tz, tz, tz, tz, tz, tz, tz, tz, tz, tz, tz, tz, tz, tz, tz, tz, tz, tz, tz, tz, tz, tz, tz, tz, tz, tz, tz, tz, tz, tz, tz, tz, tz, tz, tz, tz, tz, tz, tz, tz, tz, tz, tz, tz, tz, tz, tz, tz, tz, tz, tz, tz, tz, tz], (St.H s54)⟩ [2000000] [r7X2_0 C d a0 a1 a2 a3 a4 a5 a6 a7 v0 v2 v4 v6 x11 x12 x16 x17 x21 x22 v23 b43 b44 b45 v46 v47 v48 x53 k55 x59 v86] (r7E2 C d a0 a1 a2 a3 a4 a5 a6 a7 v0 v2 v4 v6 x11 x12 x16 x17 x21 x22 v23 b43 b44 b45 v46 v47 v48 x53 k55 x59 v86))
 (k55 (.exit 0) ⟨[(.agg [(iz a0), (iz a1)]), (.agg [(iz a2), (iz a3)]), (.agg [(iz a4), (iz a5)]), (.agg [(iz a6), (iz a7)]), v0, v2, v4, v6, bf, v23, (.bool b57), tz, v58, tz, tz, tz, tz, tz, (.agg [(iz x11), (iz x12)]), (.agg [(iz x16), (iz x17)]), (.agg [(iz x21), (iz x22)]), v23, (.bool b43), (.bool b44), (.bool b45), v46, v47, v48, bf, tz, v23, (iz x53), (iz x59), bf, v61, v62, v63, v64, v65, v66, v67, v68, v69, v70, v71, v72, v73, v74, v75, v76, v77, v78, v79, v80, v81, v82, v83, v84, v85, v86, tz, tz, tz, tz, tz, tz, tz, tz, tz, tz, tz, tz, tz, tz, tz, tz, tz, tz, tz, tz, tz, tz, tz, tz, tz, tz, tz, tz, tz, tz, tz, tz, tz, tz, tz, tz, tz, tz, tz, tz, tz, tz, tz, tz, tz, tz, tz, tz, tz, tz, tz, tz, tz, tz, tz, tz, tz, tz, tz, tz, tz, tz, tz, tz], (St.H s54)⟩))
 (none)
def r7X1_0 (C : Cb) (d : Nat) (a0 a1 a2 a3 a4 a5 a6 a7 : Int) (v0 v2 v4 v6 : AV) (x11 x12 x16 x17 x21 x22 : Int) (v23 : AV) (b43 b44 b45 : Bool) (v46 v47 v48 : AV) (x53 : Int) : St → Ans := fun s215 =>
 cnd ((List.length s215.env) == 124)
 (C.same s215.env[0]? (.agg [(iz a0), (iz a1)]) <|
 C.same s215.env[1]? (.agg [(iz a2), (iz a3)]) <|
 C.same s215.env[2]? (.agg [(iz a4), (iz a5)]) <|
 C.same s215.env[3]? (.agg [(iz a6), (iz a7)]) <|
 C.same s215.env[4]? v0 <|
 C.same s215.env[5]? v2 <|
 C.same s215.env[6]? v4 <|
 C.same s215.env[7]? v6 <|
 C.same s215.env[8]? bf <|
 C.same s215.env[9]? v23 <|
 C.bool s215.env[10]? fun b216 =>
 C.same s215.env[11]? tz <|
 C.any s215.env[12]? fun v217 =>
 C.same s215.env[13]? tz <|
 C.same s215.env[14]? tz <|
 C.same s215.env[15]? tz <|
 C.same s215.env[16]? tz <|
 C.same s215.env[17]? tz <|
 C.same s215.env[18]? (.agg [(iz x11), (iz x12)]) <|
 C.same s215.env[19]? (.agg [(iz x16), (iz x17)]) <|
 C.same s215.env[20]? (.agg [(iz x21), (iz x22)]) <|
 C.same s215.env[21]? v23 <|
 C.same s215.env[22]? (.bool b43) <|
 C.same s215.env[23]? (.bool b44) <|
 C.same s215.env[24]? (.bool b45) <|
 C.same s215.env[25]? v46 <|
 C.same s215.env[26]? v47 <|
 C.same s215.env[27]? v48 <|
 C.same s215.env[28]? bf <|
 C.same s215.env[29]? tz <|
 C.same s215.env[30]? v23 <|
 C.same s215.env[31]? (iz x53) <|
 C.int .i64 s215.env[32]? fun x218 =>
 C.any s215.env[33]? fun v219 =>
 C.any s215.env[34]? fun v220 =>
 C.any s215.env[35]? fun v221 =>
 C.any s215.env[36]? fun v222 =>
 C.any s215.env[37]? fun v223 =>
 C.any s215.env[38]? fun v224 =>
 C.any s215.env[39]? fun v225 =>
 C.any s215.env[40]? fun v226 =>
 C.any s215.env[41]? fun v227 =>
 C.any s215.env[42]? fun v228 =>
 C.any s215.env[43]? fun v229 =>
 C.any s215.env[44]? fun v230 =>
 C.any s215.env[45]? fun v231 =>
 C.any s215.env[46]? fun v232 =>
 C.any s215.env[47]? fun v233 =>
 C.any s215.env[48]? fun v234 =>
 C.any s215.env[49]? fun v235 =>
 C.any s215.env[50]? fun v236 =>
 C.any s215.env[51]? fun v237 =>
 C.any s215.env[52]? fun v238 =>
 C.any s215.env[53]? fun v239 =>
 C.any s215.env[54]? fun v240 =>
 C.any s215.env[55]? fun v241 =>
 C.any s215.env[56]? fun v242 =>
 C.any s215.env[57]? fun v243 =>
 C.any s215.env[58]? fun v244 =>
 C.any s215.env[59]? fun v245 =>
 C.same s215.env[60]? tz <|
 C.same s215.env[61]? tz <|
 C.same s215.env[62]? tz <|
 C.same s215.env[63]? tz <|
 C.same s215.env[64]? tz <|
 C.same s215.env[65]? tz <|
 C.same s215.env[66]? tz <|
 C.same s215.env[67]? tz <|
 C.same s215.env[68]? tz <|
 C.same s215.env[69]? tz <|
 C.same s215.env[70]? tz <|
 C.same s215.env[71]? tz <|
 C.same s215.env[72]? tz <|
 C.same s215.env[73]? tz <|
 C.same s215.env[74]? tz <|
 C.same s215.env[75]? tz <|
 C.same s215.env[76]? tz <|
 C.same s215.env[77]? tz <|
 C.same s215.env[78]? tz <|
 C.same s215.env[79]? tz <|
 C.same s215.env[80]? tz <|
 C.same s215.env[81]? tz <|
 C.same s215.env[82]? tz <|
 C.same s215.env[83]? tz <|
 C.same s215.env[84]? tz <|
 C.same s215.env[85]? tz <|
 C.same s215.env[86]? tz <|
 C.same s215.env[87]? tz <|
 C.same s215.env[88]? tz <|
 C.same s215.env[89]? tz <|
 C.same s215.env[90]? tz <|
 C.same s215.env[91]? tz <|
 C.same s215.env[92]? tz <|
 C.same s215.env[93]? tz <|
 C.same s215.env[94]? tz <|
 C.same s215.env[95]? tz <|
 C.same s215.env[96]? tz <|
 C.same s215.env[97]? tz <|
 C.same s215.env[98]? tz <|
 C.same s215.env[99]? tz <|
 C.same s215.env[100]? tz <|
 C.same s215.env[101]? tz <|
 C.same s215.env[102]? tz <|
 C.same s215.env[103]? tz <|
 C.same s215.env[104]? tz <|
 C.same s215.env[105]? tz <|
 C.same s215.env[106]? tz <|
 C.same s215.env[107]? tz <|
 C.same s215.env[108]? tz <|
 C.same s215.env[109]? tz <|
 C.same s215.env[110]? tz <|
 C.same s215.env[111]? tz <|
 C.same s215.env[112]? tz <|
 C.same s215.env[113]? tz <|
 C.same s215.env[114]? tz <|
 C.same s215.env[115]? tz <|
 C.same s215.env[116]? tz <|
 C.same s215.env[117]? tz <|
 C.same s215.env[118]? tz <|
 C.same s215.env[119]? tz <|
 C.same s215.env[120]? tz <|
 C.same s215.env[121]? tz <|
 C.same s215.env[122]? tz <|
 C.same s215.env[123]? tz <|
 C.hop (St.H s215) (.load true 2 (.v v0)) fun v246 h247 =>
 C.agg 2 (some v246) fun l248 =>
 C.int .i64 l248[0]? fun x249 =>
 C.int .i64 l248[1]? fun x250 =>
 C.hop h247 (.load true 2 (.v v2)) fun v251 h252 =>
 C.agg 2 (some v251) fun l253 =>
 C.int .i64 l253[0]? fun x254 =>
 C.int .i64 l253[1]? fun x255 =>
 C.hop h252 (.load true 2 (.v v4)) fun v256 h257 =>
 C.agg 2 (some v256) fun l258 =>
 C.int .i64 l258[0]? fun x259 =>
 C.int .i64 l258[1]? fun x260 =>
 C.int .i64 (pcall M d 29 [(.agg [(iz x249), (iz x250)]), (.agg [(iz x254), (iz x255)]), (.agg [(iz x259), (iz x260)])]) fun x261 =>
 C.iter (r7R4 C d a0 a1 a2 a3 a4 a5 a6 a7 v0 v2 v4 v6 x11 x12 x16 x17 x21 x22 v23 b43 b44 b45 v46 v47 v48 x53 b216 v217 x218 v219 v220 v221 v222 v223 v224 v225 v226 v227 v228 v229 v230 v231 v232 v233 v234 v235 v236 v237 v238 v239 v240 v241 v242 v243 v244 v245 x249 x250 x254 x255 x259 x260 x261) 1 ⟨[(.agg [(iz a0), (iz a1)]), (.agg [(iz a2), (iz a3)]), (.agg [(iz a4), (iz a5)]), (.agg [(iz a6), (iz a7)]), v0, v2, v4, v6, bf, v23, (.bool b216), tz, v217, (iz x261), tz, tz, tz, tz, (.agg [(iz x11), (iz x12)]), (.agg [(iz x16), (iz x17)]), (.agg [(iz x21), (iz x22)]), v23, (.bool b43), (.bool b44), (.bool b45), v46, v47, v48, bf, tz, v23, (iz x53), (iz x218), v219, v220, v221, v222, v223, v224, v225, v226, v227, v228, v229, v230, v231, v232, v233, v234, v235, v236, v237, v238, v239, v240, v241, v242, v243, v244, v245, (.agg [(iz x249), (iz x250)]), (.agg [(iz x254), (iz x255)]), (.agg [(iz x259), (iz x260)]), (iz x261), tz, tz, tz, tz, tz, tz, tz, tz, tz, tz, tz, tz, tz, tz, tz, tz, tz, tz, tz, tz, tz, tz, tz, tz, tz, tz, tz, tz, tz, tz, tz, tz, tz, tz, tz, tz, tz, tz, tz, tz, tz, tz, tz, tz, tz, tz, tz, tz, tz, tz, tz, tz, tz, tz, tz, tz, tz, tz, tz, tz], h257⟩ [2000000] [r7X4_0 C d a0 a1 a2 a3 a4 a5 a6 a7 v0 v2 v4 v6 x11 x12 x16 x17 x21 x22 v23 b43 b44 b45 v46 v47 v48 x53 b216 v217 x218 v219 v220 v221 v222 v223 v224 v225 v226 v227 v228 v229 v230 v231 v232 v233 v234 v235 v236 v237 v238 v239 v240 v241 v242 v243 v244 v245 x249 x250 x254 x255 x259 x260 x261] (r7E4 C d a0 a1 a2 a3 a4 a5 a6 a7 v0 v2 v4 v6 x11 x12 x16 x17 x21 x22 v23 b43 b44 b45 v46 v47 v48 x53 b216 v217 x218 v219 v220 v221 v222 v223 v224 v225 v226 v227 v228 v229 v230 v231 v232 v233 v234 v235 v236 v237 v238 v239 v240 v241 v242 v243 v244 v245 x249 x250 x254 x255 x259 x260 x261))
 (none)
def r7E1 (C : Cb) (d : Nat) (a0 a1 a2 a3 a4 a5 a6 a7 : Int) (v0 v2 v4 v6 : AV) (x11 x12 x16 x17 x21 x22 : Int) (v23 : AV) (b43 b44 b45 : Bool) (v46 v47 v48 : AV) (x53 : Int) : St → Ans := fun s56 =>
 cnd ((List.length s56.env) == 124)
 (C.same s56.env[0]? (.agg [(iz a0), (iz a1)]) <|
 C.same s56.env[1]? (.agg [(iz a2), (iz a3)]) <|
 C.same s56.env[2]? (.agg [(iz a4), (iz a5)]) <|
 C.same s56.env[3]? (.agg [(iz a6), (iz a7)]) <|
 C.same s56.env[4]? v0 <|
 C.same s56.env[5]? v2 <|
 C.same s56.env[6]? v4 <|
 C.same s56.env[7]? v6 <|
 C.same s56.env[8]? bf <|
 C.same s56.env[9]? v23 <|
 C.bool s56.env[10]? fun b470 =>
 C.same s56.env[11]? tz <|
 C.any s56.env[12]? fun v471 =>
 C.same s56.env[13]? tz <|
 C.same s56.env[14]? tz <|
 C.same s56.env[15]? tz <|
 C.same s56.env[16]? tz <|
 C.same s56.env[17]? tz <|
 C.same s56.env[18]? (.agg [(iz x11), (iz x12)]) <|
 C.same s56.env[19]? (.agg [(iz x16), (iz x17)]) <|
 C.same s56.env[20]? (.agg [(iz x21), (iz x22)]) <|
 C.same s56.env[21]? v23 <|
 C.same s56.env[22]? (.bool b43) <|
 C.same s56.env[23]? (.bool b44) <|
 C.same s56.env[24]? (.bool b45) <|
 C.same s56.env[25]? v46 <|
 C.same s56.env[26]? v47 <|
 C.same s56.env[27]? v48 <|
 C.same s56.env[28]? bf <|
 C.same s56.env[29]? tz <|
 C.same s56.env[30]? v23 <|
 C.same s56.env[31]? (iz x53) <|
 C.int .i64 s56.env[32]? fun x472 =>
 C.any s56.env[33]? fun v473 =>
 C.any s56.env[34]? fun v474 =>
 C.any s56.env[35]? fun v475 =>
 C.any s56.env[36]? fun v476 =>
 C.any s56.env[37]? fun v477 =>
 C.any s56.env[38]? fun v478 =>
 C.any s56.env[39]? fun v479 =>
 C.any s56.env[40]? fun v480 =>
 C.any s56.env[41]? fun v481 =>
 C.any s56.env[42]? fun v482 =>
 C.any s56.env[43]? fun v483 =>
 C.any s56.env[44]? fun v484 =>
 C.any s56.env[45]? fun v485 =>
 C.any s56.env[46]? fun v486 =>
 C.any s56.env[47]? fun v487 =>
 C.any s56.env[48]? fun v488 =>
 C.any s56.env[49]? fun v489 =>
 C.any s56.env[50]? fun v490 =>
 C.any s56.env[51]? fun v491 =>
 C.any s56.env[52]? fun v492 =>
 C.any s56.env[53]? fun v493 =>
 C.any s56.env[54]? fun v494 =>
 C.any s56.env[55]? fun v495 =>
 C.any s56.env[56]? fun v496 =>
 C.any s56.env[57]? fun v497 =>
 C.any s56.env[58]? fun v498 =>
 C.any s56.env[59]? fun v499 =>
 C.same s56.env[60]? tz <|
 C.same s56.env[61]? tz <|
 C.same s56.env[62]? tz <|
 C.same s56.env[63]? tz <|
 C.same s56.env[64]? tz <|
 C.same s56.env[65]? tz <|
 C.same s56.env[66]? tz <|
 C.same s56.env[67]? tz <|
 C.same s56.env[68]? tz <|
 C.same s56.env[69]? tz <|
 C.same s56.env[70]? tz <|
 C.same s56.env[71]? tz <|
 C.same s56.env[72]? tz <|
 C.same s56.env[73]? tz <|
 C.same s56.env[74]? tz <|
 C.same s56.env[75]? tz <|
 C.same s56.env[76]? tz <|
 C.same s56.env[77]? tz <|
 C.same s56.env[78]? tz <|
 C.same s56.env[79]? tz <|
 C.same s56.env[80]? tz <|
 C.same s56.env[81]? tz <|
 C.same s56.env[82]? tz <|
 C.same s56.env[83]? tz <|
 C.same s56.env[84]? tz <|
 C.same s56.env[85]? tz <|
 C.same s56.env[86]? tz <|
 C.same s56.env[87]? tz <|
 C.same s56.env[88]? tz <|
 C.same s56.env[89]? tz <|
 C.same s56.env[90]? tz <|
 C.same s56.env[91]? tz <|
 C.same s56.env[92]? tz <|
 C.same s56.env[93]? tz <|
 C.same s56.env[94]? tz <|
 C.same s56.env[95]? tz <|
 C.same s56.env[96]? tz <|
 C.same s56.env[97]? tz <|
 C.same s56.env[98]? tz <|
 C.same s56.env[99]? tz <|
 C.same s56.env[100]? tz <|
 C.same s56.env[101]? tz <|
 C.same s56.env[102]? tz <|
 C.same s56.env[103]? tz <|
 C.same s56.env[104]? tz <|
 C.same s56.env[105]? tz <|
 C.same s56.env[106]? tz <|
 C.same s56.env[107]? tz <|
 C.same s56.env[108]? tz <|
 C.same s56.env[109]? tz <|
 C.same s56.env[110]? tz <|
 C.same s56.env[111]? tz <|
 C.same s56.env[112]? tz <|
 C.same s56.env[113]? tz <|
 C.same s56.env[114]? tz <|
 C.same s56.env[115]? tz <|
 C.same s56.env[116]? tz <|
 C.same s56.env[117]? tz <|
 C.same s56.env[118]? tz <|
 C.same s56.env[119]? tz <|
 C.same s56.env[120]? tz <|
 C.same s56.env[121]? tz <|
 C.same s56.env[122]? tz <|
 C.same s56.env[123]? tz <|
 C.fin (St.H s56) bf)
 (none)
def r7R0 (C : Cb) (d : Nat) (a0 a1 a2 a3 a4 a5 a6 a7 : Int) (v0 v2 v4 v6 : AV) (x11 x12 x16 x17 x21 x22 : Int) (v23 : AV) : St → (Ex → St → Ans) → Ans := fun s25 k26 =>
 cnd ((List.length s25.env) == 124)
 (C.same s25.env[0]? (.agg [(iz a0), (iz a1)]) <|
 C.same s25.env[1]? (.agg [(iz a2), (iz a3)]) <|
 C.same s25.env[2]? (.agg [(iz a4), (iz a5)]) <|
 C.same s25.env[3]? (.agg [(iz a6), (iz a7)]) <|
 C.same s25.env[4]? v0 <|
 C.same s25.env[5]? v2 <|
 C.same s25.env[6]? v4 <|
 C.same s25.env[7]? v6 <|
 C.same s25.env[8]? bf <|
 C.same s25.env[9]? v23 <|
 C.same s25.env[10]? tz <|
 C.same s25.env[11]? tz <|
 C.same s25.env[12]? tz <|
 C.same s25.env[13]? tz <|
 C.same s25.env[14]? tz <|
 C.same s25.env[15]? tz <|
 C.same s25.env[16]? tz <|
 C.same s25.env[17]? tz <|
 C.same s25.env[18]? (.agg [(iz x11), (iz x12)]) <|
 C.same s25.env[19]? (.agg [(iz x16), (iz x17)]) <|
 C.same s25.env[20]? (.agg [(iz x21), (iz x22)]) <|
 C.same s25.env[21]? v23 <|
 C.any s25.env[22]? fun v28 =>
 C.any s25.env[23]? fun v29 =>
 C.any s25.env[24]? fun v30 =>
 C.any s25.env[25]? fun v31 =>
 C.any s25.env[26]? fun v32 =>
 C.any s25.env[27]? fun v33 =>
 C.any s25.env[28]? fun v34 =>
 C.same s25.env[29]? tz <|
 C.same s25.env[30]? tz <|
 C.same s25.env[31]? tz <|
 C.same s25.env[32]? tz <|
 C.same s25.env[33]? tz <|
 C.same s25.env[34]? tz <|
 C.same s25.env[35]? tz <|
 C.same s25.env[36]? tz <|
 C.same s25.env[37]? tz <|
 C.same s25.env[38]? tz <|
 C.same s25.env[39]? tz <|
 C.same s25.env[40]? tz <|
 C.same s25.env[41]? tz <|
 C.same s25.env[42]? tz <|
 C.same s25.env[43]? tz <|
 C.same s25.env[44]? tz <|
 C.same s25.env[45]? tz <|
 C.same s25.env[46]? tz <|
 C.same s25.env[47]? tz <|
 C.same s25.env[48]? tz <|
 C.same s25.env[49]? tz <|
 C.same s25.env[50]? tz <|
 C.same s25.env[51]? tz <|
 C.same s25.env[52]? tz <|
 C.same s25.env[53]? tz <|
 C.same s25.env[54]? tz <|
 C.same s25.env[55]? tz <|
 C.same s25.env[56]? tz <|
 C.same s25.env[57]? tz <|
 C.same s25.env[58]? tz <|
 C.same s25.env[59]? tz <|
 C.same s25.env[60]? tz <|
 C.same s25.env[61]? tz <|
 C.same s25.env[62]? tz <|
 C.same s25.env[63]? tz <|
 C.same s25.env[64]? tz <|
 C.same s25.env[65]? tz <|
 C.same s25.env[66]? tz <|
 C.same s25.env[67]? tz <|
 C.same s25.env[68]? tz <|
 C.same s25.env[69]? tz <|
 C.same s25.env[70]? tz <|
 C.same s25.env[71]? tz <|
 C.same s25.env[72]? tz <|
 C.same s25.env[73]? tz <|
 C.same s25.env[74]? tz <|
 C.same s25.env[75]? tz <|
 C.same s25.env[76]? tz <|
 C.same s25.env[77]? tz <|
 C.same s25.env[78]? tz <|
 C.same s25.env[79]? tz <|
 C.same s25.env[80]? tz <|
 C.same s25.env[81]? tz <|
 C.same s25.env[82]? tz <|
 C.same s25.env[83]? tz <|
 C.same s25.env[84]? tz <|
 C.same s25.env[85]? tz <|
 C.same s25.env[86]? tz <|
 C.same s25.env[87]? tz <|
 C.same s25.env[88]? tz <|
 C.same s25.env[89]? tz <|
 C.same s25.env[90]? tz <|
 C.same s25.env[91]? tz <|
 C.same s25.env[92]? tz <|
 C.same s25.env[93]? tz <|
 C.same s25.env[94]? tz <|
 C.same s25.env[95]? tz <|
 C.same s25.env[96]? tz <|
 C.same s25.env[97]? tz <|
 C.same s25.env[98]? tz <|
 C.same s25.env[99]? tz <|
 C.same s25.env[100]? tz <|
 C.same s25.env[101]? tz <|
 C.same s25.env[102]? tz <|
 C.same s25.env[103]? tz <|
 C.same s25.env[104]? tz <|
 C.same s25.env[105]? tz <|
 C.same s25.env[106]? tz <|
 C.same s25.env[107]? tz <|
 C.same s25.env[108]? tz <|
 C.same s25.env[109]? tz <|
 C.same s25.env[110]? tz <|
 C.same s25.env[111]? tz <|
 C.same s25.env[112]? tz <|
 C.same s25.env[113]? tz <|
 C.same s25.env[114]? tz <|
 C.same s25.env[115]? tz <|
 C.same s25.env[116]? tz <|
 C.same s25.env[117]? tz <|
 C.same s25.env[118]? tz <|
 C.same s25.env[119]? tz <|
 C.same s25.env[120]? tz <|
 C.same s25.env[121]? tz <|
 C.same s25.env[122]? tz <|
 C.same s25.env[123]? tz <|
 C.bool (pcall M d 9 []) fun b35 =>
 cnd (!b35)
 (k26 (.exit 2000000) ⟨[(.agg [(iz a0), (iz a1)]), (.agg [(iz a2), (iz a3)]), (.agg [(iz a4), (iz a5)]), (.agg [(iz a6), (iz a7)]), v0, v2, v4, v6, bf, v23, tz, tz, tz, tz, tz, tz, tz, tz, (.agg [(iz x11), (iz x12)]), (.agg [(iz x16), (iz x17)]), (.agg [(iz x21), (iz x22)]), v23, (.bool b35), (.bool (!b35)), bt, tz, tz, tz, bt, tz, tz, tz, tz, tz, tz, tz, tz, tz, tz, tz, tz, tz, tz, tz, tz, tz, tz, tz, tz, tz, tz, tz, tz, tz, tz, tz, tz, tz, tz, tz, tz, tz, tz, tz, tz, tz, tz, tz, tz, tz, tz, tz, tz, tz, tz, tz, tz, tz, tz, tz, tz, tz, tz, tz, tz, tz, tz, tz, tz, tz, tz, tz, tz, tz, tz, tz, tz, tz, tz, tz, tz, tz, tz, tz, tz, tz, tz, tz, tz, tz, tz, tz, tz, tz, tz, tz, tz, tz, tz, tz, tz, tz, tz, tz], (St.H s25)⟩)
 (C.hop (St.H s25) (.load true 2 (.v v6)) fun v36 h37 =>
 C.agg 2 (some v36) fun l38 =>
 C.int .i64 l38[0]? fun x39 =>
 C.int .i64 l38[1]? fun x40 =>
 C.bool (pcall M d 26 [(.agg [(iz x39), (iz x40)])]) fun b41 =>
 k26 (.exit 2000000) ⟨[(.agg [(iz a0), (iz a1)]), (.agg [(iz a2), (iz a3)]), (.agg [(iz a4), (iz a5)]), (.agg [(iz a6), (iz a7)]), v0, v2, v4, v6, bf, v23, tz, tz, tz, tz, tz, tz, tz, tz, (.agg [(iz x11), (iz x12)]), (.agg [(iz x16), (iz x17)]), (.agg [(iz x21), (iz x22)]), v23, (.bool b35), (.bool (!b35)), bf, (.agg [(iz x39), (iz x40)]), (.bool b41), (.bool (!b41)), (.bool (!b41)), tz, tz, tz, tz, tz, tz, tz, tz, tz, tz, tz, tz, tz, tz, tz, tz, tz, tz, tz, tz, tz, tz, tz, tz, tz, tz, tz, tz, tz, tz, tz, tz, tz, tz, tz, tz, tz, tz, tz, tz, tz, tz, tz, tz, tz, tz, tz, tz, tz, tz, tz, tz, tz, tz, tz, tz, tz, tz, tz, tz, tz, tz, tz, tz, tz, tz, tz, tz, tz, tz, tz, tz, tz, tz, tz, tz, tz, tz, tz, tz, tz, tz, tz, tz, tz, tz, tz, tz, tz, tz, tz, tz, tz, tz, tz], h37⟩))
 (none)
def r7X0_0 (C : Cb) (d : Nat) (a0 a1 a2 a3 a4 a5 a6 a7 : Int) (v0 v2 v4 v6 : AV) (x11 x12 x16 x17 x21 x22 : Int) (v23 : AV) : St → Ans := fun s42 =>
 cnd ((List.length s42.env) == 124)
 (C.same s42.env[0]? (.agg [(iz a0), (iz a1)]) <|
 C.same s42.env[1]? (.agg [(iz a2), (iz a3)]) <|
 C.same s42.env[2]? (.agg [(iz a4), (iz a5)]) <|
 C.same s42.env[3]? (.agg [(iz a6), (iz a7)]) <|
 C.same s42.env[4]? v0 <|
 C.same s42.env[5]? v2 <|
 C.same s42.env[6]? v4 <|
 C.same s42.env[7]? v6 <|
 C.same s42.env[8]? bf <|
 C.same s42.env[9]? v23 <|
 C.same s42.env[10]? tz <|
 C.same s42.env[11]? tz <|
 C.same s42.env[12]? tz <|
 C.same s42.env[13]? tz <|
 C.same s42.env[14]? tz <|
 C.same s42.env[15]? tz <|
 C.same s42.env[16]? tz <|
 C.same s42.env[17]? tz <|
 C.same s42.env[18]? (.agg [(iz x11), (iz x12)]) <|
 C.same s42.env[19]? (.agg [(iz x16), (iz x17)]) <|
 C.same s42.env[20]? (.agg [(iz x21), (iz x22)]) <|
 C.same s42.env[21]? v23 <|
 C.bool s42.env[22]? fun b43 =>
 C.bool s42.env[23]? fun b44 =>
 C.bool s42.env[24]? fun b45 =>
 C.any s42.env[25]? fun v46 =>
 C.any s42.env[26]? fun v47 =>
 C.any s42.env[27]? fun v48 =>
 C.bool s42.env[28]? fun b49 =>
 C.same s42.env[29]? tz <|
 C.same s42.env[30]? tz <|
 C.same s42.env[31]? tz <|
 C.same s42.env[32]? tz <|
 C.same s42.env[33]? tz <|
 C.same s42.env[34]? tz <|
 C.same s42.env[35]? tz <|
 C.same s42.env[36]? tz <|
 C.same s42.env[37]? tz <|
 C.same s42.env[38]? tz <|
 C.same s42.env[39]? tz <|
 C.same s42.env[40]? tz <|
 C.same s42.env[41]? tz <|
 C.same s42.env[42]? tz <|
 C.same s42.env[43]? tz <|
 C.same s42.env[44]? tz <|
 C.same s42.env[45]? tz <|
 C.same s42.env[46]? tz <|
 C.same s42.env[47]? tz <|
 C.same s42.env[48]? tz <|
 C.same s42.env[49]? tz <|
 C.same s42.env[50]? tz <|
 C.same s42.env[51]? tz <|
 C.same s42.env[52]? tz <|
 C.same s42.env[53]? tz <|
 C.same s42.env[54]? tz <|
 C.same s42.env[55]? tz <|
 C.same s42.env[56]? tz <|
 C.same s42.env[57]? tz <|
 C.same s42.env[58]? tz <|
 C.same s42.env[59]? tz <|
 C.same s42.env[60]? tz <|
 C.same s42.env[61]? tz <|
 C.same s42.env[62]? tz <|
 C.same s42.env[63]? tz <|
 C.same s42.env[64]? tz <|
 C.same s42.env[65]? tz <|
 C.same s42.env[66]? tz <|
 C.same s42.env[67]? tz <|
 C.same s42.env[68]? tz <|
 C.same s42.env[69]? tz <|
 C.same s42.env[70]? tz <|
 C.same s42.env[71]? tz <|
 C.same s42.env[72]? tz <|
 C.same s42.env[73]? tz <|
 C.same s42.env[74]? tz <|
 C.same s42.env[75]? tz <|
 C.same s42.env[76]? tz <|
 C.same s42.env[77]? tz <|
 C.same s42.env[78]? tz <|
 C.same s42.env[79]? tz <|
 C.same s42.env[80]? tz <|
 C.same s42.env[81]? tz <|
 C.same s42.env[82]? tz <|
 C.same s42.env[83]? tz <|
 C.same s42.env[84]? tz <|
 C.same s42.env[85]? tz <|
 C.same s42.env[86]? tz <|
 C.same s42.env[87]? tz <|
 C.same s42.env[88]? tz <|
 C.same s42.env[89]? tz <|
 C.same s42.env[90]? tz <|
 C.same s42.env[91]? tz <|
 C.same s42.env[92]? tz <|
 C.same s42.env[93]? tz <|
 C.same s42.env[94]? tz <|
 C.same s42.env[95]? tz <|
 C.same s42.env[96]? tz <|
 C.same s42.env[97]? tz <|
 C.same s42.env[98]? tz <|
 C.same s42.env[99]? tz <|
 C.same s42.env[100]? tz <|
 C.same s42.env[101]? tz <|
 C.same s42.env[102]? tz <|
 C.same s42.env[103]? tz <|
 C.same s42.env[104]? tz <|
 C.same s42.env[105]? tz <|
 C.same s42.env[106]? tz <|
 C.same s42.env[107]? tz <|
 C.same s42.env[108]? tz <|
 C.same s42.env[109]? tz <|
 C.same s42.env[110]? tz <|
 C.same s42.env[111]? tz <|
 C.same s42.env[112]? tz <|
 C.same s42.env[113]? tz <|
 C.same s42.env[114]? tz <|
 C.same s42.env[115]? tz <|
 C.same s42.env[116]? tz <|
 C.same s42.env[117]? tz <|
 C.same s42.env[118]? tz <|
 C.same s42.env[119]? tz <|
 C.same s42.env[120]? tz <|
 C.same s42.env[121]? tz <|
 C.same s42.env[122]? tz <|
 C.same s42.env[123]? tz <|
 cnd b49
 (C.bool (pcall M d 9 []) fun b50 =>
 C.fin (St.H s42) (.bool b50))
 (C.hop (St.H s42) (.bk .lenV [(.v v23)]) fun v51 h52 =>
 C.int .i64 (some v51) fun x53 =>
 C.iter (r7R1 C d a0 a1 a2 a3 a4 a5 a6 a7 v0 v2 v4 v6 x11 x12 x16 x17 x21 x22 v23 b43 b44 b45 v46 v47 v48 x53) 1000000000000000000 ⟨[(.agg [(iz a0), (iz a1)]), (.agg [(iz a2), (iz a3)]), (.agg [(iz a4), (iz a5)]), (.agg [(iz a6), (iz a7)]), v0, v2, v4, v6, bf, v23, bt, tz, tz, tz, tz, tz, tz, tz, (.agg [(iz x11), (iz x12)]), (.agg [(iz x16), (iz x17)]), (.agg [(iz x21), (iz x22)]), v23, (.bool b43), (.bool b44), (.bool b45), v46, v47, v48, bf, tz, v23, (iz x53), (iz 0), tz, tz, tz, tz, tz, tz, tz, tz, tz, tz, tz, tz, tz, tz, tz, tz, tz, tz, tz, tz, tz, tz, tz, tz, tz, tz, tz, tz, tz, tz, tz, tz, tz, tz, tz, tz, tz, tz, tz, tz, tz, tz, tz, tz, tz, tz, tz, tz, tz, tz, tz, tz, tz, tz, tz, tz, tz, tz, tz, tz, tz, tz, tz, tz, tz, tz, tz, tz, tz, tz, tz, tz, tz, tz, tz, tz, tz, tz, tz, tz, tz, tz, tz, tz, tz, tz, tz, tz, tz, tz, tz], h52⟩ [0] [r7X1_0 C d a0 a1 a2 a3 a4 a5 a6 a7 v0 v2 v4 v6 x11 x12 x16 x17 x21 x22 v23 b43 b44 b45 v46 v47 v48 x53] (r7E1 C d a0 a1 a2 a3 a4 a5 a6 a7 v0 v2 v4 v6 x11 x12 x16 x17 x21 x22 v23 b43 b44 b45 v46 v47 v48 x53)))
 (none)
def r7E0 (C : Cb) (d : Nat) (a0 a1 a2 a3 a4 a5 a6 a7 : Int) (v0 v2 v4 v6 : AV) (x11 x12 x16 x17 x21 x22 : Int) (v23 : AV) : St → Ans := fun s27 =>
 cnd ((List.length s27.env) == 124)
 (C.same s27.env[0]? (.agg [(iz a0), (iz a1)]) <|
 C.same s27.env[1]? (.agg [(iz a2), (iz a3)]) <|
 C.same s27.env[2]? (.agg [(iz a4), (iz a5)]) <|
 C.same s27.env[3]? (.agg [(iz a6), (iz a7)]) <|
 C.same s27.env[4]? v0 <|
 C.same s27.env[5]? v2 <|
 C.same s27.env[6]? v4 <|
 C.same s27.env[7]? v6 <|
 C.same s27.env[8]? bf <|
 C.same s27.env[9]? v23 <|
 C.same s27.env[10]? tz <|
 C.same s27.env[11]? tz <|
 C.same s27.env[12]? tz <|
 C.same s27.env[13]? tz <|
 C.same s27.env[14]? tz <|
 C.same s27.env[15]? tz <|
 C.same s27.env[16]? tz <|
 C.same s27.env[17]? tz <|
 C.same s27.env[18]? (.agg [(iz x11), (iz x12)]) <|
 C.same s27.env[19]? (.agg [(iz x16), (iz x17)]) <|
 C.same s27.env[20]? (.agg [(iz x21), (iz x22)]) <|
 C.same s27.env[21]? v23 <|
 C.any s27.env[22]? fun v500 =>
 C.any s27.env[23]? fun v501 =>
 C.any s27.env[24]? fun v502 =>
 C.any s27.env[25]? fun v503 =>
 C.any s27.env[26]? fun v504 =>
 C.any s27.env[27]? fun v505 =>
 C.any s27.env[28]? fun v506 =>
 C.same s27.env[29]? tz <|
 C.same s27.env[30]? tz <|
 C.same s27.env[31]? tz <|
 C.same s27.env[32]? tz <|
 C.same s27.env[33]? tz <|
 C.same s27.env[34]? tz <|
 C.same s27.env[35]? tz <|
 C.same s27.env[36]? tz <|
 C.same s27.env[37]? tz <|
 C.same s27.env[38]? tz <|
 C.same s27.env[39]? tz <|
 C.same s27.env[40]? tz <|
 C.same s27.env[41]? tz <|
 C.same s27.env[42]? tz <|
 C.same s27.env[43]? tz <|
 C.same s27.env[44]? tz <|
 C.same s27.env[45]? tz <|
 C.same s27.env[46]? tz <|
 C.same s27.env[47]? tz <|
 C.same s27.env[48]? tz <|
 C.same s27.env[49]? tz <|
 C.same s27.env[50]? tz <|
 C.same s27.env[51]? tz <|
 C.same s27.env[52]? tz <|
 C.same s27.env[53]? tz <|
 C.same s27.env[54]? tz <|
 C.same s27.env[55]? tz <|
 C.same s27.env[56]? tz <|
 C.same s27.env[57]? tz <|
 C.same s27.env[58]? tz <|
 C.same s27.env[59]? tz <|
 C.same s27.env[60]? tz <|
 C.same s27.env[61]? tz <|
 C.same s27.env[62]? tz <|
 C.same s27.env[63]? tz <|
 C.same s27.env[64]? tz <|
 C.same s27.env[65]? tz <|
 C.same s27.env[66]? tz <|
 C.same s27.env[67]? tz <|
 C.same s27.env[68]? tz <|
 C.same s27.env[69]? tz <|
 C.same s27.env[70]? tz <|
 C.same s27.env[71]? tz <|
 C.same s27.env[72]? tz <|
 C.same s27.env[73]? tz <|
 C.same s27.env[74]? tz <|
 C.same s27.env[75]? tz <|
 C.same s27.env[76]? tz <|
 C.same s27.env[77]? tz <|
 C.same s27.env[78]? tz <|
 C.same s27.env[79]? tz <|
 C.same s27.env[80]? tz <|
 C.same s27.env[81]? tz <|
 C.same s27.env[82]? tz <|
 C.same s27.env[83]? tz <|
 C.same s27.env[84]? tz <|
 C.same s27.env[85]? tz <|
 C.same s27.env[86]? tz <|
 C.same s27.env[87]? tz <|
 C.same s27.env[88]? tz <|
 C.same s27.env[89]? tz <|
 C.same s27.env[90]? tz <|
 C.same s27.env[91]? tz <|
 C.same s27.env[92]? tz <|
 C.same s27.env[93]? tz <|
 C.same s27.env[94]? tz <|
 C.same s27.env[95]? tz <|
 C.same s27.env[96]? tz <|
 C.same s27.env[97]? tz <|
 C.same s27.env[98]? tz <|
 C.same s27.env[99]? tz <|
 C.same s27.env[100]? tz <|
 C.same s27.env[101]? tz <|
 C.same s27.env[102]? tz <|
 C.same s27.env[103]? tz <|
 C.same s27.env[104]? tz <|
 C.same s27.env[105]? tz <|
 C.same s27.env[106]? tz <|
 C.same s27.env[107]? tz <|
 C.same s27.env[108]? tz <|
 C.same s27.env[109]? tz <|
 C.same s27.env[110]? tz <|
 C.same s27.env[111]? tz <|
 C.same s27.env[112]? tz <|
 C.same s27.env[113]? tz <|
 C.same s27.env[114]? tz <|
 C.same s27.env[115]? tz <|
 C.same s27.env[116]? tz <|
 C.same s27.env[117]? tz <|
 C.same s27.env[118]? tz <|
 C.same s27.env[119]? tz <|
 C.same s27.env[120]? tz <|
 C.same s27.env[121]? tz <|
 C.same s27.env[122]? tz <|
 C.same s27.env[123]? tz <|
 none)
 (none)
/-- apogee/apogeelaw11.PolyTriangle -/
theorem r7 (C : Cb) (d : Nat) (a0 a1 a2 a3 a4 a5 a6 a7 : Int) : xcall C M unr d 7 [(.agg [(iz a0), (iz a1)]), (.agg [(iz a2), (iz a3)]), (.agg [(iz a4), (iz a5)]), (.agg [(iz a6), (iz a7)])] =
 C.hop [] (.box E24 (.v (.agg [(iz a0), (iz a1)]))) fun v0 h1 =>
 C.hop h1 (.box E24 (.v (.agg [(iz a2), (iz a3)]))) fun v2 h3 =>
 C.hop h3 (.box E24 (.v (.agg [(iz a4), (iz a5)]))) fun v4 h5 =>
 C.hop h5 (.box E24 (.v (.agg [(iz a6), (iz a7)]))) fun v6 h7 =>
 C.hop h7 (.load true 2 (.v v0)) fun v8 h9 =>
 C.agg 2 (some v8) fun l10 =>
 C.int .i64 l10[0]? fun x11 =>
 C.int .i64 l10[1]? fun x12 =>
 C.hop h9 (.load true 2 (.v v2)) fun v13 h14 =>
 C.agg 2 (some v13) fun l15 =>
 C.int .i64 l15[0]? fun x16 =>
 C.int .i64 l15[1]? fun x17 =>
 C.hop h14 (.load true 2 (.v v4)) fun v18 h19 =>
 C.agg 2 (some v18) fun l20 =>
 C.int .i64 l20[0]? fun x21 =>
 C.int .i64 l20[1]? fun x22 =>
 C.hop h19 (.mkrow E24 3 [(0, (.v (.agg [(iz x11), (iz x12)]))), (1, (.v (.agg [(iz x16), (iz x17)]))), (2, (.v (.agg [(iz x21), (iz x22)])))]) fun v23 h24 =>
 C.iter (r7R0 C d a0 a1 a2 a3 a4 a5 a6 a7 v0 v2 v4 v6 x11 x12 x16 x17 x21 x22 v23) 1 ⟨[(.agg [(iz a0), (iz a1)]), (.agg [(iz a2), (iz a3)]), (.agg [(iz a4), (iz a5)]), (.agg [(iz a6), (iz a7)]), v0, v2, v4, v6, bf, v23, tz, tz, tz, tz, tz, tz, tz, tz, (.agg [(iz x11), (iz x12)]), (.agg [(iz x16), (iz x17)]), (.agg [(iz x21), (iz x22)]), v23, tz, tz, tz, tz, tz, tz, tz, tz, tz, tz, tz, tz, tz, tz, tz, tz, tz, tz, tz, tz, tz, tz, tz, tz, tz, tz, tz, tz, tz, tz, tz, tz, tz, tz, tz, tz, tz, tz, tz, tz, tz, tz, tz, tz, tz, tz, tz, tz, tz, tz, tz, tz, tz, tz, tz, tz, tz, tz, tz, tz, tz, tz, tz, tz, tz, tz, tz, tz, tz, tz, tz, tz, tz, tz, tz, tz, tz, tz, tz, tz, tz, tz, tz, tz, tz, tz, tz, tz, tz, tz, tz, tz, tz, tz, tz, tz, tz, tz, tz, tz, tz, tz], h24⟩ [2000000] [r7X0_0 C d a0 a1 a2 a3 a4 a5 a6 a7 v0 v2 v4 v6 x11 x12 x16 x17 x21 x22 v23] (r7E0 C d a0 a1 a2 a3 a4 a5 a6 a7 v0 v2 v4 v6 x11 x12 x16 x17 x21 x22 v23) := by kernel_rfl
end Go.Proofs.Ytkfppigcjdapnaa.AE
