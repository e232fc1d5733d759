import Derived.Test.YtodgpfffnnlbhaaSo1
import Derived.Test.YtodgpfffnnlbhaaSortM
/-! slices.insertionSortCmpFunc, symMergeCmpFunc at []int: what they come to -/
set_option linter.unusedVariables false
set_option linter.unusedSimpArgs false
namespace Go.Proofs.Try
open Go.L Go.Rp
set_option maxRecDepth 100000
/-- what a comparator answers: by a key -/
structure CmpOk (n0 : Nat) (c : V) (H : Heap) (K : Int → Int) (D : Int → Prop) : Prop where
  ex : ∃ f caps, c = .fn f caps ∧ okV prog 3 f = true ∧ keepS f = true ∧ ∀ n, n0 ≤ n → ∀ x y, D x → D y → ∃ q, call n f ([.int .i64 x, .int .i64 y] ++ caps) H = some (.ret [.int .i64 q], H) ∧ (q < 0 ↔ K x < K y)
theorem adj (Q T : List Int) (y x : Int) {i j : Nat} (hi : i = Q.length) (hj : j = Q.length + 1) :
    (Q ++ y :: x :: T)[i]? = some y ∧ (Q ++ y :: x :: T)[j]? = some x ∧ (Q ++ y :: x :: T).set j y = Q ++ y :: y :: T ∧ (Q ++ y :: x :: T).set i x = Q ++ x :: x :: T ∧
    (Q ++ y :: y :: T)[i]? = some y ∧ (Q ++ x :: x :: T)[j]? = some x ∧ (Q ++ y :: y :: T).set i x = Q ++ x :: y :: T ∧ (Q ++ x :: x :: T).set j y = Q ++ x :: y :: T := by
  have e : ∀ u v : Int, Q ++ u :: v :: T = (Q ++ [u]) ++ v :: T := fun u v => by simp
  have hl : ∀ u : Int, j = (Q ++ [u]).length := fun u => by simp; omega
  refine ⟨mid_get _ _ _ hi, ?_, ?_, mid_set _ _ _ _ hi, mid_get _ _ _ hi, ?_, mid_set _ _ _ _ hi, ?_⟩
  · rw [e]; exact mid_get _ _ _ (hl y)
  · rw [e, mid_set _ _ _ _ (hl y)]; simp
  · rw [e]; exact mid_get _ _ _ (hl x)
  · rw [e, mid_set _ _ _ _ (hl x)]; simp
section
variable {K : Int → Int} {D : Int → Prop} {H : Heap} {c : V} {n0 : Nat} {p : Nat → Int}
theorem ins_inner (hc : CmpOk n0 c H K D) (n a i : Nat) (st1 : List V) (next3 : List V → Heap → Option (Res × Heap)) (hst : gv st1 1 = .int .i64 (i : Int)) (hi : i + 1 < lim) (hn : n0 ≤ n) (R : List Int) : ∀ (r : List Int) (x : Int) (b P : List Int) (j Mx : Nat),
    a = P.length → j = P.length + r.length → j + b.length + R.length + 1 < lim → (∀ y ∈ r, D y) → D x → r.length < Mx →
    loopx Mx (lIns_l6 n a c st1 next3) [.sl 1 (iL (P ++ (r.reverse ++ (x :: (b ++ R))))) false, .int .i64 (j : Int)] H = next3 [.sl 1 (iL (P ++ (insD K r x b ++ R))) false, .int .i64 ((i + 1 : Nat) : Int)] H
  | _, _, _, _, _, 0, _, _, _, _, _, h => by omega
  | [], x, b, P, j, Mx + 1, ha, hj, hl, hr, hx, hM => by
    have hja : ¬ (j : Int) > (a : Int) := by simp at hj; omega
    have e1 : IntKind.i64.wrap ((i : Int) + 1) = ((i + 1 : Nat) : Int) := wN (by omega) hi
    rw [loopx_succ]
    simp only [lIns_l6, gv, List.getD_cons_succ, List.getD_cons_zero, bop_i64_gtr, bd_some, bv_bool, hja, decide_false, Bool.false_eq_true, if_false, lsl]
    simp only [gv] at hst
    simp only [hst, bop_i64_add, bd_some, e1, insD, List.reverse_nil, List.nil_append, List.cons_append]
  | y :: r, x, b, P, j, Mx + 1, ha, hj, hl, hr, hx, hM => by
    obtain ⟨f, caps, hcf, hok, hk, hcmp⟩ := hc.ex
    have hfn : ∀ k : Nat → List V → Option (Res × Heap), fnK c k = k f caps := fun k => by rw [hcf]; rfl
    simp only [List.length_cons] at hj hM
    have hja : (j : Int) > (a : Int) := by omega
    have hL : P ++ ((y :: r).reverse ++ (x :: (b ++ R))) = (P ++ r.reverse) ++ y :: x :: (b ++ R) := by simp
    have e1 : IntKind.i64.wrap ((i : Int) + 1) = ((i + 1 : Nat) : Int) := wN (by omega) hi
    have e2 : IntKind.i64.wrap ((j : Int) - 1) = ((j - 1 : Nat) : Int) := wN (by omega) (by omega)
    obtain ⟨s1, s2, s3, s4, s5, s6, s7, s8⟩ := adj (P ++ r.reverse) (b ++ R) y x (i := j - 1) (j := j) (by simp; omega) (by simp; omega)
    have l1 := (List.getElem?_eq_some_iff.1 s1).1
    have l2 := (List.getElem?_eq_some_iff.1 s2).1
    have l5 := (List.getElem?_eq_some_iff.1 s5).1
    obtain ⟨q, hq, hqk⟩ := hcmp n hn x y hx (hr y (by simp))
    have ih := ins_inner hc n a i st1 next3 hst hi hn R r x (y :: b) P (j - 1) Mx ha (by omega) (by simp; omega) (fun z hz => hr z (List.mem_cons_of_mem _ hz)) hx (by omega)
    rw [loopx_succ, hL]
    simp only [lIns_l6, gv, List.getD_cons_succ, List.getD_cons_zero, bop_i64_gtr, bd_some, bv_bool, hja, decide_true, if_true, nv_nat, bdS_some, lsl, iL_len, own_iff, Nat.reduceBEq, and_true, l1, l2, iL_get s1, iL_get s2, List.getElem?_cons_zero, bop_i64_sub, e2, hfn, hok, hk]
    rw [hq, cl_ret]
    simp only [one1_one, bop_i64_lss, bd_some, bv_bool]
    by_cases hxy : K x < K y
    · have hq0 : q < 0 := hqk.2 hxy
      simp only [hq0, decide_true, if_true, nv_nat, bdS_some, bd_some, iL_get s1, iL_get s2, List.getElem?_cons_zero, V.cells, List.length_cons, List.length_nil, Nat.zero_add, one_iff, setR_11, iL_set, s3, iL_len, l1, l2, l5, iL_get s5, s7, if_true]
      rw [insD, if_pos hxy]
      have hL2 : (P ++ r.reverse) ++ x :: y :: (b ++ R) = P ++ (r.reverse ++ (x :: (y :: b ++ R))) := by simp
      rw [hL2]
      exact ih
    · have hq0 : ¬ q < 0 := fun h => hxy (hqk.1 h)
      simp only [gv] at hst
      simp only [hq0, decide_false, Bool.false_eq_true, if_false, hst, bop_i64_add, bd_some, e1]
      rw [insD, if_neg hxy]
      simp
theorem ins_loop (hc : CmpOk n0 c H K D) (n lo len : Nat) (hn : n0 ≤ n) (hn2 : len ≤ n) (hlim : lo + len + 1 < lim) (P S : List Int) (hP : lo = P.length) (hD : ∀ x ∈ rng p lo len, D x) (hS : lo + len + S.length < lim) : ∀ (d k Mx : Nat), 1 ≤ k → (k + d = len ∨ (len = 0 ∧ k = 1 ∧ d = 0)) → d < Mx →
    loopx Mx (lIns_l0 n lo ((lo + len : Nat) : Int) c) [.sl 1 (iL (P ++ (sR K p lo (min k len) ++ (rng p (lo + k) (len - k) ++ S)))) false, .int .i64 ((lo + k : Nat) : Int)] H = some (.ret [.sl 1 (iL (P ++ (sR K p lo len ++ S))) false], H)
  | d, k, 0, _, _, h => by omega
  | 0, k, Mx + 1, h1, hk, _ => by
    have hik : ¬ ((lo + k : Nat) : Int) < ((lo + len : Nat) : Int) := by omega
    have hmin : min k len = len := by omega
    have hz : len - k = 0 := by omega
    rw [loopx_succ]
    simp only [lIns_l0, gv, List.getD_cons_succ, List.getD_cons_zero, bop_i64_lss, bd_some, bv_bool, hik, decide_false, Bool.false_eq_true, if_false, lsl, hmin, hz]
    rfl
  | d + 1, k, Mx + 1, h1, hk, hM => by
    have hkl : k + (d + 1) = len := by omega
    have hik : ((lo + k : Nat) : Int) < ((lo + len : Nat) : Int) := by omega
    have hmin : min k len = k := by omega
    have hr : rng p (lo + k) (len - k) = p (lo + k) :: rng p (lo + (k + 1)) (len - (k + 1)) := by
      rw [show len - k = (len - (k + 1)) + 1 by omega, rng_cons, Nat.add_assoc]
    have ih := ins_loop hc n lo len hn hn2 hlim P S hP hD hS d (k + 1) Mx (by omega) (by omega) (by omega)
    have hm2 : min (k + 1) len = k + 1 := by omega
    rw [hm2] at ih
    have hDk : ∀ y ∈ (sR K p lo k).reverse, D y := fun y hy => hD y (by
      obtain ⟨i, h1, h2, h3⟩ := sR_mem.1 (List.mem_reverse.1 hy)
      exact rng_mem.2 ⟨i, h1, by omega, h3⟩)
    have inner := ins_inner hc n lo (lo + k) [.sl 1 (iL (P ++ (sR K p lo k ++ (rng p (lo + k) (len - k) ++ S)))) false, .int .i64 ((lo + k : Nat) : Int)] (loopx Mx (lIns_l0 n lo ((lo + len : Nat) : Int) c)) rfl (by omega) hn (rng p (lo + (k + 1)) (len - (k + 1)) ++ S)
      (sR K p lo k).reverse (p (lo + k)) [] P (lo + k) n hP (by rw [List.length_reverse, sR_len]; omega) (by rw [List.length_append, rng_len]; simp; omega) hDk (hD _ (rng_mem.2 ⟨_, by omega, by omega, rfl⟩)) (by rw [List.length_reverse, sR_len]; omega)
    rw [List.reverse_reverse, List.nil_append] at inner
    rw [loopx_succ, hmin]
    simp only [lIns_l0, gv, List.getD_cons_succ, List.getD_cons_zero, bop_i64_lss, bd_some, bv_bool, hik, decide_true, if_true, lsl]
    have hL : P ++ (sR K p lo k ++ (rng p (lo + k) (len - k) ++ S)) = P ++ (sR K p lo k ++ (p (lo + k) :: (rng p (lo + (k + 1)) (len - (k + 1)) ++ S))) := by rw [hr]; rfl
    simp only [hL] at inner ⊢
    rw [inner]
    exact ih
/-- insertion: the numbers from lo on -/
theorem ins_call (hc : CmpOk n0 c H K D) (n lo len : Nat) (P S : List Int) (hP : lo = P.length) (hD : ∀ x ∈ rng p lo len, D x) (hS : lo + len + S.length + 1 < lim) (hn : n0 + 1 ≤ n) (hn2 : len + 2 ≤ n) :
    call n 93 [.sl 1 (iL (P ++ (rng p lo len ++ S))) false, .int .i64 (lo : Int), .int .i64 ((lo + len : Nat) : Int), c] H = some (.ret [.sl 1 (iL (P ++ (sR K p lo len ++ S))) false], H) := by
  obtain ⟨N, rfl⟩ : ∃ N, n = N + 1 := ⟨n - 1, by omega⟩
  have e1 : IntKind.i64.wrap ((lo : Int) + 1) = ((lo + 1 : Nat) : Int) := wN (by omega) (by omega)
  rw [lIns_eq]
  unfold lIns
  rw [e1]
  have h1 : rng p lo len = sR K p lo (min 1 len) ++ rng p (lo + 1) (len - 1) := by
    cases len with
    | zero => simp [rng, sR]
    | succ l =>
      have : min 1 (l + 1) = 1 := by omega
      rw [this, rng_cons]; simp [sR, insD]
  rw [h1, List.append_assoc]
  exact ins_loop hc N lo len (by omega) (by omega) (by omega) P S hP hD (by omega) (len - 1) 1 N (by omega) (by omega) (by omega)

/-- a search by halves -/
theorem bs_gen {l : V} {body : List V → Heap → (List V → Heap → Option (Res × Heap)) → Option (Res × Heap)} {fin : Nat → Option (Res × Heap)} {Q : Nat → Prop} (lo hi : Nat)
    (step : ∀ i j : Nat, lo ≤ i → i < j → j ≤ hi → ∀ next, (Q ((i + j) / 2) ∧ body [l, .int .i64 (i : Int), .int .i64 (j : Int)] H next = next [l, .int .i64 (((i + j) / 2 + 1 : Nat) : Int), .int .i64 (j : Int)] H) ∨ (¬ Q ((i + j) / 2) ∧ body [l, .int .i64 (i : Int), .int .i64 (j : Int)] H next = next [l, .int .i64 (i : Int), .int .i64 (((i + j) / 2 : Nat) : Int)] H))
    (stop : ∀ i : Nat, lo ≤ i → i ≤ hi → ∀ next, body [l, .int .i64 (i : Int), .int .i64 (i : Int)] H next = fin i) : ∀ (M i j : Nat), j - i < M → lo ≤ i → i ≤ j → j ≤ hi → (i = lo ∨ Q (i - 1)) → (j = hi ∨ ¬ Q j) →
    ∃ r, lo ≤ r ∧ r ≤ hi ∧ (r = lo ∨ Q (r - 1)) ∧ (r = hi ∨ ¬ Q r) ∧ loopx M body [l, .int .i64 (i : Int), .int .i64 (j : Int)] H = fin r
  | 0, i, j, h, _, _, _, _, _ => by omega
  | M + 1, i, j, h, h1, h2, h3, h4, h5 => by
    by_cases hij : i = j
    · subst hij
      exact ⟨i, h1, h3, h4, h5, by rw [loopx_succ]; exact stop i h1 h3 _⟩
    · rcases step i j h1 (by omega) h3 (loopx M body) with ⟨q, e⟩ | ⟨q, e⟩
      · obtain ⟨r, r1, r2, r3, r4, r5⟩ := bs_gen lo hi step stop M ((i + j) / 2 + 1) j (by omega) (by omega) (by omega) h3 (.inr (by simpa using q)) h5
        exact ⟨r, r1, r2, r3, r4, by rw [loopx_succ, e]; exact r5⟩
      · obtain ⟨r, r1, r2, r3, r4, r5⟩ := bs_gen lo hi step stop M i ((i + j) / 2) (by omega) h1 (by omega) (by omega) h4 (.inr q)
        exact ⟨r, r1, r2, r3, r4, by rw [loopx_succ, e]; exact r5⟩
end
theorem cvt_iu (a : Int) : cvt prog 3 124 (.int .i64 a) = some (.int .u64 (IntKind.u64.wrap a)) := by kernel_rfl
theorem cvt_ui (a : Int) : cvt prog 124 3 (.int .u64 a) = some (.int .i64 (IntKind.i64.wrap a)) := by kernel_rfl
theorem shr_u (a : Int) : bop prog .shr 124 (.int .u64 a) (.int .u64 1) = some (.int .u64 (a.fdiv (2 ^ (min (1 : Int).toNat 64)))) := by kernel_rfl
theorem half_ok {i j : Nat} (h : i + j < lim) : IntKind.i64.wrap ((IntKind.u64.wrap (((i + j : Nat) : Int))).fdiv (2 ^ (min (1 : Int).toNat 64))) = (((i + j) / 2 : Nat) : Int) := by
  have e : IntKind.u64.wrap (((i + j : Nat) : Int)) = ((i + j : Nat) : Int) := by rw [IntKind.wrap_u64]; unfold lim at h; omega
  rw [e]
  have e2 : (2 : Int) ^ (min (1 : Int).toNat 64) = 2 := by decide
  rw [e2, Int.fdiv_eq_ediv_of_nonneg _ (by decide)]
  exact wN (by omega) (by omega)
end Go.Proofs.Try
