import Derived.Test.YtodgpfffnnlbhaaLso
import Derived.Test.YtodgpfffnnlbhaaSortL
import Derived.Test.YtodgpfffnnlbhaaSortM
/-! slices.swapRangeCmpFunc and rotateCmpFunc at []int: what they come to -/
set_option linter.unusedVariables false
set_option linter.unusedSimpArgs false
namespace Go.Proofs.Try
open Go.L Go.Rp
set_option maxRecDepth 100000
abbrev iL (l : List Int) : List (List V) := l.map (intV .i64)
theorem wN {e : Int} {n : Nat} (h : e = (n : Int)) (hn : n < lim) : IntKind.i64.wrap e = (n : Int) := by unfold lim at hn; subst h; rw [w64] <;> omega
theorem iL_set (l : List Int) (i : Nat) (x : Int) : (iL l).set i [V.int .i64 x] = iL (l.set i x) := by
  unfold iL; rw [List.map_set]; rfl
theorem iL_len (l : List Int) : (iL l).length = l.length := by simp
theorem iL_get {l : List Int} {i : Nat} {x : Int} (h : l[i]? = some x) : (iL l)[i]? = some [V.int .i64 x] := by
  unfold iL; rw [List.getElem?_map, h]; rfl
theorem setR_11 (a b : V) : setR [a] 0 [b] = [b] := rfl
theorem own_iff {n m k : Nat} : (1 = 1 ∧ n < m ∧ (some k : Option Nat) ≠ some 0) ↔ (n < m ∧ (k == 0) = false) := by simp
theorem one_iff : (1 = 1 ∧ 0 < 1 ∧ 0 + 1 ≤ 1) ↔ True := by decide
theorem mid_get {α : Type} (P : List α) (x : α) (R : List α) {i : Nat} (h : i = P.length) : (P ++ x :: R)[i]? = some x := by subst h; simp
theorem mid_set {α : Type} (P : List α) (x y : α) (R : List α) {i : Nat} (h : i = P.length) : (P ++ x :: R).set i y = P ++ y :: R := by subst h; simp
theorem swp_1 (P A M B S : List Int) (x y : Int) {i j : Nat} (hi : i = P.length) (hj : j = P.length + 1 + A.length + M.length) :
    (P ++ (x :: A ++ (M ++ (y :: B ++ S))))[i]? = some x ∧ (P ++ (x :: A ++ (M ++ (y :: B ++ S))))[j]? = some y ∧ (P ++ (y :: A ++ (M ++ (y :: B ++ S))))[j]? = some y ∧
    (P ++ (x :: A ++ (M ++ (y :: B ++ S)))).set i y = P ++ (y :: A ++ (M ++ (y :: B ++ S))) ∧ (P ++ (y :: A ++ (M ++ (y :: B ++ S)))).set j x = (P ++ [y]) ++ (A ++ ((M ++ [x]) ++ (B ++ S))) := by
  have e : ∀ u : Int, P ++ (u :: A ++ (M ++ (y :: B ++ S))) = (P ++ u :: (A ++ M)) ++ y :: (B ++ S) := fun u => by simp
  have hl : ∀ u : Int, j = (P ++ u :: (A ++ M)).length := fun u => by simp; omega
  refine ⟨mid_get P x _ hi, ?_, ?_, mid_set P x y _ hi, ?_⟩
  · rw [e]; exact mid_get _ _ _ (hl x)
  · rw [e]; exact mid_get _ _ _ (hl y)
  · rw [e, mid_set _ _ _ _ (hl y)]; simp
theorem swap_loop (n : Nat) (H : Heap) (a b k : Nat) (S : List Int) : ∀ (A B P M : List Int) (i Mx : Nat), B.length = A.length → i + A.length = k → a + i = P.length → b + i = P.length + A.length + M.length → P.length + A.length + M.length + B.length < lim → A.length < Mx →
    loopx Mx (lSwap_l0 n a b k) [.sl 1 (iL (P ++ (A ++ (M ++ (B ++ S))))) false, .int .i64 (i : Int)] H = some (.ret [.sl 1 (iL (P ++ (B ++ (M ++ (A ++ S))))) false], H)
  | _, _, _, _, i, 0, _, _, _, _, _, h => by omega
  | [], B, P, M, i, Mx + 1, hB, hk, ha, hb, hl, hm => by
    obtain rfl : B = [] := by cases B <;> simp_all
    have hik : ¬ (i : Int) < (k : Int) := by simp at hk; omega
    rw [loopx_succ]
    simp only [lSwap_l0, gv, List.getD_cons_succ, List.getD_cons_zero, bop_i64_lss, bd_some, bv_bool, hik, decide_false, Bool.false_eq_true, if_false, lsl, List.nil_append]
  | x :: A, [], P, M, i, Mx + 1, hB, hk, ha, hb, hl, hm => by simp at hB
  | x :: A, y :: B, P, M, i, Mx + 1, hB, hk, ha, hb, hl, hm => by
    simp only [List.length_cons] at hB hk hb hl hm
    have hik : (i : Int) < (k : Int) := by omega
    have e1 : IntKind.i64.wrap ((a : Int) + (i : Int)) = ((a + i : Nat) : Int) := wN (by omega) (by omega)
    have e2 : IntKind.i64.wrap ((b : Int) + (i : Int)) = ((b + i : Nat) : Int) := wN (by omega) (by omega)
    have e3 : IntKind.i64.wrap ((i : Int) + 1) = ((i + 1 : Nat) : Int) := wN (by omega) (by omega)
    obtain ⟨s1, s2, s3, s4, s5⟩ := swp_1 P A M B S x y ha (show b + i = P.length + 1 + A.length + M.length by omega)
    have l1 : a + i < (P ++ (x :: A ++ (M ++ (y :: B ++ S)))).length := (List.getElem?_eq_some_iff.1 s1).1
    have l2 : b + i < (P ++ (x :: A ++ (M ++ (y :: B ++ S)))).length := (List.getElem?_eq_some_iff.1 s2).1
    have l3 : b + i < (P ++ (y :: A ++ (M ++ (y :: B ++ S)))).length := (List.getElem?_eq_some_iff.1 s3).1
    have ih := swap_loop n H a b k S A B (P ++ [y]) (M ++ [x]) (i + 1) Mx (by omega) (by omega) (by simp; omega) (by simp; omega) (by simp; omega) (by omega)
    rw [loopx_succ]
    simp only [lSwap_l0, gv, List.getD_cons_succ, List.getD_cons_zero, bop_i64_lss, bd_some, bv_bool, hik, decide_true, if_true, bop_i64_add, e1, e2, e3, nv_nat, bdS_some, lsl, iL_len, own_iff, Nat.reduceBEq, and_true, if_true, l1, l2, l3, iL_get s1, iL_get s2, List.getElem?_cons_zero, V.cells, List.length_cons, List.length_nil, Nat.zero_add, one_iff, setR_11, iL_set, s4,
      iL_get s3, s5, ih]
    simp
theorem swap_call (n : Nat) (H : Heap) (c : V) (a b k : Nat) (P A M B S : List Int) (hB : B.length = A.length) (hk : A.length = k) (ha : a = P.length) (hb : b = P.length + A.length + M.length) (hl : P.length + A.length + M.length + B.length < lim) (hn : k + 2 ≤ n) :
    call n 105 [.sl 1 (iL (P ++ (A ++ (M ++ (B ++ S))))) false, .int .i64 (a : Int), .int .i64 (b : Int), .int .i64 (k : Int), c] H = some (.ret [.sl 1 (iL (P ++ (B ++ (M ++ (A ++ S))))) false], H) := by
  obtain ⟨N, rfl⟩ : ∃ N, n = N + 1 := ⟨n - 1, by omega⟩
  rw [lSwap_eq]
  unfold lSwap
  exact swap_loop N H a b k S A B P M 0 N hB (by omega) (by omega) (by omega) hl (by omega)
/-- two parts one behind the other are turned -/
theorem rot_loop (n : Nat) (H : Heap) (c : V) (m : Nat) : ∀ (Mx : Nat) (A B P S : List Int), A ≠ [] → B ≠ [] → m = P.length + A.length → P.length + A.length + B.length < lim → A.length + B.length ≤ Mx → A.length + B.length + 2 ≤ n →
    loopx Mx (lRot_l0 n m c) [.sl 1 (iL (P ++ (A ++ (B ++ S)))) false, .int .i64 (A.length : Int), .int .i64 (B.length : Int)] H = some (.ret [.sl 1 (iL (P ++ (B ++ (A ++ S)))) false], H)
  | 0, A, B, P, S, hA, hB, _, _, h, _ => by
    cases A with
    | nil => exact absurd rfl hA
    | cons => simp at h
  | Mx + 1, A, B, P, S, hA, hB, hm, hl, hx, hn => by
    have a0 : 0 < A.length := List.length_pos_iff.2 hA
    have b0 : 0 < B.length := List.length_pos_iff.2 hB
    have e1 : IntKind.i64.wrap ((m : Int) - (A.length : Int)) = ((P.length : Nat) : Int) := wN (by omega) (by omega)
    rw [loopx_succ]
    by_cases h1 : A.length = B.length
    · have hne : ((A.length : Int) != (B.length : Int)) = false := by simp [h1]
      have hs := swap_call n H c P.length m A.length P A [] B S h1.symm rfl rfl (by simpa using hm) (by simp; omega) (by omega)
      simp only [List.nil_append] at hs
      simp only [lRot_l0, gv, List.getD_cons_succ, List.getD_cons_zero, bop_i64_neq, bd_some, bv_bool, hne, Bool.false_eq_true, if_false, bop_i64_sub, e1, lsl]
      rw [hs, clm_ret]
    · have hne : ((A.length : Int) != (B.length : Int)) = true := by simp; omega
      by_cases h2 : B.length < A.length
      · -- the first part is the longer one
        have hgt : (A.length : Int) > (B.length : Int) := by omega
        obtain ⟨A1, A2, rfl, hA1⟩ : ∃ A1 A2, A = A1 ++ A2 ∧ A1.length = B.length := ⟨A.take B.length, A.drop B.length, (List.take_append_drop _ _).symm, by rw [List.length_take]; omega⟩
        rw [List.length_append] at *
        have hs := swap_call n H c P.length m B.length P A1 A2 B S hA1.symm hA1 rfl (by omega) (by omega) (by omega)
        have e2 : IntKind.i64.wrap (((A1.length + A2.length : Nat) : Int) - (B.length : Int)) = ((A2.length : Nat) : Int) := wN (by omega) (by omega)
        have ih := rot_loop n H c m Mx A2 A1 (P ++ B) S (by rintro rfl; simp at h2; omega) (by rintro rfl; simp at hA1; omega) (by simp; omega) (by simp; omega) (by omega) (by omega)
        simp only [List.append_assoc] at hs ih ⊢
        rw [hA1] at ih
        simp only [lRot_l0, gv, List.getD_cons_succ, List.getD_cons_zero, bop_i64_neq, bd_some, bv_bool, hne, if_true, bop_i64_gtr, hgt, decide_true, bop_i64_sub, e1, lsl]
        rw [hs, clm_ret, e2, ih]
      · have hgt : ¬ (A.length : Int) > (B.length : Int) := by omega
        obtain ⟨B1, B2, rfl, hB2⟩ : ∃ B1 B2, B = B1 ++ B2 ∧ B2.length = A.length := ⟨B.take (B.length - A.length), B.drop (B.length - A.length), (List.take_append_drop _ _).symm, by rw [List.length_drop]; omega⟩
        rw [List.length_append] at *
        have hs := swap_call n H c P.length (P.length + A.length + B1.length) A.length P A B1 B2 S hB2 rfl rfl rfl (by omega) (by omega)
        have e2 : IntKind.i64.wrap ((m : Int) + ((B1.length + B2.length : Nat) : Int)) = ((m + (B1.length + B2.length) : Nat) : Int) := wN (by omega) (by omega)
        have e3 : IntKind.i64.wrap (((m + (B1.length + B2.length) : Nat) : Int) - (A.length : Int)) = ((P.length + A.length + B1.length : Nat) : Int) := wN (by omega) (by omega)
        have e4 : IntKind.i64.wrap (((B1.length + B2.length : Nat) : Int) - (A.length : Int)) = ((B1.length : Nat) : Int) := wN (by omega) (by omega)
        have ih := rot_loop n H c m Mx B2 B1 P (A ++ S) (by rintro rfl; simp at hB2; omega) (by rintro rfl; simp at h1; omega) (by omega) (by omega) (by omega) (by omega)
        simp only [List.append_assoc] at hs ih ⊢
        rw [hB2] at ih
        simp only [lRot_l0, gv, List.getD_cons_succ, List.getD_cons_zero, bop_i64_neq, bd_some, bv_bool, hne, if_true, bop_i64_gtr, hgt, decide_false, Bool.false_eq_true, if_false, bop_i64_sub, bop_i64_add, e1, e2, e3, lsl]
        rw [hs, clm_ret, e4, ih]
theorem rot_call (n : Nat) (H : Heap) (c : V) (a m b : Nat) (P A B S : List Int) (hA : A ≠ []) (hB : B ≠ []) (ha : a = P.length) (hm : m = P.length + A.length) (hb : b = P.length + A.length + B.length) (hl : P.length + A.length + B.length < lim) (hn : A.length + B.length + 3 ≤ n) :
    call n 101 [.sl 1 (iL (P ++ (A ++ (B ++ S)))) false, .int .i64 (a : Int), .int .i64 (m : Int), .int .i64 (b : Int), c] H = some (.ret [.sl 1 (iL (P ++ (B ++ (A ++ S)))) false], H) := by
  obtain ⟨N, rfl⟩ : ∃ N, n = N + 1 := ⟨n - 1, by omega⟩
  have e1 : IntKind.i64.wrap ((m : Int) - (a : Int)) = ((A.length : Nat) : Int) := wN (by omega) (by omega)
  have e2 : IntKind.i64.wrap ((b : Int) - (m : Int)) = ((B.length : Nat) : Int) := wN (by omega) (by omega)
  rw [lRot_eq]
  unfold lRot
  rw [e1, e2]
  exact rot_loop N H c m N A B P S hA hB hm hl (by omega) (by omega)
end Go.Proofs.Try
/-! slices.insertionSortCmpFunc, symMergeCmpFunc at []int: what they come to -/
set_option linter.unusedVariables false
set_option linter.unusedSimpArgs false
namespace Go.Proofs.Try
open Go.L Go.Rp
set_option maxRecDepth 100000
/-- what a comparator answers: by a key -/
structure CmpOk (n0 : Nat) (c : V) (H : Heap) (K : Int → Int) (D : Int → Prop) : Prop where
  ex : ∃ f caps, c = .fn f caps ∧ okV prog 3 f = true ∧ keepS f = true ∧ ∀ n, n0 ≤ n → ∀ x y, D x → D y → ∃ q, call n f ([.int .i64 x, .int .i64 y] ++ caps) H = some (.ret [.int .i64 q], H) ∧ (q < 0 ↔ K x < K y)
theorem adj (Q T : List Int) (y x : Int) {i j : Nat} (hi : i = Q.length) (hj : j = Q.length + 1) :
    (Q ++ y :: x :: T)[i]? = some y ∧ (Q ++ y :: x :: T)[j]? = some x ∧ (Q ++ y :: x :: T).set j y = Q ++ y :: y :: T ∧ (Q ++ y :: x :: T).set i x = Q ++ x :: x :: T ∧
    (Q ++ y :: y :: T)[i]? = some y ∧ (Q ++ x :: x :: T)[j]? = some x ∧ (Q ++ y :: y :: T).set i x = Q ++ x :: y :: T ∧ (Q ++ x :: x :: T).set j y = Q ++ x :: y :: T := by
  have e : ∀ u v : Int, Q ++ u :: v :: T = (Q ++ [u]) ++ v :: T := fun u v => by simp
  have hl : ∀ u : Int, j = (Q ++ [u]).length := fun u => by simp; omega
  refine ⟨mid_get _ _ _ hi, ?_, ?_, mid_set _ _ _ _ hi, mid_get _ _ _ hi, ?_, mid_set _ _ _ _ hi, ?_⟩
  · rw [e]; exact mid_get _ _ _ (hl y)
  · rw [e, mid_set _ _ _ _ (hl y)]; simp
  · rw [e]; exact mid_get _ _ _ (hl x)
  · rw [e, mid_set _ _ _ _ (hl x)]; simp
section
variable {K : Int → Int} {D : Int → Prop} {H : Heap} {c : V} {n0 : Nat} {p : Nat → Int}
theorem ins_inner (hc : CmpOk n0 c H K D) (n a i : Nat) (st1 : List V) (next3 : List V → Heap → Option (Res × Heap)) (hst : gv st1 1 = .int .i64 (i : Int)) (hi : i + 1 < lim) (hn : n0 ≤ n) (R : List Int) : ∀ (r : List Int) (x : Int) (b P : List Int) (j Mx : Nat),
    a = P.length → j = P.length + r.length → j + b.length + R.length + 1 < lim → (∀ y ∈ r, D y) → D x → r.length < Mx →
    loopx Mx (lIns_l6 n a c st1 next3) [.sl 1 (iL (P ++ (r.reverse ++ (x :: (b ++ R))))) false, .int .i64 (j : Int)] H = next3 [.sl 1 (iL (P ++ (insD K r x b ++ R))) false, .int .i64 ((i + 1 : Nat) : Int)] H
  | _, _, _, _, _, 0, _, _, _, _, _, h => by omega
  | [], x, b, P, j, Mx + 1, ha, hj, hl, hr, hx, hM => by
    have hja : ¬ (j : Int) > (a : Int) := by simp at hj; omega
    have e1 : IntKind.i64.wrap ((i : Int) + 1) = ((i + 1 : Nat) : Int) := wN (by omega) hi
    rw [loopx_succ]
    simp only [lIns_l6, gv, List.getD_cons_succ, List.getD_cons_zero, bop_i64_gtr, bd_some, bv_bool, hja, decide_false, Bool.false_eq_true, if_false, lsl]
    simp only [gv] at hst
    simp only [hst, bop_i64_add, bd_some, e1, insD, List.reverse_nil, List.nil_append, List.cons_append]
  | y :: r, x, b, P, j, Mx + 1, ha, hj, hl, hr, hx, hM => by
    obtain ⟨f, caps, hcf, hok, hk, hcmp⟩ := hc.ex
    have hfn : ∀ k : Nat → List V → Option (Res × Heap), fnK c k = k f caps := fun k => by rw [hcf]; rfl
    simp only [List.length_cons] at hj hM
    have hja : (j : Int) > (a : Int) := by omega
    have hL : P ++ ((y :: r).reverse ++ (x :: (b ++ R))) = (P ++ r.reverse) ++ y :: x :: (b ++ R) := by simp
    have e1 : IntKind.i64.wrap ((i : Int) + 1) = ((i + 1 : Nat) : Int) := wN (by omega) hi
    have e2 : IntKind.i64.wrap ((j : Int) - 1) = ((j - 1 : Nat) : Int) := wN (by omega) (by omega)
    obtain ⟨s1, s2, s3, s4, s5, s6, s7, s8⟩ := adj (P ++ r.reverse) (b ++ R) y x (i := j - 1) (j := j) (by simp; omega) (by simp; omega)
    have l1 := (List.getElem?_eq_some_iff.1 s1).1
    have l2 := (List.getElem?_eq_some_iff.1 s2).1
    have l5 := (List.getElem?_eq_some_iff.1 s5).1
    obtain ⟨q, hq, hqk⟩ := hcmp n hn x y hx (hr y (by simp))
    have ih := ins_inner hc n a i st1 next3 hst hi hn R r x (y :: b) P (j - 1) Mx ha (by omega) (by simp; omega) (fun z hz => hr z (List.mem_cons_of_mem _ hz)) hx (by omega)
    rw [loopx_succ, hL]
    simp only [lIns_l6, gv, List.getD_cons_succ, List.getD_cons_zero, bop_i64_gtr, bd_some, bv_bool, hja, decide_true, if_true, nv_nat, bdS_some, lsl, iL_len, own_iff, Nat.reduceBEq, and_true, l1, l2, iL_get s1, iL_get s2, List.getElem?_cons_zero, bop_i64_sub, e2, hfn, hok, hk]
    rw [hq, cl_ret]
    simp only [one1_one, bop_i64_lss, bd_some, bv_bool]
    by_cases hxy : K x < K y
    · have hq0 : q < 0 := hqk.2 hxy
      simp only [hq0, decide_true, if_true, nv_nat, bdS_some, bd_some, iL_get s1, iL_get s2, List.getElem?_cons_zero, V.cells, List.length_cons, List.length_nil, Nat.zero_add, one_iff, setR_11, iL_set, s3, iL_len, l1, l2, l5, iL_get s5, s7, if_true]
      rw [insD, if_pos hxy]
      have hL2 : (P ++ r.reverse) ++ x :: y :: (b ++ R) = P ++ (r.reverse ++ (x :: (y :: b ++ R))) := by simp
      rw [hL2]
      exact ih
    · have hq0 : ¬ q < 0 := fun h => hxy (hqk.1 h)
      simp only [gv] at hst
      simp only [hq0, decide_false, Bool.false_eq_true, if_false, hst, bop_i64_add, bd_some, e1]
      rw [insD, if_neg hxy]
      simp
theorem ins_loop (hc : CmpOk n0 c H K D) (n lo len : Nat) (hn : n0 ≤ n) (hn2 : len ≤ n) (hlim : lo + len + 1 < lim) (P S : List Int) (hP : lo = P.length) (hD : ∀ x ∈ rng p lo len, D x) (hS : lo + len + S.length < lim) : ∀ (d k Mx : Nat), 1 ≤ k → (k + d = len ∨ (len = 0 ∧ k = 1 ∧ d = 0)) → d < Mx →
    loopx Mx (lIns_l0 n lo ((lo + len : Nat) : Int) c) [.sl 1 (iL (P ++ (sR K p lo (min k len) ++ (rng p (lo + k) (len - k) ++ S)))) false, .int .i64 ((lo + k : Nat) : Int)] H = some (.ret [.sl 1 (iL (P ++ (sR K p lo len ++ S))) false], H)
  | d, k, 0, _, _, h => by omega
  | 0, k, Mx + 1, h1, hk, _ => by
    have hik : ¬ ((lo + k : Nat) : Int) < ((lo + len : Nat) : Int) := by omega
    have hmin : min k len = len := by omega
    have hz : len - k = 0 := by omega
    rw [loopx_succ]
    simp only [lIns_l0, gv, List.getD_cons_succ, List.getD_cons_zero, bop_i64_lss, bd_some, bv_bool, hik, decide_false, Bool.false_eq_true, if_false, lsl, hmin, hz]
    rfl
  | d + 1, k, Mx + 1, h1, hk, hM => by
    have hkl : k + (d + 1) = len := by omega
    have hik : ((lo + k : Nat) : Int) < ((lo + len : Nat) : Int) := by omega
    have hmin : min k len = k := by omega
    have hr : rng p (lo + k) (len - k) = p (lo + k) :: rng p (lo + (k + 1)) (len - (k + 1)) := by
      rw [show len - k = (len - (k + 1)) + 1 by omega, rng_cons, Nat.add_assoc]
    have ih := ins_loop hc n lo len hn hn2 hlim P S hP hD hS d (k + 1) Mx (by omega) (by omega) (by omega)
    have hm2 : min (k + 1) len = k + 1 := by omega
    rw [hm2] at ih
    have hDk : ∀ y ∈ (sR K p lo k).reverse, D y := fun y hy => hD y (by
      obtain ⟨i, h1, h2, h3⟩ := sR_mem.1 (List.mem_reverse.1 hy)
      exact rng_mem.2 ⟨i, h1, by omega, h3⟩)
    have inner := ins_inner hc n lo (lo + k) [.sl 1 (iL (P ++ (sR K p lo k ++ (rng p (lo + k) (len - k) ++ S)))) false, .int .i64 ((lo + k : Nat) : Int)] (loopx Mx (lIns_l0 n lo ((lo + len : Nat) : Int) c)) rfl (by omega) hn (rng p (lo + (k + 1)) (len - (k + 1)) ++ S)
      (sR K p lo k).reverse (p (lo + k)) [] P (lo + k) n hP (by rw [List.length_reverse, sR_len]; omega) (by rw [List.length_append, rng_len]; simp; omega) hDk (hD _ (rng_mem.2 ⟨_, by omega, by omega, rfl⟩)) (by rw [List.length_reverse, sR_len]; omega)
    rw [List.reverse_reverse, List.nil_append] at inner
    rw [loopx_succ, hmin]
    simp only [lIns_l0, gv, List.getD_cons_succ, List.getD_cons_zero, bop_i64_lss, bd_some, bv_bool, hik, decide_true, if_true, lsl]
    have hL : P ++ (sR K p lo k ++ (rng p (lo + k) (len - k) ++ S)) = P ++ (sR K p lo k ++ (p (lo + k) :: (rng p (lo + (k + 1)) (len - (k + 1)) ++ S))) := by rw [hr]; rfl
    simp only [hL] at inner ⊢
    rw [inner]
    exact ih
/-- insertion: the numbers from lo on -/
theorem ins_call (hc : CmpOk n0 c H K D) (n lo len : Nat) (P S : List Int) (hP : lo = P.length) (hD : ∀ x ∈ rng p lo len, D x) (hS : lo + len + S.length + 1 < lim) (hn : n0 + 1 ≤ n) (hn2 : len + 2 ≤ n) :
    call n 93 [.sl 1 (iL (P ++ (rng p lo len ++ S))) false, .int .i64 (lo : Int), .int .i64 ((lo + len : Nat) : Int), c] H = some (.ret [.sl 1 (iL (P ++ (sR K p lo len ++ S))) false], H) := by
  obtain ⟨N, rfl⟩ : ∃ N, n = N + 1 := ⟨n - 1, by omega⟩
  have e1 : IntKind.i64.wrap ((lo : Int) + 1) = ((lo + 1 : Nat) : Int) := wN (by omega) (by omega)
  rw [lIns_eq]
  unfold lIns
  rw [e1]
  have h1 : rng p lo len = sR K p lo (min 1 len) ++ rng p (lo + 1) (len - 1) := by
    cases len with
    | zero => simp [rng, sR]
    | succ l =>
      have : min 1 (l + 1) = 1 := by omega
      rw [this, rng_cons]; simp [sR, insD]
  rw [h1, List.append_assoc]
  exact ins_loop hc N lo len (by omega) (by omega) (by omega) P S hP hD (by omega) (len - 1) 1 N (by omega) (by omega) (by omega)

/-- a search by halves -/
theorem bs_gen {l : V} {body : List V → Heap → (List V → Heap → Option (Res × Heap)) → Option (Res × Heap)} {fin : Nat → Option (Res × Heap)} {Q : Nat → Prop} (lo hi : Nat)
    (step : ∀ i j : Nat, lo ≤ i → i < j → j ≤ hi → ∀ next, (Q ((i + j) / 2) ∧ body [l, .int .i64 (i : Int), .int .i64 (j : Int)] H next = next [l, .int .i64 (((i + j) / 2 + 1 : Nat) : Int), .int .i64 (j : Int)] H) ∨ (¬ Q ((i + j) / 2) ∧ body [l, .int .i64 (i : Int), .int .i64 (j : Int)] H next = next [l, .int .i64 (i : Int), .int .i64 (((i + j) / 2 : Nat) : Int)] H))
    (stop : ∀ i : Nat, lo ≤ i → i ≤ hi → ∀ next, body [l, .int .i64 (i : Int), .int .i64 (i : Int)] H next = fin i) : ∀ (M i j : Nat), j - i < M → lo ≤ i → i ≤ j → j ≤ hi → (i = lo ∨ Q (i - 1)) → (j = hi ∨ ¬ Q j) →
    ∃ r, lo ≤ r ∧ r ≤ hi ∧ (r = lo ∨ Q (r - 1)) ∧ (r = hi ∨ ¬ Q r) ∧ loopx M body [l, .int .i64 (i : Int), .int .i64 (j : Int)] H = fin r
  | 0, i, j, h, _, _, _, _, _ => by omega
  | M + 1, i, j, h, h1, h2, h3, h4, h5 => by
    by_cases hij : i = j
    · subst hij
      exact ⟨i, h1, h3, h4, h5, by rw [loopx_succ]; exact stop i h1 h3 _⟩
    · rcases step i j h1 (by omega) h3 (loopx M body) with ⟨q, e⟩ | ⟨q, e⟩
      · obtain ⟨r, r1, r2, r3, r4, r5⟩ := bs_gen lo hi step stop M ((i + j) / 2 + 1) j (by omega) (by omega) (by omega) h3 (.inr (by simpa using q)) h5
        exact ⟨r, r1, r2, r3, r4, by rw [loopx_succ, e]; exact r5⟩
      · obtain ⟨r, r1, r2, r3, r4, r5⟩ := bs_gen lo hi step stop M i ((i + j) / 2) (by omega) h1 (by omega) (by omega) h4 (.inr q)
        exact ⟨r, r1, r2, r3, r4, by rw [loopx_succ, e]; exact r5⟩
end
theorem cvt_iu (a : Int) : cvt prog 3 124 (.int .i64 a) = some (.int .u64 (IntKind.u64.wrap a)) := by kernel_rfl
theorem cvt_ui (a : Int) : cvt prog 124 3 (.int .u64 a) = some (.int .i64 (IntKind.i64.wrap a)) := by kernel_rfl
theorem shr_u (a : Int) : bop prog .shr 124 (.int .u64 a) (.int .u64 1) = some (.int .u64 (a.fdiv (2 ^ (min (1 : Int).toNat 64)))) := by kernel_rfl
theorem half_ok {i j : Nat} (h : i + j < lim) : IntKind.i64.wrap ((IntKind.u64.wrap (((i + j : Nat) : Int))).fdiv (2 ^ (min (1 : Int).toNat 64))) = (((i + j) / 2 : Nat) : Int) := by
  have e : IntKind.u64.wrap (((i + j : Nat) : Int)) = ((i + j : Nat) : Int) := by rw [IntKind.wrap_u64]; unfold lim at h; omega
  rw [e]
  have e2 : (2 : Int) ^ (min (1 : Int).toNat 64) = 2 := by decide
  rw [e2, Int.fdiv_eq_ediv_of_nonneg _ (by decide)]
  exact wN (by omega) (by omega)
end Go.Proofs.Try
/-! slices.symMergeCmpFunc at []int: what it comes to -/
set_option linter.unusedVariables false
set_option linter.unusedSimpArgs false
namespace Go.Proofs.Try
open Go.L Go.Rp
set_option maxRecDepth 100000
/-- the end of symMerge: the parts behind the middle -/
noncomputable def symU (n : Nat) (b : Int) (c : V) (v100 v138 : V) (l : List (List V)) (h : Heap) : Option (Res × Heap) :=
  bd (bop prog .lss 3 v100 v138) fun v153 =>
  bv v153 fun b154 => if b154 then
    bd (bop prog .lss 3 v138 (V.int .i64 b)) fun v155 =>
    bv v155 fun b156 => if b156 then
      clm (call n 94 (V.sl 1 l false :: [v100, v138, (V.int .i64 b), c]) h) 1 fun l157 r158 h159 => some (Res.ret (V.sl 1 l157 false :: []), h159)
    else some (Res.ret (V.sl 1 l false :: []), h)
  else some (Res.ret (V.sl 1 l false :: []), h)
/-- .. ahead of it -/
noncomputable def symV (n : Nat) (a b : Int) (c : V) (v100 v138 v1 : V) (l : List (List V)) (h : Heap) : Option (Res × Heap) :=
  bd (bop prog .lss 3 (V.int .i64 a) v1) fun v146 =>
  bv v146 fun b147 => if b147 then
    bd (bop prog .lss 3 v1 v100) fun v148 =>
    bv v148 fun b149 => if b149 then
      clm (call n 94 (V.sl 1 l false :: [(V.int .i64 a), v1, v100, c]) h) 1 fun l150 r151 h152 => symU n b c v100 v138 l150 h152
    else symU n b c v100 v138 l h
  else symU n b c v100 v138 l h
/-- what comes behind the search -/
noncomputable def symT (n : Nat) (a m b : Int) (c : V) (v100 v101 v1 : V) (l : List (List V)) (hh : Heap) : Option (Res × Heap) :=
  bd (bop prog .sub 3 v101 v1) fun v138 =>
  bd (bop prog .lss 3 v1 (V.int .i64 m)) fun v139 =>
  bv v139 fun b140 => if b140 then
    bd (bop prog .lss 3 (V.int .i64 m) v138) fun v141 =>
    bv v141 fun b142 => if b142 then
      clm (call n 101 (V.sl 1 l false :: [v1, (V.int .i64 m), v138, c]) hh) 1 fun l143 r144 h145 => symV n a b c v100 v138 v1 l143 h145
    else symV n a b c v100 v138 v1 l hh
  else symV n a b c v100 v138 v1 l hh
/-- a merge, as it is said -/
def SymOk (c : V) (H : Heap) (K : Int → Int) (D : Int → Prop) (n sz : Nat) : Prop := ∀ (A B P S : List Int) (a m b : Nat), A ≠ [] → B ≠ [] → A.length + B.length ≤ sz → a = P.length → m = P.length + A.length → b = P.length + A.length + B.length → 2 * b + 1 < lim →
  Sd K A → Sd K B → (∀ x ∈ A, ∀ y ∈ B, x < y) → (∀ x ∈ A, D x) → (∀ y ∈ B, D y) → ∃ C, C.Perm (A ++ B) ∧ Sd K C ∧
    call n 94 [.sl 1 (iL (P ++ (A ++ (B ++ S)))) false, .int .i64 (a : Int), .int .i64 (m : Int), .int .i64 (b : Int), c] H = some (.ret [.sl 1 (iL (P ++ (C ++ S))) false], H)
section
variable {K : Int → Int} {D : Int → Prop} {H : Heap} {c : V}
theorem symU_ok {n sz : Nat} (ih : SymOk c H K D n sz) (A B P S : List Int) (mid e b : Nat) (hsz : A.length + B.length ≤ sz) (hm : mid = P.length) (he : e = P.length + A.length) (hb : b = P.length + A.length + B.length) (hl : 2 * b + 1 < lim)
    (hA : Sd K A) (hB : Sd K B) (hlt : ∀ x ∈ A, ∀ y ∈ B, x < y) (dA : ∀ x ∈ A, D x) (dB : ∀ y ∈ B, D y) : ∃ C, C.Perm (A ++ B) ∧ Sd K C ∧
    symU n b c (.int .i64 (mid : Int)) (.int .i64 (e : Int)) (iL (P ++ (A ++ (B ++ S)))) H = some (.ret [.sl 1 (iL (P ++ (C ++ S))) false], H) := by
  unfold symU
  by_cases h1 : A = []
  · subst h1
    have hc : ¬ (mid : Int) < (e : Int) := by simp at he; omega
    exact ⟨B, .refl _, hB, by simp only [bop_i64_lss, bd_some, bv_bool, hc, decide_false, Bool.false_eq_true, if_false, List.nil_append]⟩
  · have hA0 : 0 < A.length := List.length_pos_iff.2 h1
    have hc : (mid : Int) < (e : Int) := by omega
    by_cases h2 : B = []
    · subst h2
      have hc2 : ¬ (e : Int) < (b : Int) := by simp at hb; omega
      exact ⟨A, by simp, hA, by simp only [bop_i64_lss, bd_some, bv_bool, hc, hc2, decide_true, decide_false, Bool.false_eq_true, if_false, if_true, List.nil_append]⟩
    · have hB0 : 0 < B.length := List.length_pos_iff.2 h2
      have hc2 : (e : Int) < (b : Int) := by omega
      obtain ⟨C, p, s, e1⟩ := ih A B P S mid e b h1 h2 hsz hm he hb hl hA hB hlt dA dB
      refine ⟨C, p, s, ?_⟩
      simp only [bop_i64_lss, bd_some, bv_bool, hc, hc2, decide_true, if_true]
      rw [e1, clm_ret]
theorem symV_ok {n sz : Nat} (ih : SymOk c H K D n sz) (A1 A2 B1 B2 P S : List Int) (a r mid e b : Nat) (h1z : A1.length + B1.length ≤ sz) (h2z : A2.length + B2.length ≤ sz) (ha : a = P.length) (hr : r = P.length + A1.length) (hm : mid = P.length + A1.length + B1.length) (he : e = mid + A2.length) (hb : b = e + B2.length) (hl : 2 * b + 1 < lim)
    (s1 : Sd K A1) (t1 : Sd K B1) (s2 : Sd K A2) (t2 : Sd K B2) (hlt : ∀ x ∈ A1 ++ A2, ∀ y ∈ B1 ++ B2, x < y) (dA : ∀ x ∈ A1 ++ A2, D x) (dB : ∀ y ∈ B1 ++ B2, D y) : ∃ C1 C2, C1.Perm (A1 ++ B1) ∧ Sd K C1 ∧ C2.Perm (A2 ++ B2) ∧ Sd K C2 ∧
    symV n a b c (.int .i64 (mid : Int)) (.int .i64 (e : Int)) (.int .i64 (r : Int)) (iL (P ++ (A1 ++ (B1 ++ (A2 ++ (B2 ++ S)))))) H = some (.ret [.sl 1 (iL (P ++ (C1 ++ (C2 ++ S)))) false], H) := by
  have hU : ∀ C1 : List Int, C1.length = A1.length + B1.length → ∃ C2, C2.Perm (A2 ++ B2) ∧ Sd K C2 ∧ symU n b c (.int .i64 (mid : Int)) (.int .i64 (e : Int)) (iL (P ++ (C1 ++ (A2 ++ (B2 ++ S))))) H = some (.ret [.sl 1 (iL (P ++ (C1 ++ (C2 ++ S)))) false], H) := fun C1 hC => by
    obtain ⟨C2, p, s, e1⟩ := symU_ok ih A2 B2 (P ++ C1) S mid e b h2z (by simp; omega) (by simp; omega) (by simp; omega) hl s2 t2 (fun x hx y hy => hlt x (List.mem_append_right _ hx) y (List.mem_append_right _ hy)) (fun x hx => dA x (List.mem_append_right _ hx)) (fun y hy => dB y (List.mem_append_right _ hy))
    exact ⟨C2, p, s, by simpa only [List.append_assoc] using e1⟩
  unfold symV
  by_cases h1 : A1 = []
  · subst h1
    have hc : ¬ (a : Int) < (r : Int) := by simp at hr; omega
    obtain ⟨C2, p, s, e1⟩ := hU B1 (by simp)
    exact ⟨B1, C2, .refl _, t1, p, s, by simp only [bop_i64_lss, bd_some, bv_bool, hc, decide_false, Bool.false_eq_true, if_false, List.nil_append]; exact e1⟩
  · have hA0 : 0 < A1.length := List.length_pos_iff.2 h1
    have hc : (a : Int) < (r : Int) := by omega
    by_cases h2 : B1 = []
    · subst h2
      have hc2 : ¬ (r : Int) < (mid : Int) := by simp at hm; omega
      obtain ⟨C2, p, s, e1⟩ := hU A1 (by simp)
      exact ⟨A1, C2, by simp, s1, p, s, by simp only [bop_i64_lss, bd_some, bv_bool, hc, hc2, decide_true, decide_false, Bool.false_eq_true, if_false, if_true, List.nil_append]; exact e1⟩
    · have hB0 : 0 < B1.length := List.length_pos_iff.2 h2
      have hc2 : (r : Int) < (mid : Int) := by omega
      obtain ⟨C1, p1, q1, e1⟩ := ih A1 B1 P (A2 ++ (B2 ++ S)) a r mid h1 h2 h1z ha hr hm (by omega) s1 t1 (fun x hx y hy => hlt x (List.mem_append_left _ hx) y (List.mem_append_left _ hy)) (fun x hx => dA x (List.mem_append_left _ hx)) (fun y hy => dB y (List.mem_append_left _ hy))
      obtain ⟨C2, p2, q2, e2⟩ := hU C1 (by rw [p1.length_eq]; simp)
      refine ⟨C1, C2, p1, q1, p2, q2, ?_⟩
      simp only [bop_i64_lss, bd_some, bv_bool, hc, hc2, decide_true, if_true]
      rw [e1, clm_ret, e2]
theorem symT_ok {n sz : Nat} (ih : SymOk c H K D n sz) (A1 A2 B1 B2 P S : List Int) (a r m mid nn b : Nat) (h1z : A1.length + B1.length ≤ sz) (h2z : A2.length + B2.length ≤ sz) (ha : a = P.length) (hr : r = P.length + A1.length) (hmm : m = r + A2.length) (hm : mid = P.length + A1.length + B1.length) (hnn : nn = mid + m) (hb : b = m + B1.length + B2.length) (hl : 2 * b + 1 < lim) (hn : A2.length + B1.length + 3 ≤ n)
    (s1 : Sd K A1) (t1 : Sd K B1) (s2 : Sd K A2) (t2 : Sd K B2) (hlt : ∀ x ∈ A1 ++ A2, ∀ y ∈ B1 ++ B2, x < y) (dA : ∀ x ∈ A1 ++ A2, D x) (dB : ∀ y ∈ B1 ++ B2, D y) : ∃ C1 C2, C1.Perm (A1 ++ B1) ∧ Sd K C1 ∧ C2.Perm (A2 ++ B2) ∧ Sd K C2 ∧
    symT n a m b c (.int .i64 (mid : Int)) (.int .i64 (nn : Int)) (.int .i64 (r : Int)) (iL (P ++ ((A1 ++ A2) ++ ((B1 ++ B2) ++ S)))) H = some (.ret [.sl 1 (iL (P ++ (C1 ++ (C2 ++ S)))) false], H) := by
  obtain ⟨C1, C2, p1, q1, p2, q2, e1⟩ := symV_ok ih A1 A2 B1 B2 P S a r mid (m + B1.length) b h1z h2z ha hr hm (by omega) (by omega) hl s1 t1 s2 t2 hlt dA dB
  refine ⟨C1, C2, p1, q1, p2, q2, ?_⟩
  have e2 : IntKind.i64.wrap ((nn : Int) - (r : Int)) = ((m + B1.length : Nat) : Int) := wN (by omega) (by omega)
  unfold symT
  simp only [bop_i64_sub, bd_some, e2, bop_i64_lss, bv_bool]
  by_cases h1 : A2 = []
  · subst h1
    have hc : ¬ (r : Int) < (m : Int) := by simp at hmm; omega
    simp only [hc, decide_false, Bool.false_eq_true, if_false]
    simpa only [List.append_nil, List.nil_append, List.append_assoc] using e1
  · have hA0 : 0 < A2.length := List.length_pos_iff.2 h1
    have hc : (r : Int) < (m : Int) := by omega
    by_cases h2 : B1 = []
    · subst h2
      have hc2 : ¬ (m : Int) < ((m + ([] : List Int).length : Nat) : Int) := by simp
      simp only [hc, hc2, decide_true, decide_false, Bool.false_eq_true, if_false, if_true]
      simpa only [List.append_nil, List.nil_append, List.append_assoc] using e1
    · have hB0 : 0 < B1.length := List.length_pos_iff.2 h2
      have hc2 : (m : Int) < ((m + B1.length : Nat) : Int) := by omega
      have hrot := rot_call n H c r m (m + B1.length) (P ++ A1) A2 B1 (B2 ++ S) h1 h2 (by simp; omega) (by simp; omega) (by simp; omega) (by simp; omega) hn
      simp only [hc, hc2, decide_true, if_true]
      simp only [List.append_assoc] at hrot e1 ⊢
      rw [hrot, clm_ret, e1]
end
end Go.Proofs.Try
/-! slices.symMergeCmpFunc, stableCmpFunc, SortStableFunc at []int: what they come to -/
set_option linter.unusedVariables false
set_option linter.unusedSimpArgs false
namespace Go.Proofs.Try
open Go.L Go.Rp
set_option maxRecDepth 100000
theorem some_ne {k : Nat} : ((some k : Option Nat) ≠ some 0) = ((k == 0) = false) := by simp
theorem zlo : (0 : Nat) < 1 := by decide
theorem ole : (1 : Nat) ≤ 1 := by decide
theorem seg_get (P A S : List Int) {h : Nat} (h1 : P.length ≤ h) (h2 : h < P.length + A.length) : (P ++ (A ++ S))[h]? = some (A.getD (h - P.length) 0) := by
  rw [List.getElem?_append_right h1, List.getElem?_append_left (by omega), List.getD_eq_getElem?_getD, List.getElem?_eq_getElem (by omega)]; rfl
theorem getD_mem {A : List Int} {k : Nat} (h : k < A.length) : A.getD k 0 ∈ A := by
  rw [List.getD_eq_getElem?_getD, List.getElem?_eq_getElem h]; exact List.getElem_mem h
section
variable {K : Int → Int} {D : Int → Prop} {H : Heap} {c : V} {n0 : Nat} {p : Nat → Int}
theorem shr_loop (n i : Nat) (st1 : List V) (hst : st1.getD 1 (.bool false) = .int .i64 (i : Int)) (hi : i + 1 < lim) (x : Int) (R : List Int) : ∀ (B P : List Int) (k Mx : Nat), k = P.length → i = k + 1 + B.length → B.length < Mx →
    loopx Mx (lSym_l30 n st1) [.sl 1 (iL (P ++ (x :: (B ++ R)))) false, .int .i64 (k : Int)] H = some (.ret [.sl 1 (iL (P ++ (B ++ (x :: R)))) false], H)
  | _, _, _, 0, _, _, h => by omega
  | [], P, k, Mx + 1, hk, hi', hM => by
    have e1 : IntKind.i64.wrap ((i : Int) - 1) = ((i - 1 : Nat) : Int) := wN (by omega) (by omega)
    have hc : ¬ (k : Int) < ((i - 1 : Nat) : Int) := by simp at hi'; omega
    rw [loopx_succ]
    simp only [lSym_l30, gv, List.getD_cons_succ, List.getD_cons_zero, hst, bop_i64_sub, bd_some, e1, bop_i64_lss, bv_bool, hc, decide_false, Bool.false_eq_true, if_false, lsl, List.nil_append]
  | y :: B, P, k, Mx + 1, hk, hi', hM => by
    simp only [List.length_cons] at hi' hM
    have e1 : IntKind.i64.wrap ((i : Int) - 1) = ((i - 1 : Nat) : Int) := wN (by omega) (by omega)
    have e2 : IntKind.i64.wrap ((k : Int) + 1) = ((k + 1 : Nat) : Int) := wN (by omega) (by omega)
    have hc : (k : Int) < ((i - 1 : Nat) : Int) := by omega
    obtain ⟨s1, s2, s3, s4, s5, s6, s7, s8⟩ := adj P (B ++ R) x y hk (show k + 1 = P.length + 1 by omega)
    have l1 := (List.getElem?_eq_some_iff.1 s1).1
    have l2 := (List.getElem?_eq_some_iff.1 s2).1
    have l6 := (List.getElem?_eq_some_iff.1 s6).1
    have ih := shr_loop n i st1 hst hi x R B (P ++ [y]) (k + 1) Mx (by simp; omega) (by omega) (by omega)
    rw [loopx_succ, List.cons_append]
    simp only [lSym_l30, gv, List.getD_cons_succ, List.getD_cons_zero, hst, bop_i64_sub, bop_i64_add, bd_some, e1, e2, bop_i64_lss, bv_bool, hc, decide_true, if_true, nv_nat, bdS_some, lsl, iL_len, own_iff, some_ne, true_and, zlo, ole, Nat.reduceBEq, and_true, l1, l2, l6, iL_get s1, iL_get s2, List.getElem?_cons_zero, V.cells, List.length_cons, List.length_nil, Nat.zero_add, one_iff, setR_11, iL_set, s4, iL_get s6, s8]
    simpa only [List.append_assoc, List.cons_append, List.nil_append] using ih
theorem shl_loop (n i : Nat) (st50 : List V) (hst : st50.getD 1 (.bool false) = .int .i64 (i : Int)) (x : Int) : ∀ (r R P : List Int) (k Mx : Nat), i = P.length → k = P.length + r.length → k + 1 < lim → r.length < Mx →
    loopx Mx (lSym_l82 n st50) [.sl 1 (iL (P ++ (r.reverse ++ (x :: R)))) false, .int .i64 (k : Int)] H = some (.ret [.sl 1 (iL (P ++ (x :: (r.reverse ++ R)))) false], H)
  | _, _, _, _, 0, _, _, _, h => by omega
  | [], R, P, k, Mx + 1, hi, hk, hl, hM => by
    have hc : ¬ (k : Int) > (i : Int) := by simp at hk; omega
    rw [loopx_succ]
    simp only [lSym_l82, gv, List.getD_cons_succ, List.getD_cons_zero, hst, bop_i64_gtr, bd_some, bv_bool, hc, decide_false, Bool.false_eq_true, if_false, lsl, List.nil_append, List.reverse_nil]
  | y :: r, R, P, k, Mx + 1, hi, hk, hl, hM => by
    simp only [List.length_cons] at hk hM
    have e1 : IntKind.i64.wrap ((k : Int) - 1) = ((k - 1 : Nat) : Int) := wN (by omega) (by omega)
    have hc : (k : Int) > (i : Int) := by omega
    have hL : P ++ ((y :: r).reverse ++ (x :: R)) = (P ++ r.reverse) ++ y :: x :: R := by simp
    obtain ⟨s1, s2, s3, s4, s5, s6, s7, s8⟩ := adj (P ++ r.reverse) R y x (i := k - 1) (j := k) (by simp; omega) (by simp; omega)
    have l1 := (List.getElem?_eq_some_iff.1 s1).1
    have l2 := (List.getElem?_eq_some_iff.1 s2).1
    have l5 := (List.getElem?_eq_some_iff.1 s5).1
    have ih := shl_loop n i st50 hst x r (y :: R) P (k - 1) Mx hi (by omega) (by omega) (by omega)
    rw [loopx_succ, hL]
    simp only [lSym_l82, gv, List.getD_cons_succ, List.getD_cons_zero, hst, bop_i64_sub, bd_some, e1, bop_i64_gtr, bv_bool, hc, decide_true, if_true, nv_nat, bdS_some, lsl, iL_len, own_iff, some_ne, true_and, zlo, ole, Nat.reduceBEq, and_true, l1, l2, l5, iL_get s1, iL_get s2, List.getElem?_cons_zero, V.cells, List.length_cons, List.length_nil, Nat.zero_add, one_iff, setR_11, iL_set, s3, iL_get s5, s7]
    simpa only [List.append_assoc, List.reverse_cons, List.cons_append, List.nil_append] using ih

/-- one, and what comes behind it -/
theorem sym_one (hc : CmpOk n0 c H K D) (n : Nat) (x : Int) (B P S : List Int) (a m b : Nat) (ha : a = P.length) (hm : m = P.length + 1) (hb : b = P.length + 1 + B.length) (hl : 2 * b + 1 < lim) (hB : Sd K B) (hlt : ∀ y ∈ B, x < y) (dx : D x) (dB : ∀ y ∈ B, D y) (hn : n0 ≤ n) (hn2 : B.length + 2 ≤ n) :
    ∃ C, C.Perm (x :: B) ∧ Sd K C ∧ loopx n (lSym_l0 n a c) [.sl 1 (iL (P ++ (x :: (B ++ S)))) false, .int .i64 (m : Int), .int .i64 (b : Int)] H = some (.ret [.sl 1 (iL (P ++ (C ++ S))) false], H) := by
  obtain ⟨f, caps, hcf, hok, hk, hcmp⟩ := hc.ex
  have hfn : ∀ k : Nat → List V → Option (Res × Heap), fnK c k = k f caps := fun k => by rw [hcf]; rfl
  have gx : (P ++ (x :: (B ++ S)))[a]? = some x := mid_get _ _ _ ha
  have gB : ∀ h, m ≤ h → h < b → (P ++ (x :: (B ++ S)))[h]? = some (B.getD (h - m) 0) := fun h h1 h2 => by
    have := seg_get (P ++ [x]) B S (h := h) (by simp; omega) (by simp; omega)
    simp only [List.append_assoc, List.cons_append, List.nil_append, List.length_append, List.length_singleton] at this
    rw [this, hm]
  obtain ⟨r, r1, r2, r3, r4, r5⟩ := bs_gen (H := H) (l := .sl 1 (iL (P ++ (x :: (B ++ S)))) false) (body := lSym_l0 n a c) (fin := fun i => loopx n (lSym_l30 n [.sl 1 (iL (P ++ (x :: (B ++ S)))) false, .int .i64 (i : Int), .int .i64 (i : Int)]) [.sl 1 (iL (P ++ (x :: (B ++ S)))) false, .int .i64 (a : Int)] H) (Q := fun h => K (B.getD (h - m) 0) < K x) m b
    (fun i j h1 h2 h3 next => by
      have hij : (i : Int) < (j : Int) := by omega
      have e1 : IntKind.i64.wrap ((i : Int) + (j : Int)) = ((i + j : Nat) : Int) := wN (by omega) (by omega)
      have g1 := gB ((i + j) / 2) (by omega) (by omega)
      have l1 := (List.getElem?_eq_some_iff.1 g1).1
      have l2 := (List.getElem?_eq_some_iff.1 gx).1
      have e2 : IntKind.i64.wrap ((((i + j) / 2 : Nat) : Int) + 1) = (((i + j) / 2 + 1 : Nat) : Int) := wN (by omega) (by omega)
      obtain ⟨q, hq, hqk⟩ := hcmp n hn (B.getD ((i + j) / 2 - m) 0) x (dB _ (getD_mem (by omega))) dx
      simp only [lSym_l0, gv, List.getD_cons_succ, List.getD_cons_zero, bop_i64_lss, bd_some, bv_bool, hij, decide_true, if_true, bop_i64_add, e1, cvt_iu, shr_u, cvt_ui, half_ok (show i + j < lim by omega), nv_nat, bdS_some, lsl, iL_len, own_iff, some_ne, true_and, zlo, ole, Nat.reduceBEq, and_true, l1, l2, iL_get g1, iL_get gx, List.getElem?_cons_zero, hfn, hok, hk]
      rw [hq, cl_ret]
      simp only [one1_one, bop_i64_lss, bd_some, bv_bool, bop_i64_add, e2]
      by_cases h : K (B.getD ((i + j) / 2 - m) 0) < K x
      · exact .inl ⟨h, by simp only [hqk.2 h, decide_true, if_true]⟩
      · exact .inr ⟨h, by simp only [show ¬ q < 0 from fun h' => h (hqk.1 h'), decide_false, Bool.false_eq_true, if_false]⟩)
    (fun i h1 h2 next => by
      have hii : ¬ (i : Int) < (i : Int) := by omega
      simp only [lSym_l0, gv, List.getD_cons_succ, List.getD_cons_zero, bop_i64_lss, bd_some, bv_bool, hii, decide_false, Bool.false_eq_true, if_false, lsl])
    n m b (by omega) (Nat.le_refl _) (by omega) (Nat.le_refl _) (.inl rfl) (.inl rfl)
  rw [r5]
  have hB2 : B = B.take (r - m) ++ B.drop (r - m) := (List.take_append_drop _ _).symm
  refine ⟨B.take (r - m) ++ x :: B.drop (r - m), ?_, merge_one hB (by omega) hlt ?_ ?_, ?_⟩
  · refine List.perm_middle.trans ?_
    rw [← hB2]
  · rcases r3 with h | h
    · exact .inl (by omega)
    · exact .inr (by rw [show r - m - 1 = r - 1 - m by omega]; exact h)
  · rcases r4 with h | h
    · exact .inl (by omega)
    · exact .inr h
  · have := shr_loop (H := H) n r [.sl 1 (iL (P ++ (x :: (B ++ S)))) false, .int .i64 (r : Int), .int .i64 (r : Int)] rfl (by omega) x (B.drop (r - m) ++ S) (B.take (r - m)) P a n ha (by rw [List.length_take]; omega) (by rw [List.length_take]; omega)
    have e : B ++ S = B.take (r - m) ++ (B.drop (r - m) ++ S) := by rw [← List.append_assoc, ← hB2]
    rw [e]
    rw [e] at this
    rw [this]
    simp
/-- one, and what comes ahead of it -/
theorem sym_last (hc : CmpOk n0 c H K D) (n : Nat) (x : Int) (A P S : List Int) (a m : Nat) (ha : a = P.length) (hm : m = P.length + A.length) (hl : 2 * (m + 1) + 1 < lim) (hA : Sd K A) (hlt : ∀ y ∈ A, y < x) (dx : D x) (dA : ∀ y ∈ A, D y) (hn : n0 ≤ n) (hn2 : A.length + 2 ≤ n) :
    ∃ C, C.Perm (A ++ [x]) ∧ Sd K C ∧ loopx n (lSym_l50 n m c) [.sl 1 (iL (P ++ (A ++ (x :: S)))) false, .int .i64 (a : Int), .int .i64 (m : Int)] H = some (.ret [.sl 1 (iL (P ++ (C ++ S))) false], H) := by
  obtain ⟨f, caps, hcf, hok, hk, hcmp⟩ := hc.ex
  have hfn : ∀ k : Nat → List V → Option (Res × Heap), fnK c k = k f caps := fun k => by rw [hcf]; rfl
  have gx : (P ++ (A ++ (x :: S)))[m]? = some x := by rw [← List.append_assoc]; exact mid_get _ _ _ (by simp; omega)
  have gA : ∀ h, a ≤ h → h < m → (P ++ (A ++ (x :: S)))[h]? = some (A.getD (h - a) 0) := fun h h1 h2 => by
    rw [seg_get P A (x :: S) (h := h) (by omega) (by omega), ha]
  obtain ⟨r, r1, r2, r3, r4, r5⟩ := bs_gen (H := H) (l := .sl 1 (iL (P ++ (A ++ (x :: S)))) false) (body := lSym_l50 n m c) (fin := fun i => loopx n (lSym_l82 n [.sl 1 (iL (P ++ (A ++ (x :: S)))) false, .int .i64 (i : Int), .int .i64 (i : Int)]) [.sl 1 (iL (P ++ (A ++ (x :: S)))) false, .int .i64 (m : Int)] H) (Q := fun h => ¬ K x < K (A.getD (h - a) 0)) a m
    (fun i j h1 h2 h3 next => by
      have hij : (i : Int) < (j : Int) := by omega
      have e1 : IntKind.i64.wrap ((i : Int) + (j : Int)) = ((i + j : Nat) : Int) := wN (by omega) (by omega)
      have g1 := gA ((i + j) / 2) (by omega) (by omega)
      have l1 := (List.getElem?_eq_some_iff.1 g1).1
      have l2 := (List.getElem?_eq_some_iff.1 gx).1
      have e2 : IntKind.i64.wrap ((((i + j) / 2 : Nat) : Int) + 1) = (((i + j) / 2 + 1 : Nat) : Int) := wN (by omega) (by omega)
      obtain ⟨q, hq, hqk⟩ := hcmp n hn x (A.getD ((i + j) / 2 - a) 0) dx (dA _ (getD_mem (by omega)))
      simp only [lSym_l50, gv, List.getD_cons_succ, List.getD_cons_zero, bop_i64_lss, bd_some, bv_bool, hij, decide_true, if_true, bop_i64_add, e1, cvt_iu, shr_u, cvt_ui, half_ok (show i + j < lim by omega), nv_nat, bdS_some, lsl, iL_len, own_iff, some_ne, true_and, zlo, ole, Nat.reduceBEq, and_true, l1, l2, iL_get g1, iL_get gx, List.getElem?_cons_zero, hfn, hok, hk]
      rw [hq, cl_ret]
      simp only [one1_one, bop_i64_lss, bd_some, uop_not, bv_bool, bop_i64_add, e2]
      by_cases h : K x < K (A.getD ((i + j) / 2 - a) 0)
      · exact .inr ⟨fun h' => h' h, by simp only [hqk.2 h, decide_true, Bool.not_true, Bool.false_eq_true, if_false]⟩
      · exact .inl ⟨h, by simp only [show ¬ q < 0 from fun h' => h (hqk.1 h'), decide_false, Bool.not_false, if_true]⟩)
    (fun i h1 h2 next => by
      have hii : ¬ (i : Int) < (i : Int) := by omega
      simp only [lSym_l50, gv, List.getD_cons_succ, List.getD_cons_zero, bop_i64_lss, bd_some, bv_bool, hii, decide_false, Bool.false_eq_true, if_false, lsl])
    n a m (by omega) (Nat.le_refl _) (by omega) (Nat.le_refl _) (.inl rfl) (.inl rfl)
  rw [r5]
  have hA2 : A = A.take (r - a) ++ A.drop (r - a) := (List.take_append_drop _ _).symm
  refine ⟨A.take (r - a) ++ x :: A.drop (r - a), ?_, merge_last hA (by omega) hlt ?_ ?_, ?_⟩
  · refine List.perm_middle.trans ?_
    rw [← hA2]
    exact (List.perm_append_singleton x A).symm
  · rcases r3 with h | h
    · exact .inl (by omega)
    · exact .inr (by rw [show r - a - 1 = r - 1 - a by omega]; exact h)
  · rcases r4 with h | h
    · exact .inl (by omega)
    · exact .inr (by simpa using h)
  · have := shl_loop (H := H) n r [.sl 1 (iL (P ++ (A ++ (x :: S)))) false, .int .i64 (r : Int), .int .i64 (r : Int)] rfl x (A.drop (r - a)).reverse S (P ++ A.take (r - a)) m n (by simp; omega) (by simp; omega) (by omega) (by simp; omega)
    rw [List.reverse_reverse] at this
    have e : P ++ (A ++ (x :: S)) = (P ++ A.take (r - a)) ++ (A.drop (r - a) ++ (x :: S)) := by
      conv => lhs; rw [hA2]
      simp only [List.append_assoc]
    rw [e]
    rw [e] at this
    rw [this]
    simp
end
end Go.Proofs.Try
/-! slices.symMergeCmpFunc, stableCmpFunc, SortStableFunc at []int: what they come to -/
set_option linter.unusedVariables false
set_option linter.unusedSimpArgs false
namespace Go.Proofs.Try
open Go.L Go.Rp
set_option maxRecDepth 100000
section
variable {K : Int → Int} {D : Int → Prop} {H : Heap} {c : V} {n0 : Nat} {p : Nat → Int}
/-- two tests of a search, where the parts lie -/
theorem sym_search (hc : CmpOk n0 c H K D) (n : Nat) (A B P S : List Int) (a m b mid nn lo hi : Nat) (body : List V → Heap → (List V → Heap → Option (Res × Heap)) → Option (Res × Heap))
    (hbody : ∀ st hh next, body st hh next = lSym_l108 n a m b c (.int .i64 (mid : Int)) (.int .i64 (nn : Int)) (.int .i64 ((nn - 1 : Nat) : Int)) st hh next)
    (ha : a = P.length) (hm : m = P.length + A.length) (hb : b = P.length + A.length + B.length) (hmid : mid = (a + b) / 2) (hnn : nn = mid + m) (hl : 2 * b + 1 < lim)
    (hlo : (m > mid ∧ lo = nn - b ∧ hi = mid) ∨ (m ≤ mid ∧ lo = a ∧ hi = m)) (hA0 : 0 < A.length) (hB0 : 0 < B.length)
    (dA : ∀ x ∈ A, D x) (dB : ∀ y ∈ B, D y) (hn : n0 ≤ n) (hn2 : hi < n + lo) :
    ∃ r, a ≤ r ∧ r ≤ m ∧ r ≤ mid ∧ mid ≤ r + B.length ∧ (r - a = 0 ∨ B.length ≤ mid - r ∨ ¬ K (B.getD (mid - r) 0) < K (A.getD (r - a - 1) 0)) ∧ (mid - r = 0 ∨ A.length ≤ r - a ∨ K (B.getD (mid - r - 1) 0) < K (A.getD (r - a) 0)) ∧
      loopx n body [.sl 1 (iL (P ++ (A ++ (B ++ S)))) false, .int .i64 (lo : Int), .int .i64 (hi : Int)] H = symT n a m b c (.int .i64 (mid : Int)) (.int .i64 (nn : Int)) (.int .i64 (r : Int)) (iL (P ++ (A ++ (B ++ S)))) H := by
  obtain ⟨f, caps, hcf, hok, hk, hcmp⟩ := hc.ex
  have hfn : ∀ k : Nat → List V → Option (Res × Heap), fnK c k = k f caps := fun k => by rw [hcf]; rfl
  have gA : ∀ h, a ≤ h → h < m → (P ++ (A ++ (B ++ S)))[h]? = some (A.getD (h - a) 0) := fun h h1 h2 => by
    rw [seg_get P A (B ++ S) (h := h) (by omega) (by omega), ha]
  have gB : ∀ h, m ≤ h → h < b → (P ++ (A ++ (B ++ S)))[h]? = some (B.getD (h - m) 0) := fun h h1 h2 => by
    have := seg_get (P ++ A) B S (h := h) (by simp; omega) (by simp; omega)
    simp only [List.append_assoc, List.length_append] at this
    rw [this, hm]
  have hlom : a ≤ lo ∧ lo ≤ hi ∧ hi ≤ m ∧ hi ≤ mid ∧ mid ≤ lo + B.length := by
    rcases hlo with ⟨h1, h2, h3⟩ | ⟨h1, h2, h3⟩ <;> omega
  obtain ⟨r, r1, r2, r3, r4, r5⟩ := bs_gen (H := H) (l := .sl 1 (iL (P ++ (A ++ (B ++ S)))) false) (body := body) (fin := fun i => symT n a m b c (.int .i64 (mid : Int)) (.int .i64 (nn : Int)) (.int .i64 (i : Int)) (iL (P ++ (A ++ (B ++ S)))) H) (Q := fun h => ¬ K (B.getD (mid - 1 - h) 0) < K (A.getD (h - a) 0)) lo hi
    (fun i j h1 h2 h3 next => by
      rw [hbody]
      have hij : (i : Int) < (j : Int) := by omega
      have e1 : IntKind.i64.wrap ((i : Int) + (j : Int)) = ((i + j : Nat) : Int) := wN (by omega) (by omega)
      have g1 := gA ((i + j) / 2) (by omega) (by omega)
      have g2 := gB (nn - 1 - (i + j) / 2) (by omega) (by omega)
      have l1 := (List.getElem?_eq_some_iff.1 g1).1
      have l2 := (List.getElem?_eq_some_iff.1 g2).1
      have e2 : IntKind.i64.wrap ((((i + j) / 2 : Nat) : Int) + 1) = (((i + j) / 2 + 1 : Nat) : Int) := wN (by omega) (by omega)
      have e3 : IntKind.i64.wrap (((nn - 1 : Nat) : Int) - (((i + j) / 2 : Nat) : Int)) = ((nn - 1 - (i + j) / 2 : Nat) : Int) := wN (by omega) (by omega)
      have e4 : nn - 1 - (i + j) / 2 - m = mid - 1 - (i + j) / 2 := by omega
      rw [e4] at g2
      obtain ⟨q, hq, hqk⟩ := hcmp n hn (B.getD (mid - 1 - (i + j) / 2) 0) (A.getD ((i + j) / 2 - a) 0) (dB _ (getD_mem (by omega))) (dA _ (getD_mem (by omega)))
      simp only [lSym_l108, gv, List.getD_cons_succ, List.getD_cons_zero, bop_i64_lss, bd_some, bv_bool, hij, decide_true, if_true, bop_i64_add, e1, cvt_iu, shr_u, cvt_ui, half_ok (show i + j < lim by omega), bop_i64_sub, e3, nv_nat, bdS_some, lsl, iL_len, own_iff, some_ne, true_and, zlo, ole, Nat.reduceBEq, and_true, l1, l2, iL_get g1, iL_get g2, List.getElem?_cons_zero, hfn, hok, hk]
      rw [hq, cl_ret]
      simp only [one1_one, bop_i64_lss, bd_some, uop_not, bv_bool, bop_i64_add, e2]
      by_cases h : K (B.getD (mid - 1 - (i + j) / 2) 0) < K (A.getD ((i + j) / 2 - a) 0)
      · exact .inr ⟨fun h' => h' h, by simp only [hqk.2 h, decide_true, Bool.not_true, Bool.false_eq_true, if_false]⟩
      · exact .inl ⟨h, by simp only [show ¬ q < 0 from fun h' => h (hqk.1 h'), decide_false, Bool.not_false, if_true]⟩)
    (fun i h1 h2 next => by
      have hii : ¬ (i : Int) < (i : Int) := by omega
      rw [hbody]
      simp only [lSym_l108, gv, List.getD_cons_succ, List.getD_cons_zero, bop_i64_lss, bd_some, bv_bool, hii, decide_false, Bool.false_eq_true, if_false, lsl, symT, symV, symU])
    n lo hi (by omega) (Nat.le_refl _) hlom.2.1 (Nat.le_refl _) (.inl rfl) (.inl rfl)
  refine ⟨r, by omega, by omega, by omega, by omega, ?_, ?_, r5⟩
  · rcases r3 with h | h
    · rcases hlo with ⟨h1, h2, h3⟩ | ⟨h1, h2, h3⟩
      · exact .inr (.inl (by omega))
      · exact .inl (by omega)
    · by_cases h0 : r - a = 0
      · exact .inl h0
      · refine .inr (.inr ?_)
        rw [show mid - r = mid - 1 - (r - 1) by omega, show r - a - 1 = r - 1 - a by omega]
        exact h
  · rcases r4 with h | h
    · rcases hlo with ⟨h1, h2, h3⟩ | ⟨h1, h2, h3⟩
      · exact .inl (by omega)
      · exact .inr (.inl (by omega))
    · refine .inr (.inr ?_)
      rw [show mid - r - 1 = mid - 1 - r by omega]
      simpa using h
theorem symOk_all (hc : CmpOk n0 c H K D) : ∀ (sz n : Nat), n0 + 2 * sz + 8 ≤ n → SymOk c H K D n sz
  | 0, n, _ => fun A B P S a m b hA hB hsz => by
    have := List.length_pos_iff.2 hA; omega
  | sz + 1, n, hn => fun A B P S a m b hA hB hsz ha hm hb hl sA sB hlt dA dB => by
    obtain ⟨N, rfl⟩ : ∃ N, n = N + 1 := ⟨n - 1, by omega⟩
    have ih := symOk_all hc sz N (by omega)
    have hA0 := List.length_pos_iff.2 hA
    have hB0 := List.length_pos_iff.2 hB
    have e1 : IntKind.i64.wrap ((m : Int) - (a : Int)) = ((A.length : Nat) : Int) := wN (by omega) (by omega)
    have e2 : IntKind.i64.wrap ((b : Int) - (m : Int)) = ((B.length : Nat) : Int) := wN (by omega) (by omega)
    have e3 : IntKind.i64.wrap ((a : Int) + (b : Int)) = ((a + b : Nat) : Int) := wN (by omega) (by omega)
    rw [lSym_eq]
    unfold lSym
    rw [e1, e2, e3]
    by_cases h1 : A.length = 1
    · obtain ⟨x, rfl⟩ := List.length_eq_one_iff.1 h1
      have hc1 : ((([x] : List Int).length : Int) == 1) = true := by simp
      rw [if_pos hc1]
      obtain ⟨C, p, s, e⟩ := sym_one hc N x B P S a m b ha (by simpa using hm) (by simpa using hb) hl sB (fun y hy => hlt x (by simp) y hy) (dA x (by simp)) dB (by omega) (by omega)
      exact ⟨C, by simpa using p, s, by simpa using e⟩
    · have hc1 : ¬ (((A.length : Nat) : Int) == 1) = true := by simp; omega
      rw [if_neg hc1]
      by_cases h2 : B.length = 1
      · obtain ⟨x, rfl⟩ := List.length_eq_one_iff.1 h2
        have hc2 : ((([x] : List Int).length : Int) == 1) = true := by simp
        rw [if_pos hc2]
        obtain ⟨C, p, s, e⟩ := sym_last hc N x A P S a m ha hm (by simp at hb; omega) sA (fun y hy => hlt y hy x (by simp)) (dB x (by simp)) dA (by omega) (by simp at hsz; omega)
        exact ⟨C, p, s, by simpa using e⟩
      · have hc2 : ¬ (((B.length : Nat) : Int) == 1) = true := by simp; omega
        rw [if_neg hc2]
        obtain ⟨mid, hmid⟩ : ∃ mid, mid = (a + b) / 2 := ⟨_, rfl⟩
        obtain ⟨nn, hnn⟩ : ∃ nn, nn = mid + m := ⟨_, rfl⟩
        have e4 : IntKind.i64.wrap ((mid : Int) + (m : Int)) = ((nn : Nat) : Int) := wN (by omega) (by omega)
        have e5 : IntKind.i64.wrap ((nn : Int) - 1) = ((nn - 1 : Nat) : Int) := wN (by omega) (by omega)
        have e6 := half_ok (show a + b < lim by omega)
        rw [← hmid] at e6
        simp only [shr_u, bd_some, cvt_ui, e6, bop_i64_add, e4, bop_i64_gtr, bv_bool]
        -- what the search and its end come to
        have key : ∀ (lo hi : Nat) (body : List V → Heap → (List V → Heap → Option (Res × Heap)) → Option (Res × Heap)), (∀ st hh next, body st hh next = lSym_l108 N a m b c (.int .i64 (mid : Int)) (.int .i64 (nn : Int)) (.int .i64 ((nn - 1 : Nat) : Int)) st hh next) →
            ((m > mid ∧ lo = nn - b ∧ hi = mid) ∨ (m ≤ mid ∧ lo = a ∧ hi = m)) → ∃ C, C.Perm (A ++ B) ∧ Sd K C ∧ loopx N body [.sl 1 (iL (P ++ (A ++ (B ++ S)))) false, .int .i64 (lo : Int), .int .i64 (hi : Int)] H = some (.ret [.sl 1 (iL (P ++ (C ++ S))) false], H) := fun lo hi body hbody hlo => by
          obtain ⟨r, r1, r2, r3, r4, r5, r6, r7⟩ := sym_search hc N A B P S a m b mid nn lo hi body hbody ha hm hb hmid hnn hl hlo hA0 hB0 dA dB (by omega) (by omega)
          have hAt : A = A.take (r - a) ++ A.drop (r - a) := (List.take_append_drop _ _).symm
          have hBt : B = B.take (mid - r) ++ B.drop (mid - r) := (List.take_append_drop _ _).symm
          have hcr := cross sA sB (by omega) (by omega) hlt r5 r6
          have tA : (A.take (r - a)).length = r - a := by rw [List.length_take]; omega
          have tB : (B.take (mid - r)).length = mid - r := by rw [List.length_take]; omega
          have dA' : (A.drop (r - a)).length = A.length - (r - a) := List.length_drop
          have dB' : (B.drop (mid - r)).length = B.length - (mid - r) := List.length_drop
          obtain ⟨C1, C2, p1, q1, p2, q2, e⟩ := symT_ok ih (A.take (r - a)) (A.drop (r - a)) (B.take (mid - r)) (B.drop (mid - r)) P S a r m mid nn b (by omega) (by omega) ha (by omega) (by omega) (by omega) hnn (by omega) hl (by omega)
            (sA.sublist (List.take_sublist _ _)) (sB.sublist (List.take_sublist _ _)) (sA.sublist (List.drop_sublist _ _)) (sB.sublist (List.drop_sublist _ _)) (by rw [← hAt, ← hBt]; exact hlt) (by rw [← hAt]; exact dA) (by rw [← hBt]; exact dB)
          rw [← hAt, ← hBt] at e
          refine ⟨C1 ++ C2, ?_, List.pairwise_append.2 ⟨q1, q2, fun u hu v hv => hcr u (p1.mem_iff.1 hu) v (p2.mem_iff.1 hv)⟩, ?_⟩
          · refine (p1.append p2).trans ?_
            conv => rhs; rw [hAt, hBt]
            simp only [List.append_assoc]
            refine List.Perm.append_left _ ?_
            rw [← List.append_assoc, ← List.append_assoc]
            exact List.Perm.append_right _ List.perm_append_comm
          · rw [r7, e]; simp only [List.append_assoc]
        by_cases hg : (m : Int) > (mid : Int)
        · have e7 : IntKind.i64.wrap ((nn : Int) - (b : Int)) = ((nn - b : Nat) : Int) := wN (by omega) (by omega)
          simp only [hg, decide_true, if_true, bop_i64_sub, bd_some, e7, e5]
          exact key (nn - b) mid _ (fun _ _ _ => rfl) (.inl ⟨by omega, rfl, rfl⟩)
        · simp only [hg, decide_false, Bool.false_eq_true, if_false, bop_i64_sub, bd_some, e5]
          exact key a m _ (fun _ _ _ => rfl) (.inr ⟨by omega, rfl, rfl⟩)
/-- two parts of the numbers, each sorted -/
theorem sym_sR (hp : Mono p) (hc : CmpOk n0 c H K D) (n lo i j : Nat) (P S : List Int) (hP : lo = P.length) (hi : 0 < i) (hj : 0 < j) (hl : 2 * (lo + i + j) + 1 < lim) (hD : ∀ x ∈ rng p lo (i + j), D x) (hn : n0 + 2 * (i + j) + 8 ≤ n) :
    call n 94 [.sl 1 (iL (P ++ (sR K p lo i ++ (sR K p (lo + i) j ++ S)))) false, .int .i64 (lo : Int), .int .i64 ((lo + i : Nat) : Int), .int .i64 ((lo + i + j : Nat) : Int), c] H = some (.ret [.sl 1 (iL (P ++ (sR K p lo (i + j) ++ S))) false], H) := by
  have hne : ∀ l k, 0 < k → sR K p l k ≠ [] := fun l k hk h => by have := sR_len (K := K) (p := p) l k; rw [h] at this; simp at this; omega
  obtain ⟨C, q, s, e⟩ := symOk_all hc (i + j) n hn (sR K p lo i) (sR K p (lo + i) j) P S lo (lo + i) (lo + i + j) (hne _ _ hi) (hne _ _ hj) (by rw [sR_len, sR_len]; omega) hP (by rw [sR_len]; omega) (by rw [sR_len, sR_len]; omega) hl (sR_sd hp _ _) (sR_sd hp _ _)
    (fun x hx y hy => sR_lt hp hx hy) (fun x hx => hD x (rng_sub (Nat.le_refl _) (by omega) (rng_mem.2 (sR_mem.1 hx)))) (fun x hx => hD x (rng_sub (Nat.le_add_right _ _) (by omega) (rng_mem.2 (sR_mem.1 hx))))
  rw [e, sR_join hp q s]
end
end Go.Proofs.Try
/-! slices.stableCmpFunc, SortStableFunc at []int: what they come to -/
set_option linter.unusedVariables false
set_option linter.unusedSimpArgs false
namespace Go.Proofs.Try
open Go.L Go.Rp
set_option maxRecDepth 100000
@[simp] theorem bop_i64_mul (a b : Int) : bop prog .mul 3 (.int .i64 a) (.int .i64 b) = some (.int .i64 (IntKind.i64.wrap (a * b))) := by kernel_rfl
section
variable {K : Int → Int} {D : Int → Prop} {H : Heap} {c : V} {n0 : Nat} {p : Nat → Int}
theorem chunks_ge {bs : Nat} (hb : 0 < bs) (f lo len : Nat) (h : bs ≤ len) (hf : len ≤ f) : chunks K p bs f lo len = sR K p lo bs ++ chunks K p bs f (lo + bs) (len - bs) := by
  rcases Nat.lt_or_ge bs len with h1 | h1
  · exact chunks_gt hb f lo len h1 hf
  · obtain rfl : len = bs := by omega
    rw [chunks_le f lo len (Nat.le_refl _) (by omega), Nat.sub_self, chunks_le f _ 0 (by omega) (by omega)]
    simp [sR]
theorem stab_first (hc : CmpOk n0 c H K D) (n k f : Nat) (hD : ∀ x ∈ rng p 0 k, D x) (hl : 2 * k + 100 < lim) (hn : n0 + k + 25 ≤ n) (hf : k ≤ f) (hf0 : 0 < f) : ∀ (M len a : Nat) (P : List Int), a = P.length → a + len = k → len < M → ∃ u v : Nat,
    loopx M (lStab_l0 n k c) [.sl 1 (iL (P ++ rng p a len)) false, .int .i64 (a : Int), .int .i64 ((a + 20 : Nat) : Int)] H = loopx n (lStab_l13 n k c) [.sl 1 (iL (P ++ chunks K p 20 f a len)) false, .int .i64 20, .int .i64 (u : Int), .int .i64 (v : Int)] H
  | 0, _, _, _, _, _, h => by omega
  | M + 1, len, a, P, ha, hk, hM => by
    rw [loopx_succ]
    by_cases h : 20 ≤ len
    · have h1 : ((a + 20 : Nat) : Int) ≤ (k : Int) := by omega
      have e1 : IntKind.i64.wrap (((a + 20 : Nat) : Int) + 20) = ((a + 20 + 20 : Nat) : Int) := wN (by omega) (by omega)
      have hr : rng p a len = rng p a 20 ++ rng p (a + 20) (len - 20) := by rw [← rng_add]; congr 1; omega
      have hi := ins_call hc n a 20 P (rng p (a + 20) (len - 20)) ha (fun x hx => hD x (rng_sub (by omega) (by omega) hx)) (by rw [rng_len]; omega) (by omega) (by omega)
      obtain ⟨u, v, e⟩ := stab_first hc n k f hD hl hn hf hf0 M (len - 20) (a + 20) (P ++ sR K p a 20) (by rw [List.length_append, sR_len]; omega) (by omega) (by omega)
      refine ⟨u, v, ?_⟩
      simp only [lStab_l0, gv, List.getD_cons_succ, List.getD_cons_zero, bop_i64_leq, bd_some, bv_bool, h1, decide_true, if_true, lsl]
      rw [hr, hi, clm_ret]
      simp only [bop_i64_add, bd_some, e1]
      rw [chunks_ge (by omega) f a len h (by omega), ← List.append_assoc, ← List.append_assoc]
      exact e
    · have h1 : ¬ ((a + 20 : Nat) : Int) ≤ (k : Int) := by omega
      have hi := ins_call hc n a len P [] ha (fun x hx => hD x (rng_sub (by omega) (by omega) hx)) (by simp; omega) (by omega) (by omega)
      rw [List.append_nil, List.append_nil, hk] at hi
      refine ⟨a, a + 20, ?_⟩
      simp only [lStab_l0, gv, List.getD_cons_succ, List.getD_cons_zero, bop_i64_leq, bd_some, bv_bool, h1, decide_false, Bool.false_eq_true, if_false, lsl]
      rw [hi, clm_ret, chunks_le f a len (by omega) hf0]
theorem stab_round (hp : Mono p) (hc : CmpOk n0 c H K D) (n k f bs : Nat) (st14 : List V) (next16 : List V → Heap → Option (Res × Heap)) (hst : st14.getD 1 (.bool false) = .int .i64 (bs : Int)) (hb : 0 < bs) (hbk : bs < k) (hD : ∀ x ∈ rng p 0 k, D x) (hl : 4 * k + 100 < lim) (hn : n0 + 2 * k + 8 ≤ n) (hf : k ≤ f) : ∀ (M len a : Nat) (P : List Int), a = P.length → a + len = k → len < M → ∃ u v : Nat,
    loopx M (lStab_l20 n k c st14 next16) [.sl 1 (iL (P ++ chunks K p bs f a len)) false, .int .i64 (a : Int), .int .i64 ((a + 2 * bs : Nat) : Int)] H = next16 [.sl 1 (iL (P ++ chunks K p (2 * bs) f a len)) false, .int .i64 ((2 * bs : Nat) : Int), .int .i64 (u : Int), .int .i64 (v : Int)] H
  | 0, _, _, _, _, _, h => by omega
  | M + 1, len, a, P, ha, hk, hM => by
    rw [loopx_succ]
    have e1 : IntKind.i64.wrap ((a : Int) + (bs : Int)) = ((a + bs : Nat) : Int) := wN (by omega) (by omega)
    have e2 : IntKind.i64.wrap (2 * (bs : Int)) = ((2 * bs : Nat) : Int) := wN (by omega) (by omega)
    have e3 : IntKind.i64.wrap ((bs : Int) * 2) = ((2 * bs : Nat) : Int) := wN (by omega) (by omega)
    by_cases h : 2 * bs ≤ len
    · have h1 : ((a + 2 * bs : Nat) : Int) ≤ (k : Int) := by omega
      have e4 : IntKind.i64.wrap (((a + 2 * bs : Nat) : Int) + ((2 * bs : Nat) : Int)) = ((a + 2 * bs + 2 * bs : Nat) : Int) := wN (by omega) (by omega)
      have hs := sym_sR hp hc n a bs bs P (chunks K p bs f (a + bs + bs) (len - bs - bs)) ha hb hb (by omega) (fun x hx => hD x (rng_sub (by omega) (by omega) hx)) (by omega)
      obtain ⟨u, v, e⟩ := stab_round hp hc n k f bs st14 next16 hst hb hbk hD hl hn hf M (len - 2 * bs) (a + 2 * bs) (P ++ sR K p a (2 * bs)) (by rw [List.length_append, sR_len]; omega) (by omega) (by omega)
      refine ⟨u, v, ?_⟩
      rw [chunks_ge hb f a len (by omega) (by omega), chunks_ge hb f (a + bs) (len - bs) (by omega) (by omega), chunks_ge (bs := 2 * bs) (by omega) f a len h (by omega)]
      simp only [lStab_l20, gv, List.getD_cons_succ, List.getD_cons_zero, hst, bop_i64_leq, bd_some, bv_bool, h1, decide_true, if_true, bop_i64_add, e1, lsl]
      rw [show ((a + bs + bs : Nat) : Int) = ((a + 2 * bs : Nat) : Int) by omega] at hs
      rw [hs, clm_ret]
      simp only [bop_i64_mul, bop_i64_add, bd_some, e2, e4]
      rw [show bs + bs = 2 * bs by omega, show a + bs + bs = a + 2 * bs by omega, show len - bs - bs = len - 2 * bs by omega, ← List.append_assoc, ← List.append_assoc]
      exact e
    · have h1 : ¬ ((a + 2 * bs : Nat) : Int) ≤ (k : Int) := by omega
      refine ⟨a, a + 2 * bs, ?_⟩
      simp only [lStab_l20, gv, List.getD_cons_succ, List.getD_cons_zero, hst, bop_i64_leq, bd_some, bv_bool, h1, decide_false, Bool.false_eq_true, if_false, bop_i64_add, e1, bop_i64_lss, lsl]
      by_cases h2 : bs < len
      · have h3 : ((a + bs : Nat) : Int) < (k : Int) := by omega
        have hs := sym_sR hp hc n a bs (len - bs) P [] ha hb (by omega) (by omega) (fun x hx => hD x (rng_sub (by omega) (by omega) hx)) (by omega)
        rw [List.append_nil, List.append_nil, show a + bs + (len - bs) = k by omega, show bs + (len - bs) = len by omega] at hs
        simp only [h3, decide_true, if_true]
        rw [chunks_ge hb f a len (by omega) (by omega), chunks_le f (a + bs) (len - bs) (by omega) (by omega), chunks_le (bs := 2 * bs) f a len (by omega) (by omega), hs, clm_ret]
        simp only [bop_i64_mul, bd_some, e3]
      · have h3 : ¬ ((a + bs : Nat) : Int) < (k : Int) := by omega
        simp only [h3, decide_false, Bool.false_eq_true, if_false, bop_i64_mul, bd_some, e3]
        rw [chunks_le f a len (by omega) (by omega), chunks_le (bs := 2 * bs) f a len (by omega) (by omega)]
theorem stab_all (hp : Mono p) (hc : CmpOk n0 c H K D) (n k f : Nat) (hD : ∀ x ∈ rng p 0 k, D x) (hl : 4 * k + 100 < lim) (hn : n0 + 2 * k + 8 ≤ n) (hf : k ≤ f) (hf0 : 0 < f) : ∀ (M bs u v : Nat), 0 < bs → k < M + bs → 0 < M →
    loopx M (lStab_l13 n k c) [.sl 1 (iL (chunks K p bs f 0 k)) false, .int .i64 (bs : Int), .int .i64 (u : Int), .int .i64 (v : Int)] H = some (.ret [.sl 1 (iL (sR K p 0 k)) false], H)
  | 0, _, _, _, _, _, h => by omega
  | M + 1, bs, u, v, hb, hM, _ => by
    rw [loopx_succ]
    by_cases h : bs < k
    · have h1 : (bs : Int) < (k : Int) := by omega
      have e2 : IntKind.i64.wrap (2 * (bs : Int)) = ((2 * bs : Nat) : Int) := wN (by omega) (by omega)
      obtain ⟨u', v', e⟩ := stab_round hp hc n k f bs [.sl 1 (iL (chunks K p bs f 0 k)) false, .int .i64 (bs : Int), .int .i64 (u : Int), .int .i64 (v : Int)] (loopx M (lStab_l13 n k c)) rfl hb h hD hl hn hf n k 0 [] rfl (by omega) (by omega)
      have ih := stab_all hp hc n k f hD hl hn hf hf0 M (2 * bs) u' v' (by omega) (by omega) (by omega)
      simp only [List.nil_append, Nat.zero_add] at e
      simp only [lStab_l13, gv, List.getD_cons_succ, List.getD_cons_zero, bop_i64_lss, bd_some, bv_bool, h1, decide_true, if_true, bop_i64_mul, e2, lsl]
      exact e.trans ih
    · have h1 : ¬ (bs : Int) < (k : Int) := by omega
      simp only [lStab_l13, gv, List.getD_cons_succ, List.getD_cons_zero, bop_i64_lss, bd_some, bv_bool, h1, decide_false, Bool.false_eq_true, if_false, lsl]
      rw [chunks_le f 0 k (by omega) hf0]
/-- a stable sort of the numbers below k -/
theorem sort_call (hp : Mono p) (hc : CmpOk n0 c H K D) (n k : Nat) (hD : ∀ x ∈ rng p 0 k, D x) (hl : 4 * k + 100 < lim) (hn : n0 + 2 * k + 40 ≤ n) :
    call n 80 [.sl 1 (iL (rng p 0 k)) false, c] H = some (.ret [.sl 1 (iL (sR K p 0 k)) false], H) := by
  obtain ⟨N, rfl⟩ : ∃ N, n = N + 2 := ⟨n - 2, by omega⟩
  obtain ⟨u, v, e⟩ := stab_first hc N k (k + 1) hD (by omega) (by omega) (by omega) (by omega) N k 0 [] rfl (by omega) (by omega)
  have e2 := stab_all hp hc N k (k + 1) hD hl (by omega) (by omega) (by omega) N 20 u v (by omega) (by omega) (by omega)
  rw [lSort_eq]
  unfold lSort
  rw [lStab_eq]
  unfold lStab
  simp only [List.nil_append] at e
  rw [show ((20 : Nat) : Int) = (20 : Int) from rfl] at e2
  have e3 : (((iL (rng p 0 k)).length : Nat) : Int) = (k : Int) := by rw [iL_len, rng_len]
  rw [e3]
  have e4 := e.trans e2
  rw [show (((0 : Nat) + 20 : Nat) : Int) = (20 : Int) from rfl, show (((0 : Nat)) : Int) = (0 : Int) from rfl] at e4
  rw [e4, clm_ret]
end
end Go.Proofs.Try
