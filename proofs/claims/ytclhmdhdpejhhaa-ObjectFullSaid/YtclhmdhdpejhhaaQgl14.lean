/- So1 Kp Kq Kr Kv Krf Kx Lops Sops Kyw Ko Tj Tk Tl Pg: what the law needs of these -/
import Derived.Test.YtclhmdhdpejhhaaQgl13
set_option linter.unusedVariables false
set_option linter.unusedSimpArgs false
namespace Go.Proofs.Try
open Go.L Go.Rp
set_option maxRecDepth 100000
abbrev iL (l : List Int) : List (List V) := l.map (intV .i64)
theorem wN {e : Int} {n : Nat} (h : e = (n : Int)) (hn : n < lim) : IntKind.i64.wrap e = (n : Int) := by unfold lim at hn; subst h; rw [w64] <;> omega
theorem iL_set (l : List Int) (i : Nat) (x : Int) : (iL l).set i [V.int .i64 x] = iL (l.set i x) := by
  unfold iL; rw [List.map_set]; rfl
theorem iL_len (l : List Int) : (iL l).length = l.length := by simp
theorem iL_get {l : List Int} {i : Nat} {x : Int} (h : l[i]? = some x) : (iL l)[i]? = some [V.int .i64 x] := by
  unfold iL; rw [List.getElem?_map, h]; rfl
theorem setR_11 (a b : V) : setR [a] 0 [b] = [b] := rfl
theorem own_iff {n m k : Nat} : (1 = 1 /\ n < m /\ (some k : Option Nat) ≠ some 0) ↔ (n < m /\ (k == 0) = false) := by simp
theorem one_iff : (1 = 1 /\ 0 < 1 /\ 0 + 1 <= 1) ↔ True := by decide
theorem mid_get {α : Type} (P : List α) (x : α) (R : List α) {i : Nat} (h : i = P.length) : (P ++ x :: R)[i]? = some x := by subst h; simp
theorem mid_set {α : Type} (P : List α) (x y : α) (R : List α) {i : Nat} (h : i = P.length) : (P ++ x :: R).set i y = P ++ y :: R := by subst h; simp
theorem swp_1 (P A M B S : List Int) (x y : Int) {i j : Nat} (hi : i = P.length) (hj : j = P.length + 1 + A.length + M.length) :
    (P ++ (x :: A ++ (M ++ (y :: B ++ S))))[i]? = some x /\ (P ++ (x :: A ++ (M ++ (y :: B ++ S))))[j]? = some y /\ (P ++ (y :: A ++ (M ++ (y :: B ++ S))))[j]? = some y ∧
    (P ++ (x :: A ++ (M ++ (y :: B ++ S)))).set i y = P ++ (y :: A ++ (M ++ (y :: B ++ S))) /\ (P ++ (y :: A ++ (M ++ (y :: B ++ S)))).set j x = (P ++ [y]) ++ (A ++ ((M ++ [x]) ++ (B ++ S))) := by
  have e : ∀ u : Int, P ++ (u :: A ++ (M ++ (y :: B ++ S))) = (P ++ u :: (A ++ M)) ++ y :: (B ++ S) := fun u => by simp
  have hl : ∀ u : Int, j = (P ++ u :: (A ++ M)).length := fun u => by simp; omega
  refine ⟨mid_get P x _ hi, ?_, ?_, mid_set P x y _ hi, ?_⟩
  · rw [e]; exact mid_get _ _ _ (hl x)
  · rw [e]; exact mid_get _ _ _ (hl y)
  · rw [e, mid_set _ _ _ _ (hl y)]; simp
theorem swap_loop (n : Nat) (H : Heap) (a b k : Nat) (S : List Int) : ∀ (A B P M : List Int) (i Mx : Nat), B.length = A.length -> i + A.length = k -> a + i = P.length -> b + i = P.length + A.length + M.length -> P.length + A.length + M.length + B.length < lim -> A.length < Mx →
    loopx Mx (lSwap_l0 n a b k) [.sl 1 (iL (P ++ (A ++ (M ++ (B ++ S))))) false, .int .i64 (i : Int)] H = some (.ret [.sl 1 (iL (P ++ (B ++ (M ++ (A ++ S))))) false], H)
  | _, _, _, _, i, 0, _, _, _, _, _, h => by omega
  | [], B, P, M, i, Mx + 1, hB, hk, ha, hb, hl, hm => by
    obtain rfl : B = [] := by cases B <;> simp_all
    have hik : ¬ (i : Int) < (k : Int) := by simp at hk; omega
    rw [loopx_succ]
    simp only [lSwap_l0, gv, List.getD_cons_succ, List.getD_cons_zero, bop_i64_lss, bd_some, bv_bool, hik, decide_false, Bool.false_eq_true, if_false, lsl, List.nil_append]
  | x :: A, [], P, M, i, Mx + 1, hB, hk, ha, hb, hl, hm => by simp at hB
  | x :: A, y :: B, P, M, i, Mx + 1, hB, hk, ha, hb, hl, hm => by
    simp only [List.length_cons] at hB hk hb hl hm
    have hik : (i : Int) < (k : Int) := by omega
    have e1 : IntKind.i64.wrap ((a : Int) + (i : Int)) = ((a + i : Nat) : Int) := wN (by omega) (by omega)
    have e2 : IntKind.i64.wrap ((b : Int) + (i : Int)) = ((b + i : Nat) : Int) := wN (by omega) (by omega)
    have e3 : IntKind.i64.wrap ((i : Int) + 1) = ((i + 1 : Nat) : Int) := wN (by omega) (by omega)
    obtain ⟨s1, s2, s3, s4, s5⟩ := swp_1 P A M B S x y ha (show b + i = P.length + 1 + A.length + M.length by omega)
    have l1 : a + i < (P ++ (x :: A ++ (M ++ (y :: B ++ S)))).length := (List.getElem?_eq_some_iff.1 s1).1
    have l2 : b + i < (P ++ (x :: A ++ (M ++ (y :: B ++ S)))).length := (List.getElem?_eq_some_iff.1 s2).1
    have l3 : b + i < (P ++ (y :: A ++ (M ++ (y :: B ++ S)))).length := (List.getElem?_eq_some_iff.1 s3).1
    have ih := swap_loop n H a b k S A B (P ++ [y]) (M ++ [x]) (i + 1) Mx (by omega) (by omega) (by simp; omega) (by simp; omega) (by simp; omega) (by omega)
    rw [loopx_succ]
    simp only [lSwap_l0, gv, List.getD_cons_succ, List.getD_cons_zero, bop_i64_lss, bd_some, bv_bool, hik, decide_true, if_true, bop_i64_add, e1, e2, e3, nv_nat, bdS_some, lsl, iL_len, own_iff, Nat.reduceBEq, and_true, if_true, l1, l2, l3, iL_get s1, iL_get s2, List.getElem?_cons_zero, V.cells, List.length_cons, List.length_nil, Nat.zero_add, one_iff, setR_11, iL_set, s4,
      iL_get s3, s5, ih]
    simp
theorem swap_call (n : Nat) (H : Heap) (c : V) (a b k : Nat) (P A M B S : List Int) (hB : B.length = A.length) (hk : A.length = k) (ha : a = P.length) (hb : b = P.length + A.length + M.length) (hl : P.length + A.length + M.length + B.length < lim) (hn : k + 2 <= n) :
    call n 118 [.sl 1 (iL (P ++ (A ++ (M ++ (B ++ S))))) false, .int .i64 (a : Int), .int .i64 (b : Int), .int .i64 (k : Int), c] H = some (.ret [.sl 1 (iL (P ++ (B ++ (M ++ (A ++ S))))) false], H) := by
  obtain ⟨N, rfl⟩ : ∃ N, n = N + 1 := ⟨n - 1, by omega⟩
  rw [lSwap_eq]
  unfold lSwap
  exact swap_loop N H a b k S A B P M 0 N hB (by omega) (by omega) (by omega) hl (by omega)
theorem rot_loop (n : Nat) (H : Heap) (c : V) (m : Nat) : ∀ (Mx : Nat) (A B P S : List Int), A ≠ [] -> B ≠ [] -> m = P.length + A.length -> P.length + A.length + B.length < lim -> A.length + B.length <= Mx -> A.length + B.length + 2 <= n →
    loopx Mx (lRot_l0 n m c) [.sl 1 (iL (P ++ (A ++ (B ++ S)))) false, .int .i64 (A.length : Int), .int .i64 (B.length : Int)] H = some (.ret [.sl 1 (iL (P ++ (B ++ (A ++ S)))) false], H)
  | 0, A, B, P, S, hA, hB, _, _, h, _ => by
    cases A with
    | nil => exact absurd rfl hA
    | cons => simp at h
  | Mx + 1, A, B, P, S, hA, hB, hm, hl, hx, hn => by
    have a0 : 0 < A.length := List.length_pos_iff.2 hA
    have b0 : 0 < B.length := List.length_pos_iff.2 hB
    have e1 : IntKind.i64.wrap ((m : Int) - (A.length : Int)) = ((P.length : Nat) : Int) := wN (by omega) (by omega)
    rw [loopx_succ]
    by_cases h1 : A.length = B.length
    · have hne : ((A.length : Int) != (B.length : Int)) = false := by simp [h1]
      have hs := swap_call n H c P.length m A.length P A [] B S h1.symm rfl rfl (by simpa using hm) (by simp; omega) (by omega)
      simp only [List.nil_append] at hs
      simp only [lRot_l0, gv, List.getD_cons_succ, List.getD_cons_zero, bop_i64_neq, bd_some, bv_bool, hne, Bool.false_eq_true, if_false, bop_i64_sub, e1, lsl]
      rw [hs, clm_ret]
    · have hne : ((A.length : Int) != (B.length : Int)) = true := by simp; omega
      by_cases h2 : B.length < A.length
      ·
        have hgt : (A.length : Int) > (B.length : Int) := by omega
        obtain ⟨A1, A2, rfl, hA1⟩ : ∃ A1 A2, A = A1 ++ A2 /\ A1.length = B.length := ⟨A.take B.length, A.drop B.length, (List.take_append_drop _ _).symm, by rw [List.length_take]; omega⟩
        rw [List.length_append] at *
        have hs := swap_call n H c P.length m B.length P A1 A2 B S hA1.symm hA1 rfl (by omega) (by omega) (by omega)
        have e2 : IntKind.i64.wrap (((A1.length + A2.length : Nat) : Int) - (B.length : Int)) = ((A2.length : Nat) : Int) := wN (by omega) (by omega)
        have ih := rot_loop n H c m Mx A2 A1 (P ++ B) S (by rintro rfl; simp at h2; omega) (by rintro rfl; simp at hA1; omega) (by simp; omega) (by simp; omega) (by omega) (by omega)
        simp only [List.append_assoc] at hs ih ⊢
        rw [hA1] at ih
        simp only [lRot_l0, gv, List.getD_cons_succ, List.getD_cons_zero, bop_i64_neq, bd_some, bv_bool, hne, if_true, bop_i64_gtr, hgt, decide_true, bop_i64_sub, e1, lsl]
        rw [hs, clm_ret, e2, ih]
      · have hgt : ¬ (A.length : Int) > (B.length : Int) := by omega
        obtain ⟨B1, B2, rfl, hB2⟩ : ∃ B1 B2, B = B1 ++ B2 /\ B2.length = A.length := ⟨B.take (B.length - A.length), B.drop (B.length - A.length), (List.take_append_drop _ _).symm, by rw [List.length_drop]; omega⟩
        rw [List.length_append] at *
        have hs := swap_call n H c P.length (P.length + A.length + B1.length) A.length P A B1 B2 S hB2 rfl rfl rfl (by omega) (by omega)
        have e2 : IntKind.i64.wrap ((m : Int) + ((B1.length + B2.length : Nat) : Int)) = ((m + (B1.length + B2.length) : Nat) : Int) := wN (by omega) (by omega)
        have e3 : IntKind.i64.wrap (((m + (B1.length + B2.length) : Nat) : Int) - (A.length : Int)) = ((P.length + A.length + B1.length : Nat) : Int) := wN (by omega) (by omega)
        have e4 : IntKind.i64.wrap (((B1.length + B2.length : Nat) : Int) - (A.length : Int)) = ((B1.length : Nat) : Int) := wN (by omega) (by omega)
        have ih := rot_loop n H c m Mx B2 B1 P (A ++ S) (by rintro rfl; simp at hB2; omega) (by rintro rfl; simp at h1; omega) (by omega) (by omega) (by omega) (by omega)
        simp only [List.append_assoc] at hs ih ⊢
        rw [hB2] at ih
        simp only [lRot_l0, gv, List.getD_cons_succ, List.getD_cons_zero, bop_i64_neq, bd_some, bv_bool, hne, if_true, bop_i64_gtr, hgt, decide_false, Bool.false_eq_true, if_false, bop_i64_sub, bop_i64_add, e1, e2, e3, lsl]
        rw [hs, clm_ret, e4, ih]
theorem rot_call (n : Nat) (H : Heap) (c : V) (a m b : Nat) (P A B S : List Int) (hA : A ≠ []) (hB : B ≠ []) (ha : a = P.length) (hm : m = P.length + A.length) (hb : b = P.length + A.length + B.length) (hl : P.length + A.length + B.length < lim) (hn : A.length + B.length + 3 <= n) :
    call n 117 [.sl 1 (iL (P ++ (A ++ (B ++ S)))) false, .int .i64 (a : Int), .int .i64 (m : Int), .int .i64 (b : Int), c] H = some (.ret [.sl 1 (iL (P ++ (B ++ (A ++ S)))) false], H) := by
  obtain ⟨N, rfl⟩ : ∃ N, n = N + 1 := ⟨n - 1, by omega⟩
  have e1 : IntKind.i64.wrap ((m : Int) - (a : Int)) = ((A.length : Nat) : Int) := wN (by omega) (by omega)
  have e2 : IntKind.i64.wrap ((b : Int) - (m : Int)) = ((B.length : Nat) : Int) := wN (by omega) (by omega)
  rw [lRot_eq]
  unfold lRot
  rw [e1, e2]
  exact rot_loop N H c m N A B P S hA hB hm hl (by omega) (by omega)
end Go.Proofs.Try
set_option linter.unusedVariables false
set_option linter.unusedSimpArgs false
namespace Go.Proofs.Try
open Go.L Go.Rp
set_option maxRecDepth 100000
structure CmpOk (n0 : Nat) (c : V) (H : Heap) (K : Int -> Int) (D : Int -> Prop) : Prop where
  ex : ∃ f caps, c = .fn f caps /\ okV prog 3 f = true /\ keepS f = true /\ ∀ n, n0 <= n -> ∀ x y, D x -> D y -> ∃ q, call n f ([.int .i64 x, .int .i64 y] ++ caps) H = some (.ret [.int .i64 q], H) /\ (q < 0 ↔ K x < K y)
theorem adj (Q T : List Int) (y x : Int) {i j : Nat} (hi : i = Q.length) (hj : j = Q.length + 1) :
    (Q ++ y :: x :: T)[i]? = some y /\ (Q ++ y :: x :: T)[j]? = some x /\ (Q ++ y :: x :: T).set j y = Q ++ y :: y :: T /\ (Q ++ y :: x :: T).set i x = Q ++ x :: x :: T ∧
    (Q ++ y :: y :: T)[i]? = some y /\ (Q ++ x :: x :: T)[j]? = some x /\ (Q ++ y :: y :: T).set i x = Q ++ x :: y :: T /\ (Q ++ x :: x :: T).set j y = Q ++ x :: y :: T := by
  have e : ∀ u v : Int, Q ++ u :: v :: T = (Q ++ [u]) ++ v :: T := fun u v => by simp
  have hl : ∀ u : Int, j = (Q ++ [u]).length := fun u => by simp; omega
  refine ⟨mid_get _ _ _ hi, ?_, ?_, mid_set _ _ _ _ hi, mid_get _ _ _ hi, ?_, mid_set _ _ _ _ hi, ?_⟩
  · rw [e]; exact mid_get _ _ _ (hl y)
  · rw [e, mid_set _ _ _ _ (hl y)]; simp
  · rw [e]; exact mid_get _ _ _ (hl x)
  · rw [e, mid_set _ _ _ _ (hl x)]; simp
section
variable {K : Int -> Int} {D : Int -> Prop} {H : Heap} {c : V} {n0 : Nat} {p : Nat -> Int}
theorem ins_inner (hc : CmpOk n0 c H K D) (n a i : Nat) (st1 : List V) (next3 : List V -> Heap -> Option (Res × Heap)) (hst : gv st1 1 = .int .i64 (i : Int)) (hi : i + 1 < lim) (hn : n0 <= n) (R : List Int) : ∀ (r : List Int) (x : Int) (b P : List Int) (j Mx : Nat),
    a = P.length -> j = P.length + r.length -> j + b.length + R.length + 1 < lim -> (∀ y ∈ r, D y) -> D x -> r.length < Mx →
    loopx Mx (lIns_l6 n a c st1 next3) [.sl 1 (iL (P ++ (r.reverse ++ (x :: (b ++ R))))) false, .int .i64 (j : Int)] H = next3 [.sl 1 (iL (P ++ (insD K r x b ++ R))) false, .int .i64 ((i + 1 : Nat) : Int)] H
  | _, _, _, _, _, 0, _, _, _, _, _, h => by omega
  | [], x, b, P, j, Mx + 1, ha, hj, hl, hr, hx, hM => by
    have hja : ¬ (j : Int) > (a : Int) := by simp at hj; omega
    have e1 : IntKind.i64.wrap ((i : Int) + 1) = ((i + 1 : Nat) : Int) := wN (by omega) hi
    rw [loopx_succ]
    simp only [lIns_l6, gv, List.getD_cons_succ, List.getD_cons_zero, bop_i64_gtr, bd_some, bv_bool, hja, decide_false, Bool.false_eq_true, if_false, lsl]
    simp only [gv] at hst
    simp only [hst, bop_i64_add, bd_some, e1, insD, List.reverse_nil, List.nil_append, List.cons_append]
  | y :: r, x, b, P, j, Mx + 1, ha, hj, hl, hr, hx, hM => by
    obtain ⟨f, caps, hcf, hok, hk, hcmp⟩ := hc.ex
    have hfn : ∀ k : Nat -> List V -> Option (Res × Heap), fnK c k = k f caps := fun k => by rw [hcf]; rfl
    simp only [List.length_cons] at hj hM
    have hja : (j : Int) > (a : Int) := by omega
    have hL : P ++ ((y :: r).reverse ++ (x :: (b ++ R))) = (P ++ r.reverse) ++ y :: x :: (b ++ R) := by simp
    have e1 : IntKind.i64.wrap ((i : Int) + 1) = ((i + 1 : Nat) : Int) := wN (by omega) hi
    have e2 : IntKind.i64.wrap ((j : Int) - 1) = ((j - 1 : Nat) : Int) := wN (by omega) (by omega)
    obtain ⟨s1, s2, s3, s4, s5, s6, s7, s8⟩ := adj (P ++ r.reverse) (b ++ R) y x (i := j - 1) (j := j) (by simp; omega) (by simp; omega)
    have l1 := (List.getElem?_eq_some_iff.1 s1).1
    have l2 := (List.getElem?_eq_some_iff.1 s2).1
    have l5 := (List.getElem?_eq_some_iff.1 s5).1
    obtain ⟨q, hq, hqk⟩ := hcmp n hn x y hx (hr y (by simp))
    have ih := ins_inner hc n a i st1 next3 hst hi hn R r x (y :: b) P (j - 1) Mx ha (by omega) (by simp; omega) (fun z hz => hr z (List.mem_cons_of_mem _ hz)) hx (by omega)
    rw [loopx_succ, hL]
    simp only [lIns_l6, gv, List.getD_cons_succ, List.getD_cons_zero, bop_i64_gtr, bd_some, bv_bool, hja, decide_true, if_true, nv_nat, bdS_some, lsl, iL_len, own_iff, Nat.reduceBEq, and_true, l1, l2, iL_get s1, iL_get s2, List.getElem?_cons_zero, bop_i64_sub, e2, hfn, hok, hk]
    rw [hq, cl_ret]
    simp only [one1_one, bop_i64_lss, bd_some, bv_bool]
    by_cases hxy : K x < K y
    · have hq0 : q < 0 := hqk.2 hxy
      simp only [hq0, decide_true, if_true, nv_nat, bdS_some, bd_some, iL_get s1, iL_get s2, List.getElem?_cons_zero, V.cells, List.length_cons, List.length_nil, Nat.zero_add, one_iff, setR_11, iL_set, s3, iL_len, l1, l2, l5, iL_get s5, s7, if_true]
      rw [insD, if_pos hxy]
      have hL2 : (P ++ r.reverse) ++ x :: y :: (b ++ R) = P ++ (r.reverse ++ (x :: (y :: b ++ R))) := by simp
      rw [hL2]
      exact ih
    · have hq0 : ¬ q < 0 := fun h => hxy (hqk.1 h)
      simp only [gv] at hst
      simp only [hq0, decide_false, Bool.false_eq_true, if_false, hst, bop_i64_add, bd_some, e1]
      rw [insD, if_neg hxy]
      simp
theorem ins_loop (hc : CmpOk n0 c H K D) (n lo len : Nat) (hn : n0 <= n) (hn2 : len <= n) (hlim : lo + len + 1 < lim) (P S : List Int) (hP : lo = P.length) (hD : ∀ x ∈ rng p lo len, D x) (hS : lo + len + S.length < lim) : ∀ (d k Mx : Nat), 1 <= k -> (k + d = len \/ (len = 0 /\ k = 1 /\ d = 0)) -> d < Mx →
    loopx Mx (lIns_l0 n lo ((lo + len : Nat) : Int) c) [.sl 1 (iL (P ++ (sR K p lo (min k len) ++ (rng p (lo + k) (len - k) ++ S)))) false, .int .i64 ((lo + k : Nat) : Int)] H = some (.ret [.sl 1 (iL (P ++ (sR K p lo len ++ S))) false], H)
  | d, k, 0, _, _, h => by omega
  | 0, k, Mx + 1, h1, hk, _ => by
    have hik : ¬ ((lo + k : Nat) : Int) < ((lo + len : Nat) : Int) := by omega
    have hmin : min k len = len := by omega
    have hz : len - k = 0 := by omega
    rw [loopx_succ]
    simp only [lIns_l0, gv, List.getD_cons_succ, List.getD_cons_zero, bop_i64_lss, bd_some, bv_bool, hik, decide_false, Bool.false_eq_true, if_false, lsl, hmin, hz]
    rfl
  | d + 1, k, Mx + 1, h1, hk, hM => by
    have hkl : k + (d + 1) = len := by omega
    have hik : ((lo + k : Nat) : Int) < ((lo + len : Nat) : Int) := by omega
    have hmin : min k len = k := by omega
    have hr : rng p (lo + k) (len - k) = p (lo + k) :: rng p (lo + (k + 1)) (len - (k + 1)) := by
      rw [show len - k = (len - (k + 1)) + 1 by omega, rng_cons, Nat.add_assoc]
    have ih := ins_loop hc n lo len hn hn2 hlim P S hP hD hS d (k + 1) Mx (by omega) (by omega) (by omega)
    have hm2 : min (k + 1) len = k + 1 := by omega
    rw [hm2] at ih
    have hDk : ∀ y ∈ (sR K p lo k).reverse, D y := fun y hy => hD y (by
      obtain ⟨i, h1, h2, h3⟩ := sR_mem.1 (List.mem_reverse.1 hy)
      exact rng_mem.2 ⟨i, h1, by omega, h3⟩)
    have inner := ins_inner hc n lo (lo + k) [.sl 1 (iL (P ++ (sR K p lo k ++ (rng p (lo + k) (len - k) ++ S)))) false, .int .i64 ((lo + k : Nat) : Int)] (loopx Mx (lIns_l0 n lo ((lo + len : Nat) : Int) c)) rfl (by omega) hn (rng p (lo + (k + 1)) (len - (k + 1)) ++ S)
      (sR K p lo k).reverse (p (lo + k)) [] P (lo + k) n hP (by rw [List.length_reverse, sR_len]; omega) (by rw [List.length_append, rng_len]; simp; omega) hDk (hD _ (rng_mem.2 ⟨_, by omega, by omega, rfl⟩)) (by rw [List.length_reverse, sR_len]; omega)
    rw [List.reverse_reverse, List.nil_append] at inner
    rw [loopx_succ, hmin]
    simp only [lIns_l0, gv, List.getD_cons_succ, List.getD_cons_zero, bop_i64_lss, bd_some, bv_bool, hik, decide_true, if_true, lsl]
    have hL : P ++ (sR K p lo k ++ (rng p (lo + k) (len - k) ++ S)) = P ++ (sR K p lo k ++ (p (lo + k) :: (rng p (lo + (k + 1)) (len - (k + 1)) ++ S))) := by rw [hr]; rfl
    simp only [hL] at inner ⊢
    rw [inner]
    exact ih
theorem ins_call (hc : CmpOk n0 c H K D) (n lo len : Nat) (P S : List Int) (hP : lo = P.length) (hD : ∀ x ∈ rng p lo len, D x) (hS : lo + len + S.length + 1 < lim) (hn : n0 + 1 <= n) (hn2 : len + 2 <= n) :
    call n 115 [.sl 1 (iL (P ++ (rng p lo len ++ S))) false, .int .i64 (lo : Int), .int .i64 ((lo + len : Nat) : Int), c] H = some (.ret [.sl 1 (iL (P ++ (sR K p lo len ++ S))) false], H) := by
  obtain ⟨N, rfl⟩ : ∃ N, n = N + 1 := ⟨n - 1, by omega⟩
  have e1 : IntKind.i64.wrap ((lo : Int) + 1) = ((lo + 1 : Nat) : Int) := wN (by omega) (by omega)
  rw [lIns_eq]
  unfold lIns
  rw [e1]
  have h1 : rng p lo len = sR K p lo (min 1 len) ++ rng p (lo + 1) (len - 1) := by
    cases len with
    | zero => simp [rng, sR]
    | succ l =>
      have : min 1 (l + 1) = 1 := by omega
      rw [this, rng_cons]; simp [sR, insD]
  rw [h1, List.append_assoc]
  exact ins_loop hc N lo len (by omega) (by omega) (by omega) P S hP hD (by omega) (len - 1) 1 N (by omega) (by omega) (by omega)
theorem bs_gen {l : V} {body : List V -> Heap -> (List V -> Heap -> Option (Res × Heap)) -> Option (Res × Heap)} {fin : Nat -> Option (Res × Heap)} {Q : Nat -> Prop} (lo hi : Nat)
    (step : ∀ i j : Nat, lo <= i -> i < j -> j <= hi -> ∀ next, (Q ((i + j) / 2) /\ body [l, .int .i64 (i : Int), .int .i64 (j : Int)] H next = next [l, .int .i64 (((i + j) / 2 + 1 : Nat) : Int), .int .i64 (j : Int)] H) \/ (¬ Q ((i + j) / 2) /\ body [l, .int .i64 (i : Int), .int .i64 (j : Int)] H next = next [l, .int .i64 (i : Int), .int .i64 (((i + j) / 2 : Nat) : Int)] H))
    (stop : ∀ i : Nat, lo <= i -> i <= hi -> ∀ next, body [l, .int .i64 (i : Int), .int .i64 (i : Int)] H next = fin i) : ∀ (M i j : Nat), j - i < M -> lo <= i -> i <= j -> j <= hi -> (i = lo \/ Q (i - 1)) -> (j = hi \/ ¬ Q j) →
    ∃ r, lo <= r /\ r <= hi /\ (r = lo \/ Q (r - 1)) /\ (r = hi \/ ¬ Q r) /\ loopx M body [l, .int .i64 (i : Int), .int .i64 (j : Int)] H = fin r
  | 0, i, j, h, _, _, _, _, _ => by omega
  | M + 1, i, j, h, h1, h2, h3, h4, h5 => by
    by_cases hij : i = j
    · subst hij
      exact ⟨i, h1, h3, h4, h5, by rw [loopx_succ]; exact stop i h1 h3 _⟩
    · rcases step i j h1 (by omega) h3 (loopx M body) with ⟨q, e⟩ | ⟨q, e⟩
      · obtain ⟨r, r1, r2, r3, r4, r5⟩ := bs_gen lo hi step stop M ((i + j) / 2 + 1) j (by omega) (by omega) (by omega) h3 (.inr (by simpa using q)) h5
        exact ⟨r, r1, r2, r3, r4, by rw [loopx_succ, e]; exact r5⟩
      · obtain ⟨r, r1, r2, r3, r4, r5⟩ := bs_gen lo hi step stop M i ((i + j) / 2) (by omega) h1 (by omega) (by omega) h4 (.inr q)
        exact ⟨r, r1, r2, r3, r4, by rw [loopx_succ, e]; exact r5⟩
end
theorem cvt_iu (a : Int) : cvt prog 3 167 (.int .i64 a) = some (.int .u64 (IntKind.u64.wrap a)) := by kernel_rfl
theorem cvt_ui (a : Int) : cvt prog 167 3 (.int .u64 a) = some (.int .i64 (IntKind.i64.wrap a)) := by kernel_rfl
theorem shr_u (a : Int) : bop prog .shr 167 (.int .u64 a) (.int .u64 1) = some (.int .u64 (a.fdiv (2 ^ (min (1 : Int).toNat 64)))) := by kernel_rfl
theorem half_ok {i j : Nat} (h : i + j < lim) : IntKind.i64.wrap ((IntKind.u64.wrap (((i + j : Nat) : Int))).fdiv (2 ^ (min (1 : Int).toNat 64))) = (((i + j) / 2 : Nat) : Int) := by
  have e : IntKind.u64.wrap (((i + j : Nat) : Int)) = ((i + j : Nat) : Int) := by rw [IntKind.wrap_u64]; unfold lim at h; omega
  rw [e]
  have e2 : (2 : Int) ^ (min (1 : Int).toNat 64) = 2 := by decide
  rw [e2, Int.fdiv_eq_ediv_of_nonneg _ (by decide)]
  exact wN (by omega) (by omega)
end Go.Proofs.Try
set_option linter.unusedVariables false
set_option linter.unusedSimpArgs false
namespace Go.Proofs.Try
open Go.L Go.Rp
set_option maxRecDepth 100000
noncomputable def symU (n : Nat) (b : Int) (c : V) (v100 v138 : V) (l : List (List V)) (h : Heap) : Option (Res × Heap) :=
  bd (bop prog .lss 3 v100 v138) fun v153 =>
  bv v153 fun b154 => if b154 then
    bd (bop prog .lss 3 v138 (V.int .i64 b)) fun v155 =>
    bv v155 fun b156 => if b156 then
      clm (call n 116 (V.sl 1 l false :: [v100, v138, (V.int .i64 b), c]) h) 1 fun l157 r158 h159 => some (Res.ret (V.sl 1 l157 false :: []), h159)
    else some (Res.ret (V.sl 1 l false :: []), h)
  else some (Res.ret (V.sl 1 l false :: []), h)
noncomputable def symV (n : Nat) (a b : Int) (c : V) (v100 v138 v1 : V) (l : List (List V)) (h : Heap) : Option (Res × Heap) :=
  bd (bop prog .lss 3 (V.int .i64 a) v1) fun v146 =>
  bv v146 fun b147 => if b147 then
    bd (bop prog .lss 3 v1 v100) fun v148 =>
    bv v148 fun b149 => if b149 then
      clm (call n 116 (V.sl 1 l false :: [(V.int .i64 a), v1, v100, c]) h) 1 fun l150 r151 h152 => symU n b c v100 v138 l150 h152
    else symU n b c v100 v138 l h
  else symU n b c v100 v138 l h
noncomputable def symT (n : Nat) (a m b : Int) (c : V) (v100 v101 v1 : V) (l : List (List V)) (hh : Heap) : Option (Res × Heap) :=
  bd (bop prog .sub 3 v101 v1) fun v138 =>
  bd (bop prog .lss 3 v1 (V.int .i64 m)) fun v139 =>
  bv v139 fun b140 => if b140 then
    bd (bop prog .lss 3 (V.int .i64 m) v138) fun v141 =>
    bv v141 fun b142 => if b142 then
      clm (call n 117 (V.sl 1 l false :: [v1, (V.int .i64 m), v138, c]) hh) 1 fun l143 r144 h145 => symV n a b c v100 v138 v1 l143 h145
    else symV n a b c v100 v138 v1 l hh
  else symV n a b c v100 v138 v1 l hh
def SymOk (c : V) (H : Heap) (K : Int -> Int) (D : Int -> Prop) (n sz : Nat) : Prop := ∀ (A B P S : List Int) (a m b : Nat), A ≠ [] -> B ≠ [] -> A.length + B.length <= sz -> a = P.length -> m = P.length + A.length -> b = P.length + A.length + B.length -> 2 * b + 1 < lim →
  Sd K A -> Sd K B -> (∀ x ∈ A, ∀ y ∈ B, x < y) -> (∀ x ∈ A, D x) -> (∀ y ∈ B, D y) -> ∃ C, C.Perm (A ++ B) /\ Sd K C ∧
    call n 116 [.sl 1 (iL (P ++ (A ++ (B ++ S)))) false, .int .i64 (a : Int), .int .i64 (m : Int), .int .i64 (b : Int), c] H = some (.ret [.sl 1 (iL (P ++ (C ++ S))) false], H)
section
variable {K : Int -> Int} {D : Int -> Prop} {H : Heap} {c : V}
theorem symU_ok {n sz : Nat} (ih : SymOk c H K D n sz) (A B P S : List Int) (mid e b : Nat) (hsz : A.length + B.length <= sz) (hm : mid = P.length) (he : e = P.length + A.length) (hb : b = P.length + A.length + B.length) (hl : 2 * b + 1 < lim)
    (hA : Sd K A) (hB : Sd K B) (hlt : ∀ x ∈ A, ∀ y ∈ B, x < y) (dA : ∀ x ∈ A, D x) (dB : ∀ y ∈ B, D y) : ∃ C, C.Perm (A ++ B) /\ Sd K C ∧
    symU n b c (.int .i64 (mid : Int)) (.int .i64 (e : Int)) (iL (P ++ (A ++ (B ++ S)))) H = some (.ret [.sl 1 (iL (P ++ (C ++ S))) false], H) := by
  unfold symU
  by_cases h1 : A = []
  · subst h1
    have hc : ¬ (mid : Int) < (e : Int) := by simp at he; omega
    exact ⟨B, .refl _, hB, by simp only [bop_i64_lss, bd_some, bv_bool, hc, decide_false, Bool.false_eq_true, if_false, List.nil_append]⟩
  · have hA0 : 0 < A.length := List.length_pos_iff.2 h1
    have hc : (mid : Int) < (e : Int) := by omega
    by_cases h2 : B = []
    · subst h2
      have hc2 : ¬ (e : Int) < (b : Int) := by simp at hb; omega
      exact ⟨A, by simp, hA, by simp only [bop_i64_lss, bd_some, bv_bool, hc, hc2, decide_true, decide_false, Bool.false_eq_true, if_false, if_true, List.nil_append]⟩
    · have hB0 : 0 < B.length := List.length_pos_iff.2 h2
      have hc2 : (e : Int) < (b : Int) := by omega
      obtain ⟨C, p, s, e1⟩ := ih A B P S mid e b h1 h2 hsz hm he hb hl hA hB hlt dA dB
      refine ⟨C, p, s, ?_⟩
      simp only [bop_i64_lss, bd_some, bv_bool, hc, hc2, decide_true, if_true]
      rw [e1, clm_ret]
theorem symV_ok {n sz : Nat} (ih : SymOk c H K D n sz) (A1 A2 B1 B2 P S : List Int) (a r mid e b : Nat) (h1z : A1.length + B1.length <= sz) (h2z : A2.length + B2.length <= sz) (ha : a = P.length) (hr : r = P.length + A1.length) (hm : mid = P.length + A1.length + B1.length) (he : e = mid + A2.length) (hb : b = e + B2.length) (hl : 2 * b + 1 < lim)
    (s1 : Sd K A1) (t1 : Sd K B1) (s2 : Sd K A2) (t2 : Sd K B2) (hlt : ∀ x ∈ A1 ++ A2, ∀ y ∈ B1 ++ B2, x < y) (dA : ∀ x ∈ A1 ++ A2, D x) (dB : ∀ y ∈ B1 ++ B2, D y) : ∃ C1 C2, C1.Perm (A1 ++ B1) /\ Sd K C1 /\ C2.Perm (A2 ++ B2) /\ Sd K C2 ∧
    symV n a b c (.int .i64 (mid : Int)) (.int .i64 (e : Int)) (.int .i64 (r : Int)) (iL (P ++ (A1 ++ (B1 ++ (A2 ++ (B2 ++ S)))))) H = some (.ret [.sl 1 (iL (P ++ (C1 ++ (C2 ++ S)))) false], H) := by
  have hU : ∀ C1 : List Int, C1.length = A1.length + B1.length -> ∃ C2, C2.Perm (A2 ++ B2) /\ Sd K C2 /\ symU n b c (.int .i64 (mid : Int)) (.int .i64 (e : Int)) (iL (P ++ (C1 ++ (A2 ++ (B2 ++ S))))) H = some (.ret [.sl 1 (iL (P ++ (C1 ++ (C2 ++ S)))) false], H) := fun C1 hC => by
    obtain ⟨C2, p, s, e1⟩ := symU_ok ih A2 B2 (P ++ C1) S mid e b h2z (by simp; omega) (by simp; omega) (by simp; omega) hl s2 t2 (fun x hx y hy => hlt x (List.mem_append_right _ hx) y (List.mem_append_right _ hy)) (fun x hx => dA x (List.mem_append_right _ hx)) (fun y hy => dB y (List.mem_append_right _ hy))
    exact ⟨C2, p, s, by simpa only [List.append_assoc] using e1⟩
  unfold symV
  by_cases h1 : A1 = []
  · subst h1
    have hc : ¬ (a : Int) < (r : Int) := by simp at hr; omega
    obtain ⟨C2, p, s, e1⟩ := hU B1 (by simp)
    exact ⟨B1, C2, .refl _, t1, p, s, by simp only [bop_i64_lss, bd_some, bv_bool, hc, decide_false, Bool.false_eq_true, if_false, List.nil_append]; exact e1⟩
  · have hA0 : 0 < A1.length := List.length_pos_iff.2 h1
    have hc : (a : Int) < (r : Int) := by omega
    by_cases h2 : B1 = []
    · subst h2
      have hc2 : ¬ (r : Int) < (mid : Int) := by simp at hm; omega
      obtain ⟨C2, p, s, e1⟩ := hU A1 (by simp)
      exact ⟨A1, C2, by simp, s1, p, s, by simp only [bop_i64_lss, bd_some, bv_bool, hc, hc2, decide_true, decide_false, Bool.false_eq_true, if_false, if_true, List.nil_append]; exact e1⟩
    · have hB0 : 0 < B1.length := List.length_pos_iff.2 h2
      have hc2 : (r : Int) < (mid : Int) := by omega
      obtain ⟨C1, p1, q1, e1⟩ := ih A1 B1 P (A2 ++ (B2 ++ S)) a r mid h1 h2 h1z ha hr hm (by omega) s1 t1 (fun x hx y hy => hlt x (List.mem_append_left _ hx) y (List.mem_append_left _ hy)) (fun x hx => dA x (List.mem_append_left _ hx)) (fun y hy => dB y (List.mem_append_left _ hy))
      obtain ⟨C2, p2, q2, e2⟩ := hU C1 (by rw [p1.length_eq]; simp)
      refine ⟨C1, C2, p1, q1, p2, q2, ?_⟩
      simp only [bop_i64_lss, bd_some, bv_bool, hc, hc2, decide_true, if_true]
      rw [e1, clm_ret, e2]
theorem symT_ok {n sz : Nat} (ih : SymOk c H K D n sz) (A1 A2 B1 B2 P S : List Int) (a r m mid nn b : Nat) (h1z : A1.length + B1.length <= sz) (h2z : A2.length + B2.length <= sz) (ha : a = P.length) (hr : r = P.length + A1.length) (hmm : m = r + A2.length) (hm : mid = P.length + A1.length + B1.length) (hnn : nn = mid + m) (hb : b = m + B1.length + B2.length) (hl : 2 * b + 1 < lim) (hn : A2.length + B1.length + 3 <= n)
    (s1 : Sd K A1) (t1 : Sd K B1) (s2 : Sd K A2) (t2 : Sd K B2) (hlt : ∀ x ∈ A1 ++ A2, ∀ y ∈ B1 ++ B2, x < y) (dA : ∀ x ∈ A1 ++ A2, D x) (dB : ∀ y ∈ B1 ++ B2, D y) : ∃ C1 C2, C1.Perm (A1 ++ B1) /\ Sd K C1 /\ C2.Perm (A2 ++ B2) /\ Sd K C2 ∧
    symT n a m b c (.int .i64 (mid : Int)) (.int .i64 (nn : Int)) (.int .i64 (r : Int)) (iL (P ++ ((A1 ++ A2) ++ ((B1 ++ B2) ++ S)))) H = some (.ret [.sl 1 (iL (P ++ (C1 ++ (C2 ++ S)))) false], H) := by
  obtain ⟨C1, C2, p1, q1, p2, q2, e1⟩ := symV_ok ih A1 A2 B1 B2 P S a r mid (m + B1.length) b h1z h2z ha hr hm (by omega) (by omega) hl s1 t1 s2 t2 hlt dA dB
  refine ⟨C1, C2, p1, q1, p2, q2, ?_⟩
  have e2 : IntKind.i64.wrap ((nn : Int) - (r : Int)) = ((m + B1.length : Nat) : Int) := wN (by omega) (by omega)
  unfold symT
  simp only [bop_i64_sub, bd_some, e2, bop_i64_lss, bv_bool]
  by_cases h1 : A2 = []
  · subst h1
    have hc : ¬ (r : Int) < (m : Int) := by simp at hmm; omega
    simp only [hc, decide_false, Bool.false_eq_true, if_false]
    simpa only [List.append_nil, List.nil_append, List.append_assoc] using e1
  · have hA0 : 0 < A2.length := List.length_pos_iff.2 h1
    have hc : (r : Int) < (m : Int) := by omega
    by_cases h2 : B1 = []
    · subst h2
      have hc2 : ¬ (m : Int) < ((m + ([] : List Int).length : Nat) : Int) := by simp
      simp only [hc, hc2, decide_true, decide_false, Bool.false_eq_true, if_false, if_true]
      simpa only [List.append_nil, List.nil_append, List.append_assoc] using e1
    · have hB0 : 0 < B1.length := List.length_pos_iff.2 h2
      have hc2 : (m : Int) < ((m + B1.length : Nat) : Int) := by omega
      have hrot := rot_call n H c r m (m + B1.length) (P ++ A1) A2 B1 (B2 ++ S) h1 h2 (by simp; omega) (by simp; omega) (by simp; omega) (by simp; omega) hn
      simp only [hc, hc2, decide_true, if_true]
      simp only [List.append_assoc] at hrot e1 ⊢
      rw [hrot, clm_ret, e1]
end
end Go.Proofs.Try
set_option linter.unusedVariables false
set_option linter.unusedSimpArgs false
namespace Go.Proofs.Try
open Go.L Go.Rp
set_option maxRecDepth 100000
theorem some_ne {k : Nat} : ((some k : Option Nat) ≠ some 0) = ((k == 0) = false) := by simp
theorem zlo : (0 : Nat) < 1 := by decide
theorem ole : (1 : Nat) <= 1 := by decide
theorem seg_get (P A S : List Int) {h : Nat} (h1 : P.length <= h) (h2 : h < P.length + A.length) : (P ++ (A ++ S))[h]? = some (A.getD (h - P.length) 0) := by
  rw [List.getElem?_append_right h1, List.getElem?_append_left (by omega), List.getD_eq_getElem?_getD, List.getElem?_eq_getElem (by omega)]; rfl
theorem getD_mem {A : List Int} {k : Nat} (h : k < A.length) : A.getD k 0 ∈ A := by
  rw [List.getD_eq_getElem?_getD, List.getElem?_eq_getElem h]; exact List.getElem_mem h
section
variable {K : Int -> Int} {D : Int -> Prop} {H : Heap} {c : V} {n0 : Nat} {p : Nat -> Int}
theorem shr_loop (n i : Nat) (st1 : List V) (hst : st1.getD 1 (.bool false) = .int .i64 (i : Int)) (hi : i + 1 < lim) (x : Int) (R : List Int) : ∀ (B P : List Int) (k Mx : Nat), k = P.length -> i = k + 1 + B.length -> B.length < Mx →
    loopx Mx (lSym_l30 n st1) [.sl 1 (iL (P ++ (x :: (B ++ R)))) false, .int .i64 (k : Int)] H = some (.ret [.sl 1 (iL (P ++ (B ++ (x :: R)))) false], H)
  | _, _, _, 0, _, _, h => by omega
  | [], P, k, Mx + 1, hk, hi', hM => by
    have e1 : IntKind.i64.wrap ((i : Int) - 1) = ((i - 1 : Nat) : Int) := wN (by omega) (by omega)
    have hc : ¬ (k : Int) < ((i - 1 : Nat) : Int) := by simp at hi'; omega
    rw [loopx_succ]
    simp only [lSym_l30, gv, List.getD_cons_succ, List.getD_cons_zero, hst, bop_i64_sub, bd_some, e1, bop_i64_lss, bv_bool, hc, decide_false, Bool.false_eq_true, if_false, lsl, List.nil_append]
  | y :: B, P, k, Mx + 1, hk, hi', hM => by
    simp only [List.length_cons] at hi' hM
    have e1 : IntKind.i64.wrap ((i : Int) - 1) = ((i - 1 : Nat) : Int) := wN (by omega) (by omega)
    have e2 : IntKind.i64.wrap ((k : Int) + 1) = ((k + 1 : Nat) : Int) := wN (by omega) (by omega)
    have hc : (k : Int) < ((i - 1 : Nat) : Int) := by omega
    obtain ⟨s1, s2, s3, s4, s5, s6, s7, s8⟩ := adj P (B ++ R) x y hk (show k + 1 = P.length + 1 by omega)
    have l1 := (List.getElem?_eq_some_iff.1 s1).1
    have l2 := (List.getElem?_eq_some_iff.1 s2).1
    have l6 := (List.getElem?_eq_some_iff.1 s6).1
    have ih := shr_loop n i st1 hst hi x R B (P ++ [y]) (k + 1) Mx (by simp; omega) (by omega) (by omega)
    rw [loopx_succ, List.cons_append]
    simp only [lSym_l30, gv, List.getD_cons_succ, List.getD_cons_zero, hst, bop_i64_sub, bop_i64_add, bd_some, e1, e2, bop_i64_lss, bv_bool, hc, decide_true, if_true, nv_nat, bdS_some, lsl, iL_len, own_iff, some_ne, true_and, zlo, ole, Nat.reduceBEq, and_true, l1, l2, l6, iL_get s1, iL_get s2, List.getElem?_cons_zero, V.cells, List.length_cons, List.length_nil, Nat.zero_add, one_iff, setR_11, iL_set, s4, iL_get s6, s8]
    simpa only [List.append_assoc, List.cons_append, List.nil_append] using ih
theorem shl_loop (n i : Nat) (st50 : List V) (hst : st50.getD 1 (.bool false) = .int .i64 (i : Int)) (x : Int) : ∀ (r R P : List Int) (k Mx : Nat), i = P.length -> k = P.length + r.length -> k + 1 < lim -> r.length < Mx →
    loopx Mx (lSym_l82 n st50) [.sl 1 (iL (P ++ (r.reverse ++ (x :: R)))) false, .int .i64 (k : Int)] H = some (.ret [.sl 1 (iL (P ++ (x :: (r.reverse ++ R)))) false], H)
  | _, _, _, _, 0, _, _, _, h => by omega
  | [], R, P, k, Mx + 1, hi, hk, hl, hM => by
    have hc : ¬ (k : Int) > (i : Int) := by simp at hk; omega
    rw [loopx_succ]
    simp only [lSym_l82, gv, List.getD_cons_succ, List.getD_cons_zero, hst, bop_i64_gtr, bd_some, bv_bool, hc, decide_false, Bool.false_eq_true, if_false, lsl, List.nil_append, List.reverse_nil]
  | y :: r, R, P, k, Mx + 1, hi, hk, hl, hM => by
    simp only [List.length_cons] at hk hM
    have e1 : IntKind.i64.wrap ((k : Int) - 1) = ((k - 1 : Nat) : Int) := wN (by omega) (by omega)
    have hc : (k : Int) > (i : Int) := by omega
    have hL : P ++ ((y :: r).reverse ++ (x :: R)) = (P ++ r.reverse) ++ y :: x :: R := by simp
    obtain ⟨s1, s2, s3, s4, s5, s6, s7, s8⟩ := adj (P ++ r.reverse) R y x (i := k - 1) (j := k) (by simp; omega) (by simp; omega)
    have l1 := (List.getElem?_eq_some_iff.1 s1).1
    have l2 := (List.getElem?_eq_some_iff.1 s2).1
    have l5 := (List.getElem?_eq_some_iff.1 s5).1
    have ih := shl_loop n i st50 hst x r (y :: R) P (k - 1) Mx hi (by omega) (by omega) (by omega)
    rw [loopx_succ, hL]
    simp only [lSym_l82, gv, List.getD_cons_succ, List.getD_cons_zero, hst, bop_i64_sub, bd_some, e1, bop_i64_gtr, bv_bool, hc, decide_true, if_true, nv_nat, bdS_some, lsl, iL_len, own_iff, some_ne, true_and, zlo, ole, Nat.reduceBEq, and_true, l1, l2, l5, iL_get s1, iL_get s2, List.getElem?_cons_zero, V.cells, List.length_cons, List.length_nil, Nat.zero_add, one_iff, setR_11, iL_set, s3, iL_get s5, s7]
    simpa only [List.append_assoc, List.reverse_cons, List.cons_append, List.nil_append] using ih
theorem sym_one (hc : CmpOk n0 c H K D) (n : Nat) (x : Int) (B P S : List Int) (a m b : Nat) (ha : a = P.length) (hm : m = P.length + 1) (hb : b = P.length + 1 + B.length) (hl : 2 * b + 1 < lim) (hB : Sd K B) (hlt : ∀ y ∈ B, x < y) (dx : D x) (dB : ∀ y ∈ B, D y) (hn : n0 <= n) (hn2 : B.length + 2 <= n) :
    ∃ C, C.Perm (x :: B) /\ Sd K C /\ loopx n (lSym_l0 n a c) [.sl 1 (iL (P ++ (x :: (B ++ S)))) false, .int .i64 (m : Int), .int .i64 (b : Int)] H = some (.ret [.sl 1 (iL (P ++ (C ++ S))) false], H) := by
  obtain ⟨f, caps, hcf, hok, hk, hcmp⟩ := hc.ex
  have hfn : ∀ k : Nat -> List V -> Option (Res × Heap), fnK c k = k f caps := fun k => by rw [hcf]; rfl
  have gx : (P ++ (x :: (B ++ S)))[a]? = some x := mid_get _ _ _ ha
  have gB : ∀ h, m <= h -> h < b -> (P ++ (x :: (B ++ S)))[h]? = some (B.getD (h - m) 0) := fun h h1 h2 => by
    have := seg_get (P ++ [x]) B S (h := h) (by simp; omega) (by simp; omega)
    simp only [List.append_assoc, List.cons_append, List.nil_append, List.length_append, List.length_singleton] at this
    rw [this, hm]
  obtain ⟨r, r1, r2, r3, r4, r5⟩ := bs_gen (H := H) (l := .sl 1 (iL (P ++ (x :: (B ++ S)))) false) (body := lSym_l0 n a c) (fin := fun i => loopx n (lSym_l30 n [.sl 1 (iL (P ++ (x :: (B ++ S)))) false, .int .i64 (i : Int), .int .i64 (i : Int)]) [.sl 1 (iL (P ++ (x :: (B ++ S)))) false, .int .i64 (a : Int)] H) (Q := fun h => K (B.getD (h - m) 0) < K x) m b
    (fun i j h1 h2 h3 next => by
      have hij : (i : Int) < (j : Int) := by omega
      have e1 : IntKind.i64.wrap ((i : Int) + (j : Int)) = ((i + j : Nat) : Int) := wN (by omega) (by omega)
      have g1 := gB ((i + j) / 2) (by omega) (by omega)
      have l1 := (List.getElem?_eq_some_iff.1 g1).1
      have l2 := (List.getElem?_eq_some_iff.1 gx).1
      have e2 : IntKind.i64.wrap ((((i + j) / 2 : Nat) : Int) + 1) = (((i + j) / 2 + 1 : Nat) : Int) := wN (by omega) (by omega)
      obtain ⟨q, hq, hqk⟩ := hcmp n hn (B.getD ((i + j) / 2 - m) 0) x (dB _ (getD_mem (by omega))) dx
      simp only [lSym_l0, gv, List.getD_cons_succ, List.getD_cons_zero, bop_i64_lss, bd_some, bv_bool, hij, decide_true, if_true, bop_i64_add, e1, cvt_iu, shr_u, cvt_ui, half_ok (show i + j < lim by omega), nv_nat, bdS_some, lsl, iL_len, own_iff, some_ne, true_and, zlo, ole, Nat.reduceBEq, and_true, l1, l2, iL_get g1, iL_get gx, List.getElem?_cons_zero, hfn, hok, hk]
      rw [hq, cl_ret]
      simp only [one1_one, bop_i64_lss, bd_some, bv_bool, bop_i64_add, e2]
      by_cases h : K (B.getD ((i + j) / 2 - m) 0) < K x
      · exact .inl ⟨h, by simp only [hqk.2 h, decide_true, if_true]⟩
      · exact .inr ⟨h, by simp only [show ¬ q < 0 from fun h' => h (hqk.1 h'), decide_false, Bool.false_eq_true, if_false]⟩)
    (fun i h1 h2 next => by
      have hii : ¬ (i : Int) < (i : Int) := by omega
      simp only [lSym_l0, gv, List.getD_cons_succ, List.getD_cons_zero, bop_i64_lss, bd_some, bv_bool, hii, decide_false, Bool.false_eq_true, if_false, lsl])
    n m b (by omega) (Nat.le_refl _) (by omega) (Nat.le_refl _) (.inl rfl) (.inl rfl)
  rw [r5]
  have hB2 : B = B.take (r - m) ++ B.drop (r - m) := (List.take_append_drop _ _).symm
  refine ⟨B.take (r - m) ++ x :: B.drop (r - m), ?_, merge_one hB (by omega) hlt ?_ ?_, ?_⟩
  · refine List.perm_middle.trans ?_
    rw [<- hB2]
  · rcases r3 with h | h
    · exact .inl (by omega)
    · exact .inr (by rw [show r - m - 1 = r - 1 - m by omega]; exact h)
  · rcases r4 with h | h
    · exact .inl (by omega)
    · exact .inr h
  · have := shr_loop (H := H) n r [.sl 1 (iL (P ++ (x :: (B ++ S)))) false, .int .i64 (r : Int), .int .i64 (r : Int)] rfl (by omega) x (B.drop (r - m) ++ S) (B.take (r - m)) P a n ha (by rw [List.length_take]; omega) (by rw [List.length_take]; omega)
    have e : B ++ S = B.take (r - m) ++ (B.drop (r - m) ++ S) := by rw [<- List.append_assoc, <- hB2]
    rw [e]
    rw [e] at this
    rw [this]
    simp
theorem sym_last (hc : CmpOk n0 c H K D) (n : Nat) (x : Int) (A P S : List Int) (a m : Nat) (ha : a = P.length) (hm : m = P.length + A.length) (hl : 2 * (m + 1) + 1 < lim) (hA : Sd K A) (hlt : ∀ y ∈ A, y < x) (dx : D x) (dA : ∀ y ∈ A, D y) (hn : n0 <= n) (hn2 : A.length + 2 <= n) :
    ∃ C, C.Perm (A ++ [x]) /\ Sd K C /\ loopx n (lSym_l50 n m c) [.sl 1 (iL (P ++ (A ++ (x :: S)))) false, .int .i64 (a : Int), .int .i64 (m : Int)] H = some (.ret [.sl 1 (iL (P ++ (C ++ S))) false], H) := by
  obtain ⟨f, caps, hcf, hok, hk, hcmp⟩ := hc.ex
  have hfn : ∀ k : Nat -> List V -> Option (Res × Heap), fnK c k = k f caps := fun k => by rw [hcf]; rfl
  have gx : (P ++ (A ++ (x :: S)))[m]? = some x := by rw [<- List.append_assoc]; exact mid_get _ _ _ (by simp; omega)
  have gA : ∀ h, a <= h -> h < m -> (P ++ (A ++ (x :: S)))[h]? = some (A.getD (h - a) 0) := fun h h1 h2 => by
    rw [seg_get P A (x :: S) (h := h) (by omega) (by omega), ha]
  obtain ⟨r, r1, r2, r3, r4, r5⟩ := bs_gen (H := H) (l := .sl 1 (iL (P ++ (A ++ (x :: S)))) false) (body := lSym_l50 n m c) (fin := fun i => loopx n (lSym_l82 n [.sl 1 (iL (P ++ (A ++ (x :: S)))) false, .int .i64 (i : Int), .int .i64 (i : Int)]) [.sl 1 (iL (P ++ (A ++ (x :: S)))) false, .int .i64 (m : Int)] H) (Q := fun h => ¬ K x < K (A.getD (h - a) 0)) a m
    (fun i j h1 h2 h3 next => by
      have hij : (i : Int) < (j : Int) := by omega
      have e1 : IntKind.i64.wrap ((i : Int) + (j : Int)) = ((i + j : Nat) : Int) := wN (by omega) (by omega)
      have g1 := gA ((i + j) / 2) (by omega) (by omega)
      have l1 := (List.getElem?_eq_some_iff.1 g1).1
      have l2 := (List.getElem?_eq_some_iff.1 gx).1
      have e2 : IntKind.i64.wrap ((((i + j) / 2 : Nat) : Int) + 1) = (((i + j) / 2 + 1 : Nat) : Int) := wN (by omega) (by omega)
      obtain ⟨q, hq, hqk⟩ := hcmp n hn x (A.getD ((i + j) / 2 - a) 0) dx (dA _ (getD_mem (by omega)))
      simp only [lSym_l50, gv, List.getD_cons_succ, List.getD_cons_zero, bop_i64_lss, bd_some, bv_bool, hij, decide_true, if_true, bop_i64_add, e1, cvt_iu, shr_u, cvt_ui, half_ok (show i + j < lim by omega), nv_nat, bdS_some, lsl, iL_len, own_iff, some_ne, true_and, zlo, ole, Nat.reduceBEq, and_true, l1, l2, iL_get g1, iL_get gx, List.getElem?_cons_zero, hfn, hok, hk]
      rw [hq, cl_ret]
      simp only [one1_one, bop_i64_lss, bd_some, uop_not, bv_bool, bop_i64_add, e2]
      by_cases h : K x < K (A.getD ((i + j) / 2 - a) 0)
      · exact .inr ⟨fun h' => h' h, by simp only [hqk.2 h, decide_true, Bool.not_true, Bool.false_eq_true, if_false]⟩
      · exact .inl ⟨h, by simp only [show ¬ q < 0 from fun h' => h (hqk.1 h'), decide_false, Bool.not_false, if_true]⟩)
    (fun i h1 h2 next => by
      have hii : ¬ (i : Int) < (i : Int) := by omega
      simp only [lSym_l50, gv, List.getD_cons_succ, List.getD_cons_zero, bop_i64_lss, bd_some, bv_bool, hii, decide_false, Bool.false_eq_true, if_false, lsl])
    n a m (by omega) (Nat.le_refl _) (by omega) (Nat.le_refl _) (.inl rfl) (.inl rfl)
  rw [r5]
  have hA2 : A = A.take (r - a) ++ A.drop (r - a) := (List.take_append_drop _ _).symm
  refine ⟨A.take (r - a) ++ x :: A.drop (r - a), ?_, merge_last hA (by omega) hlt ?_ ?_, ?_⟩
  · refine List.perm_middle.trans ?_
    rw [<- hA2]
    exact (List.perm_append_singleton x A).symm
  · rcases r3 with h | h
    · exact .inl (by omega)
    · exact .inr (by rw [show r - a - 1 = r - 1 - a by omega]; exact h)
  · rcases r4 with h | h
    · exact .inl (by omega)
    · exact .inr (by simpa using h)
  · have := shl_loop (H := H) n r [.sl 1 (iL (P ++ (A ++ (x :: S)))) false, .int .i64 (r : Int), .int .i64 (r : Int)] rfl x (A.drop (r - a)).reverse S (P ++ A.take (r - a)) m n (by simp; omega) (by simp; omega) (by omega) (by simp; omega)
    rw [List.reverse_reverse] at this
    have e : P ++ (A ++ (x :: S)) = (P ++ A.take (r - a)) ++ (A.drop (r - a) ++ (x :: S)) := by
      conv => lhs; rw [hA2]
      simp only [List.append_assoc]
    rw [e]
    rw [e] at this
    rw [this]
    simp
end
end Go.Proofs.Try
set_option linter.unusedVariables false
set_option linter.unusedSimpArgs false
namespace Go.Proofs.Try
open Go.L Go.Rp
set_option maxRecDepth 100000
section
variable {K : Int -> Int} {D : Int -> Prop} {H : Heap} {c : V} {n0 : Nat} {p : Nat -> Int}
theorem sym_search (hc : CmpOk n0 c H K D) (n : Nat) (A B P S : List Int) (a m b mid nn lo hi : Nat) (body : List V -> Heap -> (List V -> Heap -> Option (Res × Heap)) -> Option (Res × Heap))
    (hbody : ∀ st hh next, body st hh next = lSym_l108 n a m b c (.int .i64 (mid : Int)) (.int .i64 (nn : Int)) (.int .i64 ((nn - 1 : Nat) : Int)) st hh next)
    (ha : a = P.length) (hm : m = P.length + A.length) (hb : b = P.length + A.length + B.length) (hmid : mid = (a + b) / 2) (hnn : nn = mid + m) (hl : 2 * b + 1 < lim)
    (hlo : (m > mid /\ lo = nn - b /\ hi = mid) \/ (m <= mid /\ lo = a /\ hi = m)) (hA0 : 0 < A.length) (hB0 : 0 < B.length)
    (dA : ∀ x ∈ A, D x) (dB : ∀ y ∈ B, D y) (hn : n0 <= n) (hn2 : hi < n + lo) :
    ∃ r, a <= r /\ r <= m /\ r <= mid /\ mid <= r + B.length /\ (r - a = 0 \/ B.length <= mid - r \/ ¬ K (B.getD (mid - r) 0) < K (A.getD (r - a - 1) 0)) /\ (mid - r = 0 \/ A.length <= r - a \/ K (B.getD (mid - r - 1) 0) < K (A.getD (r - a) 0)) ∧
      loopx n body [.sl 1 (iL (P ++ (A ++ (B ++ S)))) false, .int .i64 (lo : Int), .int .i64 (hi : Int)] H = symT n a m b c (.int .i64 (mid : Int)) (.int .i64 (nn : Int)) (.int .i64 (r : Int)) (iL (P ++ (A ++ (B ++ S)))) H := by
  obtain ⟨f, caps, hcf, hok, hk, hcmp⟩ := hc.ex
  have hfn : ∀ k : Nat -> List V -> Option (Res × Heap), fnK c k = k f caps := fun k => by rw [hcf]; rfl
  have gA : ∀ h, a <= h -> h < m -> (P ++ (A ++ (B ++ S)))[h]? = some (A.getD (h - a) 0) := fun h h1 h2 => by
    rw [seg_get P A (B ++ S) (h := h) (by omega) (by omega), ha]
  have gB : ∀ h, m <= h -> h < b -> (P ++ (A ++ (B ++ S)))[h]? = some (B.getD (h - m) 0) := fun h h1 h2 => by
    have := seg_get (P ++ A) B S (h := h) (by simp; omega) (by simp; omega)
    simp only [List.append_assoc, List.length_append] at this
    rw [this, hm]
  have hlom : a <= lo /\ lo <= hi /\ hi <= m /\ hi <= mid /\ mid <= lo + B.length := by
    rcases hlo with ⟨h1, h2, h3⟩ | ⟨h1, h2, h3⟩ <;> omega
  obtain ⟨r, r1, r2, r3, r4, r5⟩ := bs_gen (H := H) (l := .sl 1 (iL (P ++ (A ++ (B ++ S)))) false) (body := body) (fin := fun i => symT n a m b c (.int .i64 (mid : Int)) (.int .i64 (nn : Int)) (.int .i64 (i : Int)) (iL (P ++ (A ++ (B ++ S)))) H) (Q := fun h => ¬ K (B.getD (mid - 1 - h) 0) < K (A.getD (h - a) 0)) lo hi
    (fun i j h1 h2 h3 next => by
      rw [hbody]
      have hij : (i : Int) < (j : Int) := by omega
      have e1 : IntKind.i64.wrap ((i : Int) + (j : Int)) = ((i + j : Nat) : Int) := wN (by omega) (by omega)
      have g1 := gA ((i + j) / 2) (by omega) (by omega)
      have g2 := gB (nn - 1 - (i + j) / 2) (by omega) (by omega)
      have l1 := (List.getElem?_eq_some_iff.1 g1).1
      have l2 := (List.getElem?_eq_some_iff.1 g2).1
      have e2 : IntKind.i64.wrap ((((i + j) / 2 : Nat) : Int) + 1) = (((i + j) / 2 + 1 : Nat) : Int) := wN (by omega) (by omega)
      have e3 : IntKind.i64.wrap (((nn - 1 : Nat) : Int) - (((i + j) / 2 : Nat) : Int)) = ((nn - 1 - (i + j) / 2 : Nat) : Int) := wN (by omega) (by omega)
      have e4 : nn - 1 - (i + j) / 2 - m = mid - 1 - (i + j) / 2 := by omega
      rw [e4] at g2
      obtain ⟨q, hq, hqk⟩ := hcmp n hn (B.getD (mid - 1 - (i + j) / 2) 0) (A.getD ((i + j) / 2 - a) 0) (dB _ (getD_mem (by omega))) (dA _ (getD_mem (by omega)))
      simp only [lSym_l108, gv, List.getD_cons_succ, List.getD_cons_zero, bop_i64_lss, bd_some, bv_bool, hij, decide_true, if_true, bop_i64_add, e1, cvt_iu, shr_u, cvt_ui, half_ok (show i + j < lim by omega), bop_i64_sub, e3, nv_nat, bdS_some, lsl, iL_len, own_iff, some_ne, true_and, zlo, ole, Nat.reduceBEq, and_true, l1, l2, iL_get g1, iL_get g2, List.getElem?_cons_zero, hfn, hok, hk]
      rw [hq, cl_ret]
      simp only [one1_one, bop_i64_lss, bd_some, uop_not, bv_bool, bop_i64_add, e2]
      by_cases h : K (B.getD (mid - 1 - (i + j) / 2) 0) < K (A.getD ((i + j) / 2 - a) 0)
      · exact .inr ⟨fun h' => h' h, by simp only [hqk.2 h, decide_true, Bool.not_true, Bool.false_eq_true, if_false]⟩
      · exact .inl ⟨h, by simp only [show ¬ q < 0 from fun h' => h (hqk.1 h'), decide_false, Bool.not_false, if_true]⟩)
    (fun i h1 h2 next => by
      have hii : ¬ (i : Int) < (i : Int) := by omega
      rw [hbody]
      simp only [lSym_l108, gv, List.getD_cons_succ, List.getD_cons_zero, bop_i64_lss, bd_some, bv_bool, hii, decide_false, Bool.false_eq_true, if_false, lsl, symT, symV, symU])
    n lo hi (by omega) (Nat.le_refl _) hlom.2.1 (Nat.le_refl _) (.inl rfl) (.inl rfl)
  refine ⟨r, by omega, by omega, by omega, by omega, ?_, ?_, r5⟩
  · rcases r3 with h | h
    · rcases hlo with ⟨h1, h2, h3⟩ | ⟨h1, h2, h3⟩
      · exact .inr (.inl (by omega))
      · exact .inl (by omega)
    · by_cases h0 : r - a = 0
      · exact .inl h0
      · refine .inr (.inr ?_)
        rw [show mid - r = mid - 1 - (r - 1) by omega, show r - a - 1 = r - 1 - a by omega]
        exact h
  · rcases r4 with h | h
    · rcases hlo with ⟨h1, h2, h3⟩ | ⟨h1, h2, h3⟩
      · exact .inl (by omega)
      · exact .inr (.inl (by omega))
    · refine .inr (.inr ?_)
      rw [show mid - r - 1 = mid - 1 - r by omega]
      simpa using h
theorem symOk_all (hc : CmpOk n0 c H K D) : ∀ (sz n : Nat), n0 + 2 * sz + 8 <= n -> SymOk c H K D n sz
  | 0, n, _ => fun A B P S a m b hA hB hsz => by
    have := List.length_pos_iff.2 hA; omega
  | sz + 1, n, hn => fun A B P S a m b hA hB hsz ha hm hb hl sA sB hlt dA dB => by
    obtain ⟨N, rfl⟩ : ∃ N, n = N + 1 := ⟨n - 1, by omega⟩
    have ih := symOk_all hc sz N (by omega)
    have hA0 := List.length_pos_iff.2 hA
    have hB0 := List.length_pos_iff.2 hB
    have e1 : IntKind.i64.wrap ((m : Int) - (a : Int)) = ((A.length : Nat) : Int) := wN (by omega) (by omega)
    have e2 : IntKind.i64.wrap ((b : Int) - (m : Int)) = ((B.length : Nat) : Int) := wN (by omega) (by omega)
    have e3 : IntKind.i64.wrap ((a : Int) + (b : Int)) = ((a + b : Nat) : Int) := wN (by omega) (by omega)
    rw [lSym_eq]
    unfold lSym
    rw [e1, e2, e3]
    by_cases h1 : A.length = 1
    · obtain ⟨x, rfl⟩ := List.length_eq_one_iff.1 h1
      have hc1 : ((([x] : List Int).length : Int) == 1) = true := by simp
      rw [if_pos hc1]
      obtain ⟨C, p, s, e⟩ := sym_one hc N x B P S a m b ha (by simpa using hm) (by simpa using hb) hl sB (fun y hy => hlt x (by simp) y hy) (dA x (by simp)) dB (by omega) (by omega)
      exact ⟨C, by simpa using p, s, by simpa using e⟩
    · have hc1 : ¬ (((A.length : Nat) : Int) == 1) = true := by simp; omega
      rw [if_neg hc1]
      by_cases h2 : B.length = 1
      · obtain ⟨x, rfl⟩ := List.length_eq_one_iff.1 h2
        have hc2 : ((([x] : List Int).length : Int) == 1) = true := by simp
        rw [if_pos hc2]
        obtain ⟨C, p, s, e⟩ := sym_last hc N x A P S a m ha hm (by simp at hb; omega) sA (fun y hy => hlt y hy x (by simp)) (dB x (by simp)) dA (by omega) (by simp at hsz; omega)
        exact ⟨C, p, s, by simpa using e⟩
      · have hc2 : ¬ (((B.length : Nat) : Int) == 1) = true := by simp; omega
        rw [if_neg hc2]
        obtain ⟨mid, hmid⟩ : ∃ mid, mid = (a + b) / 2 := ⟨_, rfl⟩
        obtain ⟨nn, hnn⟩ : ∃ nn, nn = mid + m := ⟨_, rfl⟩
        have e4 : IntKind.i64.wrap ((mid : Int) + (m : Int)) = ((nn : Nat) : Int) := wN (by omega) (by omega)
        have e5 : IntKind.i64.wrap ((nn : Int) - 1) = ((nn - 1 : Nat) : Int) := wN (by omega) (by omega)
        have e6 := half_ok (show a + b < lim by omega)
        rw [<- hmid] at e6
        simp only [shr_u, bd_some, cvt_ui, e6, bop_i64_add, e4, bop_i64_gtr, bv_bool]
        have key : ∀ (lo hi : Nat) (body : List V -> Heap -> (List V -> Heap -> Option (Res × Heap)) -> Option (Res × Heap)), (∀ st hh next, body st hh next = lSym_l108 N a m b c (.int .i64 (mid : Int)) (.int .i64 (nn : Int)) (.int .i64 ((nn - 1 : Nat) : Int)) st hh next) →
            ((m > mid /\ lo = nn - b /\ hi = mid) \/ (m <= mid /\ lo = a /\ hi = m)) -> ∃ C, C.Perm (A ++ B) /\ Sd K C /\ loopx N body [.sl 1 (iL (P ++ (A ++ (B ++ S)))) false, .int .i64 (lo : Int), .int .i64 (hi : Int)] H = some (.ret [.sl 1 (iL (P ++ (C ++ S))) false], H) := fun lo hi body hbody hlo => by
          obtain ⟨r, r1, r2, r3, r4, r5, r6, r7⟩ := sym_search hc N A B P S a m b mid nn lo hi body hbody ha hm hb hmid hnn hl hlo hA0 hB0 dA dB (by omega) (by omega)
          have hAt : A = A.take (r - a) ++ A.drop (r - a) := (List.take_append_drop _ _).symm
          have hBt : B = B.take (mid - r) ++ B.drop (mid - r) := (List.take_append_drop _ _).symm
          have hcr := cross sA sB (by omega) (by omega) hlt r5 r6
          have tA : (A.take (r - a)).length = r - a := by rw [List.length_take]; omega
          have tB : (B.take (mid - r)).length = mid - r := by rw [List.length_take]; omega
          have dA' : (A.drop (r - a)).length = A.length - (r - a) := List.length_drop
          have dB' : (B.drop (mid - r)).length = B.length - (mid - r) := List.length_drop
          obtain ⟨C1, C2, p1, q1, p2, q2, e⟩ := symT_ok ih (A.take (r - a)) (A.drop (r - a)) (B.take (mid - r)) (B.drop (mid - r)) P S a r m mid nn b (by omega) (by omega) ha (by omega) (by omega) (by omega) hnn (by omega) hl (by omega)
            (sA.sublist (List.take_sublist _ _)) (sB.sublist (List.take_sublist _ _)) (sA.sublist (List.drop_sublist _ _)) (sB.sublist (List.drop_sublist _ _)) (by rw [<- hAt, <- hBt]; exact hlt) (by rw [<- hAt]; exact dA) (by rw [<- hBt]; exact dB)
          rw [<- hAt, <- hBt] at e
          refine ⟨C1 ++ C2, ?_, List.pairwise_append.2 ⟨q1, q2, fun u hu v hv => hcr u (p1.mem_iff.1 hu) v (p2.mem_iff.1 hv)⟩, ?_⟩
          · refine (p1.append p2).trans ?_
            conv => rhs; rw [hAt, hBt]
            simp only [List.append_assoc]
            refine List.Perm.append_left _ ?_
            rw [<- List.append_assoc, <- List.append_assoc]
            exact List.Perm.append_right _ List.perm_append_comm
          · rw [r7, e]; simp only [List.append_assoc]
        by_cases hg : (m : Int) > (mid : Int)
        · have e7 : IntKind.i64.wrap ((nn : Int) - (b : Int)) = ((nn - b : Nat) : Int) := wN (by omega) (by omega)
          simp only [hg, decide_true, if_true, bop_i64_sub, bd_some, e7, e5]
          exact key (nn - b) mid _ (fun _ _ _ => rfl) (.inl ⟨by omega, rfl, rfl⟩)
        · simp only [hg, decide_false, Bool.false_eq_true, if_false, bop_i64_sub, bd_some, e5]
          exact key a m _ (fun _ _ _ => rfl) (.inr ⟨by omega, rfl, rfl⟩)
theorem sym_sR (hp : Mono p) (hc : CmpOk n0 c H K D) (n lo i j : Nat) (P S : List Int) (hP : lo = P.length) (hi : 0 < i) (hj : 0 < j) (hl : 2 * (lo + i + j) + 1 < lim) (hD : ∀ x ∈ rng p lo (i + j), D x) (hn : n0 + 2 * (i + j) + 8 <= n) :
    call n 116 [.sl 1 (iL (P ++ (sR K p lo i ++ (sR K p (lo + i) j ++ S)))) false, .int .i64 (lo : Int), .int .i64 ((lo + i : Nat) : Int), .int .i64 ((lo + i + j : Nat) : Int), c] H = some (.ret [.sl 1 (iL (P ++ (sR K p lo (i + j) ++ S))) false], H) := by
  have hne : ∀ l k, 0 < k -> sR K p l k ≠ [] := fun l k hk h => by have := sR_len (K := K) (p := p) l k; rw [h] at this; simp at this; omega
  obtain ⟨C, q, s, e⟩ := symOk_all hc (i + j) n hn (sR K p lo i) (sR K p (lo + i) j) P S lo (lo + i) (lo + i + j) (hne _ _ hi) (hne _ _ hj) (by rw [sR_len, sR_len]; omega) hP (by rw [sR_len]; omega) (by rw [sR_len, sR_len]; omega) hl (sR_sd hp _ _) (sR_sd hp _ _)
    (fun x hx y hy => sR_lt hp hx hy) (fun x hx => hD x (rng_sub (Nat.le_refl _) (by omega) (rng_mem.2 (sR_mem.1 hx)))) (fun x hx => hD x (rng_sub (Nat.le_add_right _ _) (by omega) (rng_mem.2 (sR_mem.1 hx))))
  rw [e, sR_join hp q s]
end
end Go.Proofs.Try
set_option linter.unusedVariables false
set_option linter.unusedSimpArgs false
namespace Go.Proofs.Try
open Go.L Go.Rp
set_option maxRecDepth 100000
@[simp] theorem bop_i64_mul (a b : Int) : bop prog .mul 3 (.int .i64 a) (.int .i64 b) = some (.int .i64 (IntKind.i64.wrap (a * b))) := by kernel_rfl
section
variable {K : Int -> Int} {D : Int -> Prop} {H : Heap} {c : V} {n0 : Nat} {p : Nat -> Int}
theorem chunks_ge {bs : Nat} (hb : 0 < bs) (f lo len : Nat) (h : bs <= len) (hf : len <= f) : chunks K p bs f lo len = sR K p lo bs ++ chunks K p bs f (lo + bs) (len - bs) := by
  rcases Nat.lt_or_ge bs len with h1 | h1
  · exact chunks_gt hb f lo len h1 hf
  · obtain rfl : len = bs := by omega
    rw [chunks_le f lo len (Nat.le_refl _) (by omega), Nat.sub_self, chunks_le f _ 0 (by omega) (by omega)]
    simp [sR]
theorem stab_first (hc : CmpOk n0 c H K D) (n k f : Nat) (hD : ∀ x ∈ rng p 0 k, D x) (hl : 2 * k + 100 < lim) (hn : n0 + k + 25 <= n) (hf : k <= f) (hf0 : 0 < f) : ∀ (M len a : Nat) (P : List Int), a = P.length -> a + len = k -> len < M -> ∃ u v : Nat,
    loopx M (lStab_l0 n k c) [.sl 1 (iL (P ++ rng p a len)) false, .int .i64 (a : Int), .int .i64 ((a + 20 : Nat) : Int)] H = loopx n (lStab_l13 n k c) [.sl 1 (iL (P ++ chunks K p 20 f a len)) false, .int .i64 20, .int .i64 (u : Int), .int .i64 (v : Int)] H
  | 0, _, _, _, _, _, h => by omega
  | M + 1, len, a, P, ha, hk, hM => by
    rw [loopx_succ]
    by_cases h : 20 <= len
    · have h1 : ((a + 20 : Nat) : Int) <= (k : Int) := by omega
      have e1 : IntKind.i64.wrap (((a + 20 : Nat) : Int) + 20) = ((a + 20 + 20 : Nat) : Int) := wN (by omega) (by omega)
      have hr : rng p a len = rng p a 20 ++ rng p (a + 20) (len - 20) := by rw [<- rng_add]; congr 1; omega
      have hi := ins_call hc n a 20 P (rng p (a + 20) (len - 20)) ha (fun x hx => hD x (rng_sub (by omega) (by omega) hx)) (by rw [rng_len]; omega) (by omega) (by omega)
      obtain ⟨u, v, e⟩ := stab_first hc n k f hD hl hn hf hf0 M (len - 20) (a + 20) (P ++ sR K p a 20) (by rw [List.length_append, sR_len]; omega) (by omega) (by omega)
      refine ⟨u, v, ?_⟩
      simp only [lStab_l0, gv, List.getD_cons_succ, List.getD_cons_zero, bop_i64_leq, bd_some, bv_bool, h1, decide_true, if_true, lsl]
      rw [hr, hi, clm_ret]
      simp only [bop_i64_add, bd_some, e1]
      rw [chunks_ge (by omega) f a len h (by omega), <- List.append_assoc, <- List.append_assoc]
      exact e
    · have h1 : ¬ ((a + 20 : Nat) : Int) <= (k : Int) := by omega
      have hi := ins_call hc n a len P [] ha (fun x hx => hD x (rng_sub (by omega) (by omega) hx)) (by simp; omega) (by omega) (by omega)
      rw [List.append_nil, List.append_nil, hk] at hi
      refine ⟨a, a + 20, ?_⟩
      simp only [lStab_l0, gv, List.getD_cons_succ, List.getD_cons_zero, bop_i64_leq, bd_some, bv_bool, h1, decide_false, Bool.false_eq_true, if_false, lsl]
      rw [hi, clm_ret, chunks_le f a len (by omega) hf0]
theorem stab_round (hp : Mono p) (hc : CmpOk n0 c H K D) (n k f bs : Nat) (st14 : List V) (next16 : List V -> Heap -> Option (Res × Heap)) (hst : st14.getD 1 (.bool false) = .int .i64 (bs : Int)) (hb : 0 < bs) (hbk : bs < k) (hD : ∀ x ∈ rng p 0 k, D x) (hl : 4 * k + 100 < lim) (hn : n0 + 2 * k + 8 <= n) (hf : k <= f) : ∀ (M len a : Nat) (P : List Int), a = P.length -> a + len = k -> len < M -> ∃ u v : Nat,
    loopx M (lStab_l20 n k c st14 next16) [.sl 1 (iL (P ++ chunks K p bs f a len)) false, .int .i64 (a : Int), .int .i64 ((a + 2 * bs : Nat) : Int)] H = next16 [.sl 1 (iL (P ++ chunks K p (2 * bs) f a len)) false, .int .i64 ((2 * bs : Nat) : Int), .int .i64 (u : Int), .int .i64 (v : Int)] H
  | 0, _, _, _, _, _, h => by omega
  | M + 1, len, a, P, ha, hk, hM => by
    rw [loopx_succ]
    have e1 : IntKind.i64.wrap ((a : Int) + (bs : Int)) = ((a + bs : Nat) : Int) := wN (by omega) (by omega)
    have e2 : IntKind.i64.wrap (2 * (bs : Int)) = ((2 * bs : Nat) : Int) := wN (by omega) (by omega)
    have e3 : IntKind.i64.wrap ((bs : Int) * 2) = ((2 * bs : Nat) : Int) := wN (by omega) (by omega)
    by_cases h : 2 * bs <= len
    · have h1 : ((a + 2 * bs : Nat) : Int) <= (k : Int) := by omega
      have e4 : IntKind.i64.wrap (((a + 2 * bs : Nat) : Int) + ((2 * bs : Nat) : Int)) = ((a + 2 * bs + 2 * bs : Nat) : Int) := wN (by omega) (by omega)
      have hs := sym_sR hp hc n a bs bs P (chunks K p bs f (a + bs + bs) (len - bs - bs)) ha hb hb (by omega) (fun x hx => hD x (rng_sub (by omega) (by omega) hx)) (by omega)
      obtain ⟨u, v, e⟩ := stab_round hp hc n k f bs st14 next16 hst hb hbk hD hl hn hf M (len - 2 * bs) (a + 2 * bs) (P ++ sR K p a (2 * bs)) (by rw [List.length_append, sR_len]; omega) (by omega) (by omega)
      refine ⟨u, v, ?_⟩
      rw [chunks_ge hb f a len (by omega) (by omega), chunks_ge hb f (a + bs) (len - bs) (by omega) (by omega), chunks_ge (bs := 2 * bs) (by omega) f a len h (by omega)]
      simp only [lStab_l20, gv, List.getD_cons_succ, List.getD_cons_zero, hst, bop_i64_leq, bd_some, bv_bool, h1, decide_true, if_true, bop_i64_add, e1, lsl]
      rw [show ((a + bs + bs : Nat) : Int) = ((a + 2 * bs : Nat) : Int) by omega] at hs
      rw [hs, clm_ret]
      simp only [bop_i64_mul, bop_i64_add, bd_some, e2, e4]
      rw [show bs + bs = 2 * bs by omega, show a + bs + bs = a + 2 * bs by omega, show len - bs - bs = len - 2 * bs by omega, <- List.append_assoc, <- List.append_assoc]
      exact e
    · have h1 : ¬ ((a + 2 * bs : Nat) : Int) <= (k : Int) := by omega
      refine ⟨a, a + 2 * bs, ?_⟩
      simp only [lStab_l20, gv, List.getD_cons_succ, List.getD_cons_zero, hst, bop_i64_leq, bd_some, bv_bool, h1, decide_false, Bool.false_eq_true, if_false, bop_i64_add, e1, bop_i64_lss, lsl]
      by_cases h2 : bs < len
      · have h3 : ((a + bs : Nat) : Int) < (k : Int) := by omega
        have hs := sym_sR hp hc n a bs (len - bs) P [] ha hb (by omega) (by omega) (fun x hx => hD x (rng_sub (by omega) (by omega) hx)) (by omega)
        rw [List.append_nil, List.append_nil, show a + bs + (len - bs) = k by omega, show bs + (len - bs) = len by omega] at hs
        simp only [h3, decide_true, if_true]
        rw [chunks_ge hb f a len (by omega) (by omega), chunks_le f (a + bs) (len - bs) (by omega) (by omega), chunks_le (bs := 2 * bs) f a len (by omega) (by omega), hs, clm_ret]
        simp only [bop_i64_mul, bd_some, e3]
      · have h3 : ¬ ((a + bs : Nat) : Int) < (k : Int) := by omega
        simp only [h3, decide_false, Bool.false_eq_true, if_false, bop_i64_mul, bd_some, e3]
        rw [chunks_le f a len (by omega) (by omega), chunks_le (bs := 2 * bs) f a len (by omega) (by omega)]
theorem stab_all (hp : Mono p) (hc : CmpOk n0 c H K D) (n k f : Nat) (hD : ∀ x ∈ rng p 0 k, D x) (hl : 4 * k + 100 < lim) (hn : n0 + 2 * k + 8 <= n) (hf : k <= f) (hf0 : 0 < f) : ∀ (M bs u v : Nat), 0 < bs -> k < M + bs -> 0 < M →
    loopx M (lStab_l13 n k c) [.sl 1 (iL (chunks K p bs f 0 k)) false, .int .i64 (bs : Int), .int .i64 (u : Int), .int .i64 (v : Int)] H = some (.ret [.sl 1 (iL (sR K p 0 k)) false], H)
  | 0, _, _, _, _, _, h => by omega
  | M + 1, bs, u, v, hb, hM, _ => by
    rw [loopx_succ]
    by_cases h : bs < k
    · have h1 : (bs : Int) < (k : Int) := by omega
      have e2 : IntKind.i64.wrap (2 * (bs : Int)) = ((2 * bs : Nat) : Int) := wN (by omega) (by omega)
      obtain ⟨u', v', e⟩ := stab_round hp hc n k f bs [.sl 1 (iL (chunks K p bs f 0 k)) false, .int .i64 (bs : Int), .int .i64 (u : Int), .int .i64 (v : Int)] (loopx M (lStab_l13 n k c)) rfl hb h hD hl hn hf n k 0 [] rfl (by omega) (by omega)
      have ih := stab_all hp hc n k f hD hl hn hf hf0 M (2 * bs) u' v' (by omega) (by omega) (by omega)
      simp only [List.nil_append, Nat.zero_add] at e
      simp only [lStab_l13, gv, List.getD_cons_succ, List.getD_cons_zero, bop_i64_lss, bd_some, bv_bool, h1, decide_true, if_true, bop_i64_mul, e2, lsl]
      exact e.trans ih
    · have h1 : ¬ (bs : Int) < (k : Int) := by omega
      simp only [lStab_l13, gv, List.getD_cons_succ, List.getD_cons_zero, bop_i64_lss, bd_some, bv_bool, h1, decide_false, Bool.false_eq_true, if_false, lsl]
      rw [chunks_le f 0 k (by omega) hf0]
theorem sort_call (hp : Mono p) (hc : CmpOk n0 c H K D) (n k : Nat) (hD : ∀ x ∈ rng p 0 k, D x) (hl : 4 * k + 100 < lim) (hn : n0 + 2 * k + 40 <= n) :
    call n 107 [.sl 1 (iL (rng p 0 k)) false, c] H = some (.ret [.sl 1 (iL (sR K p 0 k)) false], H) := by
  obtain ⟨N, rfl⟩ : ∃ N, n = N + 2 := ⟨n - 2, by omega⟩
  obtain ⟨u, v, e⟩ := stab_first hc N k (k + 1) hD (by omega) (by omega) (by omega) (by omega) N k 0 [] rfl (by omega) (by omega)
  have e2 := stab_all hp hc N k (k + 1) hD hl (by omega) (by omega) (by omega) N 20 u v (by omega) (by omega) (by omega)
  rw [lSort_eq]
  unfold lSort
  rw [lStab_eq]
  unfold lStab
  simp only [List.nil_append] at e
  rw [show ((20 : Nat) : Int) = (20 : Int) from rfl] at e2
  have e3 : (((iL (rng p 0 k)).length : Nat) : Int) = (k : Int) := by rw [iL_len, rng_len]
  rw [e3]
  have e4 := e.trans e2
  rw [show (((0 : Nat) + 20 : Nat) : Int) = (20 : Int) from rfl, show (((0 : Nat)) : Int) = (0 : Int) from rfl] at e4
  rw [e4, clm_ret]
end
end Go.Proofs.Try
set_option linter.unusedVariables false
set_option linter.unusedSimpArgs false
namespace Go.Proofs.Try
open Go.L Go.Rp Go.Sk
set_option maxRecDepth 100000
def oAt (os : List O) (x : Int) : O := os.getD x.toNat ⟨0, 0⟩
theorem oAt_some {os : List O} {k : Nat} {x : O} (h : os[k]? = some x) : oAt os (k : Int) = x := by
  unfold oAt; rw [Int.toNat_natCast, List.getD_eq_getElem?_getD, h]; rfl
def keyV (os : List O) (x : Int) : Int := (oAt os x).v
theorem putKey_call (n : Nat) (o : O) (h : Heap) : call (n + 1) 99 [.agg (O.w o)] h = some (.ret [.int .i32 o.v], h) := by
  refine (putKey_eq n o.k o.v h).trans ?_
  exact gcw_ret (by simp) (by simp)
theorem ow_cut (x : O) : List.take 2 (List.drop 0 (O.w x)) = O.w x := rfl
theorem by_cmp (os : List O) (lb : Bool) (H : Heap) : CmpOk 4 (.fn 108 [.iptr 1 [.fn 99 []] 0, .iptr 1 [.sl 2 (os.map O.w) lb] 0]) H (keyV os) (fun x => 0 <= x /\ x < (os.length : Int)) where
  ex := by
    refine ⟨_, _, rfl, by kernel_rfl, by kernel_rfl, fun n hn x y hx hy => ?_⟩
    obtain ⟨m, rfl⟩ : ∃ m, n = (m + 3) + 1 := ⟨n - 4, by omega⟩
    obtain ⟨i, rfl⟩ : ∃ i : Nat, x = (i : Int) := ⟨x.toNat, (Int.toNat_of_nonneg hx.1).symm⟩
    obtain ⟨j, rfl⟩ : ∃ j : Nat, y = (j : Int) := ⟨y.toNat, (Int.toNat_of_nonneg hy.1).symm⟩
    obtain ⟨a, ha⟩ : ∃ a, os[i]? = some a := ⟨_, List.getElem?_eq_getElem (by omega)⟩
    obtain ⟨b, hb⟩ : ∃ b, os[j]? = some b := ⟨_, List.getElem?_eq_getElem (by omega)⟩
    have hav : (os.map O.w)[i]? = some (O.w a) := by rw [get_os, ha]; rfl
    have hbv : (os.map O.w)[j]? = some (O.w b) := by rw [get_os, hb]; rfl
    refine ⟨cmpV (keyV os (i : Int)) (keyV os (j : Int)), ?_, ?_⟩
    · refine (byCmp_eq (m + 3) (i : Int) (j : Int) (os.map O.w) lb H).trans ?_
      unfold byCmp
      have e1 : ∀ (u : O) (h : Heap), call (m + 3) 99 [.agg (O.w u)] h = some (.ret [.int .i32 u.v], h) := fun u h => putKey_call (m + 2) u h
      have e2 : ∀ (u v : Int) (h : Heap), call (m + 3) 109 [.int .i32 u, .int .i32 v] h = some (.ret [.int .i64 (cmpV u v)], h) := fun u v h => compare_call (m + 1) u v h
      have fi : nv (V.int .i64 (i : Int)) = some i := nv_nat _ _
      have fj : nv (V.int .i64 (j : Int)) = some j := nv_nat _ _
      rw [fi, bdS_some, idxP_sl hav, bd_some]
      first
        | rw [cellsP_iptr, bd3_some, if_pos (by decide), ow_cut, e1, clS_ret, one1_one, fj, bdS_some, idxP_sl hbv, bd_some, cellsP_iptr, bd3_some, if_pos (by decide), ow_cut, e1, clS_ret, one1_one, e2, clH_ret, one1_one]
          rw [show keyV os (i : Int) = a.v from by unfold keyV; rw [oAt_some ha], show keyV os (j : Int) = b.v from by unfold keyV; rw [oAt_some hb]]
        | (simp only [esP, ow_cut]
           rw [e1, clS_ret, one1_one, fj, bdS_some, idxP_sl hbv, bd_some]
           simp only [esP, ow_cut]
           rw [e1, clS_ret, one1_one, e2, clH_ret, one1_one]
           rw [show keyV os (i : Int) = a.v from by unfold keyV; rw [oAt_some ha], show keyV os (j : Int) = b.v from by unfold keyV; rw [oAt_some hb]])
    · unfold cmpV
      split
      · rename_i h; exact ⟨fun _ => h, fun _ => by omega⟩
      · rename_i h; split <;> exact ⟨fun e => by omega, fun e => absurd e h⟩
def putsTo (os : List O) : Nat -> List Int
  | 0 => []
  | k + 1 => if (oAt os (k : Int)).k = 1 then putsTo os k ++ [(k : Int)] else putsTo os k
def restTo (os : List O) : Nat -> List Int
  | 0 => []
  | k + 1 => if (oAt os (k : Int)).k = 1 then restTo os k else restTo os k ++ [(k : Int)]
theorem putsTo_mem (os : List O) : ∀ (n : Nat) (x : Int), x ∈ putsTo os n -> 0 <= x /\ x < (n : Int) /\ (oAt os x).k = 1
  | 0, x, h => by cases h
  | n + 1, x, h => by
    simp only [putsTo] at h
    split at h
    · rename_i hk
      rcases List.mem_append.1 h with h | h
      · have := putsTo_mem os n x h; omega
      · rw [List.mem_singleton] at h; subst h; exact ⟨by omega, by omega, hk⟩
    · have := putsTo_mem os n x h; omega
theorem restTo_mem (os : List O) : ∀ (n : Nat) (x : Int), x ∈ restTo os n -> 0 <= x /\ x < (n : Int) /\ (oAt os x).k ≠ 1
  | 0, x, h => by cases h
  | n + 1, x, h => by
    simp only [restTo] at h
    split at h
    · have := restTo_mem os n x h; omega
    · rename_i hk
      rcases List.mem_append.1 h with h | h
      · have := restTo_mem os n x h; omega
      · rw [List.mem_singleton] at h; subst h; exact ⟨by omega, by omega, hk⟩
theorem putsTo_up (os : List O) : ∀ n : Nat, (putsTo os n).Pairwise (· < ·)
  | 0 => .nil
  | n + 1 => by
    simp only [putsTo]
    split
    · refine List.pairwise_append.2 ⟨putsTo_up os n, List.pairwise_singleton .., fun a ha b hb => ?_⟩
      rw [List.mem_singleton] at hb; subst hb
      exact (putsTo_mem os n a ha).2.1
    · exact putsTo_up os n
theorem puts_len (os : List O) : ∀ n : Nat, (putsTo os n).length + (restTo os n).length = n
  | 0 => rfl
  | n + 1 => by
    have := puts_len os n
    simp only [putsTo, restTo]
    split
    · rw [List.length_append, List.length_cons, List.length_nil]; omega
    · rw [List.length_append, List.length_cons, List.length_nil]; omega
def puts (os : List O) : List Int := putsTo os os.length
def others (os : List O) : List Int := restTo os os.length
def sPuts (os : List O) : List Int := sR (keyV os) (atP (puts os) (os.length : Int)) 0 (puts os).length
theorem sPuts_perm (os : List O) : (sPuts os).Perm (puts os) := by
  have := sR_perm (K := keyV os) (p := atP (puts os) (os.length : Int)) 0 (puts os).length
  rwa [atP_rng] at this
theorem sPuts_len (os : List O) : (sPuts os).length = (puts os).length := (sPuts_perm os).length_eq
theorem sPuts_sd (os : List O) : Sd (keyV os) (sPuts os) := sR_sd (atP_mono (putsTo_up os _) fun x hx => (putsTo_mem os _ x hx).2.1) 0 _
theorem by_call (n : Nat) {h : Heap} {b : Nat} (os : List O) (lb : Bool) (hb : h[b]? = some (.row 3 1 (iL (puts os)) true)) (hl : 4 * os.length + 100 < lim) (hn : 2 * os.length + 50 <= n) :
    call (n + 1) 98 [.sl 2 (os.map O.w) lb, .row b 1 0 (puts os).length, .fn 99 []] h = some (.ret [.row b 1 0 (puts os).length], (h.set b .dead).set b (.row 3 1 (iL (sPuts os)) true)) := by
  have hlen := puts_len os os.length
  have hpl : (puts os).length <= os.length := by unfold puts; omega
  have hs := sort_call (p := atP (puts os) (os.length : Int)) (H := h.set b .dead) (atP_mono (putsTo_up os _) fun x hx => (putsTo_mem os _ x hx).2.1) (by_cmp os lb (h.set b .dead)) n (puts os).length (fun x hx => by
    rw [atP_rng] at hx
    have := putsTo_mem os _ x hx
    exact ⟨this.1, this.2.1⟩) (by omega) (by omega)
  rw [atP_rng] at hs
  refine (srtBy_eq n (os.map O.w) lb b (puts os).length h).trans ?_
  unfold srtBy
  rw [hb]
  simp only [rwT]
  rw [if_pos (by rw [iL_len]; refine ⟨⟨?_, ?_, ?_⟩, ?_, ?_⟩ <;> first | trivial | rfl), hs]
  simp only [clr]
  rw [if_pos (And.intro (by first | trivial | rfl) (by rw [iL_len, iL_len]; exact sPuts_len os))]
  rfl
theorem bsl_int (x : Int) : bslV prog 97 1 [(0, .int .i64 x)] = some (1, [[.int .i64 x]]) := by kernel_rfl
theorem app_int (l : List Int) (x : Int) (h : l.length + 1 < lim) : app 3 1 (S.own 3 1 (iL l)) [[.int .i64 x]] = some (iL (l ++ [x])) := by
  simp only [app]
  rw [if_pos (by refine ⟨?_, ?_, by simpa using h⟩ <;> first | trivial | rfl)]
  simp [iL, intV]
theorem ow_0 (x : O) : (setR [V.int .u8 0, V.int .i32 0] 0 (O.w x))[0]? = some (.int .u8 x.k) := rfl
theorem bop_u8_eql' (a b : Int) : bop prog .eql 5 (.int .u8 a) (.int .u8 b) = some (.bool (a == b)) := by kernel_rfl
def partH (h : Heap) (os : List O) : Heap := h ++ [.row 3 1 (iL (sPuts os)) true, .row 3 1 (iL (others os)) true]
theorem parted_loop (n : Nat) (h : Heap) (os : List O) (lb : Bool) (hl : 4 * os.length + 100 < lim) (hn : 2 * os.length + 50 <= n) : ∀ (d k M : Nat), k + d = os.length -> d < M →
    loopx M (parted_l0 (n + 1) (os.map O.w) lb) [.sl 1 (iL (putsTo os k)) false, .sl 1 (iL (restTo os k)) false, .int .i64 (k : Int)] h = some (.ret [.row h.length 1 0 (puts os).length, .row (h.length + 1) 1 0 (others os).length], partH h os) := by
  intro d
  induction d with
  | zero =>
    intro k M h1 h2
    obtain ⟨M, rfl⟩ : ∃ M', M = M' + 1 := ⟨M - 1, by omega⟩
    obtain rfl : k = os.length := by omega
    have hb := by_call n (h := h ++ [.row 3 1 (iL (puts os)) true]) (b := h.length) os lb List.getElem?_concat_length hl hn
    have hset : ((h ++ [HB.row 3 1 (iL (puts os)) true]).set h.length .dead).set h.length (.row 3 1 (iL (sPuts os)) true) = h ++ [.row 3 1 (iL (sPuts os)) true] := by
      rw [List.set_set, List.set_append_right _ _ (Nat.le_refl _), Nat.sub_self]; rfl
    rw [hset] at hb
    rw [loopx_succ]
    unfold parted_l0
    simp only [gv, List.getD_cons_zero, List.getD_cons_succ, List.length_map, bop_i64_lss, bd_some, bv_bool]
    rw [if_neg (by simp)]
    rw [show lsl (V.sl 1 (iL (putsTo os os.length)) false) = iL (puts os) from rfl, show lsl (V.sl 1 (iL (restTo os os.length)) false) = iL (others os) from rfl, iL_len, iL_len, hb, cl_ret, one1_one]
    simp [partH]
  | succ d ih =>
    intro k M h1 h2
    obtain ⟨M, rfl⟩ : ∃ M', M = M' + 1 := ⟨M - 1, by omega⟩
    obtain ⟨x, hx⟩ : ∃ x, os[k]? = some x := ⟨_, List.getElem?_eq_getElem (by omega)⟩
    have hxv : (os.map O.w)[k]? = some (O.w x) := by rw [get_os, hx]; rfl
    have hlt : decide ((k : Int) < (os.length : Int)) = true := by simp; omega
    have hpl := puts_len os k
    have hox := oAt_some hx
    have IH := ih (k + 1) M (by omega) (by omega)
    rw [loopx_succ]
    have key : ∀ next, parted_l0 (n + 1) (os.map O.w) lb [.sl 1 (iL (putsTo os k)) false, .sl 1 (iL (restTo os k)) false, .int .i64 (k : Int)] h next = next [.sl 1 (iL (putsTo os (k + 1))) false, .sl 1 (iL (restTo os (k + 1))) false, .int .i64 ((k + 1 : Nat) : Int)] h := by
      intro next
      unfold parted_l0
      simp only [gv, List.getD_cons_zero, List.getD_cons_succ, List.length_map, bop_i64_lss, bd_some, bv_bool, hlt, if_true, nv_nat, bdS_some, idxP_sl hxv, cellsP_iptr, bd3_some, Nat.zero_add, Nat.le_refl, Nat.reduceLT, and_self, ow_cut, show (O.w x).length = 2 from rfl, ow_0, bop_u8_eql', bsl_int, bop_i64_add, step64 (show k < lim by omega)]
      rw [show lsl (V.sl 1 (iL (putsTo os k)) false) = iL (putsTo os k) from rfl, show lsl (V.sl 1 (iL (restTo os k)) false) = iL (restTo os k) from rfl]
      by_cases hk : x.k = 1
      · rw [if_pos (by simp [hk]), app_int _ _ (by omega), bd_some]
        simp only [putsTo, restTo, hox, hk, if_true]
      · rw [if_neg (by simp [hk]), app_int _ _ (by omega), bd_some]
        simp only [putsTo, restTo, hox, hk, if_false]
    rw [key]
    exact IH
theorem parted_call (n : Nat) (h : Heap) (os : List O) (lb : Bool) (hl : 4 * os.length + 100 < lim) (hn : 2 * os.length + 50 <= n) :
    call (n + 2) 92 [.sl 2 (os.map O.w) lb] h = some (.ret [.row h.length 1 0 (puts os).length, .row (h.length + 1) 1 0 (others os).length], partH h os) := by
  refine (parted_eq (n + 1) (os.map O.w) lb h).trans ?_
  unfold parted
  exact parted_loop n h os lb hl hn os.length 0 (n + 1) (by omega) (by omega)
end Go.Proofs.Try
set_option linter.unusedVariables false
set_option linter.unusedSimpArgs false
namespace Go.Proofs.Try
open Go.L Go.Rp Go.Sk
set_option maxRecDepth 100000
abbrev St := List (Int × Nat) × List Bool
def stp (most : Int) (st : St) (o : O) : St × R :=
  if o.k = 1 then (if most <= (st.1.length : Int) then (st, ⟨3, 0⟩) else ((insI st.1 o.v (hgt 1 st.2).1, (hgt 1 st.2).2), ⟨1, 0⟩))
  else if o.k = 2 then (match st.1 with | [] => (st, ⟨4, 0⟩) | p :: r => ((r, st.2), ⟨2, p.1⟩))
  else (st, ⟨5, 0⟩)
def runO (os : List O) (most : Int) : List Int -> St -> List R -> St × List R
  | [], st, told => (st, told)
  | k :: r, st, told => runO os most r (stp most st (oAt os k)).1 (told.set k.toNat (stp most st (oAt os k)).2)
theorem runO_append (os : List O) (most : Int) : ∀ (l m : List Int) (st : St) (told : List R), runO os most (l ++ m) st told = runO os most m (runO os most l st told).1 (runO os most l st told).2
  | [], m, st, told => rfl
  | k :: l, m, st, told => runO_append os most l m _ _
theorem runO_len (os : List O) (most : Int) : ∀ (l : List Int) (st : St) (told : List R), (runO os most l st told).2.length = told.length
  | [], _, _ => rfl
  | k :: l, st, told => by
    show (runO os most l _ _).2.length = _
    rw [runO_len os most l, List.length_set]
structure Frm (h h' : Heap) (X : List Nat) : Prop where
  len : h.length <= h'.length
  old : ∀ i, i < h.length -> i ∉ X -> h'[i]? = h[i]?
theorem Frm.refl (h : Heap) (X : List Nat) : Frm h h X := ⟨Nat.le_refl _, fun _ _ _ => rfl⟩
theorem Frm.trans {h h1 h2 : Heap} {X Y : List Nat} (a : Frm h h1 X) (b : Frm h1 h2 Y) (hY : ∀ y ∈ Y, y ∈ X \/ h.length <= y) : Frm h h2 X :=
  ⟨Nat.le_trans a.len b.len, fun i h1' h2' => (b.old i (by have := a.len; omega) fun hm => by rcases hY i hm with h | h; exact h2' h; omega).trans (a.old i h1' h2')⟩
theorem Grew.frm {h h' : Heap} {s : Nat} {ts ts' : List Tw} {most : Int} (g : Grew h h' s ts ts' most) : Frm h h' (skB s ts) := ⟨g.len, g.old⟩
theorem Frm.push (h : Heap) (l : List HB) (X : List Nat) : Frm h (h ++ l) X := ⟨by simp, fun i hi _ => List.getElem?_append_left hi⟩
def RowR (h : Heap) (b : Nat) (l : List R) : Prop := ∃ z, h[b]? = some (.row 34 2 (l.map R.w) z)
theorem RowR.keep {h h' : Heap} {b : Nat} {l : List R} (r : RowR h b l) (hk : h'[b]? = h[b]?) : RowR h' b l := by obtain ⟨z, hz⟩ := r; exact ⟨z, hk.trans hz⟩
theorem RowR.code {h : Heap} {b : Nat} {l : List R} (r : RowR h b l) {i : Nat} {x : R} (hx : l[i]? = some x) (c : Int) :
    ∃ B, writeB h [.int .u8 c] (.rptr b 2 i 0) = some (b, B) /\ RowR (h.set b B) b (l.set i ⟨c, x.v⟩) := by
  obtain ⟨z, hz⟩ := r
  refine ⟨_, writeB_rptr hz (by decide) (by simp) (by rw [get_rs, hx]; rfl), z, ?_⟩
  rw [set_at (lt_of_at hz), List.map_set]
  rfl
theorem RowR.all {h : Heap} {b : Nat} {l : List R} (r : RowR h b l) {i : Nat} {x : R} (hx : l[i]? = some x) (c v : Int) :
    ∃ B, writeB h [.int .u8 c, .int .i32 v] (.rptr b 2 i 0) = some (b, B) /\ RowR (h.set b B) b (l.set i ⟨c, v⟩) := by
  obtain ⟨z, hz⟩ := r
  refine ⟨_, writeB_rptr hz (by decide) (by simp) (by rw [get_rs, hx]; rfl), z, ?_⟩
  rw [set_at (lt_of_at hz), List.map_set]
  rfl
theorem idx_told {b n i : Nat} (h : i < n) : idxP 2 i (.row b 2 0 n) = some (.rptr b 2 i 0) := by simpa using idxP_row (b := b) (sz := 2) (lo := 0) (hi := n) (show i < n - 0 by omega)
theorem bld_res (v : Int) : bldV prog 34 [(0, .int .u8 2), (1, .int .i32 v)] = some [.int .u8 2, .int .i32 v] := by kernel_rfl
theorem ow_get0 (x : O) : (O.w x)[0]? = some (.int .u8 x.k) := rfl
theorem ow_get1 (x : O) : (O.w x)[1]? = some (.int .i32 x.v) := rfl
theorem addP_iptr (k n : Nat) (cs : List V) (o : Nat) : addP k (.iptr n cs o) = some (.iptr n cs (o + k)) := rfl
theorem bop_u8_neq' (a b : Int) : bop prog .neq 5 (.int .u8 a) (.int .u8 b) = some (.bool (a != b)) := by kernel_rfl
theorem rest_loop (n : Nat) {s : Nat} {most : Int} (os : List O) (lb : Bool) (L : List Int) (hL : ∀ x ∈ L, 0 <= x /\ x < (os.length : Int) /\ (oAt os x).k ≠ 1) (hnd : L.Nodup) (tb pb : Nat) (hlim : L.length < lim) (hn : 8 < n) (bits : List Bool) : ∀ (d i M : Nat) (h : Heap) (ts : List Tw) (told : List R) (v0 : V), i + d = L.length -> d < M →
    (∃ N, SkAt h s ts most N) -> ts.length < lim -> RowR h tb told -> RowI h pb .i64 3 L -> told.length = os.length -> tb ∉ skB s ts -> pb ∉ skB s ts -> pb ≠ tb -> (∀ x ∈ L.drop i, told[x.toNat]? = some ⟨0, 0⟩) →
    ∃ h' ts' told', loopx M (srtRest_l1 (n + 2) s (os.map O.w) lb (.row pb 1 0 L.length) (.row tb 2 0 os.length) (1, iL L)) [v0, .int .i64 (i : Int)] h = some (.ret [.row tb 2 0 os.length], h') ∧
      (∃ N, SkAt h' s ts' most N) /\ (∀ b ∈ skB s ts', b ∈ skB s ts) /\ Frm h h' (tb :: skB s ts) /\ h'.length = h.length /\ RowR h' tb told' /\ runO os most (L.drop i) (itT ts, bits) told = ((itT ts', bits), told') := by
  intro d
  induction d with
  | zero =>
    intro i M h ts told v0 h1 h2 S hts rt rp hlt nt np hpt h0
    obtain ⟨M, rfl⟩ : ∃ M', M = M' + 1 := ⟨M - 1, by omega⟩
    obtain rfl : i = L.length := by omega
    refine ⟨h, ts, told, ?_, S, fun b hb => hb, .refl _ _, rfl, rt, by rw [List.drop_length]; rfl⟩
    rw [loopx_succ]
    unfold srtRest_l1
    simp only [gv, List.getD_cons_zero, List.getD_cons_succ, iL_len, bop_i64_lss, bd_some, bv_bool]
    rw [if_neg (by simp)]
  | succ d ih =>
    intro i M h ts told v0 h1 h2 S hts rt rp hlt nt np hpt h0
    obtain ⟨M, rfl⟩ : ∃ M', M = M' + 1 := ⟨M - 1, by omega⟩
    obtain ⟨x, hx⟩ : ∃ x, L[i]? = some x := ⟨_, List.getElem?_eq_getElem (by omega)⟩
    have hdr : L.drop i = x :: L.drop (i + 1) := by
      rw [List.drop_eq_getElem_cons (by omega)]
      rw [List.getElem?_eq_getElem (by omega)] at hx
      rw [Option.some.inj hx]
    obtain ⟨x0, x1, xk⟩ := hL x (List.mem_of_getElem? hx)
    obtain ⟨k, rfl⟩ : ∃ k : Nat, x = (k : Int) := ⟨x.toNat, (Int.toNat_of_nonneg x0).symm⟩
    have hk : k < os.length := by omega
    obtain ⟨o, ho⟩ : ∃ o, os[k]? = some o := ⟨_, List.getElem?_eq_getElem hk⟩
    have hov : (os.map O.w)[k]? = some (O.w o) := by rw [get_os, ho]; rfl
    have hoo := oAt_some ho
    have ht0 : told[k]? = some ⟨0, 0⟩ := by
      have := h0 (k : Int) (by rw [hdr]; exact List.mem_cons_self ..)
      simpa using this
    obtain ⟨B1, w1, r1⟩ := rt.code ht0 5
    have hl1 : decide ((i : Int) < (L.length : Int)) = true := by simp; omega
    obtain ⟨g1, g2⟩ := rp.get hx
    have htk : k < told.length := by omega
    have hkeep1 : ∀ b, b ≠ tb -> (h.set tb B1)[b]? = h[b]? := fun b hb => List.getElem?_set_ne (Ne.symm hb)
    have hrest : ∀ (told2 : List R) (r : R), told2 = told.set k r -> ∀ y ∈ L.drop (i + 1), told2[y.toNat]? = some ⟨0, 0⟩ := fun told2 r e y hy => by
      rw [e, List.getElem?_set_ne]
      · exact h0 y (by rw [hdr]; exact List.mem_cons_of_mem _ hy)
      · intro e2
        have hy0 := hL y (List.mem_of_mem_drop hy)
        have hyk : y = (k : Int) := by omega
        have hnd2 : (L.drop i).Nodup := hnd.sublist (List.drop_sublist _ _)
        rw [hdr] at hnd2
        exact (List.nodup_cons.1 hnd2).1 (hyk ▸ hy)
    rw [hoo] at xk
    have hw1 : writeB h [.int .u8 5] (.rptr tb 2 k 0) = some (tb, B1) := w1
    have S1 : ∃ N, SkAt (h.set tb B1) s ts most N := by obtain ⟨N, S⟩ := S; exact ⟨N, S.keep fun b hb => hkeep1 b fun e => nt (e ▸ hb)⟩
    have fk : nv (V.int .i64 (k : Int)) = some k := nv_nat _ _
    have rp1 : RowI (h.set tb B1) pb .i64 3 L := rp.keep (hkeep1 pb hpt)
    have base : ∀ next, srtRest_l1 (n + 2) s (os.map O.w) lb (.row pb 1 0 L.length) (.row tb 2 0 os.length) (1, iL L) [v0, .int .i64 (i : Int)] h next =
        (if (o.k != 2) = true then next [.sl 2 (lsl v0) false, .int .i64 ((i + 1 : Nat) : Int)] (h.set tb B1) else
          (bd2 (writeB (h.set tb B1) [.int .u8 4] (.rptr tb 2 k 0)) fun b31 x32 =>
          (cl (call (n + 2) 106 [.ptr s 0] (((h.set tb B1)).set b31 x32)) (fun r33 h34 =>
          (bd (r33)[0]? fun v36 =>
          (bd (r33)[1]? fun v37 =>
          (bv v37 fun b38 => if b38 then
          (bd (bldV prog 34 [(0, (V.int .u8 2)), (1, v36)]) fun cs39 =>
          (if (cs39).length = 2 then
          (bd2 (writeB h34 cs39 (.rptr tb 2 k 0)) fun b42 x43 =>
          (next [(V.sl 2 (lsl v0) false), .int .i64 ((i + 1 : Nat) : Int)] ((h34).set b42 x43))) else none))
          else
          (next [(V.sl 2 (lsl v0) false), .int .i64 ((i + 1 : Nat) : Int)] h34))))) (fun z35 h34 => some (Res.pan z35, h34))))) := by
      intro next
      unfold srtRest_l1
      simp only [gv, List.getD_cons_zero, List.getD_cons_succ, iL_len, bop_i64_lss, bd_some, bv_bool, hl1, if_true, nv_nat, bdS_some, g1, g2, bd3_some, Nat.zero_add, Nat.le_refl, Nat.reduceLT, and_self, List.getElem?_cons_zero, idx_told hk, addP_rptr, Nat.add_zero, hw1, bd2_some, idxP_sl hov, addP_iptr, cellsP_iptr, Nat.reduceAdd, Nat.reduceLeDiff, ow_get0, bop_u8_neq', bop_i64_add, step64 (show i < lim by omega)]
    obtain ⟨N, hS⟩ := S
    rw [loopx_succ, base]
    have hst5 : stp most (itT ts, bits) o = if o.k = 2 then (match itT ts with | [] => ((itT ts, bits), ⟨4, 0⟩) | p :: r => ((r, bits), ⟨2, p.1⟩)) else ((itT ts, bits), ⟨5, 0⟩) := by
      unfold stp; rw [if_neg xk]
    have hrun : runO os most (L.drop i) (itT ts, bits) told = runO os most (L.drop (i + 1)) (stp most (itT ts, bits) o).1 (told.set k (stp most (itT ts, bits) o).2) := by
      rw [hdr]; show runO os most _ (stp most (itT ts, bits) (oAt os (k : Int))).1 (told.set (k : Int).toNat (stp most (itT ts, bits) (oAt os (k : Int))).2) = _
      rw [hoo, Int.toNat_natCast]
    by_cases hk2 : o.k = 2
    · rw [if_neg (by simp [hk2])]
      have ht5 : (told.set k ⟨5, 0⟩)[k]? = some ⟨5, 0⟩ := List.getElem?_set_self htk
      obtain ⟨B2, w2, r2⟩ := r1.code ht5 4
      have e2 : (told.set k ⟨5, 0⟩).set k ⟨4, 0⟩ = told.set k ⟨4, 0⟩ := List.set_set ..
      replace r2 : RowR ((h.set tb B1).set tb B2) tb (told.set k ⟨4, 0⟩) := by rw [<- e2]; exact r2
      rw [w2, bd2_some]
      have hkeep2 : ∀ b, b ≠ tb -> ((h.set tb B1).set tb B2)[b]? = h[b]? := fun b hb => by rw [List.getElem?_set_ne (Ne.symm hb)]; exact hkeep1 b hb
      have S2 : SkAt ((h.set tb B1).set tb B2) s ts most N := hS.keep fun b hb => hkeep2 b fun e => nt (e ▸ hb)
      cases ts with
      | nil =>
        rw [min_none n S2, cl_ret]
        simp only [List.getElem?_cons_zero, List.getElem?_cons_succ, bd_some, bv_bool]
        rw [if_neg (by decide)]
        obtain ⟨h', ts', told', e, b1, b2, b3, b4, b5, b6⟩ := ih (i + 1) M ((h.set tb B1).set tb B2) [] (told.set k ⟨4, 0⟩) (.sl 2 (lsl v0) false) (by omega) (by omega) ⟨N, S2⟩ hts r2 (rp.keep (hkeep2 pb hpt)) (by rw [List.length_set]; exact hlt) nt np hpt (hrest _ ⟨4, 0⟩ rfl)
        refine ⟨h', ts', told', e, b1, b2, ?_, by rw [b4, List.length_set, List.length_set], b5, ?_⟩
        · exact Frm.trans ⟨by simp, fun j _ hj => hkeep2 j fun e => hj (e ▸ List.mem_cons_self ..)⟩ b3 fun y hy => .inl hy
        · rw [hrun, hst5, if_pos hk2]
          exact b6
      | cons t ts =>
        obtain ⟨h3, e3, T⟩ := min_call n S2 hn (by simp at hts; omega)
        rw [e3, cl_ret]
        simp only [List.getElem?_cons_zero, List.getElem?_cons_succ, bd_some, bv_bool]
        rw [if_pos (by first | trivial | rfl), bld_res, bd_some, if_pos (by first | trivial | rfl)]
        have hts3 : tb ≠ s := fun e => nt (e ▸ List.mem_cons_self ..)
        have hps3 : pb ≠ s := fun e => np (e ▸ List.mem_cons_self ..)
        have r3 : RowR h3 tb (told.set k ⟨4, 0⟩) := r2.keep (T.old tb hts3)
        obtain ⟨B3, w3, r4⟩ := r3.all (show (told.set k ⟨4, 0⟩)[k]? = some ⟨4, 0⟩ from List.getElem?_set_self htk) 2 t.v
        have e4 : (told.set k ⟨4, 0⟩).set k ⟨2, t.v⟩ = told.set k ⟨2, t.v⟩ := List.set_set ..
        replace r4 : RowR (h3.set tb B3) tb (told.set k ⟨2, t.v⟩) := by rw [<- e4]; exact r4
        rw [w3, bd2_some]
        have hkeep4 : ∀ b, b ≠ tb -> (h3.set tb B3)[b]? = h3[b]? := fun b hb => List.getElem?_set_ne (Ne.symm hb)
        have nt' : tb ∉ skB s ts := fun hm => nt (by
          rcases List.mem_cons.1 hm with e | hm
          · exact e ▸ List.mem_cons_self ..
          · exact List.mem_cons_of_mem _ (List.mem_cons_of_mem _ hm))
        have hsub : ∀ b ∈ skB s ts, b ∈ skB s (t :: ts) := fun b hb => by
          rcases List.mem_cons.1 hb with e | hm
          · exact e ▸ List.mem_cons_self ..
          · exact List.mem_cons_of_mem _ (List.mem_cons_of_mem _ hm)
        have S4 : ∃ N, SkAt (h3.set tb B3) s ts most N := by obtain ⟨N', S'⟩ := T.sk; exact ⟨N', S'.keep fun b hb => hkeep4 b fun e => nt' (e ▸ hb)⟩
        obtain ⟨h', ts', told', e, b1, b2, b3, b4, b5, b6⟩ := ih (i + 1) M (h3.set tb B3) ts (told.set k ⟨2, t.v⟩) (.sl 2 (lsl v0) false) (by omega) (by omega) S4 (by simp at hts; omega) r4 (rp.keep (by rw [hkeep4 pb hpt, T.old pb hps3, hkeep2 pb hpt])) (by rw [List.length_set]; exact hlt) nt' (fun hm => np (hsub pb hm)) hpt (hrest _ ⟨2, t.v⟩ rfl)
        refine ⟨h', ts', told', e, b1, fun b hb => hsub b (b2 b hb), ?_, by rw [b4, List.length_set, T.len, List.length_set, List.length_set], b5, ?_⟩
        · refine Frm.trans (h1 := h3.set tb B3) ⟨by rw [List.length_set, T.len, List.length_set, List.length_set]; exact Nat.le_refl _, fun j _ hj => ?_⟩ b3 fun y hy => .inl ?_
          · have hj1 : j ≠ tb := fun e => hj (e ▸ List.mem_cons_self ..)
            have hj2 : j ≠ s := fun e => hj (e ▸ List.mem_cons_of_mem _ (List.mem_cons_self ..))
            rw [hkeep4 j hj1, T.old j hj2, hkeep2 j hj1]
          · rcases List.mem_cons.1 hy with e | hy
            · exact e ▸ List.mem_cons_self ..
            · exact List.mem_cons_of_mem _ (hsub y hy)
        · rw [hrun, hst5, if_pos hk2]
          exact b6
    · rw [if_pos (by simp [hk2])]
      obtain ⟨h', ts', told', e, b1, b2, b3, b4, b5, b6⟩ := ih (i + 1) M (h.set tb B1) ts (told.set k ⟨5, 0⟩) (.sl 2 (lsl v0) false) (by omega) (by omega) S1 hts r1 rp1 (by rw [List.length_set]; exact hlt) nt np hpt (hrest _ ⟨5, 0⟩ rfl)
      refine ⟨h', ts', told', e, b1, b2, ?_, by rw [b4, List.length_set], b5, ?_⟩
      · exact Frm.trans ⟨by simp, fun j _ hj => hkeep1 j fun e => hj (e ▸ List.mem_cons_self ..)⟩ b3 fun y hy => .inl hy
      · rw [hrun, hst5, if_neg hk2]
        exact b6
theorem rest_call (n : Nat) {h : Heap} {s : Nat} {ts : List Tw} {most : Int} (os : List O) (lb : Bool) (told : List R) (tb pb : Nat) (bits : List Bool) (S : ∃ N, SkAt h s ts most N) (hts : ts.length < lim) (rt : RowR h tb told) (rp : RowI h pb .i64 3 (others os)) (hlt : told.length = os.length) (nt : tb ∉ skB s ts) (np : pb ∉ skB s ts) (hpt : pb ≠ tb) (h0 : ∀ x ∈ others os, told[x.toNat]? = some ⟨0, 0⟩) (hlim : os.length < lim) (hn : os.length + 8 < n) :
    ∃ h' ts' told', call (n + 3) 96 [.ptr s 0, .sl 2 (os.map O.w) lb, .row pb 1 0 (others os).length, .row tb 2 0 os.length] h = some (.ret [.row tb 2 0 os.length], h') ∧
      (∃ N, SkAt h' s ts' most N) /\ (∀ b ∈ skB s ts', b ∈ skB s ts) /\ Frm h h' (tb :: skB s ts) /\ h'.length = h.length /\ RowR h' tb told' /\ runO os most (others os) (itT ts, bits) told = ((itT ts', bits), told') := by
  have hl := puts_len os os.length
  have hol : (others os).length <= os.length := by unfold others; omega
  have hnd : (others os).Nodup := by
    have : ∀ n : Nat, (restTo os n).Pairwise (· < ·) := fun n => by
      induction n with
      | zero => exact .nil
      | succ n ih =>
        simp only [restTo]
        split
        · exact ih
        · refine List.pairwise_append.2 ⟨ih, List.pairwise_singleton .., fun a ha b hb => ?_⟩
          rw [List.mem_singleton] at hb; subst hb
          exact (restTo_mem os n a ha).2.1
    exact (this os.length).imp fun h => by omega
  obtain ⟨h', ts', told', e, r⟩ := rest_loop n os lb (others os) (restTo_mem os os.length) hnd tb pb (by omega) (by omega) bits (others os).length 0 (n + 2) h ts told (.sl 2 [] false) (by omega) (by omega) S hts rt rp hlt nt np hpt (by rw [List.drop_zero]; exact h0)
  refine ⟨h', ts', told', ?_, by rw [List.drop_zero] at r; exact r⟩
  refine (srtRest_eq (n + 2) s (os.map O.w) lb _ _ h).trans ?_
  unfold srtRest
  rw [rp.slc, bd_some]
  exact e
end Go.Proofs.Try
set_option linter.unusedVariables false
set_option linter.unusedSimpArgs false
namespace Go.Proofs.Try
open Go.L Go.Rp Go.Sk
set_option maxRecDepth 100000
structure Env (h : Heap) (s : Nat) (ts : List Tw) (most : Int) (c : Nat) (cb : Option Nat) (bits : List Bool) (p1 : Nat) (P : List Int) (p2 : Nat) (Q : List Int) : Prop where
  sk : ∃ N, SkAt h s ts most N
  bt : BitsAt h c cb bits
  r1 : RowI h p1 .i64 3 P
  r2 : RowI h p2 .i64 3 Q
  nc : c ∉ skB s ts
  ncb : ∀ b, cb = some b -> b ∉ skB s ts
  n1 : p1 ∉ skB s ts /\ p1 ≠ c
  n2 : p2 ∉ skB s ts /\ p2 ≠ c
theorem BitsAt.lt {h : Heap} {c : Nat} {cb : Option Nat} {bits : List Bool} (hb : BitsAt h c cb bits) : c < h.length /\ ∀ b, cb = some b -> b < h.length := by
  cases cb with
  | none => exact ⟨lt_of_at hb.2, fun b e => by cases e⟩
  | some b =>
    obtain ⟨_, lo, l, z, h2, h3, _⟩ := hb
    exact ⟨lt_of_at h2, fun b' e => by cases e; exact lt_of_at h3⟩
theorem Env.coin {h h' : Heap} {s : Nat} {ts : List Tw} {most : Int} {c : Nat} {cb : Option Nat} {bits bits' : List Bool} {p1 p2 : Nat} {P Q : List Int} (E : Env h s ts most c cb bits p1 P p2 Q) (hb : BitsAt h' c cb bits') (hk : ∀ i, i ≠ c -> h'[i]? = h[i]?) : Env h' s ts most c cb bits' p1 P p2 Q :=
  ⟨by obtain ⟨N, S⟩ := E.sk; exact ⟨N, S.keep fun b hb => hk b fun e => E.nc (e ▸ hb)⟩, hb, E.r1.keep (hk _ E.n1.2), E.r2.keep (hk _ E.n2.2), E.nc, E.ncb, E.n1, E.n2⟩
theorem RowI.lt {h : Heap} {b : Nat} {k : IntKind} {e : Nat} {l : List Int} (r : RowI h b k e l) : b < h.length := by obtain ⟨z, hz⟩ := r; exact lt_of_at hz
theorem Env.grew {h h' : Heap} {s : Nat} {ts ts' : List Tw} {most : Int} {c : Nat} {cb : Option Nat} {bits : List Bool} {p1 p2 : Nat} {P Q : List Int} (E : Env h s ts most c cb bits p1 P p2 Q) (G : Grew h h' s ts ts' most) : Env h' s ts' most c cb bits p1 P p2 Q := by
  have l := E.bt.lt
  have hn : ∀ b, b < h.length -> b ∉ skB s ts -> b ∉ skB s ts' := fun b h1 h2 hm => by rcases G.new b hm with h | h; exact h2 h; omega
  exact ⟨G.sk, E.bt.keep (G.old c l.1 E.nc) fun b hb => G.old b (l.2 b hb) (E.ncb b hb), E.r1.keep (G.old _ E.r1.lt E.n1.1), E.r2.keep (G.old _ E.r2.lt E.n2.1), hn c l.1 E.nc, fun b hb => hn b (l.2 b hb) (E.ncb b hb), ⟨hn _ E.r1.lt E.n1.1, E.n1.2⟩, ⟨hn _ E.r2.lt E.n2.1, E.n2.2⟩⟩
theorem Env.push {h : Heap} {s : Nat} {ts : List Tw} {most : Int} {c : Nat} {cb : Option Nat} {bits : List Bool} {p1 p2 : Nat} {P Q : List Int} (E : Env h s ts most c cb bits p1 P p2 Q) (l : List HB) : Env (h ++ l) s ts most c cb bits p1 P p2 Q := by
  have hk : ∀ b, b < h.length -> (h ++ l)[b]? = h[b]? := fun b hb => List.getElem?_append_left hb
  have lt := E.bt.lt
  obtain ⟨N, S⟩ := E.sk
  exact ⟨⟨N, S.keep fun b hb => hk b (S.lt b hb)⟩, E.bt.keep (hk c lt.1) fun b hb => hk b (lt.2 b hb), E.r1.keep (hk _ E.r1.lt), E.r2.keep (hk _ E.r2.lt), E.nc, E.ncb, E.n1, E.n2⟩
structure Did (h h' : Heap) (s : Nat) (ts ts' : List Tw) (most : Int) (c : Nat) (cb : Option Nat) (bits' : List Bool) (tb : Nat) (told : List R) : Prop where
  sk : ∃ N, SkAt h' s ts' most N
  bt : BitsAt h' c cb bits'
  tl : RowR h' tb told
  tb : h.length <= tb
  frm : Frm h h' (c :: skB s ts)
  new : ∀ b ∈ skB s ts', b ∈ skB s ts \/ h.length <= b
  room : (ts'.length : Int) <= most
theorem hOf_hgt (bits : List Bool) : hOf ((hgt 1 bits).1 : Int) = (hgt 1 bits).1 := by
  have := hgt_pos bits 1 (Nat.le_refl _) (by omega)
  unfold hOf
  omega
theorem insI_len (l : List (Int × Nat)) (v : Int) (T : Nat) : (insI l v T).length = l.length + 1 := by
  unfold insI
  rw [List.length_append, List.length_cons]
  have := congrArg List.length (List.takeWhile_append_dropWhile (p := fun p : Int × Nat => decide (p.1 <= v)) (l := l))
  rw [List.length_append] at this
  omega
theorem itT_len (ts : List Tw) : (itT ts).length = ts.length := by simp [itT]
theorem stp_room {most : Int} {st : St} {o : O} (h : (st.1.length : Int) <= most) : ((stp most st o).1.1.length : Int) <= most := by
  unfold stp
  split
  · split
    · exact h
    · simp only [insI_len]; omega
  · split
    · split
      · exact h
      · rename_i p r e; rw [e] at h; simp at h; simp only; omega
    · exact h
theorem runO_room {os : List O} {most : Int} : ∀ (l : List Int) {st : St} {told : List R}, (st.1.length : Int) <= most -> ((runO os most l st told).1.1.length : Int) <= most
  | [], st, told, h => h
  | k :: l, st, told, h => runO_room l (stp_room h)
theorem app_r0 (l : List R) : lsl (V.sl 2 (l.map R.w) false) = l.map R.w := rfl
theorem rw_set (x : R) (c : Int) : setR (R.w x) 0 [.int .u8 c] = R.w ⟨c, x.v⟩ := rfl
theorem plain_loop (n : Nat) {s c : Nat} {cb : Option Nat} {most : Int} (os : List O) (lb : Bool) (P : List Int) (hP : ∀ x ∈ P, 0 <= x /\ x < (os.length : Int) /\ (oAt os x).k = 1) (hnd : P.Nodup) (p1 p2 : Nat) (Q0 : List Int) (v6 : V) (hlim : P.length < lim) : ∀ (d i M : Nat) (h : Heap) (ts : List Tw) (bits : List Bool) (told : List R) (v0 v2 : V), i + d = P.length -> d < M →
    Env h s ts most c cb bits p1 P p2 Q0 -> ts.length + d < lim -> ts.length + d + 10 < n -> told.length = os.length -> (∀ x ∈ P.drop i, told[x.toNat]? = some ⟨0, 0⟩) →
    ∃ h' ts' bits' told' v0' v2' M', loopx M (srtPlain_l8 (n + 3) s c (os.map O.w) lb (.row p1 1 0 P.length) v6 (1, iL P)) [v0, .sl 2 (told.map R.w) false, v2, .int .i64 (i : Int)] h = srtPlain_l8 (n + 3) s c (os.map O.w) lb (.row p1 1 0 P.length) v6 (1, iL P) [v0', .sl 2 (told'.map R.w) false, v2', .int .i64 (P.length : Int)] h' (loopx M' (srtPlain_l8 (n + 3) s c (os.map O.w) lb (.row p1 1 0 P.length) v6 (1, iL P))) ∧
      Env h' s ts' most c cb bits' p1 P p2 Q0 /\ Frm h h' (c :: skB s ts) /\ (∀ b ∈ skB s ts', b ∈ skB s ts \/ h.length <= b) /\ told'.length = os.length /\ ts'.length <= ts.length + d /\ runO os most (P.drop i) (itT ts, bits) told = ((itT ts', bits'), told') /\ (∀ y : Nat, (∀ x ∈ P.drop i, x ≠ (y : Int)) -> told'[y]? = told[y]?) := by
  intro d
  induction d with
  | zero =>
    intro i M h ts bits told v0 v2 h1 h2 E hts hn hlt h0
    obtain ⟨M, rfl⟩ : ∃ M', M = M' + 1 := ⟨M - 1, by omega⟩
    obtain rfl : i = P.length := by omega
    exact ⟨h, ts, bits, told, v0, v2, M, loopx_succ .., E, .refl _ _, fun b hb => .inl hb, hlt, Nat.le_refl _, by rw [List.drop_length]; rfl, fun _ _ => rfl⟩
  | succ d ih =>
    intro i M h ts bits told v0 v2 h1 h2 E hts hn hlt h0
    obtain ⟨M, rfl⟩ : ∃ M', M = M' + 1 := ⟨M - 1, by omega⟩
    obtain ⟨x, hx⟩ : ∃ x, P[i]? = some x := ⟨_, List.getElem?_eq_getElem (by omega)⟩
    have hdr : P.drop i = x :: P.drop (i + 1) := by
      rw [List.drop_eq_getElem_cons (by omega)]
      rw [List.getElem?_eq_getElem (by omega)] at hx
      rw [Option.some.inj hx]
    obtain ⟨x0, x1, xk⟩ := hP x (List.mem_of_getElem? hx)
    obtain ⟨k, rfl⟩ : ∃ k : Nat, x = (k : Int) := ⟨x.toNat, (Int.toNat_of_nonneg x0).symm⟩
    have hk : k < os.length := by omega
    obtain ⟨o, ho⟩ : ∃ o, os[k]? = some o := ⟨_, List.getElem?_eq_getElem hk⟩
    have hov : (os.map O.w)[k]? = some (O.w o) := by rw [get_os, ho]; rfl
    have hoo := oAt_some ho
    rw [hoo] at xk
    have ht0 : told[k]? = some ⟨0, 0⟩ := by
      have := h0 (k : Int) (by rw [hdr]; exact List.mem_cons_self ..)
      simpa using this
    have htk : k < told.length := by omega
    have htv : (told.map R.w)[k]? = some (R.w ⟨0, 0⟩) := by rw [get_rs, ht0]; rfl
    have hl1 : decide ((i : Int) < (P.length : Int)) = true := by simp; omega
    obtain ⟨g1, g2⟩ := E.r1.get hx
    have hnd2 : (P.drop i).Nodup := hnd.sublist (List.drop_sublist _ _)
    rw [hdr] at hnd2
    have hrest : ∀ (told2 : List R) (r : R), told2 = told.set k r -> ∀ y ∈ P.drop (i + 1), told2[y.toNat]? = some ⟨0, 0⟩ := fun told2 r e y hy => by
      rw [e, List.getElem?_set_ne]
      · exact h0 y (by rw [hdr]; exact List.mem_cons_of_mem _ hy)
      · intro e2
        have hy0 := hP y (List.mem_of_mem_drop hy)
        have hyk : y = (k : Int) := by omega
        exact (List.nodup_cons.1 hnd2).1 (hyk ▸ hy)
    have hrun : runO os most (P.drop i) (itT ts, bits) told = runO os most (P.drop (i + 1)) (stp most (itT ts, bits) o).1 (told.set k (stp most (itT ts, bits) o).2) := by
      rw [hdr]; show runO os most _ (stp most (itT ts, bits) (oAt os (k : Int))).1 (told.set (k : Int).toNat (stp most (itT ts, bits) (oAt os (k : Int))).2) = _
      rw [hoo, Int.toNat_natCast]
    have hoth : ∀ (r : R) (told' : List R), (∀ y : Nat, (∀ x ∈ P.drop (i + 1), x ≠ (y : Int)) -> told'[y]? = (told.set k r)[y]?) -> ∀ y : Nat, (∀ x ∈ P.drop i, x ≠ (y : Int)) -> told'[y]? = told[y]? := fun r told' hh y hy => by
      rw [hdr] at hy
      rw [hh y fun x hx => hy x (List.mem_cons_of_mem _ hx), List.getElem?_set_ne]
      intro e
      exact hy (k : Int) (List.mem_cons_self ..) (by omega)
    obtain ⟨N, hS⟩ := E.sk
    have hlenC := len_call (n + 2) hS
    have hmostC := most_call (n + 2) hS
    have hset3 : (told.map R.w).set k (setR (R.w ⟨0, 0⟩) 0 [.int .u8 3]) = (told.set k ⟨3, 0⟩).map R.w := by rw [rw_set, List.map_set]
    have c1 : (2 = 2 /\ k < (told.map R.w).length /\ (some 28 : Option Nat) ≠ some 7) := ⟨rfl, by rw [List.length_map]; exact htk, by decide⟩
    by_cases hfull : (ts.length : Int) < most
    ·
      obtain ⟨h2', e2, B2, l2, f2⟩ := height_call n E.bt (by omega)
      have E2 := E.coin B2 f2
      obtain ⟨N2, hS2⟩ := E2.sk
      obtain ⟨h3, ts3, e3, P3⟩ := insert_call n hS2 o.v ((hgt 1 bits).1 : Int) (by omega) (by omega) hfull
      have E3 := E2.grew P3.grew
      have hset1 : ((told.set k ⟨3, 0⟩).map R.w).set k (setR (R.w ⟨3, 0⟩) 0 [.int .u8 1]) = (told.set k ⟨1, 0⟩).map R.w := by rw [rw_set, <- List.map_set, List.set_set]
      have htv3 : ((told.set k ⟨3, 0⟩).map R.w)[k]? = some (R.w ⟨3, 0⟩) := by rw [get_rs, List.getElem?_set_self htk]; rfl
      have key : ∀ next, srtPlain_l8 (n + 3) s c (os.map O.w) lb (.row p1 1 0 P.length) v6 (1, iL P) [v0, .sl 2 (told.map R.w) false, v2, .int .i64 (i : Int)] h next = next [.sl 2 (lsl v0) false, .sl 2 ((told.set k ⟨1, 0⟩).map R.w) false, .bool false, .int .i64 ((i + 1 : Nat) : Int)] h3 := by
        intro next
        unfold srtPlain_l8
        simp only [gv, List.getD_cons_zero, List.getD_cons_succ, iL_len, bop_i64_lss, bd_some, bv_bool, hl1, if_true, nv_nat, bdS_some, g1, g2, bd3_some, Nat.zero_add, Nat.le_refl, Nat.reduceLT, and_self, List.getElem?_cons_zero, app_r0]
        rw [if_pos (by exact ⟨trivial, c1.2.1, by decide⟩), htv, bd_some, hlenC, cl_ret, one1_one, hmostC, cl_ret, one1_one, bop_i64_lss, bd_some, bv_bool, if_pos (by exact decide_eq_true hfull)]
        rw [idxP_sl hov, bd_some]
        simp only [esP, ow_get1, bd_some]
        rw [e2, clH_ret, one1_one, e3, clH_ret, one1_one, hset3]
        rw [if_pos (by exact ⟨trivial, by rw [List.length_map, List.length_set]; exact htk, by decide⟩), htv3, bd_some, bop_i64_add, bd_some, hset1, step64 (show i < lim by omega)]
      have hlen3 : ts3.length = ts.length + 1 := by
        have := congrArg List.length P3.items
        rwa [itT_len, insI_len, itT_len] at this
      obtain ⟨h', ts', bits', told', v0', v2', M', e, b1, b2, b3, b4, b5, b6, b7⟩ := ih (i + 1) M h3 ts3 (hgt 1 bits).2 (told.set k ⟨1, 0⟩) (.sl 2 (lsl v0) false) (.bool false) (by omega) (by omega) E3 (by omega) (by omega) (by rw [List.length_set]; exact hlt) (hrest _ ⟨1, 0⟩ rfl)
      refine ⟨h', ts', bits', told', v0', v2', M', by rw [loopx_succ, key]; exact e, b1, ?_, fun b hb => ?_, b4, by omega, ?_, hoth ⟨1, 0⟩ told' b7⟩
      · have f3 : Frm h h3 (c :: skB s ts) := Frm.trans (h1 := h2') ⟨Nat.le_of_eq l2.symm, fun j _ hj => f2 j fun e => hj (e ▸ List.mem_cons_self ..)⟩ P3.grew.frm fun y hy => .inl (List.mem_cons_of_mem _ hy)
        refine f3.trans b2 fun y hy => ?_
        rcases List.mem_cons.1 hy with e | hy
        · exact .inl (e ▸ List.mem_cons_self ..)
        · rcases P3.grew.new y hy with h | h
          · exact .inl (List.mem_cons_of_mem _ h)
          · exact .inr (by omega)
      · have hl3 := P3.len
        rcases b3 b hb with h | h
        · rcases P3.grew.new b h with h | h
          · exact .inl h
          · exact .inr (by omega)
        · exact .inr (by omega)
      · rw [hrun]
        have hst : stp most (itT ts, bits) o = ((insI (itT ts) o.v (hgt 1 bits).1, (hgt 1 bits).2), ⟨1, 0⟩) := by
          unfold stp
          rw [if_pos xk, if_neg (by simp only [itT_len]; omega)]
        rw [hst, <- hOf_hgt bits, <- P3.items]
        exact b6
    · have key : ∀ next, srtPlain_l8 (n + 3) s c (os.map O.w) lb (.row p1 1 0 P.length) v6 (1, iL P) [v0, .sl 2 (told.map R.w) false, v2, .int .i64 (i : Int)] h next = next [.sl 2 (lsl v0) false, .sl 2 ((told.set k ⟨3, 0⟩).map R.w) false, .bool false, .int .i64 ((i + 1 : Nat) : Int)] h := by
        intro next
        unfold srtPlain_l8
        simp only [gv, List.getD_cons_zero, List.getD_cons_succ, iL_len, bop_i64_lss, bd_some, bv_bool, hl1, if_true, nv_nat, bdS_some, g1, g2, bd3_some, Nat.zero_add, Nat.le_refl, Nat.reduceLT, and_self, List.getElem?_cons_zero, app_r0]
        rw [if_pos (by exact ⟨trivial, c1.2.1, by decide⟩), htv, bd_some, hlenC, cl_ret, one1_one, hmostC, cl_ret, one1_one, bop_i64_lss, bd_some, bv_bool, if_neg (by intro e; exact hfull (of_decide_eq_true e)), bop_i64_add, bd_some, hset3, step64 (show i < lim by omega)]
      obtain ⟨h', ts', bits', told', v0', v2', M', e, b1, b2, b3, b4, b5, b6, b7⟩ := ih (i + 1) M h ts bits (told.set k ⟨3, 0⟩) (.sl 2 (lsl v0) false) (.bool false) (by omega) (by omega) E (by omega) (by omega) (by rw [List.length_set]; exact hlt) (hrest _ ⟨3, 0⟩ rfl)
      refine ⟨h', ts', bits', told', v0', v2', M', by rw [loopx_succ, key]; exact e, b1, b2, b3, b4, by omega, ?_, hoth ⟨3, 0⟩ told' b7⟩
      rw [hrun]
      have hst : stp most (itT ts, bits) o = ((itT ts, bits), ⟨3, 0⟩) := by
        unfold stp
        rw [if_pos xk, if_pos (by simp only [itT_len]; omega)]
      rw [hst]
      exact b6
theorem rs_rep (n : Nat) : List.replicate n [V.int .u8 0, V.int .i32 0] = (List.replicate n (⟨0, 0⟩ : R)).map R.w := by rw [List.map_replicate]; rfl
def doneO (os : List O) (most : Int) (st : St) : St × List R := runO os most (sPuts os ++ others os) st (List.replicate os.length ⟨0, 0⟩)
theorem puts_others (os : List O) : ∀ x ∈ others os, ∀ y ∈ sPuts os, y ≠ x := fun x hx y hy e => by
  have h1 := restTo_mem os _ x hx
  have h2 := putsTo_mem os _ y ((sPuts_perm os).mem_iff.1 hy)
  rw [e] at h2
  exact h1.2.2 h2.2.2
theorem sPuts_nodup (os : List O) : (sPuts os).Nodup := (sPuts_perm os).nodup_iff.2 ((putsTo_up os os.length).imp fun h => by omega)
theorem sPuts_mem (os : List O) : ∀ x ∈ sPuts os, 0 <= x /\ x < (os.length : Int) /\ (oAt os x).k = 1 := fun x hx => putsTo_mem os _ x ((sPuts_perm os).mem_iff.1 hx)
theorem part_env {h : Heap} {s : Nat} {ts : List Tw} {most : Int} {c : Nat} {cb : Option Nat} {bits : List Bool} (os : List O) (S : ∃ N, SkAt h s ts most N) (B : BitsAt h c cb bits) (nc : c ∉ skB s ts) (ncb : ∀ b, cb = some b -> b ∉ skB s ts) :
    Env (partH h os) s ts most c cb bits h.length (sPuts os) (h.length + 1) (others os) := by
  obtain ⟨N, S⟩ := S
  have l := B.lt
  have hk : ∀ b, b < h.length -> (partH h os)[b]? = h[b]? := fun b hb => List.getElem?_append_left hb
  have h0 : (partH h os)[h.length]? = some (.row 3 1 (iL (sPuts os)) true) := by unfold partH; rw [List.getElem?_append_right (Nat.le_refl _), Nat.sub_self]; rfl
  have h1 : (partH h os)[h.length + 1]? = some (.row 3 1 (iL (others os)) true) := by unfold partH; rw [List.getElem?_append_right (by omega), Nat.add_sub_cancel_left]; rfl
  exact ⟨⟨N, S.keep fun b hb => hk b (S.lt b hb)⟩, B.keep (hk c l.1) fun b hb => hk b (l.2 b hb), ⟨_, h0⟩, ⟨_, h1⟩, nc, ncb, ⟨fun hm => by have := S.lt _ hm; omega, by omega⟩, ⟨fun hm => by have := S.lt _ hm; omega, by omega⟩⟩
theorem end_rest (n : Nat) {h hh : Heap} {s : Nat} {ts ts1 : List Tw} {most : Int} {c : Nat} {cb : Option Nat} {bits : List Bool} {p1 p2 : Nat} (os : List O) (lb : Bool) (told : List R) (E : Env hh s ts1 most c cb bits p1 (sPuts os) p2 (others os)) (hp2 : h.length <= p2) (hlt : told.length = os.length) (h0 : ∀ x ∈ others os, told[x.toNat]? = some ⟨0, 0⟩) (hts : ts1.length < lim) (hlim : os.length < lim) (hn : os.length + 8 < n) (hF : Frm h hh (c :: skB s ts)) (hN : ∀ b ∈ skB s ts1, b ∈ skB s ts \/ h.length <= b) (hroom : (ts1.length : Int) <= most) :
    ∃ h' ts' told', call (n + 3) 96 [.ptr s 0, .sl 2 (os.map O.w) lb, .row p2 1 0 (others os).length, .row hh.length 2 0 os.length] (hh ++ [.row 34 2 (told.map R.w) true]) = some (.ret [.row hh.length 2 0 os.length], h') ∧
      Did h h' s ts ts' most c cb bits hh.length told' /\ runO os most (others os) (itT ts1, bits) told = ((itT ts', bits), told') := by
  have E1 := E.push [.row 34 2 (told.map R.w) true]
  have rt : RowR (hh ++ [.row 34 2 (told.map R.w) true]) hh.length told := ⟨true, List.getElem?_concat_length⟩
  obtain ⟨N, S⟩ := E.sk
  have nt : hh.length ∉ skB s ts1 := fun hm => by have := S.lt _ hm; omega
  have hpl := E.r2.lt
  obtain ⟨h', ts', told', e, a1, a2, a3, a4, a5, a6⟩ := rest_call n os lb told hh.length p2 bits E1.sk hts rt E1.r2 hlt nt E.n2.1 (by omega) h0 hlim hn
  have hl := E.bt.lt
  refine ⟨h', ts', told', e, ⟨a1, ?_, a5, hF.len, ?_, fun b hb => ?_, ?_⟩, a6⟩
  · have hk : ∀ i, i < hh.length -> i ∉ skB s ts1 -> h'[i]? = hh[i]? := fun i h1 h2 => by
      rw [a3.old i (by rw [List.length_append]; omega) (fun hm => by rcases List.mem_cons.1 hm with e | hm; omega; exact h2 hm), List.getElem?_append_left h1]
    exact E.bt.keep (hk c hl.1 E.nc) fun b hb => hk b (hl.2 b hb) (E.ncb b hb)
  · refine (hF.trans (Frm.push hh _ []) (fun y hy => by cases hy)).trans a3 fun y hy => ?_
    rcases List.mem_cons.1 hy with e | hy
    · exact .inr (by have := hF.len; omega)
    · rcases hN y hy with h | h
      · exact .inl (List.mem_cons_of_mem _ h)
      · exact .inr h
  · exact hN b (a2 b hb)
  · have h1 := congrArg (fun p => (p.1.1.length : Int)) a6
    simp only [itT_len] at h1
    rw [<- h1]
    exact runO_room _ (by simp only [itT_len]; exact hroom)
theorem plain_call (n : Nat) {h : Heap} {s : Nat} {ts : List Tw} {most : Int} {c : Nat} {cb : Option Nat} {bits : List Bool} (os : List O) (lb : Bool) (S : ∃ N, SkAt h s ts most N) (B : BitsAt h c cb bits) (nc : c ∉ skB s ts) (ncb : ∀ b, cb = some b -> b ∉ skB s ts) (hroom : (ts.length : Int) <= most) (hl : ts.length + 4 * os.length + 100 < lim) (hn : ts.length + 2 * os.length + 50 <= n) :
    ∃ h' ts' bits' tb told', call (n + 4) 91 [.ptr s 0, .ptr c 0, .sl 2 (os.map O.w) lb] h = some (.ret [.row tb 2 0 os.length], h') /\ Did h h' s ts ts' most c cb bits' tb told' /\ doneO os most (itT ts, bits) = ((itT ts', bits'), told') := by
  have hpl := puts_len os os.length
  have hsl := sPuts_len os
  have hpo : (puts os).length <= os.length := by unfold puts; omega
  have E0 := part_env os S B nc ncb
  have hlf : (partH h os).length = h.length + 2 := by simp [partH]
  obtain ⟨h1, ts1, bits1, told1, v0', v2', M', e, b1, b2, b3, b4, b5, b6, b7⟩ := plain_loop n os lb (sPuts os) (sPuts_mem os) (sPuts_nodup os) h.length (h.length + 1) (others os) (.row (h.length + 1) 1 0 (others os).length) (by omega) (sPuts os).length 0 (n + 3) (partH h os) ts bits (List.replicate os.length ⟨0, 0⟩) (.sl 2 [] false) (.bool false) (by omega) (by omega) E0 (by omega) (by omega) (by simp) (fun x hx => by
    have := sPuts_mem os x (List.mem_of_mem_drop hx)
    rw [List.getElem?_replicate, if_pos (by omega)])
  rw [List.drop_zero] at b6 b7
  have hF : Frm h h1 (c :: skB s ts) := Frm.trans (Frm.push h _ (c :: skB s ts)) b2 fun y hy => .inl hy
  have hN : ∀ b ∈ skB s ts1, b ∈ skB s ts \/ h.length <= b := fun b hb => (b3 b hb).imp id fun h => by omega
  have hr1 : (ts1.length : Int) <= most := by
    have h1 := congrArg (fun p => (p.1.1.length : Int)) b6
    simp only [itT_len] at h1
    rw [<- h1]
    exact runO_room _ (by simp only [itT_len]; exact hroom)
  obtain ⟨h', ts', told', e2, D, r⟩ := end_rest (ts := ts) n os lb told1 b1 (by omega) b4 (fun x hx => by
    have hm := restTo_mem os _ x hx
    rw [b7 x.toNat fun y hy => fun e => puts_others os x hx y hy (by omega), List.getElem?_replicate, if_pos (by omega)]) (by omega) (by omega) (by omega) hF hN hr1
  refine ⟨h', ts', bits1, h1.length, told', ?_, D, ?_⟩
  · refine (srtPlain_eq (n + 3) s c (os.map O.w) lb h).trans ?_
    unfold srtPlain
    have fN : nv (V.int .i64 (os.length : Int)) = some os.length := nv_nat _ _
    have hpc : call (n + 3) 92 [.sl 2 (os.map O.w) lb] h = some (.ret [.row h.length 1 0 (puts os).length, .row (h.length + 1) 1 0 (others os).length], partH h os) := parted_call (n + 1) h os lb (by omega) (by omega)
    simp only [List.length_map]
    rw [fN, bdS_some, bdS_some, if_pos (by first | exact ⟨Nat.le_refl _, by omega, rfl⟩ | exact ⟨trivial, by omega, trivial⟩ | exact ⟨Nat.le_refl _, by omega, trivial⟩), hpc, cl_ret]
    simp only [List.getElem?_cons_zero, List.getElem?_cons_succ, bd_some]
    rw [<- hsl, E0.r1.slc, bd_some, rs_rep]
    refine e.trans ?_
    unfold srtPlain_l8
    simp only [gv, List.getD_cons_zero, List.getD_cons_succ, iL_len, bop_i64_lss, bd_some, bv_bool]
    rw [if_neg (by simp), app_r0, List.length_map, b4, e2, cl_ret, one1_one]
  · unfold doneO
    rw [runO_append, b6]
    exact r
end Go.Proofs.Try
set_option linter.unusedVariables false
set_option linter.unusedSimpArgs false
namespace Go.Proofs.Try
open Go.L Go.Rp Go.Sk
set_option maxRecDepth 100000
def hsOf : Nat -> List Bool -> List Int × List Bool
  | 0, bits => ([], bits)
  | k + 1, bits => (((hgt 1 bits).1 : Int) :: (hsOf k (hgt 1 bits).2).1, (hsOf k (hgt 1 bits).2).2)
theorem hsOf_len : ∀ (k : Nat) (bits : List Bool), (hsOf k bits).1.length = k
  | 0, _ => rfl
  | k + 1, bits => by simp [hsOf, hsOf_len k]
def setAll (r : R) : List Int -> List R -> List R
  | [], told => told
  | k :: l, told => setAll r l (told.set k.toNat r)
theorem setAll_len (r : R) : ∀ (l : List Int) (told : List R), (setAll r l told).length = told.length
  | [], _ => rfl
  | k :: l, told => by show (setAll r l _).length = _; rw [setAll_len r l, List.length_set]
theorem setAll_ne (r : R) : ∀ (l : List Int) (told : List R) (y : Nat), (∀ x ∈ l, x.toNat ≠ y) -> (setAll r l told)[y]? = told[y]?
  | [], _, _, _ => rfl
  | k :: l, told, y, h => by
    show (setAll r l _)[y]? = _
    rw [setAll_ne r l _ y fun x hx => h x (List.mem_cons_of_mem _ hx), List.getElem?_set_ne (h k (List.mem_cons_self ..))]
theorem run_put (os : List O) (most : Int) : ∀ (P : List Int) (st : St) (told : List R), (∀ x ∈ P, (oAt os x).k = 1) -> (st.1.length : Int) + P.length <= most →
    runO os most P st told = ((insAll st.1 ((P.map (keyV os)).zip (hsOf P.length st.2).1), (hsOf P.length st.2).2), setAll ⟨1, 0⟩ P told)
  | [], st, told, _, _ => rfl
  | k :: P, st, told, hk, hm => by
    have hst : stp most st (oAt os k) = ((insI st.1 (oAt os k).v (hgt 1 st.2).1, (hgt 1 st.2).2), ⟨1, 0⟩) := by
      unfold stp
      rw [if_pos (hk k (List.mem_cons_self ..)), if_neg (by simp at hm; omega)]
    show runO os most P (stp most st (oAt os k)).1 (told.set k.toNat (stp most st (oAt os k)).2) = _
    rw [hst, run_put os most P _ _ (fun x hx => hk x (List.mem_cons_of_mem _ hx)) (by rw [insI_len]; simp at hm ⊢; omega)]
    simp only [List.map_cons, List.length_cons, hsOf, List.zip_cons_cons, insAll, setAll, hOf_hgt]
    rfl
theorem run_full (os : List O) (most : Int) : ∀ (P : List Int) (st : St) (told : List R), (∀ x ∈ P, (oAt os x).k = 1) -> most <= (st.1.length : Int) -> runO os most P st told = (st, setAll ⟨3, 0⟩ P told)
  | [], st, told, _, _ => rfl
  | k :: P, st, told, hk, hm => by
    have hst : stp most st (oAt os k) = (st, ⟨3, 0⟩) := by
      unfold stp
      rw [if_pos (hk k (List.mem_cons_self ..)), if_pos hm]
    show runO os most P (stp most st (oAt os k)).1 (told.set k.toNat (stp most st (oAt os k)).2) = _
    rw [hst]
    exact run_full os most P st _ (fun x hx => hk x (List.mem_cons_of_mem _ hx)) hm
theorem RowI.getP {h : Heap} {b : Nat} {k : IntKind} {e : Nat} {l : List Int} (r : RowI h b k e l) {lo hi i : Nat} {x : Int} (hi' : lo + i < hi) (hx : l[lo + i]? = some x) : idxP 1 i (.row b 1 lo hi) = some (.rptr b 1 (lo + i) 0) /\ cellsP h (.rptr b 1 (lo + i) 0) = some ([.int k x], 1, 0) := by
  obtain ⟨z, hz⟩ := r
  refine ⟨idxP_row (by omega), cellsP_rptr hz (by decide) ?_⟩
  rw [List.getElem?_map, hx]
  rfl
theorem RowI.slcP {h : Heap} {b : Nat} {k : IntKind} {e : Nat} {l : List Int} (r : RowI h b k e l) {lo hi : Nat} (h1 : lo <= hi) (h2 : hi <= l.length) : slcH h (.row b 1 lo hi) = some (1, ((l.take hi).drop lo).map (intV k)) := by
  obtain ⟨z, hz⟩ := r
  rw [slcH_row hz h1 (by rw [List.length_map]; exact h2), List.map_drop, List.map_take]
theorem app_i32 (l : List Int) (x : Int) (h : l.length + 1 < lim) : app 21 1 (S.own 21 1 (l.map (intV .i32))) [[.int .i32 x]] = some ((l ++ [x]).map (intV .i32)) := by
  simp only [app]
  rw [if_pos (by refine ⟨?_, ?_, by simpa using h⟩ <;> first | trivial | rfl)]
  simp [intV]
theorem lsl_i32 (l : List Int) : lsl (V.sl 1 (l.map (intV .i32)) false) = l.map (intV .i32) := rfl
theorem lsl_iL (l : List Int) : lsl (V.sl 1 (iL l) false) = iL l := rfl
theorem draw_loop (n : Nat) {s c : Nat} {cb : Option Nat} {most : Int} {ts : List Tw} (os : List O) (lb : Bool) (P0 : List Int) (hP : ∀ x ∈ P0, 0 <= x /\ x < (os.length : Int)) (hnd : P0.Nodup) (p1 p2 : Nat) (Q0 : List Int) (v5 v6 v18 : V) (r : Nat) (hr : r <= P0.length) (hlim : P0.length < lim) (hn : 8 <= n) : ∀ (d i M : Nat) (h : Heap) (bits : List Bool) (told : List R) (vs hs : List Int) (v0 v4 : V), i + d = r -> d < M →
    Env h s ts most c cb bits p1 P0 p2 Q0 -> told.length = os.length -> vs.length = i -> hs.length = i -> (∀ x ∈ P0.drop i, told[x.toNat]? = some ⟨0, 0⟩) →
    ∃ h' v0' v4' M', loopx M (srtApply_l23 (n + 3) s c (os.map O.w) lb v5 v6 v18 (.row p1 1 0 r) (1, iL (P0.take r))) [v0, .sl 2 (told.map R.w) false, .sl 1 (vs.map (intV .i32)) false, .sl 1 (iL hs) false, v4, .int .i64 (i : Int)] h =
      srtApply_l23 (n + 3) s c (os.map O.w) lb v5 v6 v18 (.row p1 1 0 r) (1, iL (P0.take r)) [v0', .sl 2 ((setAll ⟨1, 0⟩ ((P0.take r).drop i) told).map R.w) false, .sl 1 ((vs ++ ((P0.take r).drop i).map (keyV os)).map (intV .i32)) false, .sl 1 (iL (hs ++ (hsOf d bits).1)) false, v4', .int .i64 (r : Int)] h' (loopx M' (srtApply_l23 (n + 3) s c (os.map O.w) lb v5 v6 v18 (.row p1 1 0 r) (1, iL (P0.take r)))) ∧
      Env h' s ts most c cb (hsOf d bits).2 p1 P0 p2 Q0 /\ h'.length = h.length /\ ∀ i, i ≠ c -> h'[i]? = h[i]? := by
  intro d
  induction d with
  | zero =>
    intro i M h bits told vs hs v0 v4 h1 h2 E hlt hvl hhl h0
    obtain ⟨M, rfl⟩ : ∃ M', M = M' + 1 := ⟨M - 1, by omega⟩
    obtain rfl : i = r := by omega
    have hd : (P0.take i).drop i = [] := List.drop_of_length_le (by rw [List.length_take]; omega)
    refine ⟨h, v0, v4, M, ?_, E, rfl, fun _ _ => rfl⟩
    rw [hd]
    simp only [setAll, List.map_nil, List.append_nil, hsOf]
    exact loopx_succ ..
  | succ d ih =>
    intro i M h bits told vs hs v0 v4 h1 h2 E hlt hvl hhl h0
    obtain ⟨M, rfl⟩ : ∃ M', M = M' + 1 := ⟨M - 1, by omega⟩
    have hiP : i < P0.length := by omega
    obtain ⟨x, hx⟩ : ∃ x, P0[i]? = some x := ⟨_, List.getElem?_eq_getElem hiP⟩
    have hdr : P0.drop i = x :: P0.drop (i + 1) := by
      rw [List.drop_eq_getElem_cons hiP]
      rw [List.getElem?_eq_getElem hiP] at hx
      rw [Option.some.inj hx]
    have hdt : (P0.take r).drop i = x :: (P0.take r).drop (i + 1) := by
      have hil : i < (P0.take r).length := by rw [List.length_take]; omega
      rw [List.drop_eq_getElem_cons hil]
      rw [List.getElem?_eq_getElem hiP] at hx
      rw [<- Option.some.inj hx, List.getElem_take]
    obtain ⟨x0, x1⟩ := hP x (List.mem_of_getElem? hx)
    obtain ⟨k, rfl⟩ : ∃ k : Nat, x = (k : Int) := ⟨x.toNat, (Int.toNat_of_nonneg x0).symm⟩
    have hk : k < os.length := by omega
    obtain ⟨o, ho⟩ : ∃ o, os[k]? = some o := ⟨_, List.getElem?_eq_getElem hk⟩
    have hov : (os.map O.w)[k]? = some (O.w o) := by rw [get_os, ho]; rfl
    have hoo := oAt_some ho
    have hkv : keyV os (k : Int) = o.v := by unfold keyV; rw [hoo]
    have ht0 : told[k]? = some ⟨0, 0⟩ := by
      have := h0 (k : Int) (by rw [hdr]; exact List.mem_cons_self ..)
      simpa using this
    have htk : k < told.length := by omega
    have htv : (told.map R.w)[k]? = some (R.w ⟨0, 0⟩) := by rw [get_rs, ht0]; rfl
    have hl1 : decide ((i : Int) < ((P0.take r).length : Int)) = true := by rw [List.length_take]; simp; omega
    obtain ⟨g1, g2⟩ := E.r1.getP (lo := 0) (hi := r) (i := i) (by omega) (by rw [Nat.zero_add]; exact hx)
    rw [Nat.zero_add] at g1 g2
    have hnd2 : (P0.drop i).Nodup := hnd.sublist (List.drop_sublist _ _)
    rw [hdr] at hnd2
    obtain ⟨h2', e2, B2, l2, f2⟩ := height_call n E.bt hn
    have E2 := E.coin B2 f2
    have hset1 : (told.map R.w).set k (setR (R.w ⟨0, 0⟩) 0 [.int .u8 1]) = (told.set k ⟨1, 0⟩).map R.w := by rw [rw_set, List.map_set]
    have key : ∀ next, srtApply_l23 (n + 3) s c (os.map O.w) lb v5 v6 v18 (.row p1 1 0 r) (1, iL (P0.take r)) [v0, .sl 2 (told.map R.w) false, .sl 1 (vs.map (intV .i32)) false, .sl 1 (iL hs) false, v4, .int .i64 (i : Int)] h next = next [.sl 2 (lsl v0) false, .sl 2 ((told.set k ⟨1, 0⟩).map R.w) false, .sl 1 ((vs ++ [o.v]).map (intV .i32)) false, .sl 1 (iL (hs ++ [((hgt 1 bits).1 : Int)])) false, .bool false, .int .i64 ((i + 1 : Nat) : Int)] h2' := by
      intro next
      unfold srtApply_l23
      simp only [gv, List.getD_cons_zero, List.getD_cons_succ, iL_len, bop_i64_lss, bd_some, bv_bool, hl1, if_true, nv_nat, bdS_some, g1, g2, bd3_some, Nat.zero_add, Nat.le_refl, Nat.reduceLT, and_self, List.getElem?_cons_zero, idxP_sl hov, addP_iptr, cellsP_iptr, Nat.reduceAdd, Nat.reduceLeDiff, ow_get1, bsl_i32, lsl_i32, lsl_iL, app_r0]
      rw [app_i32 _ _ (by omega), bd_some, e2, cl_ret, one1_one, bsl_int, bd_some, app_int _ _ (by omega), bd_some]
      rw [if_pos (by exact ⟨trivial, by rw [List.length_map]; exact htk, by decide⟩), htv, bd_some, bop_i64_add, bd_some, hset1, step64 (show i < lim by omega)]
    obtain ⟨h', v0', v4', M', e, b1, b2, b3⟩ := ih (i + 1) M h2' (hgt 1 bits).2 (told.set k ⟨1, 0⟩) (vs ++ [o.v]) (hs ++ [((hgt 1 bits).1 : Int)]) (.sl 2 (lsl v0) false) (.bool false) (by omega) (by omega) E2 (by rw [List.length_set]; exact hlt) (by simp; omega) (by simp; omega) (fun y hy => by
      rw [List.getElem?_set_ne]
      · exact h0 y (by rw [hdr]; exact List.mem_cons_of_mem _ hy)
      · intro e2
        have hy0 := hP y (List.mem_of_mem_drop hy)
        have hyk : y = (k : Int) := by omega
        exact (List.nodup_cons.1 hnd2).1 (hyk ▸ hy))
    refine ⟨h', v0', v4', M', ?_, b1, by rw [b2, l2], fun j hj => by rw [b3 j hj, f2 j hj]⟩
    rw [loopx_succ, key, e, hdt]
    simp only [setAll, Int.toNat_natCast, List.map_cons, hkv, hsOf, List.append_assoc, List.cons_append, List.nil_append]
theorem full_loop (n : Nat) {s c : Nat} {cb : Option Nat} {most : Int} {ts : List Tw} {bits : List Bool} {h : Heap} (os : List O) (lb : Bool) (P0 : List Int) (hP : ∀ x ∈ P0, 0 <= x /\ x < (os.length : Int)) (hnd : P0.Nodup) (p1 p2 : Nat) (Q0 : List Int) (v6 : V) (r : Nat) (hr : r <= P0.length) (hlim : P0.length < lim) (E : Env h s ts most c cb bits p1 P0 p2 Q0) : ∀ (d i M : Nat) (told : List R) (v0 v2 : V), r + i + d = P0.length -> d < M →
    told.length = os.length -> (∀ x ∈ P0.drop (r + i), told[x.toNat]? = some ⟨0, 0⟩) →
    ∃ v0' v2' M', loopx M (srtApply_l61 (n + 3) s (os.map O.w) lb v6 (.row p1 1 r P0.length) (1, iL (P0.drop r))) [v0, .sl 2 (told.map R.w) false, v2, .int .i64 (i : Int)] h =
      srtApply_l61 (n + 3) s (os.map O.w) lb v6 (.row p1 1 r P0.length) (1, iL (P0.drop r)) [v0', .sl 2 ((setAll ⟨3, 0⟩ (P0.drop (r + i)) told).map R.w) false, v2', .int .i64 ((P0.drop r).length : Int)] h (loopx M' (srtApply_l61 (n + 3) s (os.map O.w) lb v6 (.row p1 1 r P0.length) (1, iL (P0.drop r)))) := by
  intro d
  induction d with
  | zero =>
    intro i M told v0 v2 h1 h2 hlt h0
    obtain ⟨M, rfl⟩ : ∃ M', M = M' + 1 := ⟨M - 1, by omega⟩
    have hi : i = (P0.drop r).length := by rw [List.length_drop]; omega
    refine ⟨v0, v2, M, ?_⟩
    rw [List.drop_of_length_le (i := r + i) (by omega), <- hi]
    exact loopx_succ ..
  | succ d ih =>
    intro i M told v0 v2 h1 h2 hlt h0
    obtain ⟨M, rfl⟩ : ∃ M', M = M' + 1 := ⟨M - 1, by omega⟩
    obtain ⟨x, hx⟩ : ∃ x, P0[r + i]? = some x := ⟨_, List.getElem?_eq_getElem (by omega)⟩
    have hdr : P0.drop (r + i) = x :: P0.drop (r + (i + 1)) := by
      rw [List.drop_eq_getElem_cons (show r + i < P0.length by omega)]
      rw [List.getElem?_eq_getElem (by omega)] at hx
      rw [Option.some.inj hx, Nat.add_assoc]
    obtain ⟨x0, x1⟩ := hP x (List.mem_of_getElem? hx)
    obtain ⟨k, rfl⟩ : ∃ k : Nat, x = (k : Int) := ⟨x.toNat, (Int.toNat_of_nonneg x0).symm⟩
    have ht0 : told[k]? = some ⟨0, 0⟩ := by
      have := h0 (k : Int) (by rw [hdr]; exact List.mem_cons_self ..)
      simpa using this
    have htk : k < told.length := by omega
    have htv : (told.map R.w)[k]? = some (R.w ⟨0, 0⟩) := by rw [get_rs, ht0]; rfl
    have hl1 : decide ((i : Int) < ((P0.drop r).length : Int)) = true := by rw [List.length_drop]; simp; omega
    obtain ⟨g1, g2⟩ := E.r1.getP (lo := r) (hi := P0.length) (i := i) (by omega) hx
    have hnd2 : (P0.drop (r + i)).Nodup := hnd.sublist (List.drop_sublist _ _)
    rw [hdr] at hnd2
    have hset1 : (told.map R.w).set k (setR (R.w ⟨0, 0⟩) 0 [.int .u8 3]) = (told.set k ⟨3, 0⟩).map R.w := by rw [rw_set, List.map_set]
    have key : ∀ next, srtApply_l61 (n + 3) s (os.map O.w) lb v6 (.row p1 1 r P0.length) (1, iL (P0.drop r)) [v0, .sl 2 (told.map R.w) false, v2, .int .i64 (i : Int)] h next = next [.sl 2 (lsl v0) false, .sl 2 ((told.set k ⟨3, 0⟩).map R.w) false, .bool false, .int .i64 ((i + 1 : Nat) : Int)] h := by
      intro next
      unfold srtApply_l61
      simp only [gv, List.getD_cons_zero, List.getD_cons_succ, iL_len, bop_i64_lss, bd_some, bv_bool, hl1, if_true, nv_nat, bdS_some, g1, g2, bd3_some, Nat.zero_add, Nat.le_refl, Nat.reduceLT, and_self, List.getElem?_cons_zero, app_r0]
      rw [if_pos (by exact ⟨trivial, by rw [List.length_map]; exact htk, by decide⟩), htv, bd_some, bop_i64_add, bd_some, hset1, step64 (show i < lim by omega)]
    obtain ⟨v0', v2', M', e⟩ := ih (i + 1) M (told.set k ⟨3, 0⟩) (.sl 2 (lsl v0) false) (.bool false) (by omega) (by omega) (by rw [List.length_set]; exact hlt) (fun y hy => by
      rw [List.getElem?_set_ne]
      · exact h0 y (by rw [hdr]; exact List.mem_cons_of_mem _ hy)
      · intro e2
        have hy0 := hP y (List.mem_of_mem_drop hy)
        have hyk : y = (k : Int) := by omega
        exact (List.nodup_cons.1 hnd2).1 (hyk ▸ hy))
    refine ⟨v0', v2', M', ?_⟩
    rw [loopx_succ, key, e, hdr]
    simp only [setAll, Int.toNat_natCast]
theorem mm_min (a b : Int) : mm false [.int .i64 a, .int .i64 b] = some (.int .i64 (if b < a then b else a)) := rfl
theorem sPuts_rise (os : List O) (r : Nat) : (((sPuts os).take r).map (keyV os)).Pairwise (· <= ·) := by
  rw [List.pairwise_map]
  exact ((sPuts_sd os).sublist (List.take_sublist _ _)).imp fun h => h.of
theorem srtApply_call (n : Nat) {h : Heap} {s : Nat} {ts : List Tw} {most : Int} {c : Nat} {cb : Option Nat} {bits : List Bool} (os : List O) (lb : Bool) (S : ∃ N, SkAt h s ts most N) (B : BitsAt h c cb bits) (nc : c ∉ skB s ts) (ncb : ∀ b, cb = some b -> b ∉ skB s ts) (hroom : (ts.length : Int) <= most) (hmost : most <= 1000) (hl : ts.length + 4 * os.length + 100 < lim) (hn : ts.length + 2 * os.length + 50 <= n) :
    ∃ h' ts' bits' tb told', call (n + 4) 90 [.ptr s 0, .ptr c 0, .sl 2 (os.map O.w) lb] h = some (.ret [.row tb 2 0 os.length], h') /\ Did h h' s ts ts' most c cb bits' tb told' /\ doneO os most (itT ts, bits) = ((itT ts', bits'), told') := by
  have hpl := puts_len os os.length
  have hsl := sPuts_len os
  have hpo : (puts os).length <= os.length := by unfold puts; omega
  have E0 := part_env os S B nc ncb
  have hlf : (partH h os).length = h.length + 2 := by simp [partH]
  have hkp := fun x hx => (sPuts_mem os x hx).2.2
  obtain ⟨r, hr⟩ : ∃ r : Nat, (r : Int) = if most - (ts.length : Int) < ((sPuts os).length : Int) then most - (ts.length : Int) else ((sPuts os).length : Int) := ⟨(if most - (ts.length : Int) < ((sPuts os).length : Int) then most - (ts.length : Int) else ((sPuts os).length : Int)).toNat, Int.toNat_of_nonneg (by split <;> omega)⟩
  have hr1 : r <= (sPuts os).length := by split at hr <;> omega
  have hr2 : (ts.length : Int) + r <= most := by split at hr <;> omega
  have hr3 : r = (sPuts os).length \/ most <= (ts.length : Int) + r := by split at hr <;> omega
  have hlt1 : ((sPuts os).take r).length = r := by rw [List.length_take]; omega
  obtain ⟨h1, v0', v4', M', e1, E1, l1, f1⟩ := draw_loop n os lb (sPuts os) (fun x hx => ⟨(sPuts_mem os x hx).1, (sPuts_mem os x hx).2.1⟩) (sPuts_nodup os) h.length (h.length + 1) (others os) (.row h.length 1 0 (sPuts os).length) (.row (h.length + 1) 1 0 (others os).length) (.int .i64 (r : Int)) r hr1 (by omega) (by omega) r 0 (n + 3) (partH h os) bits (List.replicate os.length ⟨0, 0⟩) [] [] (.sl 2 [] false) (.bool false) (by omega) (by omega) E0 (by simp) rfl rfl (fun x hx => by
    have := sPuts_mem os x (List.mem_of_mem_drop hx)
    rw [List.getElem?_replicate, if_pos (by omega)])
  rw [List.drop_zero, List.nil_append, List.nil_append] at e1
  obtain ⟨vs, hvs⟩ : ∃ vs, vs = ((sPuts os).take r).map (keyV os) := ⟨_, rfl⟩
  obtain ⟨hs, hhs⟩ : ∃ hs, hs = (hsOf r bits).1 := ⟨_, rfl⟩
  have hvl : vs.length = r := by rw [hvs, List.length_map, hlt1]
  have hhl : hs.length = r := by rw [hhs, hsOf_len]
  rw [<- hvs, <- hhs] at e1
  have E2 := E1.push [.row 21 1 (vs.map (intV .i32)) true, .row 3 1 (iL hs) true]
  have hrow1 : RowI (h1 ++ [HB.row 21 1 (vs.map (intV .i32)) true, HB.row 3 1 (iL hs) true]) h1.length .i32 21 vs := ⟨true, by rw [List.getElem?_append_right (Nat.le_refl _), Nat.sub_self]; rfl⟩
  have hrow2 : RowI (h1 ++ [HB.row 21 1 (vs.map (intV .i32)) true, HB.row 3 1 (iL hs) true]) (h1.length + 1) .i64 3 hs := ⟨true, by rw [List.getElem?_append_right (by omega), Nat.add_sub_cancel_left]; rfl⟩
  obtain ⟨N1, S1⟩ := E1.sk
  obtain ⟨h2, ts2, tb2, e2, G2, I2⟩ := batch_call n E2.sk h1.length (h1.length + 1) vs hs (by omega) (hvs ▸ sPuts_rise os r) hrow1 hrow2 (fun hm => by have := S1.lt _ hm; omega) (fun hm => by have := S1.lt _ hm; omega) (by rw [hvl]; exact hr2) (by rw [hvl]; omega) (by rw [hvl]; omega)
  have E3 := E2.grew G2
  have told1 := setAll_len ⟨1, 0⟩ ((sPuts os).take r) (List.replicate os.length (⟨0, 0⟩ : R))
  rw [List.length_replicate] at told1
  have hnd := sPuts_nodup os
  have hdis : ∀ x ∈ (sPuts os).drop r, ∀ y ∈ (sPuts os).take r, y.toNat ≠ x.toNat := fun x hx y hy e => by
    have a := sPuts_mem os x (List.mem_of_mem_drop hx)
    have b := sPuts_mem os y (List.mem_of_mem_take hy)
    have hxy : x = y := by omega
    have hnd' : ((sPuts os).take r ++ (sPuts os).drop r).Nodup := by rw [List.take_append_drop]; exact hnd
    exact (List.nodup_append.1 hnd').2.2 y hy x hx hxy.symm
  obtain ⟨v0'', v2'', M'', e3⟩ := full_loop n os lb (sPuts os) (fun x hx => ⟨(sPuts_mem os x hx).1, (sPuts_mem os x hx).2.1⟩) hnd h.length (h.length + 1) (others os) (.row (h.length + 1) 1 0 (others os).length) r hr1 (by omega) E3 ((sPuts os).length - r) 0 (n + 3) (setAll ⟨1, 0⟩ ((sPuts os).take r) (List.replicate os.length ⟨0, 0⟩)) (.sl 2 (lsl v0') false) (.bool false) (by omega) (by omega) told1 (fun x hx => by
    rw [Nat.add_zero] at hx
    rw [setAll_ne _ _ _ _ (hdis x hx)]
    have := sPuts_mem os x (List.mem_of_mem_drop hx)
    rw [List.getElem?_replicate, if_pos (by omega)])
  simp only [Nat.add_zero] at e3
  obtain ⟨told2, htold2⟩ : ∃ told2, told2 = setAll (⟨3, 0⟩ : R) ((sPuts os).drop r) (setAll ⟨1, 0⟩ ((sPuts os).take r) (List.replicate os.length ⟨0, 0⟩)) := ⟨_, rfl⟩
  rw [<- htold2] at e3
  have told2l : told2.length = os.length := by rw [htold2, setAll_len, told1]
  have hlen2 : ts2.length = ts.length + r := by
    have hz : ∀ (q : List (Int × Int)) (l : List (Int × Nat)), (insAll l q).length = l.length + q.length := fun q => by
      induction q with
      | nil => intro l; rfl
      | cons p q ih => intro l; show (insAll (insI l p.1 (hOf p.2)) q).length = _; rw [ih, insI_len, List.length_cons]; omega
    have := congrArg List.length I2
    rw [hz, itT_len, itT_len, List.length_zip, hvl, hhl, Nat.min_self] at this
    exact this
  have hF : Frm h h2 (c :: skB s ts) := by
    have a : Frm h (partH h os) (c :: skB s ts) := Frm.push h _ _
    have b : Frm (partH h os) h1 [c] := ⟨Nat.le_of_eq l1.symm, fun j _ hj => f1 j fun e => hj (e ▸ List.mem_cons_self ..)⟩
    have c' : Frm h1 (h1 ++ [HB.row 21 1 (vs.map (intV .i32)) true, HB.row 3 1 (iL hs) true]) [] := Frm.push h1 _ _
    exact (((a.trans b fun y hy => .inl (by rw [List.mem_singleton] at hy; exact hy ▸ List.mem_cons_self ..)).trans c' fun y hy => by cases hy).trans G2.frm fun y hy => .inl (List.mem_cons_of_mem _ hy))
  have hN : ∀ b ∈ skB s ts2, b ∈ skB s ts \/ h.length <= b := fun b hb => (G2.new b hb).imp id fun hh => by rw [List.length_append, l1, hlf] at hh; omega
  have h0 : ∀ x ∈ others os, told2[x.toNat]? = some ⟨0, 0⟩ := fun x hx => by
    have hm := restTo_mem os _ x hx
    have hne : ∀ y ∈ sPuts os, y.toNat ≠ x.toNat := fun y hy e => puts_others os x hx y hy (by have := sPuts_mem os y hy; omega)
    rw [htold2, setAll_ne _ _ _ _ fun y hy => hne y (List.mem_of_mem_drop hy), setAll_ne _ _ _ _ fun y hy => hne y (List.mem_of_mem_take hy), List.getElem?_replicate, if_pos (by omega)]
  obtain ⟨h', ts', told', e4, D, rr⟩ := end_rest (ts := ts) n os lb told2 E3 (by omega) told2l h0 (by omega) (by omega) (by omega) hF hN (by omega)
  refine ⟨h', ts', (hsOf r bits).2, h2.length, told', ?_, D, ?_⟩
  · refine (srtApply_eq (n + 3) s c (os.map O.w) lb h).trans ?_
    unfold srtApply
    have fN : nv (V.int .i64 (os.length : Int)) = some os.length := nv_nat _ _
    have fr : nv (V.int .i64 (r : Int)) = some r := nv_nat _ _
    have hpc : call (n + 3) 92 [.sl 2 (os.map O.w) lb] h = some (.ret [.row h.length 1 0 (puts os).length, .row (h.length + 1) 1 0 (others os).length], partH h os) := parted_call (n + 1) h os lb (by omega) (by omega)
    obtain ⟨N0, S0⟩ := E0.sk
    have hm1 := most_call (n + 2) S0
    have hl1 := len_call (n + 2) S0
    have hsub : IntKind.i64.wrap (most - (ts.length : Int)) = most - (ts.length : Int) := by rw [w64] <;> omega
    have hs1 : sliceP 1 0 r none true (.row h.length 1 0 (sPuts os).length) = some (.row h.length 1 0 r) := by simpa using sliceP_row (r := h.length) (sz := 1) (u := 0) (v := (sPuts os).length) (Nat.zero_le r) (by omega) true
    have hs2 : sliceP 1 r (sPuts os).length none true (.row h.length 1 0 (sPuts os).length) = some (.row h.length 1 r (sPuts os).length) := by simpa using sliceP_row (r := h.length) (sz := 1) (u := 0) (v := (sPuts os).length) hr1 (by omega) true
    have hc1 : slcH (partH h os) (.row h.length 1 0 r) = some (1, iL ((sPuts os).take r)) := by have := E0.r1.slcP (lo := 0) (hi := r) (Nat.zero_le _) hr1; rwa [List.drop_zero] at this
    have hc2 : slcH h2 (.row h.length 1 r (sPuts os).length) = some (1, iL ((sPuts os).drop r)) := by have := E3.r1.slcP (lo := r) (hi := (sPuts os).length) hr1 (Nat.le_refl _); rwa [List.take_length] at this
    simp only [List.length_map]
    rw [fN, bdS_some, bdS_some, if_pos (by first | exact ⟨Nat.le_refl _, by omega, rfl⟩ | exact ⟨trivial, by omega, trivial⟩ | exact ⟨Nat.le_refl _, by omega, trivial⟩), hpc, cl_ret]
    simp only [List.getElem?_cons_zero, List.getElem?_cons_succ, bd_some]
    rw [<- hsl, E0.r1.slc, bd_some, hm1, cl_ret, one1_one, hl1, cl_ret, one1_one, bop_i64_sub, bd_some, hsub]
    simp only [List.length_map, valB, evBsL, bd_some]
    rw [mm_min, bd_some, <- hr, lenP_row, bd_some, fr, bdS_some, hs1, bd_some, hc1, bd_some, rs_rep]
    refine e1.trans ?_
    unfold srtApply_l23
    simp only [gv, List.getD_cons_zero, List.getD_cons_succ, iL_len, hlt1, bop_i64_lss, bd_some, bv_bool]
    rw [if_neg (by simp), lsl_i32, lsl_iL, iL_len, List.length_map, List.append_assoc]
    rw [show (h1 ++ [HB.row 21 1 (vs.map (intV .i32)) true]).length = h1.length + 1 by simp]
    rw [show ([HB.row 21 1 (vs.map (intV .i32)) true] ++ [HB.row 3 1 (iL hs) true]) = [HB.row 21 1 (vs.map (intV .i32)) true, HB.row 3 1 (iL hs) true] from rfl, e2, cl_ret, one1_one, lenP_row, bd_some, fr, bdS_some, Nat.sub_zero, hs2, bd_some, hc2, bd_some]
    rw [show lsl (V.sl 2 ((setAll (⟨1, 0⟩ : R) ((sPuts os).take r) (List.replicate os.length ⟨0, 0⟩)).map R.w) false) = (setAll (⟨1, 0⟩ : R) ((sPuts os).take r) (List.replicate os.length ⟨0, 0⟩)).map R.w from rfl]
    refine e3.trans ?_
    unfold srtApply_l61
    simp only [gv, List.getD_cons_zero, List.getD_cons_succ, iL_len, bop_i64_lss, bd_some, bv_bool]
    rw [if_neg (by simp), app_r0, List.length_map, told2l, e4, cl_ret, one1_one]
  · unfold doneO
    have hp := run_put os most ((sPuts os).take r) (itT ts, bits) (List.replicate os.length ⟨0, 0⟩) (fun x hx => hkp x (List.mem_of_mem_take hx)) (by simp only [itT_len, hlt1]; exact hr2)
    simp only [hlt1, <- hvs, <- hhs, <- I2] at hp
    have hsplit : sPuts os ++ others os = (sPuts os).take r ++ ((sPuts os).drop r ++ others os) := by rw [<- List.append_assoc, List.take_append_drop]
    rw [hsplit, runO_append, hp, runO_append]
    have hfull : runO os most ((sPuts os).drop r) (itT ts2, (hsOf r bits).2) (setAll ⟨1, 0⟩ ((sPuts os).take r) (List.replicate os.length ⟨0, 0⟩)) = ((itT ts2, (hsOf r bits).2), told2) := by
      rcases hr3 with h3 | h3
      · rw [htold2, h3, List.drop_length]; rfl
      · rw [run_full os most _ _ _ (fun x hx => hkp x (List.mem_of_mem_drop hx)) (by simp only [itT_len, hlen2]; omega), htold2]
    rw [hfull]
    exact rr
end Go.Proofs.Try
set_option linter.unusedVariables false
namespace Go.Proofs.Try
open Go.L
set_option maxRecDepth 100000
noncomputable def rSame_l2 (n : Nat) (a : V) (b : V) (st3 : List V) (hh4 : Heap) (next5 : List V -> Heap -> Option (Res × Heap)) : Option (Res × Heap) :=
 (bd (slcH hh4 a) fun p6 =>
 (bd (bop prog .lss 3 (gv st3 1) (V.int .i64 ((p6.2).length : Int))) fun v7 =>
 (bv v7 fun b8 => if b8 then
 (bdS (nv (gv st3 1)) fun n9 =>
 (bd (idxP 1 n9 a) fun p10 =>
 (bd3 (cellsP hh4 p10) fun cs12 m11 o13 => if (o13 + 1 <= m11 /\ 0 < 1) then
 (bd (cs12)[o13]? fun v14 =>
 (bdS (nv (gv st3 1)) fun n15 =>
 (bd (idxP 1 n15 b) fun p16 =>
 (bd3 (cellsP hh4 p16) fun cs18 m17 o19 => if (o19 + 1 <= m17 /\ 0 < 1) then
 (bd (cs18)[o19]? fun v20 =>
 (bd (bop prog .neq 21 v14 v20) fun v21 =>
 (bv v21 fun b22 => if b22 then
 some (Res.ret [(V.bool false)], hh4)
 else
 (bd (bop prog .add 3 (gv st3 1) (V.int .i64 1)) fun v23 =>
 (next5 [(gv st3 0), v23] hh4))))) else none)))) else none)))
 else
 some (Res.ret [(V.bool true)], hh4))))
noncomputable def rSame (n : Nat) (a : V) (b : V) (h : Heap) : Option (Res × Heap) :=
 (bd (slcH h a) fun p0 =>
 (bd (slcH h b) fun p1 =>
 (if (((p0.2).length : Int) != ((p1.2).length : Int)) then
 some (Res.ret [(V.bool false)], h)
 else
 (loopx n (rSame_l2 n a b) [(V.bool false), (V.int .i64 0)] h))))
theorem rSame_eq (n : Nat) (a : V) (b : V) (h : Heap) : call (n + 1) 9 [a, b] h = rSame n a b h := by kernel_rfl
end Go.Proofs.Try
set_option linter.unusedVariables false
set_option linter.unusedSimpArgs false
namespace Go.Proofs.Try
open Go.L Go.Rp Go.Sk
set_option maxRecDepth 100000
end Go.Proofs.Try
set_option linter.unusedVariables false
namespace Go.Proofs.Try
open Go.L
set_option maxRecDepth 100000
noncomputable def lOps_l0 (n : Nat) (c : V) (kinds : Int) (st1 : List V) (hh2 : Heap) (next3 : List V -> Heap -> Option (Res × Heap)) : Option (Res × Heap) :=
 (bd (slcH hh2 c) fun p4 =>
 (bd (bop prog .lss 3 (gv st1 2) (V.int .i64 ((p4.2).length : Int))) fun v5 =>
 (bv v5 fun b6 => if b6 then
 (bd (bop prog .lss 3 (gv st1 2) (V.int .i64 80)) fun v7 =>
 (bv v7 fun b8 => if b8 then
 (bdS (nv (gv st1 2)) fun n9 =>
 (bd (idxP 1 n9 c) fun p10 =>
 (bd3 (cellsP hh2 p10) fun cs12 m11 o13 => if (o13 + 1 <= m11 /\ 0 < 1) then
 (bd (cs12)[o13]? fun v14 =>
 (bd (bop prog .rem 5 v14 (V.int .u8 kinds)) fun v15 =>
 (bd (bop prog .add 5 (V.int .u8 1) v15) fun v16 =>
 (bdS (nv (gv st1 2)) fun n17 =>
 (bd (idxP 1 n17 c) fun p18 =>
 (bd3 (cellsP hh2 p18) fun cs20 m19 o21 => if (o21 + 1 <= m19 /\ 0 < 1) then
 (bd (cs20)[o21]? fun v22 =>
 (bd (bop prog .quo 5 v22 (V.int .u8 8)) fun v23 =>
 (bd (cvt prog 5 21 v23) fun v24 =>
 (bd (bop prog .sub 21 v24 (V.int .i32 9)) fun v25 =>
 (bd (bldV prog 32 [(0, v16), (1, v25)]) fun cs26 =>
 (bd (bslV prog 27 1 [(0, (V.agg cs26))]) fun p27 =>
 (bd (app 32 2 (S.own 32 2 (lsl (gv st1 1))) p27.2) fun l28 =>
 (bd (bop prog .add 3 (gv st1 2) (V.int .i64 1)) fun v29 =>
 (next3 [(V.sl 2 (lsl (gv st1 0)) false), (V.sl 2 l28 false), v29] hh2))))))))) else none)))))) else none)))
 else
 some (Res.ret [(V.sl 2 (lsl (gv st1 1)) false)], hh2)))
 else
 some (Res.ret [(V.sl 2 (lsl (gv st1 1)) false)], hh2))))
noncomputable def lOps (n : Nat) (c : V) (kinds : Int) (h : Heap) : Option (Res × Heap) :=
 (loopx n (lOps_l0 n c kinds) [(V.sl 2 [] false), (V.sl 2 [] false), (V.int .i64 0)] h)
theorem lOps_eq (n : Nat) (c : V) (kinds : Int) (h : Heap) : call (n + 1) 6 [c, (V.int .u8 kinds)] h = lOps n c kinds h := by kernel_rfl
end Go.Proofs.Try
set_option linter.unusedVariables false
set_option linter.unusedSimpArgs false
namespace Go.Proofs.Try
open Go.L Go.Rp
set_option maxRecDepth 100000
theorem bop_u8_rem {a b : Int} (h : b ≠ 0) : bop prog .rem 5 (.int .u8 a) (.int .u8 b) = some (.int .u8 (a.tmod b)) := by
  have : bop prog .rem 5 (.int .u8 a) (.int .u8 b) = if b = 0 then none else some (.int .u8 (a.tmod b)) := by kernel_rfl
  rw [this, if_neg h]
theorem bop_u8_quo8 (a : Int) : bop prog .quo 5 (.int .u8 a) (.int .u8 8) = some (.int .u8 (IntKind.u8.wrap (a.tdiv 8))) := by kernel_rfl
theorem cvt_i32 (a : Int) : cvt prog 5 21 (.int .u8 a) = some (.int .i32 (IntKind.i32.wrap a)) := by kernel_rfl
theorem bld_o (k v : Int) : bldV prog 32 [(0, .int .u8 k), (1, .int .i32 v)] = some (O.w ⟨k, v⟩) := by kernel_rfl
theorem w32 {n : Int} (h1 : -2147483648 <= n) (h2 : n < 2147483648) : IntKind.i32.wrap n = n := by rw [IntKind.wrap_i32]; omega
theorem ops_loop (c : List Int) (z : Nat) (b : Bool) (kinds : Int) (H : Heap) (N : Nat) (hz : z = 1 \/ c = []) (hc : small c = true) (hk1 : 1 <= kinds) (hk2 : kinds <= 100) : ∀ (d k M : Nat), k + d = min c.length 80 -> d < M →
    loopx M (lOps_l0 N (.sl z (c.map (intV .u8)) b) kinds) [.sl 2 [] false, .sl 2 (((c.take k).map (opOf kinds)).map O.w) false, .int .i64 (k : Int)] H = some (.ret [.sl 2 ((ops c kinds).map O.w) false], H)
  | d, k, 0, _, h => by omega
  | 0, k, M + 1, hk, _ => by
    have he : (c.take k).map (opOf kinds) = ops c kinds := by
      unfold ops
      rcases Nat.lt_or_ge 80 c.length with h | h
      · rw [show k = 80 by omega]
      · rw [List.take_of_length_le (by omega), List.take_of_length_le (by omega)]
    rw [loopx_succ, he]
    by_cases hl : (k : Int) < (c.length : Int)
    · have h80 : ¬ (k : Int) < 80 := by omega
      simp only [lOps_l0, gv, List.getD_cons_succ, List.getD_cons_zero, slcH_sl, bd_some, List.length_map, bop_i64_lss, bv_bool, hl, decide_true, if_true, h80, decide_false, Bool.false_eq_true, if_false, lsl]
    · simp only [lOps_l0, gv, List.getD_cons_succ, List.getD_cons_zero, slcH_sl, bd_some, List.length_map, bop_i64_lss, bv_bool, hl, decide_false, Bool.false_eq_true, if_false, lsl]
  | d + 1, k, M + 1, hk, hM => by
    have hl : (k : Int) < (c.length : Int) := by omega
    have h80 : (k : Int) < 80 := by omega
    obtain ⟨x, hx⟩ : ∃ x, c[k]? = some x := ⟨_, List.getElem?_eq_getElem (by omega)⟩
    obtain rfl : z = 1 := hz.resolve_right (by rintro rfl; simp at hx)
    have hxv : (c.map (intV .u8))[k]? = some [.int .u8 x] := by rw [get_ints, hx]; rfl
    have hxs := small_len hc x (List.mem_of_getElem? hx)
    have hk0 : kinds ≠ 0 := by omega
    have e1 : Int.tmod x kinds = x % kinds := Int.tmod_eq_emod_of_nonneg hxs.1
    have h1 := Int.emod_nonneg x hk0
    have h2 := Int.emod_lt_of_pos x (show 0 < kinds by omega)
    have e2 : Int.tdiv x 8 = x / 8 := Int.tdiv_eq_ediv_of_nonneg hxs.1
    have w1 : IntKind.u8.wrap (1 + x % kinds) = 1 + x % kinds := w8 (by omega) (by omega)
    have w2 : IntKind.u8.wrap (x / 8) = x / 8 := w8 (by omega) (by omega)
    have w3 : IntKind.i32.wrap (x / 8) = x / 8 := w32 (by omega) (by omega)
    have w4 : IntKind.i32.wrap (x / 8 - 9) = x / 8 - 9 := w32 (by omega) (by omega)
    have hop : (⟨1 + x % kinds, x / 8 - 9⟩ : O) = opOf kinds x := rfl
    have happ := app_os 32 ((c.take k).map (opOf kinds)) (opOf kinds x) (by rw [List.length_map, List.length_take]; unfold lim; omega)
    have htk : (c.take k).map (opOf kinds) ++ [opOf kinds x] = (c.take (k + 1)).map (opOf kinds) := by
      rw [List.take_add_one, hx, List.map_append]; rfl
    rw [htk] at happ
    rw [loopx_succ]
    simp only [lOps_l0, gv, List.getD_cons_succ, List.getD_cons_zero, slcH_sl, idxP_sl hxv, cellsP_iptr, bd3_some, Nat.zero_add, Nat.le_refl, Nat.reduceLT, and_self, bd_some, List.length_map, bop_i64_lss, bv_bool, hl, h80, decide_true, if_true, nv_nat, bdS_some, get_ints, hx, Option.map_some, intV, List.getElem?_cons_zero, bop_u8_rem hk0, e1, bop_u8_add, w1, bop_u8_quo8, e2, w2, cvt_i32, w3, bop_i32_sub, w4, bld_o, hop, bsl_o, lsl, happ, bop_i64_add, step64 (show k < lim by unfold lim; omega)]
    exact ops_loop c 1 b kinds H N (.inl rfl) hc hk1 hk2 d (k + 1) M (by omega) (by omega)
theorem ops_call (n : Nat) (c : List Int) (z : Nat) (b : Bool) (kinds : Int) (H : Heap) (hz : z = 1 \/ c = []) (hc : small c = true) (hk1 : 1 <= kinds) (hk2 : kinds <= 100) (hn : 90 <= n) :
    call n 6 [.sl z (c.map (intV .u8)) b, .int .u8 kinds] H = some (.ret [.sl 2 ((ops c kinds).map O.w) false], H) := by
  obtain ⟨N, rfl⟩ : ∃ N, n = N + 1 := ⟨n - 1, by omega⟩
  rw [lOps_eq]
  unfold lOps
  exact ops_loop c z b kinds H N hz hc hk1 hk2 (min c.length 80) 0 N (by omega) (by omega)
theorem ops_len (c : List Int) (kinds : Int) : (ops c kinds).length <= 80 := by unfold ops; simp; omega
end Go.Proofs.Try
set_option linter.unusedVariables false
set_option linter.unusedSimpArgs false
namespace Go.Proofs.Try
open Go.L Go.Rp Go.Sk
set_option maxRecDepth 100000
theorem RowR.get {h : Heap} {b : Nat} {l : List R} (r : RowR h b l) {i : Nat} {x : R} (hx : l[i]? = some x) (o : Nat) : idxP 2 i (.row b 2 0 l.length) = some (.rptr b 2 i 0) /\ cellsP h (.rptr b 2 i o) = some (R.w x, 2, o) := by
  obtain ⟨z, hz⟩ := r
  have hi := (List.getElem?_eq_some_iff.1 hx).1
  exact ⟨idx_told hi, cellsP_rptr hz (by decide) (by rw [get_rs, hx]; rfl)⟩
theorem RowR.slc {h : Heap} {b : Nat} {l : List R} (r : RowR h b l) : slcH h (.row b 2 0 l.length) = some (2, l.map R.w) := by
  obtain ⟨z, hz⟩ := r
  have := slcH_all hz
  rwa [List.length_map] at this
theorem rw_0 (x : R) : (R.w x)[0]? = some (.int .u8 x.c) := rfl
end Go.Proofs.Try
set_option linter.unusedVariables false
set_option linter.unusedSimpArgs false
namespace Go.Proofs.Try
open Go.L Go.Rp Go.Sk
set_option maxRecDepth 100000
def Sees (h : Heap) (r : V) (l : List Int) : Prop := (∃ sz, slcH h r = some (sz, l.map (intV .i32))) /\ ∀ (i : Nat) (x : Int), l[i]? = some x -> ∃ p, idxP 1 i r = some p /\ cellsP h p = some ([.int .i32 x], 1, 0)
theorem RowI.sees {h : Heap} {b : Nat} {L : List Int} (r : RowI h b .i32 21 L) {lo hi : Nat} (h1 : lo <= hi) (h2 : hi <= L.length) : Sees h (.row b 1 lo hi) ((L.take hi).drop lo) := by
  refine ⟨⟨1, r.slcP h1 h2⟩, fun i x hx => ?_⟩
  rw [List.getElem?_drop] at hx
  have hi' : lo + i < hi := by
    have := (List.getElem?_eq_some_iff.1 hx).1
    rw [List.length_take] at this
    omega
  rw [List.getElem?_take_of_lt hi'] at hx
  obtain ⟨a, c⟩ := r.getP hi' hx
  exact ⟨_, a, c⟩
theorem sees_nil (h : Heap) : Sees h (.sl 0 [] true) [] := ⟨⟨0, rfl⟩, fun i x hx => by simp at hx⟩
theorem SlI.sees {h : Heap} {lo : Nat} {r : V} {l : List Int} (s : SlI h lo r l) : Sees h r l := by
  rcases s with ⟨rfl, rfl⟩ | ⟨b, z, _, rfl, hz⟩
  · exact sees_nil h
  · have := RowI.sees (L := l) ⟨z, hz⟩ (Nat.zero_le l.length) (Nat.le_refl _)
    rwa [List.take_length, List.drop_zero] at this
theorem rSame_loop (n : Nat) {h : Heap} {a b : V} {l : List Int} (ha : Sees h a l) (hb : Sees h b l) (hl : l.length < lim) : ∀ (d i M : Nat) (v0 : V), i + d = l.length -> d < M -> loopx M (rSame_l2 n a b) [v0, .int .i64 (i : Int)] h = some (.ret [.bool true], h) := by
  obtain ⟨⟨sa, hsa⟩, ga⟩ := ha
  intro d
  induction d with
  | zero =>
    intro i M v0 h1 h2
    obtain ⟨M, rfl⟩ : ∃ M', M = M' + 1 := ⟨M - 1, by omega⟩
    obtain rfl : i = l.length := by omega
    rw [loopx_succ]
    unfold rSame_l2
    rw [hsa, bd_some]
    simp only [gv, List.getD_cons_zero, List.getD_cons_succ, List.length_map, bop_i64_lss, bd_some, bv_bool]
    rw [if_neg (by simp)]
  | succ d ih =>
    intro i M v0 h1 h2
    obtain ⟨M, rfl⟩ : ∃ M', M = M' + 1 := ⟨M - 1, by omega⟩
    obtain ⟨x, hx⟩ : ∃ x, l[i]? = some x := ⟨_, List.getElem?_eq_getElem (by omega)⟩
    obtain ⟨p, p1, p2⟩ := ga i x hx
    obtain ⟨q, q1, q2⟩ := hb.2 i x hx
    have hlt : decide ((i : Int) < (l.length : Int)) = true := by simp; omega
    have key : ∀ next, rSame_l2 n a b [v0, .int .i64 (i : Int)] h next = next [v0, .int .i64 ((i + 1 : Nat) : Int)] h := by
      intro next
      unfold rSame_l2
      rw [hsa, bd_some]
      simp only [gv, List.getD_cons_zero, List.getD_cons_succ, List.length_map, bop_i64_lss, bd_some, bv_bool, hlt, if_true, nv_nat, bdS_some, p1, p2, q1, q2, bd3_some, Nat.zero_add, Nat.le_refl, Nat.reduceLT, and_self, List.getElem?_cons_zero, bop_i32_neq, bop_i64_add, step64 (show i < lim by omega)]
      rw [if_neg (by simp)]
    rw [loopx_succ, key]
    exact ih (i + 1) M v0 (by omega) (by omega)
theorem rSame_call (n : Nat) {h : Heap} {a b : V} {l : List Int} (ha : Sees h a l) (hb : Sees h b l) (hl : l.length < lim) (hn : l.length < n) : call (n + 1) 9 [a, b] h = some (.ret [.bool true], h) := by
  refine (rSame_eq n a b h).trans ?_
  unfold rSame
  obtain ⟨sa, hsa⟩ := ha.1
  obtain ⟨sb, hsb⟩ := hb.1
  rw [hsa, bd_some, hsb, bd_some, if_neg (by simp)]
  exact rSame_loop n ha hb hl l.length 0 n (.bool false) (by omega) hn
end Go.Proofs.Try
set_option linter.unusedVariables false
set_option linter.unusedSimpArgs false
namespace Go.Sk
open Go.L Go.Rp
theorem stkStep_le (m : Nat) (c x : Int) (xs : List Int) (h : xs.length <= m) : (stkStep (m : Int) c x xs).2.length <= m := by
  unfold stkStep
  split
  · split
    · simp; omega
    · exact h
  · split
    · split
      · simp; omega
      · exact h
    · exact h
theorem stkRun_le (m : Nat) : ∀ (l : List O) (xs : List Int), xs.length <= m -> (stkRun (m : Int) l xs).2.length <= m
  | [], _, h => h
  | o :: l, xs, h => stkRun_le m l _ (stkStep_le m o.k o.v xs h)
theorem rngStep_le (m : Nat) (c x : Int) (xs : List Int) (h : xs.length <= m) : (rngStep (m : Int) c x xs).2.length <= m := by
  unfold rngStep
  split
  · split
    · simp; omega
    · exact h
  split
  · split
    · simp; omega
    · exact h
  split
  · split
    · simp at h ⊢; omega
    · exact h
  split
  · split
    · simp; omega
    · exact h
  · exact h
theorem rngRun_le (m : Nat) : ∀ (l : List O) (xs : List Int), xs.length <= m -> (rngRun (m : Int) l xs).2.length <= m
  | [], _, h => h
  | o :: l, xs, h => rngRun_le m l _ (rngStep_le m o.k o.v xs h)
end Go.Sk
namespace Go.Proofs.Try
open Go.L Go.Rp Go.Sk
set_option maxRecDepth 100000
theorem one_rng_loop (n s : Nat) (osb : Bool) (b c : Nat) (hc : c < 100000) (os : List O) (hos : os.length < lim) : ∀ (d i N : Nat) (h : Heap) (xs : List Int) (done : List R), RngAt h s b c xs -> i + d = os.length -> done.length = i -> d < N →
    ∃ h', loopx N (objOneR_l2 (n + 3) s (os.map O.w) osb) [.sl 2 [] false, .sl 2 (done.map R.w ++ List.replicate d [.int .u8 0, .int .i32 0]) false, .bool false, .int .i64 (i : Int)] h = some (.ret [.row h'.length 2 0 os.length], h' ++ [.row 34 2 ((done ++ (rngRun (c : Int) (os.drop i) xs).1).map R.w) true]) /\ RngAt h' s b c (rngRun (c : Int) (os.drop i) xs).2 /\ RFed h h' s b := by
  intro d
  induction d with
  | zero =>
    intro i N h xs done hb h1 h2 h3
    obtain ⟨N, rfl⟩ : ∃ N', N = N' + 1 := ⟨N - 1, by omega⟩
    rw [loopx_succ]
    unfold objOneR_l2
    simp only [gv, List.getD_cons_zero, List.getD_cons_succ]
    rw [bop_i64_lss, bd_some, bv_bool, if_neg (by simp; omega), List.drop_eq_nil_of_le (by omega)]
    refine ⟨h, ?_, hb, RFed.refl ..⟩
    simp only [lsl, rngRun, List.append_nil, List.replicate_zero, List.length_map]
    rw [show done.length = os.length by omega]
  | succ d ih =>
    intro i N h xs done hb h1 h2 h3
    obtain ⟨N, rfl⟩ : ∃ N', N = N' + 1 := ⟨N - 1, by omega⟩
    have hi : i < os.length := by omega
    obtain ⟨h', e, b1, b2⟩ := rng_do_call n hb hc os[i].k os[i].v
    obtain ⟨h'', e', d1, d2⟩ := ih (i + 1) N h' _ (done ++ [rngR (c : Int) os[i] xs]) b1 (by omega) (by simp; omega) (by omega)
    have hd : os.drop i = os[i] :: os.drop (i + 1) := List.drop_eq_getElem_cons hi
    refine ⟨h'', ?_, by rw [hd]; exact d1, b2.trans d2⟩
    rw [hd]
    simp only [rngRun]
    rw [show done ++ (rngR (c : Int) os[i] xs :: (rngRun (c : Int) (os.drop (i + 1)) (rngStep (c : Int) os[i].k os[i].v xs).2).1) = done ++ [rngR (c : Int) os[i] xs] ++ (rngRun (c : Int) (os.drop (i + 1)) (rngStep (c : Int) os[i].k os[i].v xs).2).1 by simp, <- e', loopx_succ]
    have hix : idxP 2 i (.sl 2 (os.map O.w) osb) = some (.iptr 2 (O.w os[i]) 0) := by
      simp [idxP, List.getElem?_eq_getElem hi]
    have key : ∀ next, objOneR_l2 (n + 3) s (os.map O.w) osb [.sl 2 [] false, .sl 2 (done.map R.w ++ List.replicate (d + 1) [.int .u8 0, .int .i32 0]) false, .bool false, .int .i64 (i : Int)] h next = next [.sl 2 [] false, .sl 2 ((done ++ [rngR (c : Int) os[i] xs]).map R.w ++ List.replicate d [.int .u8 0, .int .i32 0]) false, .bool false, .int .i64 ((i + 1 : Nat) : Int)] h' := by
      intro next
      unfold objOneR_l2
      simp only [gv, List.getD_cons_zero, List.getD_cons_succ]
      rw [bop_i64_lss, bd_some, bv_bool, if_pos (by simp; omega), nv_nat, bdS_some, hix, bd_some]
      simp only [cellsP]
      rw [bd3_some, if_pos (by decide), List.drop_zero, ow_take, if_pos (ow_len _), if_pos (by rw [ow_len]; decide), set_o, List.drop_zero, ow_take]
      show cl (call (n + 3) _ [.ptr s 0, .agg [.int .u8 os[i].k, .int .i32 os[i].v]] h) _ _ = _
      rw [e, cl_ret, one1_one, bdS_some]
      have hlen : i < (done.map R.w ++ List.replicate (d + 1) [V.int .u8 0, V.int .i32 0]).length := by simp; omega
      have hget : (done.map R.w ++ List.replicate (d + 1) [V.int .u8 0, V.int .i32 0])[i]? = some [.int .u8 0, .int .i32 0] := by
        rw [List.getElem?_append_right (by simp; omega)]; simp [h2]
      rw [if_pos (by refine ⟨?_, hlen, by decide⟩; first | trivial | rfl), if_pos (by rfl), if_pos (by refine ⟨?_, by decide, Nat.le_refl 2⟩; first | trivial | rfl)]
      simp only [lsl, resV, V.cells]
      rw [hget, bd_some, bop_i64_add, bd_some, step64 (by omega)]
      have hset : (done.map R.w ++ List.replicate (d + 1) [V.int .u8 0, V.int .i32 0]).set i (setR [V.int .u8 0, V.int .i32 0] 0 [V.int .u8 (rngStep (c : Int) os[i].k os[i].v xs).1.1, V.int .i32 (rngStep (c : Int) os[i].k os[i].v xs).1.2]) = (done ++ [rngR (c : Int) os[i] xs]).map R.w ++ List.replicate d [V.int .u8 0, V.int .i32 0] := by
        rw [List.set_append_right _ _ (by simp; omega)]
        simp [h2, List.replicate_succ, R.w, setR, rngR]
      rw [hset]
    rw [key]
theorem one_rng_call (n s : Nat) {h : Heap} {b c : Nat} {xs : List Int} (hb : RngAt h s b c xs) (hc : c < 100000) (os : List O) (osb : Bool) (hos : os.length < lim) (hn : os.length < n) :
    ∃ h', call (n + 4) 42 [.bf 66 [.ptr s 0], .sl 2 (os.map O.w) osb] h = some (.ret [.row h'.length 2 0 os.length], h' ++ [.row 34 2 ((rngRun (c : Int) os xs).1.map R.w) true]) /\ RngAt h' s b c (rngRun (c : Int) os xs).2 /\ RFed h h' s b := by
  obtain ⟨h', e, b1, b2⟩ := one_rng_loop n s osb b c hc os hos os.length 0 (n + 3) h xs [] hb (by omega) rfl (by omega)
  refine ⟨h', (objOneR_eq (n + 3) s _ osb h).trans ?_, b1, b2⟩
  unfold objOneR
  rw [List.length_map, nv_nat, bdS_some, bdS_some, if_pos ⟨Nat.le_refl _, by omega, rfl⟩]
  exact e
def noH (xs : List Int) : List (Int × Nat) := xs.map fun x => (x, 0)
theorem noH_len (xs : List Int) : (noH xs).length = xs.length := List.length_map ..
theorem noH_fst (xs : List Int) : (noH xs).map Prod.fst = xs := by unfold noH; rw [List.map_map]; exact List.map_id _
def obDo (k m : Nat) (os : List O) (st : St) : St × List R :=
  if k = 1 then ((noH (stkRun (m : Int) os (st.1.map Prod.fst)).2, st.2), (stkRun (m : Int) os (st.1.map Prod.fst)).1)
  else if k = 2 then ((noH (rngRun (m : Int) os (st.1.map Prod.fst)).2, st.2), (rngRun (m : Int) os (st.1.map Prod.fst)).1)
  else doneO os (m : Int) st
def BodAt (k : Nat) (h : Heap) (s : Nat) (Y : List Nat) (m : Nat) (its : List (Int × Nat)) : Prop :=
  (k = 1 /\ ∃ xs qb, its = noH xs /\ StkAt h s qb (m : Int) xs /\ Y = s :: qb.toList) ∨
  (k = 2 /\ ∃ xs b, its = noH xs /\ RngAt h s b m xs /\ Y = [s, b]) ∨
  (k = 3 /\ ∃ ts, its = itT ts /\ (∃ N, SkAt h s ts (m : Int) N) /\ Y = skB s ts)
def bodV (k s : Nat) : V := .iface (if k = 1 then 45 else if k = 2 then 49 else 53) (.agg [.ptr s 0])
structure ObAt (k : Nat) (h : Heap) (o s c : Nat) (cb : Option Nat) (Y : List Nat) (m : Nat) (pl : Bool) (st : St) : Prop where
  box : h[o]? = some (.box 3 [bodV k s, .ptr c 0, .bool pl])
  bits : BitsAt h c cb st.2
  body : BodAt k h s Y m st.1
  room : st.1.length <= m
  most : m <= 1000
  oc : o ≠ c
  ocb : cb ≠ some o
  oY : o ∉ Y
  cY : c ∉ Y
  cbY : ∀ b, cb = some b -> b ∉ Y
def obB (o c : Nat) (cb : Option Nat) (Y : List Nat) : List Nat := o :: c :: (cb.toList ++ Y)
theorem BodAt.lt {k : Nat} {h : Heap} {s : Nat} {Y : List Nat} {m : Nat} {its : List (Int × Nat)} (B : BodAt k h s Y m its) : ∀ y ∈ Y, y < h.length := by
  rcases B with ⟨rfl, xs, qb, rfl, S, rfl⟩ | ⟨rfl, xs, b, rfl, R, rfl⟩ | ⟨rfl, ts, rfl, ⟨N, S⟩, rfl⟩
  · intro y hy
    obtain ⟨v, sz, k1, k2⟩ := S.box
    rcases List.mem_cons.1 hy with rfl | hy
    · exact lt_of_at k1
    · cases qb with
      | none => simp at hy
      | some b =>
        simp at hy; subst hy
        obtain ⟨_, l, z, _, k3, _⟩ := S
        exact lt_of_at k3
  · intro y hy
    obtain ⟨_, l, z, f, k1, k2, _⟩ := R
    simp at hy
    rcases hy with rfl | rfl
    · exact lt_of_at k1
    · exact lt_of_at k2
  · exact S.lt
theorem BitsAt.blt {h : Heap} {c b : Nat} {bits : List Bool} (B : BitsAt h c (some b) bits) : b < h.length := by
  obtain ⟨_, lo, l, z, _, k, _⟩ := B
  exact lt_of_at k
theorem BitsAt.clt {h : Heap} {c : Nat} {cb : Option Nat} {bits : List Bool} (B : BitsAt h c cb bits) : c < h.length := by
  cases cb with
  | none => exact lt_of_at B.2
  | some b =>
    obtain ⟨_, lo, l, z, k, _⟩ := B
    exact lt_of_at k
theorem BodAt.keep {k : Nat} {h h' : Heap} {s : Nat} {Y : List Nat} {m : Nat} {its : List (Int × Nat)} (B : BodAt k h s Y m its) (hk : ∀ y ∈ Y, h'[y]? = h[y]?) : BodAt k h' s Y m its := by
  rcases B with ⟨rfl, xs, qb, rfl, S, rfl⟩ | ⟨rfl, xs, b, rfl, R, rfl⟩ | ⟨rfl, ts, rfl, ⟨N, S⟩, rfl⟩
  · exact .inl ⟨rfl, xs, qb, rfl, S.keep (hk s (by simp)) (fun b hb => hk b (by simp [hb])), rfl⟩
  · exact .inr (.inl ⟨rfl, xs, b, rfl, R.keep (hk s (by simp)) (hk b (by simp)), rfl⟩)
  · exact .inr (.inr ⟨rfl, ts, rfl, ⟨N, S.keep hk⟩, rfl⟩)
theorem ObAt.keep {k : Nat} {h h' : Heap} {o s c : Nat} {cb : Option Nat} {Y : List Nat} {m : Nat} {pl : Bool} {st : St} (A : ObAt k h o s c cb Y m pl st) (hk : ∀ y ∈ obB o c cb Y, h'[y]? = h[y]?) : ObAt k h' o s c cb Y m pl st :=
  ⟨(hk o (by simp [obB])).trans A.box, A.bits.keep (hk c (by simp [obB])) (fun b hb => hk b (by simp [obB, hb])), A.body.keep (fun y hy => hk y (by simp [obB, hy])), A.room, A.most, A.oc, A.ocb, A.oY, A.cY, A.cbY⟩
theorem ObAt.lt {k : Nat} {h : Heap} {o s c : Nat} {cb : Option Nat} {Y : List Nat} {m : Nat} {pl : Bool} {st : St} (A : ObAt k h o s c cb Y m pl st) : ∀ y ∈ obB o c cb Y, y < h.length := by
  intro y hy
  simp only [obB, List.mem_cons, List.mem_append] at hy
  rcases hy with rfl | rfl | hy | hy
  · exact lt_of_at A.box
  · exact A.bits.clt
  · cases cb with
    | none => simp at hy
    | some b => simp at hy; subst hy; exact A.bits.blt
  · exact A.body.lt y hy
structure XFed (h h' : Heap) (X X' : List Nat) : Prop where
  len : h.length <= h'.length
  old : ∀ i, i < h.length -> i ∉ X -> h'[i]? = h[i]?
  new : ∀ x ∈ X', x ∈ X \/ h.length <= x
structure BFed (h h' : Heap) (c : Nat) (Y Y' : List Nat) : Prop where
  len : h.length <= h'.length
  old : ∀ i, i < h.length -> i ∉ c :: Y -> h'[i]? = h[i]?
  new : ∀ x ∈ Y', x ∈ Y \/ h.length <= x
def bodF (k : Nat) (pl : Bool) : Nat := if k = 1 then (if pl then 40 else 38) else if k = 2 then (if pl then 64 else 62) else (if pl then 89 else 87)
theorem bod_call (n : Nat) {k : Nat} {h : Heap} {s c : Nat} {cb : Option Nat} {Y : List Nat} {m : Nat} {st : St} (pl : Bool) (B : BodAt k h s Y m st.1) (C : BitsAt h c cb st.2) (room : st.1.length <= m) (hm : m <= 1000) (cY : c ∉ Y) (cbY : ∀ b, cb = some b -> b ∉ Y) (os : List O) (osb : Bool) (hk : ∀ o ∈ os, 0 <= o.k /\ o.k < 256) (hos : os.length <= 1000) (hn : 2 * os.length + m + 100 <= n) :
    ∃ h' Y' T, call (n + 7) (bodF k pl) [.agg [.ptr s 0], .ptr c 0, .sl 2 (os.map O.w) osb] h = some (.ret [.row T 2 0 os.length], h') /\ RowR h' T (obDo k m os st).2 /\ BodAt k h' s Y' m (obDo k m os st).1.1 /\ BitsAt h' c cb (obDo k m os st).1.2 /\ (obDo k m os st).1.1.length <= m /\ h.length <= T /\ T ∉ Y' /\ BFed h h' c Y Y' := by
  have hlim : 1000000 < lim := by unfold lim; omega
  have hlt := B.lt
  have hcl := C.clt
  rcases B with ⟨rfl, xs, qb, hits, S, rfl⟩ | ⟨rfl, xs, b, hits, RR, rfl⟩ | ⟨rfl, ts, hits, S, rfl⟩
  · have hxs : st.1.map Prod.fst = xs := by rw [hits, noH_fst]
    have hxl : xs.length <= m := by rw [hits, noH_len] at room; exact room
    have hsc : c ≠ s := fun e => cY (by simp [e])
    have hcq : qb ≠ some c := fun e => cY (by simp [e])
    have hsb : ∀ b, cb = some b -> b ≠ s /\ qb ≠ some b := fun b hb => ⟨fun e => cbY b hb (by simp [e]), fun e => cbY b hb (by simp [e])⟩
    simp only [obDo, hxs, if_true]
    have hrl := stkRun_le m os xs hxl
    cases pl with
    | false =>
      obtain ⟨h', qb', T, e, c1, c2, c3, c4, c5⟩ := mat_apply_call (n + 1) S os osb hxl (by omega) (by omega) (by omega) (fun b hb => hlt b (by simp [hb]))
      refine ⟨h', s :: qb'.toList, T, ?_, ⟨true, c1⟩, .inl ⟨rfl, _, qb', rfl, c4, rfl⟩, C.keep (c5.old c hcl hsc hcq) (fun b hb => c5.old b (hb ▸ C).blt (hsb b hb).1 (hsb b hb).2), by rw [noH_len]; exact hrl, c2, ?_, ⟨c5.len, fun i h1 h2 => c5.old i h1 (fun e => h2 (by simp [e])) (fun e => h2 (by simp [e])), ?_⟩⟩
      · show call (n + 6 + 1) 38 _ h = _
        rw [stkBatch_eq]
        unfold stkBatch
        rw [e, cl_ret, one1_one]
      · intro hT
        have := hlt s (by simp)
        rcases List.mem_cons.1 hT with rfl | hT
        · omega
        · cases qb' with
          | none => simp at hT
          | some b => simp at hT; exact c3 (by rw [hT])
      · intro x hx
        rcases List.mem_cons.1 hx with rfl | hx
        · exact .inl (by simp)
        · cases qb' with
          | none => simp at hx
          | some b =>
            simp at hx; subst hx
            rcases c5.own _ rfl with e | e
            · exact .inl (by simp [e])
            · exact .inr e
    | true =>
      obtain ⟨h', qb', e, c4, c5⟩ := one_stk_call n s S os osb hk (by omega) (by omega)
      have hk' : ∀ j, j < h'.length -> (h' ++ [HB.row 34 2 ((stkRun (m : Int) os xs).1.map R.w) true])[j]? = h'[j]? := fun j hj => List.getElem?_append_left hj
      have hql : ∀ b, qb' = some b -> b < h'.length := fun b hb => by
        rw [hb] at c4
        obtain ⟨_, l, z, _, k3, _⟩ := c4
        exact lt_of_at k3
      have hsl' : s < h'.length := by have := hlt s (by simp); have := c5.len; omega
      have hlen := c5.len
      refine ⟨h' ++ [HB.row 34 2 ((stkRun (m : Int) os xs).1.map R.w) true], s :: qb'.toList, h'.length, ?_, ⟨true, List.getElem?_concat_length⟩, .inl ⟨rfl, _, qb', rfl, c4.keep (hk' s hsl') (fun b hb => hk' b (hql b hb)), rfl⟩, C.keep ((hk' c (by omega)).trans (c5.old c hcl hsc hcq)) (fun b hb => (hk' b (by have := (hb ▸ C).blt; omega)).trans (c5.old b (hb ▸ C).blt (hsb b hb).1 (hsb b hb).2)), by rw [noH_len]; exact hrl, hlen, ?_, ⟨by simp; omega, fun i h1 h2 => (hk' i (by omega)).trans (c5.old i h1 (fun e => h2 (by simp [e])) (fun e => h2 (by simp [e]))), ?_⟩⟩
      · show call (n + 6 + 1) 40 _ h = _
        rw [stkPlain_eq]
        unfold stkPlain
        rw [e, cl_ret, one1_one]
      · intro hT
        rcases List.mem_cons.1 hT with hT | hT
        · omega
        · cases qb' with
          | none => simp at hT
          | some b => simp at hT; have := hql b rfl; omega
      · intro x hx
        rcases List.mem_cons.1 hx with rfl | hx
        · exact .inl (by simp)
        · cases qb' with
          | none => simp at hx
          | some b =>
            simp at hx; subst hx
            rcases c5.own _ rfl with e | e
            · exact .inl (by simp [e])
            · exact .inr e
  · have hxs : st.1.map Prod.fst = xs := by rw [hits, noH_fst]
    have hxl : xs.length <= m := by rw [hits, noH_len] at room; exact room
    have hsc : c ≠ s := fun e => cY (by simp [e])
    have hcq : c ≠ b := fun e => cY (by simp [e])
    have hsb : ∀ x, cb = some x -> x ≠ s /\ x ≠ b := fun x hb => ⟨fun e => cbY x hb (by simp [e]), fun e => cbY x hb (by simp [e])⟩
    have hsl := hlt s (by simp)
    have hbl := hlt b (by simp)
    simp only [obDo, hxs, if_neg (show ¬ (2 = 1) by decide), if_true]
    have hrl := rngRun_le m os xs hxl
    cases pl with
    | false =>
      obtain ⟨h', T, e, c1, c2, c4, c5, c6⟩ := end_apply_call (n + 1) RR os osb (by omega) (by omega) (by omega)
      refine ⟨h', [s, b], T, ?_, ⟨true, c1⟩, .inr (.inl ⟨rfl, _, b, rfl, c4, rfl⟩), C.keep (c6 c hcl hsc hcq) (fun x hb => c6 x (hb ▸ C).blt (hsb x hb).1 (hsb x hb).2), by rw [noH_len]; exact hrl, c2, ?_, ⟨c5, fun i h1 h2 => c6 i h1 (fun e => h2 (by simp [e])) (fun e => h2 (by simp [e])), fun x hx => .inl hx⟩⟩
      · show call (n + 6 + 1) 62 _ h = _
        rw [rngBatch_eq]
        unfold rngBatch
        rw [e, cl_ret, one1_one]
      · simp; omega
    | true =>
      obtain ⟨h', e, c4, c5⟩ := one_rng_call (n + 2) s RR (by omega) os osb (by omega) (by omega)
      have hlen := c5.len
      have hk' : ∀ j, j < h'.length -> (h' ++ [HB.row 34 2 ((rngRun (m : Int) os xs).1.map R.w) true])[j]? = h'[j]? := fun j hj => List.getElem?_append_left hj
      refine ⟨h' ++ [HB.row 34 2 ((rngRun (m : Int) os xs).1.map R.w) true], [s, b], h'.length, ?_, ⟨true, List.getElem?_concat_length⟩, .inr (.inl ⟨rfl, _, b, rfl, c4.keep (hk' s (by omega)) (hk' b (by omega)), rfl⟩), C.keep ((hk' c (by omega)).trans (c5.old c hsc hcq)) (fun x hb => (hk' x (by have := (hb ▸ C).blt; omega)).trans (c5.old x (hsb x hb).1 (hsb x hb).2)), by rw [noH_len]; exact hrl, by omega, ?_, ⟨by simp; omega, fun i h1 h2 => (hk' i (by omega)).trans (c5.old i (fun e => h2 (by simp [e])) (fun e => h2 (by simp [e]))), fun x hx => .inl hx⟩⟩
      · show call (n + 6 + 1) 64 _ h = _
        rw [rngPlain_eq]
        unfold rngPlain
        rw [e, cl_ret, one1_one]
      · simp; omega
  · have hst : st = (itT ts, st.2) := by rw [<- hits]
    have htl : ts.length <= m := by rw [hits] at room; simpa [itT] using room
    simp only [obDo, if_neg (show ¬ (3 = 1) by decide), if_neg (show ¬ (3 = 2) by decide)]
    have fin : ∀ (h' : Heap) (ts' : List Tw) (bits' : List Bool) (tb : Nat) (told' : List R), Did h h' s ts ts' (m : Int) c cb bits' tb told' -> doneO os (m : Int) (itT ts, st.2) = ((itT ts', bits'), told') -> RowR h' tb (doneO os (m : Int) st).2 /\ BodAt 3 h' s (skB s ts') m (doneO os (m : Int) st).1.1 /\ BitsAt h' c cb (doneO os (m : Int) st).1.2 /\ (doneO os (m : Int) st).1.1.length <= m /\ h.length <= tb /\ tb ∉ skB s ts' /\ BFed h h' c (skB s ts) (skB s ts') := by
      intro h' ts' bits' tb told' D hd
      rw [hst, hd]
      refine ⟨D.tl, .inr (.inr ⟨rfl, ts', rfl, D.sk, rfl⟩), D.bt, ?_, D.tb, ?_, ⟨D.frm.len, fun i h1 h2 => D.frm.old i h1 h2, fun x hx => ?_⟩⟩
      · have := D.room; simp [itT]; omega
      · intro hT
        obtain ⟨N, S'⟩ := D.sk
        unfold skB at hT
        rw [<- nds_bs s (ts'.length : Int) (m : Int) ts'] at hT
        obtain ⟨x, hx, rfl⟩ := List.mem_map.1 hT
        have h1 := S'.rep.at_ x hx
        obtain ⟨z, hz⟩ := D.tl
        unfold NodeAt at h1
        rw [hz] at h1
        cases h1
      · rcases D.new x hx with e | e
        · exact .inl e
        · exact .inr e
    cases pl with
    | false =>
      obtain ⟨h', ts', bits', tb, told', e, D, hd⟩ := srtApply_call (n + 2) os osb S C cY cbY (by omega) (by omega) (by omega) (by omega)
      refine ⟨h', skB s ts', tb, ?_, fin h' ts' bits' tb told' D hd⟩
      show call (n + 6 + 1) 87 _ h = _
      rw [skpBatch_eq]
      unfold skpBatch
      rw [e, cl_ret, one1_one]
    | true =>
      obtain ⟨h', ts', bits', tb, told', e, D, hd⟩ := plain_call (n + 2) os osb S C cY cbY (by omega) (by omega) (by omega)
      refine ⟨h', skB s ts', tb, ?_, fin h' ts' bits' tb told' D hd⟩
      show call (n + 6 + 1) 89 _ h = _
      rw [skpPlain_eq]
      unfold skpPlain
      rw [e, cl_ret, one1_one]
end Go.Proofs.Try
set_option linter.unusedVariables false
set_option linter.unusedSimpArgs false
namespace Go.Proofs.Try
open Go.L Go.Rp Go.Sk
set_option maxRecDepth 100000
theorem bop_obj_nil (h : Heap) (c : Nat) : bopH prog h .eql 23 (V.ptr c 0) (V.val (.pointer none)) = some (.bool false) := by kernel_rfl
theorem BodAt.kind {k : Nat} {h : Heap} {s : Nat} {Y : List Nat} {m : Nat} {its : List (Int × Nat)} (B : BodAt k h s Y m its) : k = 1 \/ k = 2 \/ k = 3 := by
  rcases B with ⟨h, _⟩ | ⟨h, _⟩ | ⟨h, _⟩ <;> omega
def tagK (k : Nat) : Nat := if k = 1 then 45 else if k = 2 then 49 else 53
theorem meth_plain {k : Nat} (hk : k = 1 \/ k = 2 \/ k = 3) (s : Nat) : methV prog (tagK k) (.agg [.ptr s 0]) "reaper/object.plain" = some (bodF k true, .agg [.ptr s 0]) := by
  rcases hk with rfl | rfl | rfl
  · show methV prog 45 (.agg [.ptr s 0]) "reaper/object.plain" = some (40, .agg [.ptr s 0]); kernel_rfl
  · show methV prog 49 (.agg [.ptr s 0]) "reaper/object.plain" = some (64, .agg [.ptr s 0]); kernel_rfl
  · show methV prog 53 (.agg [.ptr s 0]) "reaper/object.plain" = some (89, .agg [.ptr s 0]); kernel_rfl
theorem meth_batch {k : Nat} (hk : k = 1 \/ k = 2 \/ k = 3) (s : Nat) : methV prog (tagK k) (.agg [.ptr s 0]) "reaper/object.batch" = some (bodF k false, .agg [.ptr s 0]) := by
  rcases hk with rfl | rfl | rfl
  · show methV prog 45 (.agg [.ptr s 0]) "reaper/object.batch" = some (38, .agg [.ptr s 0]); kernel_rfl
  · show methV prog 49 (.agg [.ptr s 0]) "reaper/object.batch" = some (62, .agg [.ptr s 0]); kernel_rfl
  · show methV prog 53 (.agg [.ptr s 0]) "reaper/object.batch" = some (87, .agg [.ptr s 0]); kernel_rfl
theorem bodF_ok {k : Nat} (hk : k = 1 \/ k = 2 \/ k = 3) (pl : Bool) : keepS (bodF k pl) = true /\ okV prog 25 (bodF k pl) = true := by
  rcases hk with rfl | rfl | rfl <;> cases pl
  · show keepS 38 = true /\ okV prog 25 38 = true; exact ⟨by kernel_rfl, by kernel_rfl⟩
  · show keepS 40 = true /\ okV prog 25 40 = true; exact ⟨by kernel_rfl, by kernel_rfl⟩
  · show keepS 62 = true /\ okV prog 25 62 = true; exact ⟨by kernel_rfl, by kernel_rfl⟩
  · show keepS 64 = true /\ okV prog 25 64 = true; exact ⟨by kernel_rfl, by kernel_rfl⟩
  · show keepS 87 = true /\ okV prog 25 87 = true; exact ⟨by kernel_rfl, by kernel_rfl⟩
  · show keepS 89 = true /\ okV prog 25 89 = true; exact ⟨by kernel_rfl, by kernel_rfl⟩
theorem ob_do_call (n : Nat) {k : Nat} {h : Heap} {o s c : Nat} {cb : Option Nat} {Y : List Nat} {m : Nat} {pl : Bool} {st : St} (A : ObAt k h o s c cb Y m pl st) (os : List O) (osb : Bool) (hk : ∀ o ∈ os, 0 <= o.k /\ o.k < 256) (hos : os.length <= 1000) (hn : 2 * os.length + m + 100 <= n) :
    ∃ h' Y' T, call (n + 8) 5 [.ptr o 0, .sl 2 (os.map O.w) osb] h = some (.ret [.row T 2 0 os.length], h') /\ RowR h' T (obDo k m os st).2 /\ ObAt k h' o s c cb Y' m pl (obDo k m os st).1 /\ h.length <= T /\ T ∉ obB o c cb Y' /\ XFed h h' (obB o c cb Y) (obB o c cb Y') := by
  have hkk := A.body.kind
  obtain ⟨h', Y', T, e, b1, b2, b3, b4, b5, b6, b7⟩ := bod_call n pl A.body A.bits A.room A.most A.cY A.cbY os osb hk hos hn
  have hol := lt_of_at A.box
  have hA := A.lt
  have oX : o ∉ c :: Y := by
    intro ho
    rcases List.mem_cons.1 ho with e | e
    · exact A.oc e
    · exact A.oY e
  have hcl := A.bits.clt
  refine ⟨h', Y', T, ?_, b1, ⟨(b7.old o hol oX).trans A.box, b3, b2, b4, A.most, A.oc, A.ocb, ?_, ?_, ?_⟩, b5, ?_, ⟨b7.len, fun i h1 h2 => b7.old i h1 (fun hm => h2 ?_), fun x hx => ?_⟩⟩
  · rw [show n + 8 = (n + 7) + 1 from rfl, objDo_eq]
    unfold objDo
    rw [bop_obj_nil, bd_some, bv_bool, if_neg (by decide), cellsP_box A.box, bd3_some, if_pos (by decide)]
    simp only [List.getElem?_cons_zero, List.getElem?_cons_succ, bd_some]
    rw [bv_bool]
    cases pl with
    | true =>
      rw [if_pos rfl, cellsP_box A.box, bd3_some, if_pos (by decide)]
      simp only [List.getElem?_cons_zero, List.getElem?_cons_succ, bd_some]
      rw [cellsP_box A.box, bd3_some, if_pos (by decide)]
      simp only [List.getElem?_cons_zero, List.getElem?_cons_succ, bd_some]
      rw [if_pos (by rfl)]
      show bd2 (methV prog (tagK k) (.agg [.ptr s 0]) "reaper/object.plain") _ = _
      rw [meth_plain hkk, bd2_some, if_pos (bodF_ok hkk true)]
      show clH (call (n + 7) (bodF k true) [.agg [.ptr s 0], .ptr c 0, .sl 2 (os.map O.w) osb] h) _ = _
      rw [e]
      rfl
    | false =>
      rw [if_neg (by decide), cellsP_box A.box, bd3_some, if_pos (by decide)]
      simp only [List.getElem?_cons_zero, List.getElem?_cons_succ, bd_some]
      rw [cellsP_box A.box, bd3_some, if_pos (by decide)]
      simp only [List.getElem?_cons_zero, List.getElem?_cons_succ, bd_some]
      rw [if_pos (by rfl)]
      show bd2 (methV prog (tagK k) (.agg [.ptr s 0]) "reaper/object.batch") _ = _
      rw [meth_batch hkk, bd2_some, if_pos (bodF_ok hkk false)]
      show clH (call (n + 7) (bodF k false) [.agg [.ptr s 0], .ptr c 0, .sl 2 (os.map O.w) osb] h) _ = _
      rw [e]
      rfl
  · intro hy
    rcases b7.new o hy with e1 | e1
    · exact A.oY e1
    · omega
  · intro hy
    rcases b7.new c hy with e1 | e1
    · exact A.cY e1
    · omega
  · intro b hb hy
    rcases b7.new b hy with e1 | e1
    · exact A.cbY b hb e1
    · have := (hb ▸ A.bits).blt; omega
  · intro hT
    simp only [obB, List.mem_cons, List.mem_append] at hT
    rcases hT with e1 | e1 | e1 | e1
    · omega
    · omega
    · cases cb with
      | none => simp at e1
      | some b => simp at e1; have := A.bits.blt; omega
    · exact b6 e1
  · rcases List.mem_cons.1 hm with e1 | e1
    · simp [obB, e1]
    · simp [obB, e1]
  · simp only [obB, List.mem_cons, List.mem_append] at hx ⊢
    rcases hx with e1 | e1 | e1 | e1
    · exact .inl (.inl e1)
    · exact .inl (.inr (.inl e1))
    · exact .inl (.inr (.inr (.inl e1)))
    · rcases b7.new x e1 with e2 | e2
      · exact .inl (.inr (.inr (.inr e2)))
      · exact .inr e2
def SlJ (h : Heap) (lo : Nat) (r : V) (l : List Int) : Prop := SlI h lo r l \/ r = .sl 1 (l.map (intV .i32)) false
theorem SlJ.sees {h : Heap} {lo : Nat} {r : V} {l : List Int} (s : SlJ h lo r l) : Sees h r l := by
  rcases s with s | rfl
  · exact s.sees
  · exact ⟨⟨1, slcH_sl ..⟩, fun i x hx => ⟨_, idxP_sl (es := intV .i32 x) (by rw [List.getElem?_map, hx]; rfl) false, cellsP_iptr ..⟩⟩
theorem SlI.keepB {h h' : Heap} {lo : Nat} {r : V} {l : List Int} (s : SlI h lo r l) (hk : ∀ b, lo <= b -> b < h.length -> h'[b]? = h[b]?) : SlI h' lo r l := by
  rcases s with s | ⟨b, z, h1, h2, h3⟩
  · exact .inl s
  · exact .inr ⟨b, z, h1, h2, (hk b h1 (lt_of_at h3)).trans h3⟩
theorem SlJ.keep {h h' : Heap} {lo : Nat} {r : V} {l : List Int} (s : SlJ h lo r l) (hk : ∀ b, lo <= b -> b < h.length -> h'[b]? = h[b]?) : SlJ h' lo r l := s.imp (fun s => s.keepB hk) id
theorem SlJ.len {h : Heap} {lo : Nat} {r : V} {l : List Int} (s : SlJ h lo r l) : ∃ sz, slcH h r = some (sz, l.map (intV .i32)) := s.sees.1
theorem lvV0F {ts : List Tw} (hh : ∀ t ∈ ts, 1 <= t.ht) : lvV 0 ts = (itT ts).map Prod.fst := by
  unfold lvV itT
  rw [List.map_map, List.filter_eq_self.2 (fun t ht => by have := hh t ht; simp; omega)]
  rfl
theorem meth_items {k : Nat} (hk : k = 1 \/ k = 2 \/ k = 3) (s : Nat) : methV prog (tagK k) (.agg [.ptr s 0]) "Items" = some (if k = 1 then 35 else if k = 2 then 57 else 82, .ptr s 0) := by
  rcases hk with rfl | rfl | rfl
  · show methV prog 45 (.agg [.ptr s 0]) "Items" = some (35, .ptr s 0); kernel_rfl
  · show methV prog 49 (.agg [.ptr s 0]) "Items" = some (57, .ptr s 0); kernel_rfl
  · show methV prog 53 (.agg [.ptr s 0]) "Items" = some (82, .ptr s 0); kernel_rfl
theorem meth_len {k : Nat} (hk : k = 1 \/ k = 2 \/ k = 3) (s : Nat) : methV prog (tagK k) (.agg [.ptr s 0]) "Len" = some (if k = 1 then 36 else if k = 2 then 58 else 83, .ptr s 0) := by
  rcases hk with rfl | rfl | rfl
  · show methV prog 45 (.agg [.ptr s 0]) "Len" = some (36, .ptr s 0); kernel_rfl
  · show methV prog 49 (.agg [.ptr s 0]) "Len" = some (58, .ptr s 0); kernel_rfl
  · show methV prog 53 (.agg [.ptr s 0]) "Len" = some (83, .ptr s 0); kernel_rfl
theorem ok_items {k : Nat} (hk : k = 1 \/ k = 2 \/ k = 3) : keepS (if k = 1 then 35 else if k = 2 then 57 else 82) = true /\ okV prog 29 (if k = 1 then 35 else if k = 2 then 57 else 82) = true := by
  rcases hk with rfl | rfl | rfl
  · show keepS 35 = true /\ okV prog 29 35 = true; exact ⟨by kernel_rfl, by kernel_rfl⟩
  · show keepS 57 = true /\ okV prog 29 57 = true; exact ⟨by kernel_rfl, by kernel_rfl⟩
  · show keepS 82 = true /\ okV prog 29 82 = true; exact ⟨by kernel_rfl, by kernel_rfl⟩
theorem ok_len {k : Nat} (hk : k = 1 \/ k = 2 \/ k = 3) : keepS (if k = 1 then 36 else if k = 2 then 58 else 83) = true /\ okV prog 3 (if k = 1 then 36 else if k = 2 then 58 else 83) = true := by
  rcases hk with rfl | rfl | rfl
  · show keepS 36 = true /\ okV prog 3 36 = true; exact ⟨by kernel_rfl, by kernel_rfl⟩
  · show keepS 58 = true /\ okV prog 3 58 = true; exact ⟨by kernel_rfl, by kernel_rfl⟩
  · show keepS 83 = true /\ okV prog 3 83 = true; exact ⟨by kernel_rfl, by kernel_rfl⟩
theorem bod_items_call (n : Nat) {k : Nat} {h : Heap} {s : Nat} {Y : List Nat} {m : Nat} {its : List (Int × Nat)} (B : BodAt k h s Y m its) (room : its.length <= m) (hm : m <= 1000) (hn : m + 10 < n) :
    ∃ h' r, call (n + 3) (if k = 1 then 35 else if k = 2 then 57 else 82) [.ptr s 0] h = some (.ret [r], h') /\ SlJ h' h.length r (its.map Prod.fst) /\ h.length <= h'.length /\ ∀ i, i < h.length -> h'[i]? = h[i]? := by
  have hlim : 1000000 < lim := by unfold lim; omega
  rcases B with ⟨rfl, xs, qb, rfl, S, rfl⟩ | ⟨rfl, xs, b, rfl, RR, rfl⟩ | ⟨rfl, ts, rfl, ⟨N, S⟩, rfl⟩
  · rw [noH_len] at room
    rw [noH_fst]
    exact ⟨h, _, stk_items_call (n + 2) S (by omega), .inr rfl, Nat.le_refl _, fun _ _ => rfl⟩
  · rw [noH_len] at room
    rw [noH_fst]
    obtain ⟨h', r, z, e, b1, b2, b3, b4⟩ := rng_items_call n RR (by omega) (by omega)
    exact ⟨h', _, e, .inl (.inr ⟨r, z, b2, rfl, b1⟩), b3, b4⟩
  · rw [itT_len] at room
    obtain ⟨h', r, e, b1, b2, b3⟩ := items_call n S (by omega) (by omega)
    rw [lvV0F (fun t ht => (S.ht t ht).1)] at b1
    exact ⟨h', r, e, .inl b1, b2, b3⟩
theorem ob_items_call (n : Nat) {k : Nat} {h : Heap} {o s c : Nat} {cb : Option Nat} {Y : List Nat} {m : Nat} {pl : Bool} {st : St} (A : ObAt k h o s c cb Y m pl st) (hn : m + 10 < n) :
    ∃ h' r, call (n + 4) 7 [.ptr o 0] h = some (.ret [r], h') /\ SlJ h' h.length r (st.1.map Prod.fst) /\ h.length <= h'.length /\ ∀ i, i < h.length -> h'[i]? = h[i]? := by
  have hkk := A.body.kind
  obtain ⟨h', r, e, b1, b2, b3⟩ := bod_items_call n A.body A.room A.most hn
  refine ⟨h', r, ?_, b1, b2, b3⟩
  rw [show n + 4 = (n + 3) + 1 from rfl, objItems_eq]
  unfold objItems
  rw [bop_obj_nil, bd_some, bv_bool, if_neg (by decide), cellsP_box A.box, bd3_some, if_pos (by decide)]
  simp only [List.getElem?_cons_zero, List.getElem?_cons_succ, bd_some]
  show bd2 (methV prog (tagK k) (.agg [.ptr s 0]) "Items") _ = _
  rw [meth_items hkk, bd2_some, if_pos (ok_items hkk)]
  show cl (call (n + 3) _ [.ptr s 0] h) _ _ = _
  rw [e, cl_ret, one1_one]
theorem ob_len_call (n : Nat) {k : Nat} {h : Heap} {o s c : Nat} {cb : Option Nat} {Y : List Nat} {m : Nat} {pl : Bool} {st : St} (A : ObAt k h o s c cb Y m pl st) :
    call (n + 2) 10 [.ptr o 0] h = some (.ret [.int .i64 (st.1.length : Int)], h) := by
  have hkk := A.body.kind
  have e : call (n + 1) (if k = 1 then 36 else if k = 2 then 58 else 83) [.ptr s 0] h = some (.ret [.int .i64 (st.1.length : Int)], h) := by
    rcases A.body with ⟨rfl, xs, qb, hi, S, rfl⟩ | ⟨rfl, xs, b, hi, RR, rfl⟩ | ⟨rfl, ts, hi, ⟨N, S⟩, rfl⟩
    · rw [hi, noH_len]; exact stk_len_call n S
    · rw [hi, noH_len]; exact rng_len_call n RR
    · rw [hi, itT_len]; exact len_call n S
  rw [show n + 2 = (n + 1) + 1 from rfl, objLen_eq]
  unfold objLen
  rw [bop_obj_nil, bd_some, bv_bool, if_neg (by decide), cellsP_box A.box, bd3_some, if_pos (by decide)]
  simp only [List.getElem?_cons_zero, List.getElem?_cons_succ, bd_some]
  show bd2 (methV prog (tagK k) (.agg [.ptr s 0]) "Len") _ = _
  rw [meth_len hkk, bd2_some, if_pos (ok_len hkk)]
  show cl (call (n + 1) _ [.ptr s 0] h) _ _ = _
  rw [e, cl_ret, one1_one]
def newE : List (V × V) := [(.int .u8 1, .fn 11 []), (.int .u8 2, .fn 13 []), (.int .u8 3, .fn 15 [])]
noncomputable def objNewR (n F : Nat) (m : Int) (p : Bool) (h : Heap) : Option (Res × Heap) :=
 (cl (call n F [(V.int .i64 m)] h) (fun r16 h17 =>
 (one1 r16 fun v19 =>
 (cl (call n 17 [] h17) (fun r20 h21 =>
 (one1 r20 fun v23 =>
 (bd (bldV prog 58 [(0, v19), (1, v23), (2, (V.bool p))]) fun cs24 =>
 (if (cs24).length = 3 then
 some (Res.ret [(V.ptr (h21).length 0)], (h21 ++ [(HB.box 3 cs24)])) else none)))) (fun z22 h21 => some (Res.pan z22, h21))))) (fun z18 h17 => some (Res.pan z18, h17)))
theorem objNewR1 (n : Nat) (m : Int) (p : Bool) : call (n + 1) 4 [.int .u8 1, .int .i64 m, .bool p] [] = objNewR n 11 m p [.map newE] := by kernel_rfl
theorem objNewR2 (n : Nat) (m : Int) (p : Bool) : call (n + 1) 4 [.int .u8 2, .int .i64 m, .bool p] [] = objNewR n 13 m p [.map newE] := by kernel_rfl
theorem objNewR3 (n : Nat) (m : Int) (p : Bool) : call (n + 1) 4 [.int .u8 3, .int .i64 m, .bool p] [] = objNewR n 15 m p [.map newE] := by kernel_rfl
def capN (m : Int) : Nat := (if 0 < (if 1000 < m then 1000 else m) then (if 1000 < m then 1000 else m) else 0).toNat
theorem capN_eq (m : Int) : (if 0 < (if 1000 < m then 1000 else m) then (if 1000 < m then 1000 else m) else 0) = ((capN m : Nat) : Int) := by
  unfold capN
  (repeat' split) <;> omega
theorem capN_le (m : Int) : capN m <= 1000 := by
  unfold capN
  (repeat' split) <;> omega
theorem capN_max (m : Int) : max 0 (min m 1000) = ((capN m : Nat) : Int) := by
  unfold capN
  (repeat' split) <;> omega
theorem stk_new_call (n : Nat) (h : Heap) (m : Int) : call (n + 1) 12 [.int .i64 m] h = some (.ret [.ptr h.length 0], h ++ [.box 2 [.sl 0 [] true, .int .i64 (capN m : Int)]]) := by
  rw [stkNew_eq, <- capN_eq]
  rfl
theorem rng_new_call (n : Nat) (h : Heap) (m : Int) : call (n + 1) 14 [.int .i64 m] h = some (.ret [.ptr (h.length + 1) 0], h ++ [.row 21 1 (List.replicate (capN m) [.int .i32 0]) true, .box 3 [.row h.length 1 0 (capN m), .int .i64 0, .int .i64 0]]) := by
  have hc := capN_le m
  rw [rngNew_eq]
  unfold rngNew
  rw [capN_eq, nv_nat, bdS_some, bdS_some, if_pos ⟨Nat.le_refl _, by unfold lim; omega, by first | trivial | rfl⟩]
  simp
def newF (k : Nat) : Nat := if k = 1 then 11 else if k = 2 then 13 else 15
theorem bld_st (v : V) (s : Nat) : bldV prog 45 [(0, .ptr s 0)] = some [.ptr s 0] := by kernel_rfl
theorem bld_rg (s : Nat) : bldV prog 49 [(0, .ptr s 0)] = some [.ptr s 0] := by kernel_rfl
theorem bld_sk (s : Nat) : bldV prog 53 [(0, .ptr s 0)] = some [.ptr s 0] := by kernel_rfl
theorem bld_ob (t : Nat) (v : V) (c : Nat) (p : Bool) : bldV prog 58 [(0, .iface t v), (1, .ptr c 0), (2, .bool p)] = some [.iface t v, .ptr c 0, .bool p] := by kernel_rfl
theorem bod_new (n : Nat) {k : Nat} (hk : k = 1 \/ k = 2 \/ k = 3) (m : Int) (g : Heap) : ∃ g' s Y, call (n + 2) (newF k) [.int .i64 m] g = some (.ret [bodV k s], g') /\ BodAt k g' s Y (capN m) [] /\ g.length <= g'.length /\ (∀ i, i < g.length -> g'[i]? = g[i]?) /\ ∀ y ∈ Y, g.length <= y := by
  rcases hk with rfl | rfl | rfl
  · refine ⟨_, _, [g.length], ?_, .inl ⟨rfl, [], none, rfl, ⟨rfl, List.getElem?_concat_length⟩, rfl⟩, by simp, fun i hi => List.getElem?_append_left hi, by simp⟩
    show call (n + 1 + 1) 11 [.int .i64 m] g = _
    rw [objNew1_eq]
    unfold objNew1
    rw [stk_new_call, cl_ret, one1_one, bld_st (.bool true), bd_some]
    rfl
  · refine ⟨g ++ [.row 21 1 (List.replicate (capN m) [.int .i32 0]) true, .box 3 [.row g.length 1 0 (capN m), .int .i64 0, .int .i64 0]], g.length + 1, [g.length + 1, g.length], ?_, .inr (.inl ⟨rfl, [], g.length, rfl, ⟨by omega, List.replicate (capN m) [.int .i32 0], true, 0, ?_, ?_, by simp, ?_, by simp, by simp, ?_⟩, rfl⟩), by simp, fun i hi => List.getElem?_append_left hi, by simp⟩
    · show call (n + 1 + 1) 13 [.int .i64 m] g = _
      rw [objNew2_eq]
      unfold objNew2
      rw [rng_new_call, cl_ret, one1_one, bld_rg, bd_some]
      rfl
    · rw [List.getElem?_append_right (by omega), Nat.add_sub_cancel_left]; rfl
    · rw [List.getElem?_append_right (by omega), Nat.sub_self]; rfl
    · omega
    · intro es hes; rw [(List.mem_replicate.1 hes).2]; rfl
  · obtain ⟨N, e, S⟩ := new_call n g m
    rw [capN_max] at e S
    refine ⟨_, g.length, [g.length], ?_, .inr (.inr ⟨rfl, [], rfl, ⟨N, S⟩, rfl⟩), by simp, fun i hi => List.getElem?_append_left hi, by simp⟩
    show call (n + 1 + 1) 15 [.int .i64 m] g = _
    rw [objNew3_eq]
    unfold objNew3
    rw [e, cl_ret, one1_one, bld_sk, bd_some]
    rfl
theorem ob_newR (n : Nat) {k : Nat} (hk : k = 1 \/ k = 2 \/ k = 3) (m : Int) (pl : Bool) (g : Heap) : ∃ h' o s c Y, objNewR (n + 2) (newF k) m pl g = some (.ret [.ptr o 0], h') /\ ObAt k h' o s c none Y (capN m) pl ([], []) /\ g.length <= h'.length /\ (∀ i, i < g.length -> h'[i]? = g[i]?) /\ ∀ x ∈ obB o c none Y, g.length <= x := by
  obtain ⟨g', s, Y, e, B, b1, b2, b3⟩ := bod_new n hk m g
  have hY := B.lt
  have k1 : ∀ i, i < g'.length -> ((g' ++ [HB.box 1 [V.sl 0 [] true]]) ++ [HB.box 3 [bodV k s, .ptr g'.length 0, .bool pl]])[i]? = g'[i]? := fun i hi => by
    rw [List.getElem?_append_left (by simp; omega), List.getElem?_append_left hi]
  refine ⟨(g' ++ [HB.box 1 [V.sl 0 [] true]]) ++ [HB.box 3 [bodV k s, .ptr g'.length 0, .bool pl]], g'.length + 1, s, g'.length, Y, ?_, ⟨?_, ⟨rfl, ?_⟩, B.keep (fun y hy => k1 y (hY y hy)), Nat.zero_le _, capN_le m, by omega, by simp, fun hy => by have := hY _ hy; omega, fun hy => by have := hY _ hy; omega, by simp⟩, by simp; omega, fun i hi => (k1 i (by omega)).trans (b2 i hi), ?_⟩
  · unfold objNewR
    rw [e, cl_ret, one1_one, coin_new_call, cl_ret, one1_one]
    unfold bodV
    rw [bld_ob, bd_some, if_pos (by rfl)]
    simp
  · rw [List.getElem?_append_right (by simp)]; simp
  · rw [List.getElem?_append_left (by simp), List.getElem?_concat_length]
  · intro x hx
    simp only [obB, List.mem_cons, List.mem_append, Option.toList_none, List.not_mem_nil, false_or] at hx
    rcases hx with e1 | e1 | e1
    · omega
    · omega
    · exact b3 x e1
theorem ob_new_call (n : Nat) {k : Nat} (hk : k = 1 \/ k = 2 \/ k = 3) (m : Int) (pl : Bool) : ∃ h' o s c Y, call (n + 3) 4 [.int .u8 (k : Int), .int .i64 m, .bool pl] [] = some (.ret [.ptr o 0], h') /\ ObAt k h' o s c none Y (capN m) pl ([], []) := by
  obtain ⟨h', o, s, c, Y, e, A, _⟩ := ob_newR n hk m pl [.map newE]
  refine ⟨h', o, s, c, Y, ?_, A⟩
  rw [<- e]
  rcases hk with rfl | rfl | rfl
  · exact objNewR1 (n + 2) m pl
  · exact objNewR2 (n + 2) m pl
  · exact objNewR3 (n + 2) m pl
end Go.Proofs.Try
set_option linter.unusedVariables false
set_option linter.unusedSimpArgs false
namespace Go.Sk
open Go.L Go.Rp
def Idle (m l : Nat) (os : List O) : Prop := ∀ o ∈ os, o.k = 9 \/ (o.k = 1 /\ m <= l)
theorem stkRun_idle (m : Nat) : ∀ (os : List O) (xs : List Int), Idle m xs.length os -> (stkRun (m : Int) os xs).2 = xs /\ ∀ r ∈ (stkRun (m : Int) os xs).1, r.c = 5 \/ r.c = 3
  | [], xs, _ => ⟨rfl, by simp [stkRun]⟩
  | o :: os, xs, h => by
    have h0 : stkStep (m : Int) o.k o.v xs = ((5, 0), xs) \/ stkStep (m : Int) o.k o.v xs = ((3, 0), xs) := by
      unfold stkStep
      rcases h o (by simp) with e | ⟨e, hm⟩
      · left; rw [if_neg (by omega), if_neg (by omega)]
      · right; rw [if_pos e, if_neg (by omega)]
    have ih := stkRun_idle m os xs (fun p hp => h p (List.mem_cons_of_mem _ hp))
    simp only [stkRun, stkR]
    rcases h0 with e | e
    · rw [e]
      refine ⟨ih.1, fun r hr => ?_⟩
      rcases List.mem_cons.1 hr with rfl | hr
      · exact .inl rfl
      · exact ih.2 r hr
    · rw [e]
      refine ⟨ih.1, fun r hr => ?_⟩
      rcases List.mem_cons.1 hr with rfl | hr
      · exact .inr rfl
      · exact ih.2 r hr
theorem rngRun_idle (m : Nat) : ∀ (os : List O) (xs : List Int), Idle m xs.length os -> (rngRun (m : Int) os xs).2 = xs /\ ∀ r ∈ (rngRun (m : Int) os xs).1, r.c = 5 \/ r.c = 3
  | [], xs, _ => ⟨rfl, by simp [rngRun]⟩
  | o :: os, xs, h => by
    have h0 : rngStep (m : Int) o.k o.v xs = ((5, 0), xs) \/ rngStep (m : Int) o.k o.v xs = ((3, 0), xs) := by
      unfold rngStep
      rcases h o (by simp) with e | ⟨e, hm⟩
      · left; rw [if_neg (by omega), if_neg (by omega), if_neg (by omega), if_neg (by omega)]
      · right; rw [if_pos e, if_neg (by omega)]
    have ih := rngRun_idle m os xs (fun p hp => h p (List.mem_cons_of_mem _ hp))
    simp only [rngRun, rngR]
    rcases h0 with e | e
    · rw [e]
      refine ⟨ih.1, fun r hr => ?_⟩
      rcases List.mem_cons.1 hr with rfl | hr
      · exact .inl rfl
      · exact ih.2 r hr
    · rw [e]
      refine ⟨ih.1, fun r hr => ?_⟩
      rcases List.mem_cons.1 hr with rfl | hr
      · exact .inr rfl
      · exact ih.2 r hr
end Go.Sk
namespace Go.Proofs.Try
open Go.L Go.Rp Go.Sk
set_option maxRecDepth 100000
theorem runO_idle (os : List O) (m : Nat) (st : St) (hi : Idle m st.1.length os) : ∀ (L : List Int) (told : List R), (∀ x ∈ L, 0 <= x /\ x < (os.length : Int)) -> (runO os (m : Int) L st told).1 = st /\ ∀ i : Nat, ((i : Int) ∈ L \/ ∀ r, told[i]? = some r -> r.c = 5 \/ r.c = 3) -> ∀ r, (runO os (m : Int) L st told).2[i]? = some r -> r.c = 5 \/ r.c = 3
  | [], told, _ => ⟨rfl, fun i h r hr => by
    rcases h with h | h
    · simp at h
    · exact h r hr⟩
  | k :: L, told, hL => by
    have hk := hL k (by simp)
    have hmem : oAt os k ∈ os := by
      unfold oAt
      have hlt : k.toNat < os.length := by omega
      rw [List.getD_eq_getElem?_getD, List.getElem?_eq_getElem hlt]
      exact List.getElem_mem hlt
    have h0 : stp (m : Int) st (oAt os k) = (st, ⟨5, 0⟩) \/ stp (m : Int) st (oAt os k) = (st, ⟨3, 0⟩) := by
      unfold stp
      rcases hi _ hmem with e | ⟨e, hm⟩
      · left; rw [if_neg (by omega), if_neg (by omega)]
      · right; rw [if_pos e, if_pos (by omega)]
    have hst : (stp (m : Int) st (oAt os k)).1 = st := by rcases h0 with e | e <;> rw [e]
    have hc : (stp (m : Int) st (oAt os k)).2.c = 5 \/ (stp (m : Int) st (oAt os k)).2.c = 3 := by
      rcases h0 with e | e
      · rw [e]; exact .inl rfl
      · rw [e]; exact .inr rfl
    simp only [runO]
    rw [hst]
    have ih := runO_idle os m st hi L (told.set k.toNat (stp (m : Int) st (oAt os k)).2) (fun x hx => hL x (List.mem_cons_of_mem _ hx))
    refine ⟨ih.1, fun i h r hr => ih.2 i ?_ r hr⟩
    by_cases e : i = k.toNat
    · right
      intro r' hr'
      rw [e, List.getElem?_set] at hr'
      simp at hr'
      rw [<- hr'.2]; exact hc
    · rcases h with h | h
      · rcases List.mem_cons.1 h with h | h
        · omega
        · exact .inl h
      · right
        intro r' hr'
        rw [List.getElem?_set_ne (by omega)] at hr'
        exact h r' hr'
theorem puts_all (os : List O) : ∀ (n i : Nat), i < n -> (i : Int) ∈ putsTo os n \/ (i : Int) ∈ restTo os n
  | n + 1, i, h => by
    simp only [putsTo, restTo]
    rcases Nat.lt_or_ge i n with h1 | h1
    · rcases puts_all os n i h1 with e | e
      · left; split
        · exact List.mem_append_left _ e
        · exact e
      · right; split
        · exact e
        · exact List.mem_append_left _ e
    · obtain rfl : i = n := by omega
      by_cases hk : (oAt os (i : Int)).k = 1
      · left; rw [if_pos hk]; simp
      · right; rw [if_neg hk]; simp
theorem doneO_idle (os : List O) (m : Nat) (st : St) (hi : Idle m st.1.length os) : (doneO os (m : Int) st).1 = st /\ ∀ r ∈ (doneO os (m : Int) st).2, r.c = 5 \/ r.c = 3 := by
  have hL : ∀ x ∈ sPuts os ++ others os, 0 <= x /\ x < (os.length : Int) := fun x hx => by
    rcases List.mem_append.1 hx with h | h
    · have := sPuts_mem os x h; omega
    · have := restTo_mem os _ x h; omega
  have h := runO_idle os m st hi (sPuts os ++ others os) (List.replicate os.length ⟨0, 0⟩) hL
  refine ⟨h.1, fun r hr => ?_⟩
  obtain ⟨i, hi', e⟩ := List.getElem_of_mem hr
  have hlen : (doneO os (m : Int) st).2.length = os.length := by unfold doneO; rw [runO_len]; simp
  refine h.2 i (.inl ?_) r (by rw [<- e]; exact List.getElem?_eq_getElem hi')
  rcases puts_all os os.length i (by omega) with k | k
  · exact List.mem_append_left _ ((sPuts_perm os).mem_iff.2 k)
  · exact List.mem_append_right _ k
theorem obDo_len (k m : Nat) (os : List O) (st : St) : (obDo k m os st).2.length = os.length := by
  unfold obDo
  split
  · exact stkRun_len ..
  split
  · exact rngRun_len ..
  · unfold doneO; rw [runO_len]; simp
theorem obDo_idle (k m : Nat) (os : List O) (st : St) (hi : Idle m st.1.length os) : (obDo k m os st).1.1.map Prod.fst = st.1.map Prod.fst /\ (obDo k m os st).1.1.length = st.1.length /\ ∀ r ∈ (obDo k m os st).2, r.c = 5 \/ r.c = 3 := by
  unfold obDo
  split
  · have := stkRun_idle m os (st.1.map Prod.fst) (by rw [List.length_map]; exact hi)
    refine ⟨by rw [this.1, noH_fst], by rw [this.1, noH_len, List.length_map], this.2⟩
  split
  · have := rngRun_idle m os (st.1.map Prod.fst) (by rw [List.length_map]; exact hi)
    refine ⟨by rw [this.1, noH_fst], by rw [this.1, noH_len, List.length_map], this.2⟩
  · have := doneO_idle os m st hi
    rw [this.1]
    exact ⟨rfl, rfl, this.2⟩
theorem ops_kk {c : List Int} {kinds : Int} (hc : small c = true) (hk : 1 <= kinds) (hk2 : kinds <= 100) : ∀ o ∈ ops c kinds, 0 <= o.k /\ o.k < 256 := by
  intro o ho
  unfold ops at ho
  obtain ⟨x, hx, rfl⟩ := List.mem_map.1 ho
  have h1 := Int.emod_nonneg x (show kinds ≠ 0 by omega)
  have h2 := Int.emod_lt_of_pos x (show 0 < kinds by omega)
  unfold Go.Rp.opOf
  simp only
  omega
theorem capN_small {m : Nat} (h : m <= 1000) : capN (m : Int) = m := by
  unfold capN
  (repeat' split) <;> omega
end Go.Proofs.Try
set_option linter.unusedVariables false
set_option linter.unusedSimpArgs false
namespace Go.Proofs.Try
open Go.L Go.Rp Go.Sk
set_option maxRecDepth 100000
theorem cvt_ii (x : Int) : cvt prog 3 21 (.int .i64 x) = some (.int .i32 (IntKind.i32.wrap x)) := by kernel_rfl
theorem bld_op (k v : Int) : bldV prog 32 [(0, .int .u8 k), (1, .int .i32 v)] = some [.int .u8 k, .int .i32 v] := by kernel_rfl
theorem full_puts (n : Nat) (x1 x3 : Int) (v3 r : V) {h : Heap} {l : List Int} {m : Nat} (hs : SlJ h 0 r l) (hm : IntKind.i64.wrap (Int.tmod x1 6) = (m : Int)) {q : Nat} (hq : IntKind.i64.wrap (Int.tmod x3 9) = (q : Int)) (hq9 : q < 9) : ∀ (d j N : Nat) (os : List O), j + d = q -> d < N -> Idle m l.length os -> os.length <= 2 * j →
    ∃ put : List O, Idle m l.length put /\ put.length <= 2 * q /\ loopx N (lawFull12_l18 n x1 x3 v3 r) [.sl 2 (os.map O.w) false, .int .i64 (j : Int)] h = (cl (call n 5 [v3, (V.sl 2 (put.map O.w) false)] h) (fun r35 h36 => (one1 r35 fun v38 => (loopx n (lawFull12_l39 n x1 v3 r [.sl 2 (put.map O.w) false, .int .i64 (q : Int)] v38) [(V.bool false), (V.int .i64 0)] h36))) (fun z37 h36 => some (Res.pan z37, h36))) := by
  obtain ⟨sz, hsl⟩ := hs.len
  intro d
  induction d with
  | zero =>
    intro j N os hj hN hi hl
    obtain ⟨N, rfl⟩ : ∃ N', N = N' + 1 := ⟨N - 1, by omega⟩
    obtain rfl : j = q := by omega
    refine ⟨os, hi, hl, ?_⟩
    rw [loopx_succ]
    unfold lawFull12_l18
    simp only [gv, List.getD_cons_zero, List.getD_cons_succ, lsl]
    rw [hq, bop_i64_lss, bd_some, bv_bool, if_neg (by simp)]
  | succ d ih =>
    intro j N os hj hN hi hl
    obtain ⟨N, rfl⟩ : ∃ N', N = N' + 1 := ⟨N - 1, by omega⟩
    have hjq : j < q := by omega
    have ha1 := app_os 32 os ⟨9, IntKind.i32.wrap (j : Int)⟩ (by unfold lim; omega)
    have hw1 : O.w ⟨9, IntKind.i32.wrap (j : Int)⟩ = [.int .u8 9, .int .i32 (IntKind.i32.wrap (j : Int))] := rfl
    have hi1 : Idle m l.length (os ++ [⟨9, IntKind.i32.wrap (j : Int)⟩]) := fun o ho => by
      rcases List.mem_append.1 ho with h | h
      · exact hi o h
      · rw [List.mem_singleton.1 h]; exact .inl rfl
    by_cases hf : l.length = m
    · have ha2 := app_os 32 (os ++ [⟨9, IntKind.i32.wrap (j : Int)⟩]) ⟨1, IntKind.i32.wrap (j : Int)⟩ (by rw [List.length_append]; unfold lim; simp; omega)
      have hi2 : Idle m l.length (os ++ [⟨9, IntKind.i32.wrap (j : Int)⟩] ++ [⟨1, IntKind.i32.wrap (j : Int)⟩]) := fun o ho => by
        rcases List.mem_append.1 ho with h | h
        · exact hi1 o h
        · rw [List.mem_singleton.1 h]; exact .inr ⟨rfl, by omega⟩
      obtain ⟨put, p1, p2, p3⟩ := ih (j + 1) N _ (by omega) (by omega) hi2 (by simp; omega)
      refine ⟨put, p1, p2, ?_⟩
      rw [<- p3, loopx_succ]
      have key : ∀ nx, lawFull12_l18 n x1 x3 v3 r [.sl 2 (os.map O.w) false, .int .i64 (j : Int)] h nx = nx [.sl 2 ((os ++ [(⟨9, IntKind.i32.wrap (j : Int)⟩ : O)] ++ [(⟨1, IntKind.i32.wrap (j : Int)⟩ : O)]).map O.w) false, .int .i64 ((j + 1 : Nat) : Int)] h := by
        intro nx
        unfold lawFull12_l18
        simp only [gv, List.getD_cons_zero, List.getD_cons_succ, lsl]
        rw [hq, bop_i64_lss, bd_some, bv_bool, if_pos (by simp; omega), cvt_ii, bd_some, bld_op, bd_some, <- hw1, bsl_o, bd_some, ha1, bd_some, hsl, bd_some, List.length_map, hm, if_pos (by simp [hf]), bd_some, bld_op, bd_some]
        rw [show [V.int .u8 1, V.int .i32 (IntKind.i32.wrap (j : Int))] = O.w ⟨1, IntKind.i32.wrap (j : Int)⟩ from rfl, bsl_o, bd_some, ha2, bd_some, bop_i64_add, bd_some, step64 (by unfold lim; omega)]
      rw [key]
    · obtain ⟨put, p1, p2, p3⟩ := ih (j + 1) N _ (by omega) (by omega) hi1 (by simp; omega)
      refine ⟨put, p1, p2, ?_⟩
      rw [<- p3, loopx_succ]
      have key : ∀ nx, lawFull12_l18 n x1 x3 v3 r [.sl 2 (os.map O.w) false, .int .i64 (j : Int)] h nx = nx [.sl 2 ((os ++ [(⟨9, IntKind.i32.wrap (j : Int)⟩ : O)]).map O.w) false, .int .i64 ((j + 1 : Nat) : Int)] h := by
        intro nx
        unfold lawFull12_l18
        simp only [gv, List.getD_cons_zero, List.getD_cons_succ, lsl]
        rw [hq, bop_i64_lss, bd_some, bv_bool, if_pos (by simp; omega), cvt_ii, bd_some, bld_op, bd_some, <- hw1, bsl_o, bd_some, ha1, bd_some, hsl, bd_some, List.length_map, hm, if_neg (by simp; omega), bop_i64_add, bd_some, step64 (by unfold lim; omega)]
      rw [key]
theorem full_told (n : Nat) (x1 : Int) (v3 v17 : V) (st : List V) {T : Nat} {h : Heap} {l : List R} (hr : RowR h T l) (hc : ∀ r ∈ l, r.c = 5 \/ r.c = 3) (hl : l.length < lim) : ∀ (d i N : Nat) (v0 : V), i + d = l.length -> d < N →
    ∃ N', loopx N (lawFull12_l39 n x1 v3 v17 st (.row T 2 0 l.length)) [v0, .int .i64 (i : Int)] h = lawFull12_l39 n x1 v3 v17 st (.row T 2 0 l.length) [v0, .int .i64 (l.length : Int)] h (loopx N' (lawFull12_l39 n x1 v3 v17 st (.row T 2 0 l.length))) := by
  intro d
  induction d with
  | zero =>
    intro i N v0 hi hN
    obtain ⟨N, rfl⟩ : ∃ N', N = N' + 1 := ⟨N - 1, by omega⟩
    obtain rfl : i = l.length := by omega
    exact ⟨N, loopx_succ ..⟩
  | succ d ih =>
    intro i N v0 hi hN
    obtain ⟨N, rfl⟩ : ∃ N', N = N' + 1 := ⟨N - 1, by omega⟩
    have hlt : i < l.length := by omega
    obtain ⟨N', e⟩ := ih (i + 1) N v0 (by omega) (by omega)
    refine ⟨N', ?_⟩
    rw [<- e, loopx_succ]
    have hx : l[i]? = some l[i] := List.getElem?_eq_getElem hlt
    obtain ⟨g1, g2⟩ := hr.get hx 0
    have key : ∀ nx, lawFull12_l39 n x1 v3 v17 st (.row T 2 0 l.length) [v0, .int .i64 (i : Int)] h nx = nx [v0, .int .i64 ((i + 1 : Nat) : Int)] h := by
      intro nx
      unfold lawFull12_l39
      simp only [gv, List.getD_cons_zero, List.getD_cons_succ]
      rw [hr.slc, bd_some, bop_i64_lss, bd_some, bv_bool, if_pos (by simp; omega), nv_nat, bdS_some, g1, bd_some]
      simp only [addP, bd_some, Nat.add_zero]
      rw [g2, bd3_some, if_pos (by decide), rw_0, bd_some, bop_u8_neq, bd_some, bv_bool]
      rcases hc _ (List.getElem_mem hlt) with e5 | e3
      · rw [if_neg (by simp [e5]), bop_i64_add, bd_some, step64 (by omega)]
      · rw [if_pos (by simp [e3]), bdS_some, g1, bd_some, bd_some]
        rw [g2, bd3_some, if_pos (by decide), rw_0, bd_some, bop_u8_neq, bd_some, bv_bool, if_neg (by simp [e3]), bop_i64_add, bd_some, step64 (by omega)]
    rw [key]
theorem full_law_call (x0 x1 x3 : Int) (c : List Int) (cb : Bool) (h0 : 0 <= x0 /\ x0 < 256) (h1 : 0 <= x1 /\ x1 < 256) (h3 : 0 <= x3 /\ x3 < 256) (hc : small c = true) :
    call 1001 3 [.int .u8 x0, .int .u8 x1, .sl 1 (c.map (intV .u8)) cb, .int .u8 x3] [] = some (.ret [.bool true], []) := by
  refine (lawFull12_eq 1000 x0 x1 (c.map (intV .u8)) cb x3 []).trans ?_
  have key : ∃ H, lawFull12 1000 x0 x1 (c.map (intV .u8)) cb x3 = some (.ret [.bool true], H) := by
    obtain ⟨k, hk⟩ : ∃ k : Nat, (k : Int) = 1 + x0 % 3 := ⟨(1 + x0 % 3).toNat, by omega⟩
    have hkk : k = 1 \/ k = 2 \/ k = 3 := by omega
    have hkw : IntKind.u8.wrap (1 + Int.tmod x0 3) = (k : Int) := by rw [Int.tmod_eq_emod_of_nonneg h0.1, w8, hk] <;> omega
    obtain ⟨m, hm⟩ : ∃ m : Nat, (m : Int) = x1 % 6 := ⟨(x1 % 6).toNat, by omega⟩
    have hmw : IntKind.i64.wrap (Int.tmod x1 6) = (m : Int) := by rw [Int.tmod_eq_emod_of_nonneg h1.1, w64, hm] <;> omega
    obtain ⟨q, hq⟩ : ∃ q : Nat, (q : Int) = x3 % 9 := ⟨(x3 % 9).toNat, by omega⟩
    have hqw : IntKind.i64.wrap (Int.tmod x3 9) = (q : Int) := by rw [Int.tmod_eq_emod_of_nonneg h3.1, w64, hq] <;> omega
    have hm6 : m < 6 := by omega
    obtain ⟨g1, o, s, cc, Y, e1, A1⟩ := ob_new_call 997 hkk (m : Int) false
    rw [capN_small (by omega)] at A1
    have ol := ops_len c 2
    have e2 := ops_call 1000 c 1 cb 2 g1 (.inl rfl) hc (by decide) (by decide) (by decide)
    obtain ⟨g2, Y2, T2, e3, b1, A2, b2, b3, F2⟩ := ob_do_call 992 A1 (ops c 2) false (ops_kk hc (by decide) (by decide)) (by omega) (by omega)
    obtain ⟨g3, r, e4, S3, l3, o3⟩ := ob_items_call 996 A2 (by omega)
    have hl2 := A2.lt
    have A3 := A2.keep (h' := g3) (fun y hy => o3 y (hl2 y hy))
    have S3' : SlJ g3 0 r _ := S3.imp (fun s => by
      rcases s with s | ⟨b, z, s1, s2, s3⟩
      · exact .inl s
      · exact .inr ⟨b, z, Nat.zero_le _, s2, s3⟩) id
    have hlen : ((obDo k m (ops c 2) ([], [])).1.1.map Prod.fst).length = (obDo k m (ops c 2) ([], [])).1.1.length := List.length_map ..
    obtain ⟨put, p1, p2, p3⟩ := full_puts 1000 x1 x3 (.ptr o 0) r S3' hmw hqw (by omega) q 0 1000 [] (by omega) (by omega) (fun o ho => by simp at ho) (by simp)
    rw [hlen] at p1
    obtain ⟨g4, Y4, T4, e5, b4, A4, b5, b6, F4⟩ := ob_do_call 992 A3 put false (fun o ho => by rcases p1 o ho with e | ⟨e, _⟩ <;> omega) (by omega) (by omega)
    obtain ⟨i1, i2, i3⟩ := obDo_idle k m put _ p1
    have i4 := obDo_len k m put (obDo k m (ops c 2) ([], [])).1
    obtain ⟨N', e6⟩ := full_told 1000 x1 (.ptr o 0) r [.sl 2 (put.map O.w) false, .int .i64 (q : Int)] b4 i3 (by rw [i4]; unfold lim; omega) (obDo k m put (obDo k m (ops c 2) ([], [])).1).2.length 0 1000 (.bool false) (by omega) (by omega)
    obtain ⟨g5, r5, e7, S5, l5, o5⟩ := ob_items_call 996 A4 (by omega)
    have l4 := F4.len
    have S4 : SlJ g4 g2.length r _ := S3.keep (fun b h1 h2 => F4.old b h2 (fun hx => by have := hl2 b hx; omega))
    have S6 : SlJ g5 g2.length r _ := S4.keep (fun b h1 h2 => o5 b h2)
    have e8 := rSame_call 999 S5.sees (by rw [i1]; exact S6.sees) (by rw [i1, hlen]; have := A3.room; unfold lim; omega) (by rw [i1, hlen]; have := A3.room; omega)
    have A5 := A4.keep (h' := g5) (fun y hy => o5 y (A4.lt y hy))
    have e9 := ob_len_call 998 A5
    obtain ⟨sz, hsl⟩ := S6.len
    have hroom := A3.room
    refine ⟨g5, ?_⟩
    unfold lawFull12
    rw [hkw, hmw, e1, cl_ret, one1_one, bop_obj_nil, bd_some, bv_bool, if_neg (by decide), e2, cl_ret, one1_one, e3, cl_ret, one1_one, e4, cl_ret, one1_one]
    refine p3.trans ?_
    rw [e5, cl_ret, one1_one, <- i4]
    refine e6.trans ?_
    unfold lawFull12_l39
    simp only [gv, List.getD_cons_zero, List.getD_cons_succ, lsl]
    rw [b4.slc, bd_some, bop_i64_lss, bd_some, bv_bool, if_neg (by simp), known12_n 900 g4, cl_ret, one1_one, bv_bool, if_pos rfl, b4.slc, bd_some, List.length_map, List.length_map, if_pos (by rw [i4]; simp), e7, cl_ret, one1_one, e8, cl_ret, one1_one, bv_bool, if_pos rfl, hsl, bd_some, List.length_map, hlen, hmw, if_pos (by simp; omega), e9, cl_ret, one1_one, hsl, bd_some, List.length_map, hlen, i2, bop_i64_eql, bd_some]
    simp
  obtain ⟨H, key⟩ := key
  rw [key]
  exact gcw_ret (by simp [intV]) (by simp)
end Go.Proofs.Try
