/- So1 Kp Kq Kr Kv Kx Lops Sops Ky Ko Ro Rp Rq Rd Re Rf Rg Rh: what the law needs of these -/
import Derived.Test.YtodgpfffnnlbhaaZdoe13
set_option linter.unusedVariables false
set_option linter.unusedSimpArgs false
namespace Go.Proofs.Try
open Go.L Go.Rp
set_option maxRecDepth 100000
abbrev iL (l : List Int) : List (List V) := l.map (intV .i64)
theorem wN {e : Int} {n : Nat} (h : e = (n : Int)) (hn : n < lim) : IntKind.i64.wrap e = (n : Int) := by unfold lim at hn; subst h; rw [w64] <;> omega
theorem iL_set (l : List Int) (i : Nat) (x : Int) : (iL l).set i [V.int .i64 x] = iL (l.set i x) := by
  unfold iL; rw [List.map_set]; rfl
theorem iL_len (l : List Int) : (iL l).length = l.length := by simp
theorem iL_get {l : List Int} {i : Nat} {x : Int} (h : l[i]? = some x) : (iL l)[i]? = some [V.int .i64 x] := by
  unfold iL; rw [List.getElem?_map, h]; rfl
theorem setR_11 (a b : V) : setR [a] 0 [b] = [b] := rfl
theorem own_iff {n m k : Nat} : (1 = 1 /\ n < m /\ (some k : Option Nat) ≠ some 0) ↔ (n < m /\ (k == 0) = false) := by simp
theorem one_iff : (1 = 1 /\ 0 < 1 /\ 0 + 1 <= 1) ↔ True := by decide
theorem mid_get {α : Type} (P : List α) (x : α) (R : List α) {i : Nat} (h : i = P.length) : (P ++ x :: R)[i]? = some x := by subst h; simp
theorem mid_set {α : Type} (P : List α) (x y : α) (R : List α) {i : Nat} (h : i = P.length) : (P ++ x :: R).set i y = P ++ y :: R := by subst h; simp
theorem swp_1 (P A M B S : List Int) (x y : Int) {i j : Nat} (hi : i = P.length) (hj : j = P.length + 1 + A.length + M.length) :
    (P ++ (x :: A ++ (M ++ (y :: B ++ S))))[i]? = some x /\ (P ++ (x :: A ++ (M ++ (y :: B ++ S))))[j]? = some y /\ (P ++ (y :: A ++ (M ++ (y :: B ++ S))))[j]? = some y ∧
    (P ++ (x :: A ++ (M ++ (y :: B ++ S)))).set i y = P ++ (y :: A ++ (M ++ (y :: B ++ S))) /\ (P ++ (y :: A ++ (M ++ (y :: B ++ S)))).set j x = (P ++ [y]) ++ (A ++ ((M ++ [x]) ++ (B ++ S))) := by
  have e : ∀ u : Int, P ++ (u :: A ++ (M ++ (y :: B ++ S))) = (P ++ u :: (A ++ M)) ++ y :: (B ++ S) := fun u => by simp
  have hl : ∀ u : Int, j = (P ++ u :: (A ++ M)).length := fun u => by simp; omega
  refine ⟨mid_get P x _ hi, ?_, ?_, mid_set P x y _ hi, ?_⟩
  · rw [e]; exact mid_get _ _ _ (hl x)
  · rw [e]; exact mid_get _ _ _ (hl y)
  · rw [e, mid_set _ _ _ _ (hl y)]; simp
theorem swap_loop (n : Nat) (H : Heap) (a b k : Nat) (S : List Int) : ∀ (A B P M : List Int) (i Mx : Nat), B.length = A.length -> i + A.length = k -> a + i = P.length -> b + i = P.length + A.length + M.length -> P.length + A.length + M.length + B.length < lim -> A.length < Mx →
    loopx Mx (lSwap_l0 n a b k) [.sl 1 (iL (P ++ (A ++ (M ++ (B ++ S))))) false, .int .i64 (i : Int)] H = some (.ret [.sl 1 (iL (P ++ (B ++ (M ++ (A ++ S))))) false], H)
  | _, _, _, _, i, 0, _, _, _, _, _, h => by omega
  | [], B, P, M, i, Mx + 1, hB, hk, ha, hb, hl, hm => by
    obtain rfl : B = [] := by cases B <;> simp_all
    have hik : ¬ (i : Int) < (k : Int) := by simp at hk; omega
    rw [loopx_succ]
    simp only [lSwap_l0, gv, List.getD_cons_succ, List.getD_cons_zero, bop_i64_lss, bd_some, bv_bool, hik, decide_false, Bool.false_eq_true, if_false, lsl, List.nil_append]
  | x :: A, [], P, M, i, Mx + 1, hB, hk, ha, hb, hl, hm => by simp at hB
  | x :: A, y :: B, P, M, i, Mx + 1, hB, hk, ha, hb, hl, hm => by
    simp only [List.length_cons] at hB hk hb hl hm
    have hik : (i : Int) < (k : Int) := by omega
    have e1 : IntKind.i64.wrap ((a : Int) + (i : Int)) = ((a + i : Nat) : Int) := wN (by omega) (by omega)
    have e2 : IntKind.i64.wrap ((b : Int) + (i : Int)) = ((b + i : Nat) : Int) := wN (by omega) (by omega)
    have e3 : IntKind.i64.wrap ((i : Int) + 1) = ((i + 1 : Nat) : Int) := wN (by omega) (by omega)
    obtain ⟨s1, s2, s3, s4, s5⟩ := swp_1 P A M B S x y ha (show b + i = P.length + 1 + A.length + M.length by omega)
    have l1 : a + i < (P ++ (x :: A ++ (M ++ (y :: B ++ S)))).length := (List.getElem?_eq_some_iff.1 s1).1
    have l2 : b + i < (P ++ (x :: A ++ (M ++ (y :: B ++ S)))).length := (List.getElem?_eq_some_iff.1 s2).1
    have l3 : b + i < (P ++ (y :: A ++ (M ++ (y :: B ++ S)))).length := (List.getElem?_eq_some_iff.1 s3).1
    have ih := swap_loop n H a b k S A B (P ++ [y]) (M ++ [x]) (i + 1) Mx (by omega) (by omega) (by simp; omega) (by simp; omega) (by simp; omega) (by omega)
    rw [loopx_succ]
    simp only [lSwap_l0, gv, List.getD_cons_succ, List.getD_cons_zero, bop_i64_lss, bd_some, bv_bool, hik, decide_true, if_true, bop_i64_add, e1, e2, e3, nv_nat, bdS_some, lsl, iL_len, own_iff, Nat.reduceBEq, and_true, if_true, l1, l2, l3, iL_get s1, iL_get s2, List.getElem?_cons_zero, V.cells, List.length_cons, List.length_nil, Nat.zero_add, one_iff, setR_11, iL_set, s4,
      iL_get s3, s5, ih]
    simp
theorem swap_call (n : Nat) (H : Heap) (c : V) (a b k : Nat) (P A M B S : List Int) (hB : B.length = A.length) (hk : A.length = k) (ha : a = P.length) (hb : b = P.length + A.length + M.length) (hl : P.length + A.length + M.length + B.length < lim) (hn : k + 2 <= n) :
    call n 105 [.sl 1 (iL (P ++ (A ++ (M ++ (B ++ S))))) false, .int .i64 (a : Int), .int .i64 (b : Int), .int .i64 (k : Int), c] H = some (.ret [.sl 1 (iL (P ++ (B ++ (M ++ (A ++ S))))) false], H) := by
  obtain ⟨N, rfl⟩ : ∃ N, n = N + 1 := ⟨n - 1, by omega⟩
  rw [lSwap_eq]
  unfold lSwap
  exact swap_loop N H a b k S A B P M 0 N hB (by omega) (by omega) (by omega) hl (by omega)
theorem rot_loop (n : Nat) (H : Heap) (c : V) (m : Nat) : ∀ (Mx : Nat) (A B P S : List Int), A ≠ [] -> B ≠ [] -> m = P.length + A.length -> P.length + A.length + B.length < lim -> A.length + B.length <= Mx -> A.length + B.length + 2 <= n →
    loopx Mx (lRot_l0 n m c) [.sl 1 (iL (P ++ (A ++ (B ++ S)))) false, .int .i64 (A.length : Int), .int .i64 (B.length : Int)] H = some (.ret [.sl 1 (iL (P ++ (B ++ (A ++ S)))) false], H)
  | 0, A, B, P, S, hA, hB, _, _, h, _ => by
    cases A with
    | nil => exact absurd rfl hA
    | cons => simp at h
  | Mx + 1, A, B, P, S, hA, hB, hm, hl, hx, hn => by
    have a0 : 0 < A.length := List.length_pos_iff.2 hA
    have b0 : 0 < B.length := List.length_pos_iff.2 hB
    have e1 : IntKind.i64.wrap ((m : Int) - (A.length : Int)) = ((P.length : Nat) : Int) := wN (by omega) (by omega)
    rw [loopx_succ]
    by_cases h1 : A.length = B.length
    · have hne : ((A.length : Int) != (B.length : Int)) = false := by simp [h1]
      have hs := swap_call n H c P.length m A.length P A [] B S h1.symm rfl rfl (by simpa using hm) (by simp; omega) (by omega)
      simp only [List.nil_append] at hs
      simp only [lRot_l0, gv, List.getD_cons_succ, List.getD_cons_zero, bop_i64_neq, bd_some, bv_bool, hne, Bool.false_eq_true, if_false, bop_i64_sub, e1, lsl]
      rw [hs, clm_ret]
    · have hne : ((A.length : Int) != (B.length : Int)) = true := by simp; omega
      by_cases h2 : B.length < A.length
      ·
        have hgt : (A.length : Int) > (B.length : Int) := by omega
        obtain ⟨A1, A2, rfl, hA1⟩ : ∃ A1 A2, A = A1 ++ A2 /\ A1.length = B.length := ⟨A.take B.length, A.drop B.length, (List.take_append_drop _ _).symm, by rw [List.length_take]; omega⟩
        rw [List.length_append] at *
        have hs := swap_call n H c P.length m B.length P A1 A2 B S hA1.symm hA1 rfl (by omega) (by omega) (by omega)
        have e2 : IntKind.i64.wrap (((A1.length + A2.length : Nat) : Int) - (B.length : Int)) = ((A2.length : Nat) : Int) := wN (by omega) (by omega)
        have ih := rot_loop n H c m Mx A2 A1 (P ++ B) S (by rintro rfl; simp at h2; omega) (by rintro rfl; simp at hA1; omega) (by simp; omega) (by simp; omega) (by omega) (by omega)
        simp only [List.append_assoc] at hs ih ⊢
        rw [hA1] at ih
        simp only [lRot_l0, gv, List.getD_cons_succ, List.getD_cons_zero, bop_i64_neq, bd_some, bv_bool, hne, if_true, bop_i64_gtr, hgt, decide_true, bop_i64_sub, e1, lsl]
        rw [hs, clm_ret, e2, ih]
      · have hgt : ¬ (A.length : Int) > (B.length : Int) := by omega
        obtain ⟨B1, B2, rfl, hB2⟩ : ∃ B1 B2, B = B1 ++ B2 /\ B2.length = A.length := ⟨B.take (B.length - A.length), B.drop (B.length - A.length), (List.take_append_drop _ _).symm, by rw [List.length_drop]; omega⟩
        rw [List.length_append] at *
        have hs := swap_call n H c P.length (P.length + A.length + B1.length) A.length P A B1 B2 S hB2 rfl rfl rfl (by omega) (by omega)
        have e2 : IntKind.i64.wrap ((m : Int) + ((B1.length + B2.length : Nat) : Int)) = ((m + (B1.length + B2.length) : Nat) : Int) := wN (by omega) (by omega)
        have e3 : IntKind.i64.wrap (((m + (B1.length + B2.length) : Nat) : Int) - (A.length : Int)) = ((P.length + A.length + B1.length : Nat) : Int) := wN (by omega) (by omega)
        have e4 : IntKind.i64.wrap (((B1.length + B2.length : Nat) : Int) - (A.length : Int)) = ((B1.length : Nat) : Int) := wN (by omega) (by omega)
        have ih := rot_loop n H c m Mx B2 B1 P (A ++ S) (by rintro rfl; simp at hB2; omega) (by rintro rfl; simp at h1; omega) (by omega) (by omega) (by omega) (by omega)
        simp only [List.append_assoc] at hs ih ⊢
        rw [hB2] at ih
        simp only [lRot_l0, gv, List.getD_cons_succ, List.getD_cons_zero, bop_i64_neq, bd_some, bv_bool, hne, if_true, bop_i64_gtr, hgt, decide_false, Bool.false_eq_true, if_false, bop_i64_sub, bop_i64_add, e1, e2, e3, lsl]
        rw [hs, clm_ret, e4, ih]
theorem rot_call (n : Nat) (H : Heap) (c : V) (a m b : Nat) (P A B S : List Int) (hA : A ≠ []) (hB : B ≠ []) (ha : a = P.length) (hm : m = P.length + A.length) (hb : b = P.length + A.length + B.length) (hl : P.length + A.length + B.length < lim) (hn : A.length + B.length + 3 <= n) :
    call n 101 [.sl 1 (iL (P ++ (A ++ (B ++ S)))) false, .int .i64 (a : Int), .int .i64 (m : Int), .int .i64 (b : Int), c] H = some (.ret [.sl 1 (iL (P ++ (B ++ (A ++ S)))) false], H) := by
  obtain ⟨N, rfl⟩ : ∃ N, n = N + 1 := ⟨n - 1, by omega⟩
  have e1 : IntKind.i64.wrap ((m : Int) - (a : Int)) = ((A.length : Nat) : Int) := wN (by omega) (by omega)
  have e2 : IntKind.i64.wrap ((b : Int) - (m : Int)) = ((B.length : Nat) : Int) := wN (by omega) (by omega)
  rw [lRot_eq]
  unfold lRot
  rw [e1, e2]
  exact rot_loop N H c m N A B P S hA hB hm hl (by omega) (by omega)
end Go.Proofs.Try
set_option linter.unusedVariables false
set_option linter.unusedSimpArgs false
namespace Go.Proofs.Try
open Go.L Go.Rp
set_option maxRecDepth 100000
structure CmpOk (n0 : Nat) (c : V) (H : Heap) (K : Int -> Int) (D : Int -> Prop) : Prop where
  ex : ∃ f caps, c = .fn f caps /\ okV prog 3 f = true /\ keepS f = true /\ ∀ n, n0 <= n -> ∀ x y, D x -> D y -> ∃ q, call n f ([.int .i64 x, .int .i64 y] ++ caps) H = some (.ret [.int .i64 q], H) /\ (q < 0 ↔ K x < K y)
theorem adj (Q T : List Int) (y x : Int) {i j : Nat} (hi : i = Q.length) (hj : j = Q.length + 1) :
    (Q ++ y :: x :: T)[i]? = some y /\ (Q ++ y :: x :: T)[j]? = some x /\ (Q ++ y :: x :: T).set j y = Q ++ y :: y :: T /\ (Q ++ y :: x :: T).set i x = Q ++ x :: x :: T ∧
    (Q ++ y :: y :: T)[i]? = some y /\ (Q ++ x :: x :: T)[j]? = some x /\ (Q ++ y :: y :: T).set i x = Q ++ x :: y :: T /\ (Q ++ x :: x :: T).set j y = Q ++ x :: y :: T := by
  have e : ∀ u v : Int, Q ++ u :: v :: T = (Q ++ [u]) ++ v :: T := fun u v => by simp
  have hl : ∀ u : Int, j = (Q ++ [u]).length := fun u => by simp; omega
  refine ⟨mid_get _ _ _ hi, ?_, ?_, mid_set _ _ _ _ hi, mid_get _ _ _ hi, ?_, mid_set _ _ _ _ hi, ?_⟩
  · rw [e]; exact mid_get _ _ _ (hl y)
  · rw [e, mid_set _ _ _ _ (hl y)]; simp
  · rw [e]; exact mid_get _ _ _ (hl x)
  · rw [e, mid_set _ _ _ _ (hl x)]; simp
section
variable {K : Int -> Int} {D : Int -> Prop} {H : Heap} {c : V} {n0 : Nat} {p : Nat -> Int}
theorem ins_inner (hc : CmpOk n0 c H K D) (n a i : Nat) (st1 : List V) (next3 : List V -> Heap -> Option (Res × Heap)) (hst : gv st1 1 = .int .i64 (i : Int)) (hi : i + 1 < lim) (hn : n0 <= n) (R : List Int) : ∀ (r : List Int) (x : Int) (b P : List Int) (j Mx : Nat),
    a = P.length -> j = P.length + r.length -> j + b.length + R.length + 1 < lim -> (∀ y ∈ r, D y) -> D x -> r.length < Mx →
    loopx Mx (lIns_l6 n a c st1 next3) [.sl 1 (iL (P ++ (r.reverse ++ (x :: (b ++ R))))) false, .int .i64 (j : Int)] H = next3 [.sl 1 (iL (P ++ (insD K r x b ++ R))) false, .int .i64 ((i + 1 : Nat) : Int)] H
  | _, _, _, _, _, 0, _, _, _, _, _, h => by omega
  | [], x, b, P, j, Mx + 1, ha, hj, hl, hr, hx, hM => by
    have hja : ¬ (j : Int) > (a : Int) := by simp at hj; omega
    have e1 : IntKind.i64.wrap ((i : Int) + 1) = ((i + 1 : Nat) : Int) := wN (by omega) hi
    rw [loopx_succ]
    simp only [lIns_l6, gv, List.getD_cons_succ, List.getD_cons_zero, bop_i64_gtr, bd_some, bv_bool, hja, decide_false, Bool.false_eq_true, if_false, lsl]
    simp only [gv] at hst
    simp only [hst, bop_i64_add, bd_some, e1, insD, List.reverse_nil, List.nil_append, List.cons_append]
  | y :: r, x, b, P, j, Mx + 1, ha, hj, hl, hr, hx, hM => by
    obtain ⟨f, caps, hcf, hok, hk, hcmp⟩ := hc.ex
    have hfn : ∀ k : Nat -> List V -> Option (Res × Heap), fnK c k = k f caps := fun k => by rw [hcf]; rfl
    simp only [List.length_cons] at hj hM
    have hja : (j : Int) > (a : Int) := by omega
    have hL : P ++ ((y :: r).reverse ++ (x :: (b ++ R))) = (P ++ r.reverse) ++ y :: x :: (b ++ R) := by simp
    have e1 : IntKind.i64.wrap ((i : Int) + 1) = ((i + 1 : Nat) : Int) := wN (by omega) hi
    have e2 : IntKind.i64.wrap ((j : Int) - 1) = ((j - 1 : Nat) : Int) := wN (by omega) (by omega)
    obtain ⟨s1, s2, s3, s4, s5, s6, s7, s8⟩ := adj (P ++ r.reverse) (b ++ R) y x (i := j - 1) (j := j) (by simp; omega) (by simp; omega)
    have l1 := (List.getElem?_eq_some_iff.1 s1).1
    have l2 := (List.getElem?_eq_some_iff.1 s2).1
    have l5 := (List.getElem?_eq_some_iff.1 s5).1
    obtain ⟨q, hq, hqk⟩ := hcmp n hn x y hx (hr y (by simp))
    have ih := ins_inner hc n a i st1 next3 hst hi hn R r x (y :: b) P (j - 1) Mx ha (by omega) (by simp; omega) (fun z hz => hr z (List.mem_cons_of_mem _ hz)) hx (by omega)
    rw [loopx_succ, hL]
    simp only [lIns_l6, gv, List.getD_cons_succ, List.getD_cons_zero, bop_i64_gtr, bd_some, bv_bool, hja, decide_true, if_true, nv_nat, bdS_some, lsl, iL_len, own_iff, Nat.reduceBEq, and_true, l1, l2, iL_get s1, iL_get s2, List.getElem?_cons_zero, bop_i64_sub, e2, hfn, hok, hk]
    rw [hq, cl_ret]
    simp only [one1_one, bop_i64_lss, bd_some, bv_bool]
    by_cases hxy : K x < K y
    · have hq0 : q < 0 := hqk.2 hxy
      simp only [hq0, decide_true, if_true, nv_nat, bdS_some, bd_some, iL_get s1, iL_get s2, List.getElem?_cons_zero, V.cells, List.length_cons, List.length_nil, Nat.zero_add, one_iff, setR_11, iL_set, s3, iL_len, l1, l2, l5, iL_get s5, s7, if_true]
      rw [insD, if_pos hxy]
      have hL2 : (P ++ r.reverse) ++ x :: y :: (b ++ R) = P ++ (r.reverse ++ (x :: (y :: b ++ R))) := by simp
      rw [hL2]
      exact ih
    · have hq0 : ¬ q < 0 := fun h => hxy (hqk.1 h)
      simp only [gv] at hst
      simp only [hq0, decide_false, Bool.false_eq_true, if_false, hst, bop_i64_add, bd_some, e1]
      rw [insD, if_neg hxy]
      simp
theorem ins_loop (hc : CmpOk n0 c H K D) (n lo len : Nat) (hn : n0 <= n) (hn2 : len <= n) (hlim : lo + len + 1 < lim) (P S : List Int) (hP : lo = P.length) (hD : ∀ x ∈ rng p lo len, D x) (hS : lo + len + S.length < lim) : ∀ (d k Mx : Nat), 1 <= k -> (k + d = len \/ (len = 0 /\ k = 1 /\ d = 0)) -> d < Mx →
    loopx Mx (lIns_l0 n lo ((lo + len : Nat) : Int) c) [.sl 1 (iL (P ++ (sR K p lo (min k len) ++ (rng p (lo + k) (len - k) ++ S)))) false, .int .i64 ((lo + k : Nat) : Int)] H = some (.ret [.sl 1 (iL (P ++ (sR K p lo len ++ S))) false], H)
  | d, k, 0, _, _, h => by omega
  | 0, k, Mx + 1, h1, hk, _ => by
    have hik : ¬ ((lo + k : Nat) : Int) < ((lo + len : Nat) : Int) := by omega
    have hmin : min k len = len := by omega
    have hz : len - k = 0 := by omega
    rw [loopx_succ]
    simp only [lIns_l0, gv, List.getD_cons_succ, List.getD_cons_zero, bop_i64_lss, bd_some, bv_bool, hik, decide_false, Bool.false_eq_true, if_false, lsl, hmin, hz]
    rfl
  | d + 1, k, Mx + 1, h1, hk, hM => by
    have hkl : k + (d + 1) = len := by omega
    have hik : ((lo + k : Nat) : Int) < ((lo + len : Nat) : Int) := by omega
    have hmin : min k len = k := by omega
    have hr : rng p (lo + k) (len - k) = p (lo + k) :: rng p (lo + (k + 1)) (len - (k + 1)) := by
      rw [show len - k = (len - (k + 1)) + 1 by omega, rng_cons, Nat.add_assoc]
    have ih := ins_loop hc n lo len hn hn2 hlim P S hP hD hS d (k + 1) Mx (by omega) (by omega) (by omega)
    have hm2 : min (k + 1) len = k + 1 := by omega
    rw [hm2] at ih
    have hDk : ∀ y ∈ (sR K p lo k).reverse, D y := fun y hy => hD y (by
      obtain ⟨i, h1, h2, h3⟩ := sR_mem.1 (List.mem_reverse.1 hy)
      exact rng_mem.2 ⟨i, h1, by omega, h3⟩)
    have inner := ins_inner hc n lo (lo + k) [.sl 1 (iL (P ++ (sR K p lo k ++ (rng p (lo + k) (len - k) ++ S)))) false, .int .i64 ((lo + k : Nat) : Int)] (loopx Mx (lIns_l0 n lo ((lo + len : Nat) : Int) c)) rfl (by omega) hn (rng p (lo + (k + 1)) (len - (k + 1)) ++ S)
      (sR K p lo k).reverse (p (lo + k)) [] P (lo + k) n hP (by rw [List.length_reverse, sR_len]; omega) (by rw [List.length_append, rng_len]; simp; omega) hDk (hD _ (rng_mem.2 ⟨_, by omega, by omega, rfl⟩)) (by rw [List.length_reverse, sR_len]; omega)
    rw [List.reverse_reverse, List.nil_append] at inner
    rw [loopx_succ, hmin]
    simp only [lIns_l0, gv, List.getD_cons_succ, List.getD_cons_zero, bop_i64_lss, bd_some, bv_bool, hik, decide_true, if_true, lsl]
    have hL : P ++ (sR K p lo k ++ (rng p (lo + k) (len - k) ++ S)) = P ++ (sR K p lo k ++ (p (lo + k) :: (rng p (lo + (k + 1)) (len - (k + 1)) ++ S))) := by rw [hr]; rfl
    simp only [hL] at inner ⊢
    rw [inner]
    exact ih
theorem ins_call (hc : CmpOk n0 c H K D) (n lo len : Nat) (P S : List Int) (hP : lo = P.length) (hD : ∀ x ∈ rng p lo len, D x) (hS : lo + len + S.length + 1 < lim) (hn : n0 + 1 <= n) (hn2 : len + 2 <= n) :
    call n 93 [.sl 1 (iL (P ++ (rng p lo len ++ S))) false, .int .i64 (lo : Int), .int .i64 ((lo + len : Nat) : Int), c] H = some (.ret [.sl 1 (iL (P ++ (sR K p lo len ++ S))) false], H) := by
  obtain ⟨N, rfl⟩ : ∃ N, n = N + 1 := ⟨n - 1, by omega⟩
  have e1 : IntKind.i64.wrap ((lo : Int) + 1) = ((lo + 1 : Nat) : Int) := wN (by omega) (by omega)
  rw [lIns_eq]
  unfold lIns
  rw [e1]
  have h1 : rng p lo len = sR K p lo (min 1 len) ++ rng p (lo + 1) (len - 1) := by
    cases len with
    | zero => simp [rng, sR]
    | succ l =>
      have : min 1 (l + 1) = 1 := by omega
      rw [this, rng_cons]; simp [sR, insD]
  rw [h1, List.append_assoc]
  exact ins_loop hc N lo len (by omega) (by omega) (by omega) P S hP hD (by omega) (len - 1) 1 N (by omega) (by omega) (by omega)
theorem bs_gen {l : V} {body : List V -> Heap -> (List V -> Heap -> Option (Res × Heap)) -> Option (Res × Heap)} {fin : Nat -> Option (Res × Heap)} {Q : Nat -> Prop} (lo hi : Nat)
    (step : ∀ i j : Nat, lo <= i -> i < j -> j <= hi -> ∀ next, (Q ((i + j) / 2) /\ body [l, .int .i64 (i : Int), .int .i64 (j : Int)] H next = next [l, .int .i64 (((i + j) / 2 + 1 : Nat) : Int), .int .i64 (j : Int)] H) \/ (¬ Q ((i + j) / 2) /\ body [l, .int .i64 (i : Int), .int .i64 (j : Int)] H next = next [l, .int .i64 (i : Int), .int .i64 (((i + j) / 2 : Nat) : Int)] H))
    (stop : ∀ i : Nat, lo <= i -> i <= hi -> ∀ next, body [l, .int .i64 (i : Int), .int .i64 (i : Int)] H next = fin i) : ∀ (M i j : Nat), j - i < M -> lo <= i -> i <= j -> j <= hi -> (i = lo \/ Q (i - 1)) -> (j = hi \/ ¬ Q j) →
    ∃ r, lo <= r /\ r <= hi /\ (r = lo \/ Q (r - 1)) /\ (r = hi \/ ¬ Q r) /\ loopx M body [l, .int .i64 (i : Int), .int .i64 (j : Int)] H = fin r
  | 0, i, j, h, _, _, _, _, _ => by omega
  | M + 1, i, j, h, h1, h2, h3, h4, h5 => by
    by_cases hij : i = j
    · subst hij
      exact ⟨i, h1, h3, h4, h5, by rw [loopx_succ]; exact stop i h1 h3 _⟩
    · rcases step i j h1 (by omega) h3 (loopx M body) with ⟨q, e⟩ | ⟨q, e⟩
      · obtain ⟨r, r1, r2, r3, r4, r5⟩ := bs_gen lo hi step stop M ((i + j) / 2 + 1) j (by omega) (by omega) (by omega) h3 (.inr (by simpa using q)) h5
        exact ⟨r, r1, r2, r3, r4, by rw [loopx_succ, e]; exact r5⟩
      · obtain ⟨r, r1, r2, r3, r4, r5⟩ := bs_gen lo hi step stop M i ((i + j) / 2) (by omega) h1 (by omega) (by omega) h4 (.inr q)
        exact ⟨r, r1, r2, r3, r4, by rw [loopx_succ, e]; exact r5⟩
end
theorem cvt_iu (a : Int) : cvt prog 3 124 (.int .i64 a) = some (.int .u64 (IntKind.u64.wrap a)) := by kernel_rfl
theorem cvt_ui (a : Int) : cvt prog 124 3 (.int .u64 a) = some (.int .i64 (IntKind.i64.wrap a)) := by kernel_rfl
theorem shr_u (a : Int) : bop prog .shr 124 (.int .u64 a) (.int .u64 1) = some (.int .u64 (a.fdiv (2 ^ (min (1 : Int).toNat 64)))) := by kernel_rfl
theorem half_ok {i j : Nat} (h : i + j < lim) : IntKind.i64.wrap ((IntKind.u64.wrap (((i + j : Nat) : Int))).fdiv (2 ^ (min (1 : Int).toNat 64))) = (((i + j) / 2 : Nat) : Int) := by
  have e : IntKind.u64.wrap (((i + j : Nat) : Int)) = ((i + j : Nat) : Int) := by rw [IntKind.wrap_u64]; unfold lim at h; omega
  rw [e]
  have e2 : (2 : Int) ^ (min (1 : Int).toNat 64) = 2 := by decide
  rw [e2, Int.fdiv_eq_ediv_of_nonneg _ (by decide)]
  exact wN (by omega) (by omega)
end Go.Proofs.Try
set_option linter.unusedVariables false
set_option linter.unusedSimpArgs false
namespace Go.Proofs.Try
open Go.L Go.Rp
set_option maxRecDepth 100000
noncomputable def symU (n : Nat) (b : Int) (c : V) (v100 v138 : V) (l : List (List V)) (h : Heap) : Option (Res × Heap) :=
  bd (bop prog .lss 3 v100 v138) fun v153 =>
  bv v153 fun b154 => if b154 then
    bd (bop prog .lss 3 v138 (V.int .i64 b)) fun v155 =>
    bv v155 fun b156 => if b156 then
      clm (call n 94 (V.sl 1 l false :: [v100, v138, (V.int .i64 b), c]) h) 1 fun l157 r158 h159 => some (Res.ret (V.sl 1 l157 false :: []), h159)
    else some (Res.ret (V.sl 1 l false :: []), h)
  else some (Res.ret (V.sl 1 l false :: []), h)
noncomputable def symV (n : Nat) (a b : Int) (c : V) (v100 v138 v1 : V) (l : List (List V)) (h : Heap) : Option (Res × Heap) :=
  bd (bop prog .lss 3 (V.int .i64 a) v1) fun v146 =>
  bv v146 fun b147 => if b147 then
    bd (bop prog .lss 3 v1 v100) fun v148 =>
    bv v148 fun b149 => if b149 then
      clm (call n 94 (V.sl 1 l false :: [(V.int .i64 a), v1, v100, c]) h) 1 fun l150 r151 h152 => symU n b c v100 v138 l150 h152
    else symU n b c v100 v138 l h
  else symU n b c v100 v138 l h
noncomputable def symT (n : Nat) (a m b : Int) (c : V) (v100 v101 v1 : V) (l : List (List V)) (hh : Heap) : Option (Res × Heap) :=
  bd (bop prog .sub 3 v101 v1) fun v138 =>
  bd (bop prog .lss 3 v1 (V.int .i64 m)) fun v139 =>
  bv v139 fun b140 => if b140 then
    bd (bop prog .lss 3 (V.int .i64 m) v138) fun v141 =>
    bv v141 fun b142 => if b142 then
      clm (call n 101 (V.sl 1 l false :: [v1, (V.int .i64 m), v138, c]) hh) 1 fun l143 r144 h145 => symV n a b c v100 v138 v1 l143 h145
    else symV n a b c v100 v138 v1 l hh
  else symV n a b c v100 v138 v1 l hh
def SymOk (c : V) (H : Heap) (K : Int -> Int) (D : Int -> Prop) (n sz : Nat) : Prop := ∀ (A B P S : List Int) (a m b : Nat), A ≠ [] -> B ≠ [] -> A.length + B.length <= sz -> a = P.length -> m = P.length + A.length -> b = P.length + A.length + B.length -> 2 * b + 1 < lim →
  Sd K A -> Sd K B -> (∀ x ∈ A, ∀ y ∈ B, x < y) -> (∀ x ∈ A, D x) -> (∀ y ∈ B, D y) -> ∃ C, C.Perm (A ++ B) /\ Sd K C ∧
    call n 94 [.sl 1 (iL (P ++ (A ++ (B ++ S)))) false, .int .i64 (a : Int), .int .i64 (m : Int), .int .i64 (b : Int), c] H = some (.ret [.sl 1 (iL (P ++ (C ++ S))) false], H)
section
variable {K : Int -> Int} {D : Int -> Prop} {H : Heap} {c : V}
theorem symU_ok {n sz : Nat} (ih : SymOk c H K D n sz) (A B P S : List Int) (mid e b : Nat) (hsz : A.length + B.length <= sz) (hm : mid = P.length) (he : e = P.length + A.length) (hb : b = P.length + A.length + B.length) (hl : 2 * b + 1 < lim)
    (hA : Sd K A) (hB : Sd K B) (hlt : ∀ x ∈ A, ∀ y ∈ B, x < y) (dA : ∀ x ∈ A, D x) (dB : ∀ y ∈ B, D y) : ∃ C, C.Perm (A ++ B) /\ Sd K C ∧
    symU n b c (.int .i64 (mid : Int)) (.int .i64 (e : Int)) (iL (P ++ (A ++ (B ++ S)))) H = some (.ret [.sl 1 (iL (P ++ (C ++ S))) false], H) := by
  unfold symU
  by_cases h1 : A = []
  · subst h1
    have hc : ¬ (mid : Int) < (e : Int) := by simp at he; omega
    exact ⟨B, .refl _, hB, by simp only [bop_i64_lss, bd_some, bv_bool, hc, decide_false, Bool.false_eq_true, if_false, List.nil_append]⟩
  · have hA0 : 0 < A.length := List.length_pos_iff.2 h1
    have hc : (mid : Int) < (e : Int) := by omega
    by_cases h2 : B = []
    · subst h2
      have hc2 : ¬ (e : Int) < (b : Int) := by simp at hb; omega
      exact ⟨A, by simp, hA, by simp only [bop_i64_lss, bd_some, bv_bool, hc, hc2, decide_true, decide_false, Bool.false_eq_true, if_false, if_true, List.nil_append]⟩
    · have hB0 : 0 < B.length := List.length_pos_iff.2 h2
      have hc2 : (e : Int) < (b : Int) := by omega
      obtain ⟨C, p, s, e1⟩ := ih A B P S mid e b h1 h2 hsz hm he hb hl hA hB hlt dA dB
      refine ⟨C, p, s, ?_⟩
      simp only [bop_i64_lss, bd_some, bv_bool, hc, hc2, decide_true, if_true]
      rw [e1, clm_ret]
theorem symV_ok {n sz : Nat} (ih : SymOk c H K D n sz) (A1 A2 B1 B2 P S : List Int) (a r mid e b : Nat) (h1z : A1.length + B1.length <= sz) (h2z : A2.length + B2.length <= sz) (ha : a = P.length) (hr : r = P.length + A1.length) (hm : mid = P.length + A1.length + B1.length) (he : e = mid + A2.length) (hb : b = e + B2.length) (hl : 2 * b + 1 < lim)
    (s1 : Sd K A1) (t1 : Sd K B1) (s2 : Sd K A2) (t2 : Sd K B2) (hlt : ∀ x ∈ A1 ++ A2, ∀ y ∈ B1 ++ B2, x < y) (dA : ∀ x ∈ A1 ++ A2, D x) (dB : ∀ y ∈ B1 ++ B2, D y) : ∃ C1 C2, C1.Perm (A1 ++ B1) /\ Sd K C1 /\ C2.Perm (A2 ++ B2) /\ Sd K C2 ∧
    symV n a b c (.int .i64 (mid : Int)) (.int .i64 (e : Int)) (.int .i64 (r : Int)) (iL (P ++ (A1 ++ (B1 ++ (A2 ++ (B2 ++ S)))))) H = some (.ret [.sl 1 (iL (P ++ (C1 ++ (C2 ++ S)))) false], H) := by
  have hU : ∀ C1 : List Int, C1.length = A1.length + B1.length -> ∃ C2, C2.Perm (A2 ++ B2) /\ Sd K C2 /\ symU n b c (.int .i64 (mid : Int)) (.int .i64 (e : Int)) (iL (P ++ (C1 ++ (A2 ++ (B2 ++ S))))) H = some (.ret [.sl 1 (iL (P ++ (C1 ++ (C2 ++ S)))) false], H) := fun C1 hC => by
    obtain ⟨C2, p, s, e1⟩ := symU_ok ih A2 B2 (P ++ C1) S mid e b h2z (by simp; omega) (by simp; omega) (by simp; omega) hl s2 t2 (fun x hx y hy => hlt x (List.mem_append_right _ hx) y (List.mem_append_right _ hy)) (fun x hx => dA x (List.mem_append_right _ hx)) (fun y hy => dB y (List.mem_append_right _ hy))
    exact ⟨C2, p, s, by simpa only [List.append_assoc] using e1⟩
  unfold symV
  by_cases h1 : A1 = []
  · subst h1
    have hc : ¬ (a : Int) < (r : Int) := by simp at hr; omega
    obtain ⟨C2, p, s, e1⟩ := hU B1 (by simp)
    exact ⟨B1, C2, .refl _, t1, p, s, by simp only [bop_i64_lss, bd_some, bv_bool, hc, decide_false, Bool.false_eq_true, if_false, List.nil_append]; exact e1⟩
  · have hA0 : 0 < A1.length := List.length_pos_iff.2 h1
    have hc : (a : Int) < (r : Int) := by omega
    by_cases h2 : B1 = []
    · subst h2
      have hc2 : ¬ (r : Int) < (mid : Int) := by simp at hm; omega
      obtain ⟨C2, p, s, e1⟩ := hU A1 (by simp)
      exact ⟨A1, C2, by simp, s1, p, s, by simp only [bop_i64_lss, bd_some, bv_bool, hc, hc2, decide_true, decide_false, Bool.false_eq_true, if_false, if_true, List.nil_append]; exact e1⟩
    · have hB0 : 0 < B1.length := List.length_pos_iff.2 h2
      have hc2 : (r : Int) < (mid : Int) := by omega
      obtain ⟨C1, p1, q1, e1⟩ := ih A1 B1 P (A2 ++ (B2 ++ S)) a r mid h1 h2 h1z ha hr hm (by omega) s1 t1 (fun x hx y hy => hlt x (List.mem_append_left _ hx) y (List.mem_append_left _ hy)) (fun x hx => dA x (List.mem_append_left _ hx)) (fun y hy => dB y (List.mem_append_left _ hy))
      obtain ⟨C2, p2, q2, e2⟩ := hU C1 (by rw [p1.length_eq]; simp)
      refine ⟨C1, C2, p1, q1, p2, q2, ?_⟩
      simp only [bop_i64_lss, bd_some, bv_bool, hc, hc2, decide_true, if_true]
      rw [e1, clm_ret, e2]
theorem symT_ok {n sz : Nat} (ih : SymOk c H K D n sz) (A1 A2 B1 B2 P S : List Int) (a r m mid nn b : Nat) (h1z : A1.length + B1.length <= sz) (h2z : A2.length + B2.length <= sz) (ha : a = P.length) (hr : r = P.length + A1.length) (hmm : m = r + A2.length) (hm : mid = P.length + A1.length + B1.length) (hnn : nn = mid + m) (hb : b = m + B1.length + B2.length) (hl : 2 * b + 1 < lim) (hn : A2.length + B1.length + 3 <= n)
    (s1 : Sd K A1) (t1 : Sd K B1) (s2 : Sd K A2) (t2 : Sd K B2) (hlt : ∀ x ∈ A1 ++ A2, ∀ y ∈ B1 ++ B2, x < y) (dA : ∀ x ∈ A1 ++ A2, D x) (dB : ∀ y ∈ B1 ++ B2, D y) : ∃ C1 C2, C1.Perm (A1 ++ B1) /\ Sd K C1 /\ C2.Perm (A2 ++ B2) /\ Sd K C2 ∧
    symT n a m b c (.int .i64 (mid : Int)) (.int .i64 (nn : Int)) (.int .i64 (r : Int)) (iL (P ++ ((A1 ++ A2) ++ ((B1 ++ B2) ++ S)))) H = some (.ret [.sl 1 (iL (P ++ (C1 ++ (C2 ++ S)))) false], H) := by
  obtain ⟨C1, C2, p1, q1, p2, q2, e1⟩ := symV_ok ih A1 A2 B1 B2 P S a r mid (m + B1.length) b h1z h2z ha hr hm (by omega) (by omega) hl s1 t1 s2 t2 hlt dA dB
  refine ⟨C1, C2, p1, q1, p2, q2, ?_⟩
  have e2 : IntKind.i64.wrap ((nn : Int) - (r : Int)) = ((m + B1.length : Nat) : Int) := wN (by omega) (by omega)
  unfold symT
  simp only [bop_i64_sub, bd_some, e2, bop_i64_lss, bv_bool]
  by_cases h1 : A2 = []
  · subst h1
    have hc : ¬ (r : Int) < (m : Int) := by simp at hmm; omega
    simp only [hc, decide_false, Bool.false_eq_true, if_false]
    simpa only [List.append_nil, List.nil_append, List.append_assoc] using e1
  · have hA0 : 0 < A2.length := List.length_pos_iff.2 h1
    have hc : (r : Int) < (m : Int) := by omega
    by_cases h2 : B1 = []
    · subst h2
      have hc2 : ¬ (m : Int) < ((m + ([] : List Int).length : Nat) : Int) := by simp
      simp only [hc, hc2, decide_true, decide_false, Bool.false_eq_true, if_false, if_true]
      simpa only [List.append_nil, List.nil_append, List.append_assoc] using e1
    · have hB0 : 0 < B1.length := List.length_pos_iff.2 h2
      have hc2 : (m : Int) < ((m + B1.length : Nat) : Int) := by omega
      have hrot := rot_call n H c r m (m + B1.length) (P ++ A1) A2 B1 (B2 ++ S) h1 h2 (by simp; omega) (by simp; omega) (by simp; omega) (by simp; omega) hn
      simp only [hc, hc2, decide_true, if_true]
      simp only [List.append_assoc] at hrot e1 ⊢
      rw [hrot, clm_ret, e1]
end
end Go.Proofs.Try
set_option linter.unusedVariables false
set_option linter.unusedSimpArgs false
namespace Go.Proofs.Try
open Go.L Go.Rp
set_option maxRecDepth 100000
theorem some_ne {k : Nat} : ((some k : Option Nat) ≠ some 0) = ((k == 0) = false) := by simp
theorem zlo : (0 : Nat) < 1 := by decide
theorem ole : (1 : Nat) <= 1 := by decide
theorem seg_get (P A S : List Int) {h : Nat} (h1 : P.length <= h) (h2 : h < P.length + A.length) : (P ++ (A ++ S))[h]? = some (A.getD (h - P.length) 0) := by
  rw [List.getElem?_append_right h1, List.getElem?_append_left (by omega), List.getD_eq_getElem?_getD, List.getElem?_eq_getElem (by omega)]; rfl
theorem getD_mem {A : List Int} {k : Nat} (h : k < A.length) : A.getD k 0 ∈ A := by
  rw [List.getD_eq_getElem?_getD, List.getElem?_eq_getElem h]; exact List.getElem_mem h
section
variable {K : Int -> Int} {D : Int -> Prop} {H : Heap} {c : V} {n0 : Nat} {p : Nat -> Int}
theorem shr_loop (n i : Nat) (st1 : List V) (hst : st1.getD 1 (.bool false) = .int .i64 (i : Int)) (hi : i + 1 < lim) (x : Int) (R : List Int) : ∀ (B P : List Int) (k Mx : Nat), k = P.length -> i = k + 1 + B.length -> B.length < Mx →
    loopx Mx (lSym_l30 n st1) [.sl 1 (iL (P ++ (x :: (B ++ R)))) false, .int .i64 (k : Int)] H = some (.ret [.sl 1 (iL (P ++ (B ++ (x :: R)))) false], H)
  | _, _, _, 0, _, _, h => by omega
  | [], P, k, Mx + 1, hk, hi', hM => by
    have e1 : IntKind.i64.wrap ((i : Int) - 1) = ((i - 1 : Nat) : Int) := wN (by omega) (by omega)
    have hc : ¬ (k : Int) < ((i - 1 : Nat) : Int) := by simp at hi'; omega
    rw [loopx_succ]
    simp only [lSym_l30, gv, List.getD_cons_succ, List.getD_cons_zero, hst, bop_i64_sub, bd_some, e1, bop_i64_lss, bv_bool, hc, decide_false, Bool.false_eq_true, if_false, lsl, List.nil_append]
  | y :: B, P, k, Mx + 1, hk, hi', hM => by
    simp only [List.length_cons] at hi' hM
    have e1 : IntKind.i64.wrap ((i : Int) - 1) = ((i - 1 : Nat) : Int) := wN (by omega) (by omega)
    have e2 : IntKind.i64.wrap ((k : Int) + 1) = ((k + 1 : Nat) : Int) := wN (by omega) (by omega)
    have hc : (k : Int) < ((i - 1 : Nat) : Int) := by omega
    obtain ⟨s1, s2, s3, s4, s5, s6, s7, s8⟩ := adj P (B ++ R) x y hk (show k + 1 = P.length + 1 by omega)
    have l1 := (List.getElem?_eq_some_iff.1 s1).1
    have l2 := (List.getElem?_eq_some_iff.1 s2).1
    have l6 := (List.getElem?_eq_some_iff.1 s6).1
    have ih := shr_loop n i st1 hst hi x R B (P ++ [y]) (k + 1) Mx (by simp; omega) (by omega) (by omega)
    rw [loopx_succ, List.cons_append]
    simp only [lSym_l30, gv, List.getD_cons_succ, List.getD_cons_zero, hst, bop_i64_sub, bop_i64_add, bd_some, e1, e2, bop_i64_lss, bv_bool, hc, decide_true, if_true, nv_nat, bdS_some, lsl, iL_len, own_iff, some_ne, true_and, zlo, ole, Nat.reduceBEq, and_true, l1, l2, l6, iL_get s1, iL_get s2, List.getElem?_cons_zero, V.cells, List.length_cons, List.length_nil, Nat.zero_add, one_iff, setR_11, iL_set, s4, iL_get s6, s8]
    simpa only [List.append_assoc, List.cons_append, List.nil_append] using ih
theorem shl_loop (n i : Nat) (st50 : List V) (hst : st50.getD 1 (.bool false) = .int .i64 (i : Int)) (x : Int) : ∀ (r R P : List Int) (k Mx : Nat), i = P.length -> k = P.length + r.length -> k + 1 < lim -> r.length < Mx →
    loopx Mx (lSym_l82 n st50) [.sl 1 (iL (P ++ (r.reverse ++ (x :: R)))) false, .int .i64 (k : Int)] H = some (.ret [.sl 1 (iL (P ++ (x :: (r.reverse ++ R)))) false], H)
  | _, _, _, _, 0, _, _, _, h => by omega
  | [], R, P, k, Mx + 1, hi, hk, hl, hM => by
    have hc : ¬ (k : Int) > (i : Int) := by simp at hk; omega
    rw [loopx_succ]
    simp only [lSym_l82, gv, List.getD_cons_succ, List.getD_cons_zero, hst, bop_i64_gtr, bd_some, bv_bool, hc, decide_false, Bool.false_eq_true, if_false, lsl, List.nil_append, List.reverse_nil]
  | y :: r, R, P, k, Mx + 1, hi, hk, hl, hM => by
    simp only [List.length_cons] at hk hM
    have e1 : IntKind.i64.wrap ((k : Int) - 1) = ((k - 1 : Nat) : Int) := wN (by omega) (by omega)
    have hc : (k : Int) > (i : Int) := by omega
    have hL : P ++ ((y :: r).reverse ++ (x :: R)) = (P ++ r.reverse) ++ y :: x :: R := by simp
    obtain ⟨s1, s2, s3, s4, s5, s6, s7, s8⟩ := adj (P ++ r.reverse) R y x (i := k - 1) (j := k) (by simp; omega) (by simp; omega)
    have l1 := (List.getElem?_eq_some_iff.1 s1).1
    have l2 := (List.getElem?_eq_some_iff.1 s2).1
    have l5 := (List.getElem?_eq_some_iff.1 s5).1
    have ih := shl_loop n i st50 hst x r (y :: R) P (k - 1) Mx hi (by omega) (by omega) (by omega)
    rw [loopx_succ, hL]
    simp only [lSym_l82, gv, List.getD_cons_succ, List.getD_cons_zero, hst, bop_i64_sub, bd_some, e1, bop_i64_gtr, bv_bool, hc, decide_true, if_true, nv_nat, bdS_some, lsl, iL_len, own_iff, some_ne, true_and, zlo, ole, Nat.reduceBEq, and_true, l1, l2, l5, iL_get s1, iL_get s2, List.getElem?_cons_zero, V.cells, List.length_cons, List.length_nil, Nat.zero_add, one_iff, setR_11, iL_set, s3, iL_get s5, s7]
    simpa only [List.append_assoc, List.reverse_cons, List.cons_append, List.nil_append] using ih
theorem sym_one (hc : CmpOk n0 c H K D) (n : Nat) (x : Int) (B P S : List Int) (a m b : Nat) (ha : a = P.length) (hm : m = P.length + 1) (hb : b = P.length + 1 + B.length) (hl : 2 * b + 1 < lim) (hB : Sd K B) (hlt : ∀ y ∈ B, x < y) (dx : D x) (dB : ∀ y ∈ B, D y) (hn : n0 <= n) (hn2 : B.length + 2 <= n) :
    ∃ C, C.Perm (x :: B) /\ Sd K C /\ loopx n (lSym_l0 n a c) [.sl 1 (iL (P ++ (x :: (B ++ S)))) false, .int .i64 (m : Int), .int .i64 (b : Int)] H = some (.ret [.sl 1 (iL (P ++ (C ++ S))) false], H) := by
  obtain ⟨f, caps, hcf, hok, hk, hcmp⟩ := hc.ex
  have hfn : ∀ k : Nat -> List V -> Option (Res × Heap), fnK c k = k f caps := fun k => by rw [hcf]; rfl
  have gx : (P ++ (x :: (B ++ S)))[a]? = some x := mid_get _ _ _ ha
  have gB : ∀ h, m <= h -> h < b -> (P ++ (x :: (B ++ S)))[h]? = some (B.getD (h - m) 0) := fun h h1 h2 => by
    have := seg_get (P ++ [x]) B S (h := h) (by simp; omega) (by simp; omega)
    simp only [List.append_assoc, List.cons_append, List.nil_append, List.length_append, List.length_singleton] at this
    rw [this, hm]
  obtain ⟨r, r1, r2, r3, r4, r5⟩ := bs_gen (H := H) (l := .sl 1 (iL (P ++ (x :: (B ++ S)))) false) (body := lSym_l0 n a c) (fin := fun i => loopx n (lSym_l30 n [.sl 1 (iL (P ++ (x :: (B ++ S)))) false, .int .i64 (i : Int), .int .i64 (i : Int)]) [.sl 1 (iL (P ++ (x :: (B ++ S)))) false, .int .i64 (a : Int)] H) (Q := fun h => K (B.getD (h - m) 0) < K x) m b
    (fun i j h1 h2 h3 next => by
      have hij : (i : Int) < (j : Int) := by omega
      have e1 : IntKind.i64.wrap ((i : Int) + (j : Int)) = ((i + j : Nat) : Int) := wN (by omega) (by omega)
      have g1 := gB ((i + j) / 2) (by omega) (by omega)
      have l1 := (List.getElem?_eq_some_iff.1 g1).1
      have l2 := (List.getElem?_eq_some_iff.1 gx).1
      have e2 : IntKind.i64.wrap ((((i + j) / 2 : Nat) : Int) + 1) = (((i + j) / 2 + 1 : Nat) : Int) := wN (by omega) (by omega)
      obtain ⟨q, hq, hqk⟩ := hcmp n hn (B.getD ((i + j) / 2 - m) 0) x (dB _ (getD_mem (by omega))) dx
      simp only [lSym_l0, gv, List.getD_cons_succ, List.getD_cons_zero, bop_i64_lss, bd_some, bv_bool, hij, decide_true, if_true, bop_i64_add, e1, cvt_iu, shr_u, cvt_ui, half_ok (show i + j < lim by omega), nv_nat, bdS_some, lsl, iL_len, own_iff, some_ne, true_and, zlo, ole, Nat.reduceBEq, and_true, l1, l2, iL_get g1, iL_get gx, List.getElem?_cons_zero, hfn, hok, hk]
      rw [hq, cl_ret]
      simp only [one1_one, bop_i64_lss, bd_some, bv_bool, bop_i64_add, e2]
      by_cases h : K (B.getD ((i + j) / 2 - m) 0) < K x
      · exact .inl ⟨h, by simp only [hqk.2 h, decide_true, if_true]⟩
      · exact .inr ⟨h, by simp only [show ¬ q < 0 from fun h' => h (hqk.1 h'), decide_false, Bool.false_eq_true, if_false]⟩)
    (fun i h1 h2 next => by
      have hii : ¬ (i : Int) < (i : Int) := by omega
      simp only [lSym_l0, gv, List.getD_cons_succ, List.getD_cons_zero, bop_i64_lss, bd_some, bv_bool, hii, decide_false, Bool.false_eq_true, if_false, lsl])
    n m b (by omega) (Nat.le_refl _) (by omega) (Nat.le_refl _) (.inl rfl) (.inl rfl)
  rw [r5]
  have hB2 : B = B.take (r - m) ++ B.drop (r - m) := (List.take_append_drop _ _).symm
  refine ⟨B.take (r - m) ++ x :: B.drop (r - m), ?_, merge_one hB (by omega) hlt ?_ ?_, ?_⟩
  · refine List.perm_middle.trans ?_
    rw [<- hB2]
  · rcases r3 with h | h
    · exact .inl (by omega)
    · exact .inr (by rw [show r - m - 1 = r - 1 - m by omega]; exact h)
  · rcases r4 with h | h
    · exact .inl (by omega)
    · exact .inr h
  · have := shr_loop (H := H) n r [.sl 1 (iL (P ++ (x :: (B ++ S)))) false, .int .i64 (r : Int), .int .i64 (r : Int)] rfl (by omega) x (B.drop (r - m) ++ S) (B.take (r - m)) P a n ha (by rw [List.length_take]; omega) (by rw [List.length_take]; omega)
    have e : B ++ S = B.take (r - m) ++ (B.drop (r - m) ++ S) := by rw [<- List.append_assoc, <- hB2]
    rw [e]
    rw [e] at this
    rw [this]
    simp
theorem sym_last (hc : CmpOk n0 c H K D) (n : Nat) (x : Int) (A P S : List Int) (a m : Nat) (ha : a = P.length) (hm : m = P.length + A.length) (hl : 2 * (m + 1) + 1 < lim) (hA : Sd K A) (hlt : ∀ y ∈ A, y < x) (dx : D x) (dA : ∀ y ∈ A, D y) (hn : n0 <= n) (hn2 : A.length + 2 <= n) :
    ∃ C, C.Perm (A ++ [x]) /\ Sd K C /\ loopx n (lSym_l50 n m c) [.sl 1 (iL (P ++ (A ++ (x :: S)))) false, .int .i64 (a : Int), .int .i64 (m : Int)] H = some (.ret [.sl 1 (iL (P ++ (C ++ S))) false], H) := by
  obtain ⟨f, caps, hcf, hok, hk, hcmp⟩ := hc.ex
  have hfn : ∀ k : Nat -> List V -> Option (Res × Heap), fnK c k = k f caps := fun k => by rw [hcf]; rfl
  have gx : (P ++ (A ++ (x :: S)))[m]? = some x := by rw [<- List.append_assoc]; exact mid_get _ _ _ (by simp; omega)
  have gA : ∀ h, a <= h -> h < m -> (P ++ (A ++ (x :: S)))[h]? = some (A.getD (h - a) 0) := fun h h1 h2 => by
    rw [seg_get P A (x :: S) (h := h) (by omega) (by omega), ha]
  obtain ⟨r, r1, r2, r3, r4, r5⟩ := bs_gen (H := H) (l := .sl 1 (iL (P ++ (A ++ (x :: S)))) false) (body := lSym_l50 n m c) (fin := fun i => loopx n (lSym_l82 n [.sl 1 (iL (P ++ (A ++ (x :: S)))) false, .int .i64 (i : Int), .int .i64 (i : Int)]) [.sl 1 (iL (P ++ (A ++ (x :: S)))) false, .int .i64 (m : Int)] H) (Q := fun h => ¬ K x < K (A.getD (h - a) 0)) a m
    (fun i j h1 h2 h3 next => by
      have hij : (i : Int) < (j : Int) := by omega
      have e1 : IntKind.i64.wrap ((i : Int) + (j : Int)) = ((i + j : Nat) : Int) := wN (by omega) (by omega)
      have g1 := gA ((i + j) / 2) (by omega) (by omega)
      have l1 := (List.getElem?_eq_some_iff.1 g1).1
      have l2 := (List.getElem?_eq_some_iff.1 gx).1
      have e2 : IntKind.i64.wrap ((((i + j) / 2 : Nat) : Int) + 1) = (((i + j) / 2 + 1 : Nat) : Int) := wN (by omega) (by omega)
      obtain ⟨q, hq, hqk⟩ := hcmp n hn x (A.getD ((i + j) / 2 - a) 0) dx (dA _ (getD_mem (by omega)))
      simp only [lSym_l50, gv, List.getD_cons_succ, List.getD_cons_zero, bop_i64_lss, bd_some, bv_bool, hij, decide_true, if_true, bop_i64_add, e1, cvt_iu, shr_u, cvt_ui, half_ok (show i + j < lim by omega), nv_nat, bdS_some, lsl, iL_len, own_iff, some_ne, true_and, zlo, ole, Nat.reduceBEq, and_true, l1, l2, iL_get g1, iL_get gx, List.getElem?_cons_zero, hfn, hok, hk]
      rw [hq, cl_ret]
      simp only [one1_one, bop_i64_lss, bd_some, uop_not, bv_bool, bop_i64_add, e2]
      by_cases h : K x < K (A.getD ((i + j) / 2 - a) 0)
      · exact .inr ⟨fun h' => h' h, by simp only [hqk.2 h, decide_true, Bool.not_true, Bool.false_eq_true, if_false]⟩
      · exact .inl ⟨h, by simp only [show ¬ q < 0 from fun h' => h (hqk.1 h'), decide_false, Bool.not_false, if_true]⟩)
    (fun i h1 h2 next => by
      have hii : ¬ (i : Int) < (i : Int) := by omega
      simp only [lSym_l50, gv, List.getD_cons_succ, List.getD_cons_zero, bop_i64_lss, bd_some, bv_bool, hii, decide_false, Bool.false_eq_true, if_false, lsl])
    n a m (by omega) (Nat.le_refl _) (by omega) (Nat.le_refl _) (.inl rfl) (.inl rfl)
  rw [r5]
  have hA2 : A = A.take (r - a) ++ A.drop (r - a) := (List.take_append_drop _ _).symm
  refine ⟨A.take (r - a) ++ x :: A.drop (r - a), ?_, merge_last hA (by omega) hlt ?_ ?_, ?_⟩
  · refine List.perm_middle.trans ?_
    rw [<- hA2]
    exact (List.perm_append_singleton x A).symm
  · rcases r3 with h | h
    · exact .inl (by omega)
    · exact .inr (by rw [show r - a - 1 = r - 1 - a by omega]; exact h)
  · rcases r4 with h | h
    · exact .inl (by omega)
    · exact .inr (by simpa using h)
  · have := shl_loop (H := H) n r [.sl 1 (iL (P ++ (A ++ (x :: S)))) false, .int .i64 (r : Int), .int .i64 (r : Int)] rfl x (A.drop (r - a)).reverse S (P ++ A.take (r - a)) m n (by simp; omega) (by simp; omega) (by omega) (by simp; omega)
    rw [List.reverse_reverse] at this
    have e : P ++ (A ++ (x :: S)) = (P ++ A.take (r - a)) ++ (A.drop (r - a) ++ (x :: S)) := by
      conv => lhs; rw [hA2]
      simp only [List.append_assoc]
    rw [e]
    rw [e] at this
    rw [this]
    simp
end
end Go.Proofs.Try
set_option linter.unusedVariables false
set_option linter.unusedSimpArgs false
namespace Go.Proofs.Try
open Go.L Go.Rp
set_option maxRecDepth 100000
section
variable {K : Int -> Int} {D : Int -> Prop} {H : Heap} {c : V} {n0 : Nat} {p : Nat -> Int}
theorem sym_search (hc : CmpOk n0 c H K D) (n : Nat) (A B P S : List Int) (a m b mid nn lo hi : Nat) (body : List V -> Heap -> (List V -> Heap -> Option (Res × Heap)) -> Option (Res × Heap))
    (hbody : ∀ st hh next, body st hh next = lSym_l108 n a m b c (.int .i64 (mid : Int)) (.int .i64 (nn : Int)) (.int .i64 ((nn - 1 : Nat) : Int)) st hh next)
    (ha : a = P.length) (hm : m = P.length + A.length) (hb : b = P.length + A.length + B.length) (hmid : mid = (a + b) / 2) (hnn : nn = mid + m) (hl : 2 * b + 1 < lim)
    (hlo : (m > mid /\ lo = nn - b /\ hi = mid) \/ (m <= mid /\ lo = a /\ hi = m)) (hA0 : 0 < A.length) (hB0 : 0 < B.length)
    (dA : ∀ x ∈ A, D x) (dB : ∀ y ∈ B, D y) (hn : n0 <= n) (hn2 : hi < n + lo) :
    ∃ r, a <= r /\ r <= m /\ r <= mid /\ mid <= r + B.length /\ (r - a = 0 \/ B.length <= mid - r \/ ¬ K (B.getD (mid - r) 0) < K (A.getD (r - a - 1) 0)) /\ (mid - r = 0 \/ A.length <= r - a \/ K (B.getD (mid - r - 1) 0) < K (A.getD (r - a) 0)) ∧
      loopx n body [.sl 1 (iL (P ++ (A ++ (B ++ S)))) false, .int .i64 (lo : Int), .int .i64 (hi : Int)] H = symT n a m b c (.int .i64 (mid : Int)) (.int .i64 (nn : Int)) (.int .i64 (r : Int)) (iL (P ++ (A ++ (B ++ S)))) H := by
  obtain ⟨f, caps, hcf, hok, hk, hcmp⟩ := hc.ex
  have hfn : ∀ k : Nat -> List V -> Option (Res × Heap), fnK c k = k f caps := fun k => by rw [hcf]; rfl
  have gA : ∀ h, a <= h -> h < m -> (P ++ (A ++ (B ++ S)))[h]? = some (A.getD (h - a) 0) := fun h h1 h2 => by
    rw [seg_get P A (B ++ S) (h := h) (by omega) (by omega), ha]
  have gB : ∀ h, m <= h -> h < b -> (P ++ (A ++ (B ++ S)))[h]? = some (B.getD (h - m) 0) := fun h h1 h2 => by
    have := seg_get (P ++ A) B S (h := h) (by simp; omega) (by simp; omega)
    simp only [List.append_assoc, List.length_append] at this
    rw [this, hm]
  have hlom : a <= lo /\ lo <= hi /\ hi <= m /\ hi <= mid /\ mid <= lo + B.length := by
    rcases hlo with ⟨h1, h2, h3⟩ | ⟨h1, h2, h3⟩ <;> omega
  obtain ⟨r, r1, r2, r3, r4, r5⟩ := bs_gen (H := H) (l := .sl 1 (iL (P ++ (A ++ (B ++ S)))) false) (body := body) (fin := fun i => symT n a m b c (.int .i64 (mid : Int)) (.int .i64 (nn : Int)) (.int .i64 (i : Int)) (iL (P ++ (A ++ (B ++ S)))) H) (Q := fun h => ¬ K (B.getD (mid - 1 - h) 0) < K (A.getD (h - a) 0)) lo hi
    (fun i j h1 h2 h3 next => by
      rw [hbody]
      have hij : (i : Int) < (j : Int) := by omega
      have e1 : IntKind.i64.wrap ((i : Int) + (j : Int)) = ((i + j : Nat) : Int) := wN (by omega) (by omega)
      have g1 := gA ((i + j) / 2) (by omega) (by omega)
      have g2 := gB (nn - 1 - (i + j) / 2) (by omega) (by omega)
      have l1 := (List.getElem?_eq_some_iff.1 g1).1
      have l2 := (List.getElem?_eq_some_iff.1 g2).1
      have e2 : IntKind.i64.wrap ((((i + j) / 2 : Nat) : Int) + 1) = (((i + j) / 2 + 1 : Nat) : Int) := wN (by omega) (by omega)
      have e3 : IntKind.i64.wrap (((nn - 1 : Nat) : Int) - (((i + j) / 2 : Nat) : Int)) = ((nn - 1 - (i + j) / 2 : Nat) : Int) := wN (by omega) (by omega)
      have e4 : nn - 1 - (i + j) / 2 - m = mid - 1 - (i + j) / 2 := by omega
      rw [e4] at g2
      obtain ⟨q, hq, hqk⟩ := hcmp n hn (B.getD (mid - 1 - (i + j) / 2) 0) (A.getD ((i + j) / 2 - a) 0) (dB _ (getD_mem (by omega))) (dA _ (getD_mem (by omega)))
      simp only [lSym_l108, gv, List.getD_cons_succ, List.getD_cons_zero, bop_i64_lss, bd_some, bv_bool, hij, decide_true, if_true, bop_i64_add, e1, cvt_iu, shr_u, cvt_ui, half_ok (show i + j < lim by omega), bop_i64_sub, e3, nv_nat, bdS_some, lsl, iL_len, own_iff, some_ne, true_and, zlo, ole, Nat.reduceBEq, and_true, l1, l2, iL_get g1, iL_get g2, List.getElem?_cons_zero, hfn, hok, hk]
      rw [hq, cl_ret]
      simp only [one1_one, bop_i64_lss, bd_some, uop_not, bv_bool, bop_i64_add, e2]
      by_cases h : K (B.getD (mid - 1 - (i + j) / 2) 0) < K (A.getD ((i + j) / 2 - a) 0)
      · exact .inr ⟨fun h' => h' h, by simp only [hqk.2 h, decide_true, Bool.not_true, Bool.false_eq_true, if_false]⟩
      · exact .inl ⟨h, by simp only [show ¬ q < 0 from fun h' => h (hqk.1 h'), decide_false, Bool.not_false, if_true]⟩)
    (fun i h1 h2 next => by
      have hii : ¬ (i : Int) < (i : Int) := by omega
      rw [hbody]
      simp only [lSym_l108, gv, List.getD_cons_succ, List.getD_cons_zero, bop_i64_lss, bd_some, bv_bool, hii, decide_false, Bool.false_eq_true, if_false, lsl, symT, symV, symU])
    n lo hi (by omega) (Nat.le_refl _) hlom.2.1 (Nat.le_refl _) (.inl rfl) (.inl rfl)
  refine ⟨r, by omega, by omega, by omega, by omega, ?_, ?_, r5⟩
  · rcases r3 with h | h
    · rcases hlo with ⟨h1, h2, h3⟩ | ⟨h1, h2, h3⟩
      · exact .inr (.inl (by omega))
      · exact .inl (by omega)
    · by_cases h0 : r - a = 0
      · exact .inl h0
      · refine .inr (.inr ?_)
        rw [show mid - r = mid - 1 - (r - 1) by omega, show r - a - 1 = r - 1 - a by omega]
        exact h
  · rcases r4 with h | h
    · rcases hlo with ⟨h1, h2, h3⟩ | ⟨h1, h2, h3⟩
      · exact .inl (by omega)
      · exact .inr (.inl (by omega))
    · refine .inr (.inr ?_)
      rw [show mid - r - 1 = mid - 1 - r by omega]
      simpa using h
theorem symOk_all (hc : CmpOk n0 c H K D) : ∀ (sz n : Nat), n0 + 2 * sz + 8 <= n -> SymOk c H K D n sz
  | 0, n, _ => fun A B P S a m b hA hB hsz => by
    have := List.length_pos_iff.2 hA; omega
  | sz + 1, n, hn => fun A B P S a m b hA hB hsz ha hm hb hl sA sB hlt dA dB => by
    obtain ⟨N, rfl⟩ : ∃ N, n = N + 1 := ⟨n - 1, by omega⟩
    have ih := symOk_all hc sz N (by omega)
    have hA0 := List.length_pos_iff.2 hA
    have hB0 := List.length_pos_iff.2 hB
    have e1 : IntKind.i64.wrap ((m : Int) - (a : Int)) = ((A.length : Nat) : Int) := wN (by omega) (by omega)
    have e2 : IntKind.i64.wrap ((b : Int) - (m : Int)) = ((B.length : Nat) : Int) := wN (by omega) (by omega)
    have e3 : IntKind.i64.wrap ((a : Int) + (b : Int)) = ((a + b : Nat) : Int) := wN (by omega) (by omega)
    rw [lSym_eq]
    unfold lSym
    rw [e1, e2, e3]
    by_cases h1 : A.length = 1
    · obtain ⟨x, rfl⟩ := List.length_eq_one_iff.1 h1
      have hc1 : ((([x] : List Int).length : Int) == 1) = true := by simp
      rw [if_pos hc1]
      obtain ⟨C, p, s, e⟩ := sym_one hc N x B P S a m b ha (by simpa using hm) (by simpa using hb) hl sB (fun y hy => hlt x (by simp) y hy) (dA x (by simp)) dB (by omega) (by omega)
      exact ⟨C, by simpa using p, s, by simpa using e⟩
    · have hc1 : ¬ (((A.length : Nat) : Int) == 1) = true := by simp; omega
      rw [if_neg hc1]
      by_cases h2 : B.length = 1
      · obtain ⟨x, rfl⟩ := List.length_eq_one_iff.1 h2
        have hc2 : ((([x] : List Int).length : Int) == 1) = true := by simp
        rw [if_pos hc2]
        obtain ⟨C, p, s, e⟩ := sym_last hc N x A P S a m ha hm (by simp at hb; omega) sA (fun y hy => hlt y hy x (by simp)) (dB x (by simp)) dA (by omega) (by simp at hsz; omega)
        exact ⟨C, p, s, by simpa using e⟩
      · have hc2 : ¬ (((B.length : Nat) : Int) == 1) = true := by simp; omega
        rw [if_neg hc2]
        obtain ⟨mid, hmid⟩ : ∃ mid, mid = (a + b) / 2 := ⟨_, rfl⟩
        obtain ⟨nn, hnn⟩ : ∃ nn, nn = mid + m := ⟨_, rfl⟩
        have e4 : IntKind.i64.wrap ((mid : Int) + (m : Int)) = ((nn : Nat) : Int) := wN (by omega) (by omega)
        have e5 : IntKind.i64.wrap ((nn : Int) - 1) = ((nn - 1 : Nat) : Int) := wN (by omega) (by omega)
        have e6 := half_ok (show a + b < lim by omega)
        rw [<- hmid] at e6
        simp only [shr_u, bd_some, cvt_ui, e6, bop_i64_add, e4, bop_i64_gtr, bv_bool]
        have key : ∀ (lo hi : Nat) (body : List V -> Heap -> (List V -> Heap -> Option (Res × Heap)) -> Option (Res × Heap)), (∀ st hh next, body st hh next = lSym_l108 N a m b c (.int .i64 (mid : Int)) (.int .i64 (nn : Int)) (.int .i64 ((nn - 1 : Nat) : Int)) st hh next) →
            ((m > mid /\ lo = nn - b /\ hi = mid) \/ (m <= mid /\ lo = a /\ hi = m)) -> ∃ C, C.Perm (A ++ B) /\ Sd K C /\ loopx N body [.sl 1 (iL (P ++ (A ++ (B ++ S)))) false, .int .i64 (lo : Int), .int .i64 (hi : Int)] H = some (.ret [.sl 1 (iL (P ++ (C ++ S))) false], H) := fun lo hi body hbody hlo => by
          obtain ⟨r, r1, r2, r3, r4, r5, r6, r7⟩ := sym_search hc N A B P S a m b mid nn lo hi body hbody ha hm hb hmid hnn hl hlo hA0 hB0 dA dB (by omega) (by omega)
          have hAt : A = A.take (r - a) ++ A.drop (r - a) := (List.take_append_drop _ _).symm
          have hBt : B = B.take (mid - r) ++ B.drop (mid - r) := (List.take_append_drop _ _).symm
          have hcr := cross sA sB (by omega) (by omega) hlt r5 r6
          have tA : (A.take (r - a)).length = r - a := by rw [List.length_take]; omega
          have tB : (B.take (mid - r)).length = mid - r := by rw [List.length_take]; omega
          have dA' : (A.drop (r - a)).length = A.length - (r - a) := List.length_drop
          have dB' : (B.drop (mid - r)).length = B.length - (mid - r) := List.length_drop
          obtain ⟨C1, C2, p1, q1, p2, q2, e⟩ := symT_ok ih (A.take (r - a)) (A.drop (r - a)) (B.take (mid - r)) (B.drop (mid - r)) P S a r m mid nn b (by omega) (by omega) ha (by omega) (by omega) (by omega) hnn (by omega) hl (by omega)
            (sA.sublist (List.take_sublist _ _)) (sB.sublist (List.take_sublist _ _)) (sA.sublist (List.drop_sublist _ _)) (sB.sublist (List.drop_sublist _ _)) (by rw [<- hAt, <- hBt]; exact hlt) (by rw [<- hAt]; exact dA) (by rw [<- hBt]; exact dB)
          rw [<- hAt, <- hBt] at e
          refine ⟨C1 ++ C2, ?_, List.pairwise_append.2 ⟨q1, q2, fun u hu v hv => hcr u (p1.mem_iff.1 hu) v (p2.mem_iff.1 hv)⟩, ?_⟩
          · refine (p1.append p2).trans ?_
            conv => rhs; rw [hAt, hBt]
            simp only [List.append_assoc]
            refine List.Perm.append_left _ ?_
            rw [<- List.append_assoc, <- List.append_assoc]
            exact List.Perm.append_right _ List.perm_append_comm
          · rw [r7, e]; simp only [List.append_assoc]
        by_cases hg : (m : Int) > (mid : Int)
        · have e7 : IntKind.i64.wrap ((nn : Int) - (b : Int)) = ((nn - b : Nat) : Int) := wN (by omega) (by omega)
          simp only [hg, decide_true, if_true, bop_i64_sub, bd_some, e7, e5]
          exact key (nn - b) mid _ (fun _ _ _ => rfl) (.inl ⟨by omega, rfl, rfl⟩)
        · simp only [hg, decide_false, Bool.false_eq_true, if_false, bop_i64_sub, bd_some, e5]
          exact key a m _ (fun _ _ _ => rfl) (.inr ⟨by omega, rfl, rfl⟩)
theorem sym_sR (hp : Mono p) (hc : CmpOk n0 c H K D) (n lo i j : Nat) (P S : List Int) (hP : lo = P.length) (hi : 0 < i) (hj : 0 < j) (hl : 2 * (lo + i + j) + 1 < lim) (hD : ∀ x ∈ rng p lo (i + j), D x) (hn : n0 + 2 * (i + j) + 8 <= n) :
    call n 94 [.sl 1 (iL (P ++ (sR K p lo i ++ (sR K p (lo + i) j ++ S)))) false, .int .i64 (lo : Int), .int .i64 ((lo + i : Nat) : Int), .int .i64 ((lo + i + j : Nat) : Int), c] H = some (.ret [.sl 1 (iL (P ++ (sR K p lo (i + j) ++ S))) false], H) := by
  have hne : ∀ l k, 0 < k -> sR K p l k ≠ [] := fun l k hk h => by have := sR_len (K := K) (p := p) l k; rw [h] at this; simp at this; omega
  obtain ⟨C, q, s, e⟩ := symOk_all hc (i + j) n hn (sR K p lo i) (sR K p (lo + i) j) P S lo (lo + i) (lo + i + j) (hne _ _ hi) (hne _ _ hj) (by rw [sR_len, sR_len]; omega) hP (by rw [sR_len]; omega) (by rw [sR_len, sR_len]; omega) hl (sR_sd hp _ _) (sR_sd hp _ _)
    (fun x hx y hy => sR_lt hp hx hy) (fun x hx => hD x (rng_sub (Nat.le_refl _) (by omega) (rng_mem.2 (sR_mem.1 hx)))) (fun x hx => hD x (rng_sub (Nat.le_add_right _ _) (by omega) (rng_mem.2 (sR_mem.1 hx))))
  rw [e, sR_join hp q s]
end
end Go.Proofs.Try
set_option linter.unusedVariables false
set_option linter.unusedSimpArgs false
namespace Go.Proofs.Try
open Go.L Go.Rp
set_option maxRecDepth 100000
@[simp] theorem bop_i64_mul (a b : Int) : bop prog .mul 3 (.int .i64 a) (.int .i64 b) = some (.int .i64 (IntKind.i64.wrap (a * b))) := by kernel_rfl
section
variable {K : Int -> Int} {D : Int -> Prop} {H : Heap} {c : V} {n0 : Nat} {p : Nat -> Int}
theorem chunks_ge {bs : Nat} (hb : 0 < bs) (f lo len : Nat) (h : bs <= len) (hf : len <= f) : chunks K p bs f lo len = sR K p lo bs ++ chunks K p bs f (lo + bs) (len - bs) := by
  rcases Nat.lt_or_ge bs len with h1 | h1
  · exact chunks_gt hb f lo len h1 hf
  · obtain rfl : len = bs := by omega
    rw [chunks_le f lo len (Nat.le_refl _) (by omega), Nat.sub_self, chunks_le f _ 0 (by omega) (by omega)]
    simp [sR]
theorem stab_first (hc : CmpOk n0 c H K D) (n k f : Nat) (hD : ∀ x ∈ rng p 0 k, D x) (hl : 2 * k + 100 < lim) (hn : n0 + k + 25 <= n) (hf : k <= f) (hf0 : 0 < f) : ∀ (M len a : Nat) (P : List Int), a = P.length -> a + len = k -> len < M -> ∃ u v : Nat,
    loopx M (lStab_l0 n k c) [.sl 1 (iL (P ++ rng p a len)) false, .int .i64 (a : Int), .int .i64 ((a + 20 : Nat) : Int)] H = loopx n (lStab_l13 n k c) [.sl 1 (iL (P ++ chunks K p 20 f a len)) false, .int .i64 20, .int .i64 (u : Int), .int .i64 (v : Int)] H
  | 0, _, _, _, _, _, h => by omega
  | M + 1, len, a, P, ha, hk, hM => by
    rw [loopx_succ]
    by_cases h : 20 <= len
    · have h1 : ((a + 20 : Nat) : Int) <= (k : Int) := by omega
      have e1 : IntKind.i64.wrap (((a + 20 : Nat) : Int) + 20) = ((a + 20 + 20 : Nat) : Int) := wN (by omega) (by omega)
      have hr : rng p a len = rng p a 20 ++ rng p (a + 20) (len - 20) := by rw [<- rng_add]; congr 1; omega
      have hi := ins_call hc n a 20 P (rng p (a + 20) (len - 20)) ha (fun x hx => hD x (rng_sub (by omega) (by omega) hx)) (by rw [rng_len]; omega) (by omega) (by omega)
      obtain ⟨u, v, e⟩ := stab_first hc n k f hD hl hn hf hf0 M (len - 20) (a + 20) (P ++ sR K p a 20) (by rw [List.length_append, sR_len]; omega) (by omega) (by omega)
      refine ⟨u, v, ?_⟩
      simp only [lStab_l0, gv, List.getD_cons_succ, List.getD_cons_zero, bop_i64_leq, bd_some, bv_bool, h1, decide_true, if_true, lsl]
      rw [hr, hi, clm_ret]
      simp only [bop_i64_add, bd_some, e1]
      rw [chunks_ge (by omega) f a len h (by omega), <- List.append_assoc, <- List.append_assoc]
      exact e
    · have h1 : ¬ ((a + 20 : Nat) : Int) <= (k : Int) := by omega
      have hi := ins_call hc n a len P [] ha (fun x hx => hD x (rng_sub (by omega) (by omega) hx)) (by simp; omega) (by omega) (by omega)
      rw [List.append_nil, List.append_nil, hk] at hi
      refine ⟨a, a + 20, ?_⟩
      simp only [lStab_l0, gv, List.getD_cons_succ, List.getD_cons_zero, bop_i64_leq, bd_some, bv_bool, h1, decide_false, Bool.false_eq_true, if_false, lsl]
      rw [hi, clm_ret, chunks_le f a len (by omega) hf0]
theorem stab_round (hp : Mono p) (hc : CmpOk n0 c H K D) (n k f bs : Nat) (st14 : List V) (next16 : List V -> Heap -> Option (Res × Heap)) (hst : st14.getD 1 (.bool false) = .int .i64 (bs : Int)) (hb : 0 < bs) (hbk : bs < k) (hD : ∀ x ∈ rng p 0 k, D x) (hl : 4 * k + 100 < lim) (hn : n0 + 2 * k + 8 <= n) (hf : k <= f) : ∀ (M len a : Nat) (P : List Int), a = P.length -> a + len = k -> len < M -> ∃ u v : Nat,
    loopx M (lStab_l20 n k c st14 next16) [.sl 1 (iL (P ++ chunks K p bs f a len)) false, .int .i64 (a : Int), .int .i64 ((a + 2 * bs : Nat) : Int)] H = next16 [.sl 1 (iL (P ++ chunks K p (2 * bs) f a len)) false, .int .i64 ((2 * bs : Nat) : Int), .int .i64 (u : Int), .int .i64 (v : Int)] H
  | 0, _, _, _, _, _, h => by omega
  | M + 1, len, a, P, ha, hk, hM => by
    rw [loopx_succ]
    have e1 : IntKind.i64.wrap ((a : Int) + (bs : Int)) = ((a + bs : Nat) : Int) := wN (by omega) (by omega)
    have e2 : IntKind.i64.wrap (2 * (bs : Int)) = ((2 * bs : Nat) : Int) := wN (by omega) (by omega)
    have e3 : IntKind.i64.wrap ((bs : Int) * 2) = ((2 * bs : Nat) : Int) := wN (by omega) (by omega)
    by_cases h : 2 * bs <= len
    · have h1 : ((a + 2 * bs : Nat) : Int) <= (k : Int) := by omega
      have e4 : IntKind.i64.wrap (((a + 2 * bs : Nat) : Int) + ((2 * bs : Nat) : Int)) = ((a + 2 * bs + 2 * bs : Nat) : Int) := wN (by omega) (by omega)
      have hs := sym_sR hp hc n a bs bs P (chunks K p bs f (a + bs + bs) (len - bs - bs)) ha hb hb (by omega) (fun x hx => hD x (rng_sub (by omega) (by omega) hx)) (by omega)
      obtain ⟨u, v, e⟩ := stab_round hp hc n k f bs st14 next16 hst hb hbk hD hl hn hf M (len - 2 * bs) (a + 2 * bs) (P ++ sR K p a (2 * bs)) (by rw [List.length_append, sR_len]; omega) (by omega) (by omega)
      refine ⟨u, v, ?_⟩
      rw [chunks_ge hb f a len (by omega) (by omega), chunks_ge hb f (a + bs) (len - bs) (by omega) (by omega), chunks_ge (bs := 2 * bs) (by omega) f a len h (by omega)]
      simp only [lStab_l20, gv, List.getD_cons_succ, List.getD_cons_zero, hst, bop_i64_leq, bd_some, bv_bool, h1, decide_true, if_true, bop_i64_add, e1, lsl]
      rw [show ((a + bs + bs : Nat) : Int) = ((a + 2 * bs : Nat) : Int) by omega] at hs
      rw [hs, clm_ret]
      simp only [bop_i64_mul, bop_i64_add, bd_some, e2, e4]
      rw [show bs + bs = 2 * bs by omega, show a + bs + bs = a + 2 * bs by omega, show len - bs - bs = len - 2 * bs by omega, <- List.append_assoc, <- List.append_assoc]
      exact e
    · have h1 : ¬ ((a + 2 * bs : Nat) : Int) <= (k : Int) := by omega
      refine ⟨a, a + 2 * bs, ?_⟩
      simp only [lStab_l20, gv, List.getD_cons_succ, List.getD_cons_zero, hst, bop_i64_leq, bd_some, bv_bool, h1, decide_false, Bool.false_eq_true, if_false, bop_i64_add, e1, bop_i64_lss, lsl]
      by_cases h2 : bs < len
      · have h3 : ((a + bs : Nat) : Int) < (k : Int) := by omega
        have hs := sym_sR hp hc n a bs (len - bs) P [] ha hb (by omega) (by omega) (fun x hx => hD x (rng_sub (by omega) (by omega) hx)) (by omega)
        rw [List.append_nil, List.append_nil, show a + bs + (len - bs) = k by omega, show bs + (len - bs) = len by omega] at hs
        simp only [h3, decide_true, if_true]
        rw [chunks_ge hb f a len (by omega) (by omega), chunks_le f (a + bs) (len - bs) (by omega) (by omega), chunks_le (bs := 2 * bs) f a len (by omega) (by omega), hs, clm_ret]
        simp only [bop_i64_mul, bd_some, e3]
      · have h3 : ¬ ((a + bs : Nat) : Int) < (k : Int) := by omega
        simp only [h3, decide_false, Bool.false_eq_true, if_false, bop_i64_mul, bd_some, e3]
        rw [chunks_le f a len (by omega) (by omega), chunks_le (bs := 2 * bs) f a len (by omega) (by omega)]
theorem stab_all (hp : Mono p) (hc : CmpOk n0 c H K D) (n k f : Nat) (hD : ∀ x ∈ rng p 0 k, D x) (hl : 4 * k + 100 < lim) (hn : n0 + 2 * k + 8 <= n) (hf : k <= f) (hf0 : 0 < f) : ∀ (M bs u v : Nat), 0 < bs -> k < M + bs -> 0 < M →
    loopx M (lStab_l13 n k c) [.sl 1 (iL (chunks K p bs f 0 k)) false, .int .i64 (bs : Int), .int .i64 (u : Int), .int .i64 (v : Int)] H = some (.ret [.sl 1 (iL (sR K p 0 k)) false], H)
  | 0, _, _, _, _, _, h => by omega
  | M + 1, bs, u, v, hb, hM, _ => by
    rw [loopx_succ]
    by_cases h : bs < k
    · have h1 : (bs : Int) < (k : Int) := by omega
      have e2 : IntKind.i64.wrap (2 * (bs : Int)) = ((2 * bs : Nat) : Int) := wN (by omega) (by omega)
      obtain ⟨u', v', e⟩ := stab_round hp hc n k f bs [.sl 1 (iL (chunks K p bs f 0 k)) false, .int .i64 (bs : Int), .int .i64 (u : Int), .int .i64 (v : Int)] (loopx M (lStab_l13 n k c)) rfl hb h hD hl hn hf n k 0 [] rfl (by omega) (by omega)
      have ih := stab_all hp hc n k f hD hl hn hf hf0 M (2 * bs) u' v' (by omega) (by omega) (by omega)
      simp only [List.nil_append, Nat.zero_add] at e
      simp only [lStab_l13, gv, List.getD_cons_succ, List.getD_cons_zero, bop_i64_lss, bd_some, bv_bool, h1, decide_true, if_true, bop_i64_mul, e2, lsl]
      exact e.trans ih
    · have h1 : ¬ (bs : Int) < (k : Int) := by omega
      simp only [lStab_l13, gv, List.getD_cons_succ, List.getD_cons_zero, bop_i64_lss, bd_some, bv_bool, h1, decide_false, Bool.false_eq_true, if_false, lsl]
      rw [chunks_le f 0 k (by omega) hf0]
theorem sort_call (hp : Mono p) (hc : CmpOk n0 c H K D) (n k : Nat) (hD : ∀ x ∈ rng p 0 k, D x) (hl : 4 * k + 100 < lim) (hn : n0 + 2 * k + 40 <= n) :
    call n 80 [.sl 1 (iL (rng p 0 k)) false, c] H = some (.ret [.sl 1 (iL (sR K p 0 k)) false], H) := by
  obtain ⟨N, rfl⟩ : ∃ N, n = N + 2 := ⟨n - 2, by omega⟩
  obtain ⟨u, v, e⟩ := stab_first hc N k (k + 1) hD (by omega) (by omega) (by omega) (by omega) N k 0 [] rfl (by omega) (by omega)
  have e2 := stab_all hp hc N k (k + 1) hD hl (by omega) (by omega) (by omega) N 20 u v (by omega) (by omega) (by omega)
  rw [lSort_eq]
  unfold lSort
  rw [lStab_eq]
  unfold lStab
  simp only [List.nil_append] at e
  rw [show ((20 : Nat) : Int) = (20 : Int) from rfl] at e2
  have e3 : (((iL (rng p 0 k)).length : Nat) : Int) = (k : Int) := by rw [iL_len, rng_len]
  rw [e3]
  have e4 := e.trans e2
  rw [show (((0 : Nat) + 20 : Nat) : Int) = (20 : Int) from rfl, show (((0 : Nat)) : Int) = (0 : Int) from rfl] at e4
  rw [e4, clm_ret]
end
end Go.Proofs.Try
set_option linter.unusedVariables false
set_option linter.unusedSimpArgs false
namespace Go.Proofs.Try
open Go.L Go.Rp Go.Sk
set_option maxRecDepth 100000
def oAt (os : List O) (x : Int) : O := os.getD x.toNat ⟨0, 0⟩
theorem oAt_some {os : List O} {k : Nat} {x : O} (h : os[k]? = some x) : oAt os (k : Int) = x := by
  unfold oAt; rw [Int.toNat_natCast, List.getD_eq_getElem?_getD, h]; rfl
def keyV (os : List O) (x : Int) : Int := (oAt os x).v
theorem putKey_call (n : Nat) (o : O) (h : Heap) : call (n + 1) 61 [.agg (O.w o)] h = some (.ret [.int .i32 o.v], h) := by
  refine (putKey_eq n o.k o.v h).trans ?_
  exact gcw_ret (by simp) (by simp)
theorem ow_cut (x : O) : List.take 2 (List.drop 0 (O.w x)) = O.w x := rfl
theorem by_cmp (os : List O) (lb : Bool) (H : Heap) : CmpOk 4 (.fn 81 [.iptr 1 [.fn 61 []] 0, .iptr 1 [.sl 2 (os.map O.w) lb] 0]) H (keyV os) (fun x => 0 <= x /\ x < (os.length : Int)) where
  ex := by
    refine ⟨_, _, rfl, by kernel_rfl, by kernel_rfl, fun n hn x y hx hy => ?_⟩
    obtain ⟨m, rfl⟩ : ∃ m, n = (m + 3) + 1 := ⟨n - 4, by omega⟩
    obtain ⟨i, rfl⟩ : ∃ i : Nat, x = (i : Int) := ⟨x.toNat, (Int.toNat_of_nonneg hx.1).symm⟩
    obtain ⟨j, rfl⟩ : ∃ j : Nat, y = (j : Int) := ⟨y.toNat, (Int.toNat_of_nonneg hy.1).symm⟩
    obtain ⟨a, ha⟩ : ∃ a, os[i]? = some a := ⟨_, List.getElem?_eq_getElem (by omega)⟩
    obtain ⟨b, hb⟩ : ∃ b, os[j]? = some b := ⟨_, List.getElem?_eq_getElem (by omega)⟩
    have hav : (os.map O.w)[i]? = some (O.w a) := by rw [get_os, ha]; rfl
    have hbv : (os.map O.w)[j]? = some (O.w b) := by rw [get_os, hb]; rfl
    refine ⟨cmpV (keyV os (i : Int)) (keyV os (j : Int)), ?_, ?_⟩
    · refine (byCmp_eq (m + 3) (i : Int) (j : Int) (os.map O.w) lb H).trans ?_
      unfold byCmp
      have e1 : ∀ (u : O) (h : Heap), call (m + 3) 61 [.agg (O.w u)] h = some (.ret [.int .i32 u.v], h) := fun u h => putKey_call (m + 2) u h
      have e2 : ∀ (u v : Int) (h : Heap), call (m + 3) 82 [.int .i32 u, .int .i32 v] h = some (.ret [.int .i64 (cmpV u v)], h) := fun u v h => compare_call (m + 1) u v h
      have fi : nv (V.int .i64 (i : Int)) = some i := nv_nat _ _
      have fj : nv (V.int .i64 (j : Int)) = some j := nv_nat _ _
      rw [fi, bdS_some, idxP_sl hav, bd_some]
      first
        | rw [cellsP_iptr, bd3_some, if_pos (by decide), ow_cut, e1, clS_ret, one1_one, fj, bdS_some, idxP_sl hbv, bd_some, cellsP_iptr, bd3_some, if_pos (by decide), ow_cut, e1, clS_ret, one1_one, e2, clH_ret, one1_one]
          rw [show keyV os (i : Int) = a.v from by unfold keyV; rw [oAt_some ha], show keyV os (j : Int) = b.v from by unfold keyV; rw [oAt_some hb]]
        | (simp only [esP, ow_cut]
           rw [e1, clS_ret, one1_one, fj, bdS_some, idxP_sl hbv, bd_some]
           simp only [esP, ow_cut]
           rw [e1, clS_ret, one1_one, e2, clH_ret, one1_one]
           rw [show keyV os (i : Int) = a.v from by unfold keyV; rw [oAt_some ha], show keyV os (j : Int) = b.v from by unfold keyV; rw [oAt_some hb]])
    · unfold cmpV
      split
      · rename_i h; exact ⟨fun _ => h, fun _ => by omega⟩
      · rename_i h; split <;> exact ⟨fun e => by omega, fun e => absurd e h⟩
def putsTo (os : List O) : Nat -> List Int
  | 0 => []
  | k + 1 => if (oAt os (k : Int)).k = 1 then putsTo os k ++ [(k : Int)] else putsTo os k
def restTo (os : List O) : Nat -> List Int
  | 0 => []
  | k + 1 => if (oAt os (k : Int)).k = 1 then restTo os k else restTo os k ++ [(k : Int)]
theorem putsTo_mem (os : List O) : ∀ (n : Nat) (x : Int), x ∈ putsTo os n -> 0 <= x /\ x < (n : Int) /\ (oAt os x).k = 1
  | 0, x, h => by cases h
  | n + 1, x, h => by
    simp only [putsTo] at h
    split at h
    · rename_i hk
      rcases List.mem_append.1 h with h | h
      · have := putsTo_mem os n x h; omega
      · rw [List.mem_singleton] at h; subst h; exact ⟨by omega, by omega, hk⟩
    · have := putsTo_mem os n x h; omega
theorem restTo_mem (os : List O) : ∀ (n : Nat) (x : Int), x ∈ restTo os n -> 0 <= x /\ x < (n : Int) /\ (oAt os x).k ≠ 1
  | 0, x, h => by cases h
  | n + 1, x, h => by
    simp only [restTo] at h
    split at h
    · have := restTo_mem os n x h; omega
    · rename_i hk
      rcases List.mem_append.1 h with h | h
      · have := restTo_mem os n x h; omega
      · rw [List.mem_singleton] at h; subst h; exact ⟨by omega, by omega, hk⟩
theorem putsTo_up (os : List O) : ∀ n : Nat, (putsTo os n).Pairwise (· < ·)
  | 0 => .nil
  | n + 1 => by
    simp only [putsTo]
    split
    · refine List.pairwise_append.2 ⟨putsTo_up os n, List.pairwise_singleton .., fun a ha b hb => ?_⟩
      rw [List.mem_singleton] at hb; subst hb
      exact (putsTo_mem os n a ha).2.1
    · exact putsTo_up os n
theorem puts_len (os : List O) : ∀ n : Nat, (putsTo os n).length + (restTo os n).length = n
  | 0 => rfl
  | n + 1 => by
    have := puts_len os n
    simp only [putsTo, restTo]
    split
    · rw [List.length_append, List.length_cons, List.length_nil]; omega
    · rw [List.length_append, List.length_cons, List.length_nil]; omega
def puts (os : List O) : List Int := putsTo os os.length
def others (os : List O) : List Int := restTo os os.length
def sPuts (os : List O) : List Int := sR (keyV os) (atP (puts os) (os.length : Int)) 0 (puts os).length
theorem sPuts_perm (os : List O) : (sPuts os).Perm (puts os) := by
  have := sR_perm (K := keyV os) (p := atP (puts os) (os.length : Int)) 0 (puts os).length
  rwa [atP_rng] at this
theorem sPuts_len (os : List O) : (sPuts os).length = (puts os).length := (sPuts_perm os).length_eq
theorem sPuts_sd (os : List O) : Sd (keyV os) (sPuts os) := sR_sd (atP_mono (putsTo_up os _) fun x hx => (putsTo_mem os _ x hx).2.1) 0 _
theorem by_call (n : Nat) {h : Heap} {b : Nat} (os : List O) (lb : Bool) (hb : h[b]? = some (.row 3 1 (iL (puts os)) true)) (hl : 4 * os.length + 100 < lim) (hn : 2 * os.length + 50 <= n) :
    call (n + 1) 60 [.sl 2 (os.map O.w) lb, .row b 1 0 (puts os).length, .fn 61 []] h = some (.ret [.row b 1 0 (puts os).length], (h.set b .dead).set b (.row 3 1 (iL (sPuts os)) true)) := by
  have hlen := puts_len os os.length
  have hpl : (puts os).length <= os.length := by unfold puts; omega
  have hs := sort_call (p := atP (puts os) (os.length : Int)) (H := h.set b .dead) (atP_mono (putsTo_up os _) fun x hx => (putsTo_mem os _ x hx).2.1) (by_cmp os lb (h.set b .dead)) n (puts os).length (fun x hx => by
    rw [atP_rng] at hx
    have := putsTo_mem os _ x hx
    exact ⟨this.1, this.2.1⟩) (by omega) (by omega)
  rw [atP_rng] at hs
  refine (srtBy_eq n (os.map O.w) lb b (puts os).length h).trans ?_
  unfold srtBy
  rw [hb]
  simp only [rwT]
  rw [if_pos (by rw [iL_len]; refine ⟨⟨?_, ?_, ?_⟩, ?_, ?_⟩ <;> first | trivial | rfl), hs]
  simp only [clr]
  rw [if_pos (And.intro (by first | trivial | rfl) (by rw [iL_len, iL_len]; exact sPuts_len os))]
  rfl
theorem bsl_int (x : Int) : bslV prog 43 1 [(0, .int .i64 x)] = some (1, [[.int .i64 x]]) := by kernel_rfl
theorem app_int (l : List Int) (x : Int) (h : l.length + 1 < lim) : app 3 1 (S.own 3 1 (iL l)) [[.int .i64 x]] = some (iL (l ++ [x])) := by
  simp only [app]
  rw [if_pos (by refine ⟨?_, ?_, by simpa using h⟩ <;> first | trivial | rfl)]
  simp [iL, intV]
theorem ow_0 (x : O) : (setR [V.int .u8 0, V.int .i32 0] 0 (O.w x))[0]? = some (.int .u8 x.k) := rfl
theorem bop_u8_eql' (a b : Int) : bop prog .eql 5 (.int .u8 a) (.int .u8 b) = some (.bool (a == b)) := by kernel_rfl
def partH (h : Heap) (os : List O) : Heap := h ++ [.row 3 1 (iL (sPuts os)) true, .row 3 1 (iL (others os)) true]
theorem parted_loop (n : Nat) (h : Heap) (os : List O) (lb : Bool) (hl : 4 * os.length + 100 < lim) (hn : 2 * os.length + 50 <= n) : ∀ (d k M : Nat), k + d = os.length -> d < M →
    loopx M (parted_l0 (n + 1) (os.map O.w) lb) [.sl 1 (iL (putsTo os k)) false, .sl 1 (iL (restTo os k)) false, .int .i64 (k : Int)] h = some (.ret [.row h.length 1 0 (puts os).length, .row (h.length + 1) 1 0 (others os).length], partH h os) := by
  intro d
  induction d with
  | zero =>
    intro k M h1 h2
    obtain ⟨M, rfl⟩ : ∃ M', M = M' + 1 := ⟨M - 1, by omega⟩
    obtain rfl : k = os.length := by omega
    have hb := by_call n (h := h ++ [.row 3 1 (iL (puts os)) true]) (b := h.length) os lb List.getElem?_concat_length hl hn
    have hset : ((h ++ [HB.row 3 1 (iL (puts os)) true]).set h.length .dead).set h.length (.row 3 1 (iL (sPuts os)) true) = h ++ [.row 3 1 (iL (sPuts os)) true] := by
      rw [List.set_set, List.set_append_right _ _ (Nat.le_refl _), Nat.sub_self]; rfl
    rw [hset] at hb
    rw [loopx_succ]
    unfold parted_l0
    simp only [gv, List.getD_cons_zero, List.getD_cons_succ, List.length_map, bop_i64_lss, bd_some, bv_bool]
    rw [if_neg (by simp)]
    rw [show lsl (V.sl 1 (iL (putsTo os os.length)) false) = iL (puts os) from rfl, show lsl (V.sl 1 (iL (restTo os os.length)) false) = iL (others os) from rfl, iL_len, iL_len, hb, cl_ret, one1_one]
    simp [partH]
  | succ d ih =>
    intro k M h1 h2
    obtain ⟨M, rfl⟩ : ∃ M', M = M' + 1 := ⟨M - 1, by omega⟩
    obtain ⟨x, hx⟩ : ∃ x, os[k]? = some x := ⟨_, List.getElem?_eq_getElem (by omega)⟩
    have hxv : (os.map O.w)[k]? = some (O.w x) := by rw [get_os, hx]; rfl
    have hlt : decide ((k : Int) < (os.length : Int)) = true := by simp; omega
    have hpl := puts_len os k
    have hox := oAt_some hx
    have IH := ih (k + 1) M (by omega) (by omega)
    rw [loopx_succ]
    have key : ∀ next, parted_l0 (n + 1) (os.map O.w) lb [.sl 1 (iL (putsTo os k)) false, .sl 1 (iL (restTo os k)) false, .int .i64 (k : Int)] h next = next [.sl 1 (iL (putsTo os (k + 1))) false, .sl 1 (iL (restTo os (k + 1))) false, .int .i64 ((k + 1 : Nat) : Int)] h := by
      intro next
      unfold parted_l0
      simp only [gv, List.getD_cons_zero, List.getD_cons_succ, List.length_map, bop_i64_lss, bd_some, bv_bool, hlt, if_true, nv_nat, bdS_some, idxP_sl hxv, cellsP_iptr, bd3_some, Nat.zero_add, Nat.le_refl, Nat.reduceLT, and_self, ow_cut, show (O.w x).length = 2 from rfl, ow_0, bop_u8_eql', bsl_int, bop_i64_add, step64 (show k < lim by omega)]
      rw [show lsl (V.sl 1 (iL (putsTo os k)) false) = iL (putsTo os k) from rfl, show lsl (V.sl 1 (iL (restTo os k)) false) = iL (restTo os k) from rfl]
      by_cases hk : x.k = 1
      · rw [if_pos (by simp [hk]), app_int _ _ (by omega), bd_some]
        simp only [putsTo, restTo, hox, hk, if_true]
      · rw [if_neg (by simp [hk]), app_int _ _ (by omega), bd_some]
        simp only [putsTo, restTo, hox, hk, if_false]
    rw [key]
    exact IH
theorem parted_call (n : Nat) (h : Heap) (os : List O) (lb : Bool) (hl : 4 * os.length + 100 < lim) (hn : 2 * os.length + 50 <= n) :
    call (n + 2) 34 [.sl 2 (os.map O.w) lb] h = some (.ret [.row h.length 1 0 (puts os).length, .row (h.length + 1) 1 0 (others os).length], partH h os) := by
  refine (parted_eq (n + 1) (os.map O.w) lb h).trans ?_
  unfold parted
  exact parted_loop n h os lb hl hn os.length 0 (n + 1) (by omega) (by omega)
end Go.Proofs.Try
set_option linter.unusedVariables false
set_option linter.unusedSimpArgs false
namespace Go.Proofs.Try
open Go.L Go.Rp Go.Sk
set_option maxRecDepth 100000
abbrev St := List (Int × Nat) × List Bool
def stp (most : Int) (st : St) (o : O) : St × R :=
  if o.k = 1 then (if most <= (st.1.length : Int) then (st, ⟨3, 0⟩) else ((insI st.1 o.v (hgt 1 st.2).1, (hgt 1 st.2).2), ⟨1, 0⟩))
  else if o.k = 2 then (match st.1 with | [] => (st, ⟨4, 0⟩) | p :: r => ((r, st.2), ⟨2, p.1⟩))
  else (st, ⟨5, 0⟩)
def runO (os : List O) (most : Int) : List Int -> St -> List R -> St × List R
  | [], st, told => (st, told)
  | k :: r, st, told => runO os most r (stp most st (oAt os k)).1 (told.set k.toNat (stp most st (oAt os k)).2)
theorem runO_append (os : List O) (most : Int) : ∀ (l m : List Int) (st : St) (told : List R), runO os most (l ++ m) st told = runO os most m (runO os most l st told).1 (runO os most l st told).2
  | [], m, st, told => rfl
  | k :: l, m, st, told => runO_append os most l m _ _
theorem runO_len (os : List O) (most : Int) : ∀ (l : List Int) (st : St) (told : List R), (runO os most l st told).2.length = told.length
  | [], _, _ => rfl
  | k :: l, st, told => by
    show (runO os most l _ _).2.length = _
    rw [runO_len os most l, List.length_set]
structure Frm (h h' : Heap) (X : List Nat) : Prop where
  len : h.length <= h'.length
  old : ∀ i, i < h.length -> i ∉ X -> h'[i]? = h[i]?
theorem Frm.refl (h : Heap) (X : List Nat) : Frm h h X := ⟨Nat.le_refl _, fun _ _ _ => rfl⟩
theorem Frm.trans {h h1 h2 : Heap} {X Y : List Nat} (a : Frm h h1 X) (b : Frm h1 h2 Y) (hY : ∀ y ∈ Y, y ∈ X \/ h.length <= y) : Frm h h2 X :=
  ⟨Nat.le_trans a.len b.len, fun i h1' h2' => (b.old i (by have := a.len; omega) fun hm => by rcases hY i hm with h | h; exact h2' h; omega).trans (a.old i h1' h2')⟩
theorem Frm.sub {h h' : Heap} {X Y : List Nat} (a : Frm h h' X) (hs : ∀ x ∈ X, x ∈ Y) : Frm h h' Y := ⟨a.len, fun i h1 h2 => a.old i h1 fun hm => h2 (hs i hm)⟩
theorem Grew.frm {h h' : Heap} {s : Nat} {ts ts' : List Tw} {most : Int} (g : Grew h h' s ts ts' most) : Frm h h' (skB s ts) := ⟨g.len, g.old⟩
theorem Frm.push (h : Heap) (l : List HB) (X : List Nat) : Frm h (h ++ l) X := ⟨by simp, fun i hi _ => List.getElem?_append_left hi⟩
theorem Frm.set (h : Heap) (b : Nat) (x : HB) : Frm h (h.set b x) [b] := ⟨by simp, fun i _ hn => List.getElem?_set_ne (fun e => hn (by rw [e]; exact List.mem_singleton.2 rfl))⟩
def RowR (h : Heap) (b : Nat) (l : List R) : Prop := ∃ z, h[b]? = some (.row 34 2 (l.map R.w) z)
theorem RowR.keep {h h' : Heap} {b : Nat} {l : List R} (r : RowR h b l) (hk : h'[b]? = h[b]?) : RowR h' b l := by obtain ⟨z, hz⟩ := r; exact ⟨z, hk.trans hz⟩
theorem RowR.code {h : Heap} {b : Nat} {l : List R} (r : RowR h b l) {i : Nat} {x : R} (hx : l[i]? = some x) (c : Int) :
    ∃ B, writeB h [.int .u8 c] (.rptr b 2 i 0) = some (b, B) /\ RowR (h.set b B) b (l.set i ⟨c, x.v⟩) := by
  obtain ⟨z, hz⟩ := r
  refine ⟨_, writeB_rptr hz (by decide) (by simp) (by rw [get_rs, hx]; rfl), z, ?_⟩
  rw [set_at (lt_of_at hz), List.map_set]
  rfl
theorem RowR.all {h : Heap} {b : Nat} {l : List R} (r : RowR h b l) {i : Nat} {x : R} (hx : l[i]? = some x) (c v : Int) :
    ∃ B, writeB h [.int .u8 c, .int .i32 v] (.rptr b 2 i 0) = some (b, B) /\ RowR (h.set b B) b (l.set i ⟨c, v⟩) := by
  obtain ⟨z, hz⟩ := r
  refine ⟨_, writeB_rptr hz (by decide) (by simp) (by rw [get_rs, hx]; rfl), z, ?_⟩
  rw [set_at (lt_of_at hz), List.map_set]
  rfl
theorem idx_told {b n i : Nat} (h : i < n) : idxP 2 i (.row b 2 0 n) = some (.rptr b 2 i 0) := by simpa using idxP_row (b := b) (sz := 2) (lo := 0) (hi := n) (show i < n - 0 by omega)
theorem bld_res (v : Int) : bldV prog 34 [(0, .int .u8 2), (1, .int .i32 v)] = some [.int .u8 2, .int .i32 v] := by kernel_rfl
theorem ow_get0 (x : O) : (O.w x)[0]? = some (.int .u8 x.k) := rfl
theorem ow_get1 (x : O) : (O.w x)[1]? = some (.int .i32 x.v) := rfl
theorem addP_iptr (k n : Nat) (cs : List V) (o : Nat) : addP k (.iptr n cs o) = some (.iptr n cs (o + k)) := rfl
theorem bop_u8_neq' (a b : Int) : bop prog .neq 5 (.int .u8 a) (.int .u8 b) = some (.bool (a != b)) := by kernel_rfl
theorem rest_loop (n : Nat) {s : Nat} {most : Int} (os : List O) (lb : Bool) (L : List Int) (hL : ∀ x ∈ L, 0 <= x /\ x < (os.length : Int) /\ (oAt os x).k ≠ 1) (hnd : L.Nodup) (tb pb : Nat) (hlim : L.length < lim) (hn : 8 < n) (bits : List Bool) : ∀ (d i M : Nat) (h : Heap) (ts : List Tw) (told : List R) (v0 : V), i + d = L.length -> d < M →
    (∃ N, SkAt h s ts most N) -> ts.length < lim -> RowR h tb told -> RowI h pb .i64 3 L -> told.length = os.length -> tb ∉ skB s ts -> pb ∉ skB s ts -> pb ≠ tb -> (∀ x ∈ L.drop i, told[x.toNat]? = some ⟨0, 0⟩) →
    ∃ h' ts' told', loopx M (srtRest_l1 (n + 2) s (os.map O.w) lb (.row pb 1 0 L.length) (.row tb 2 0 os.length) (1, iL L)) [v0, .int .i64 (i : Int)] h = some (.ret [.row tb 2 0 os.length], h') ∧
      (∃ N, SkAt h' s ts' most N) /\ (∀ b ∈ skB s ts', b ∈ skB s ts) /\ Frm h h' (tb :: skB s ts) /\ h'.length = h.length /\ RowR h' tb told' /\ runO os most (L.drop i) (itT ts, bits) told = ((itT ts', bits), told') := by
  intro d
  induction d with
  | zero =>
    intro i M h ts told v0 h1 h2 S hts rt rp hlt nt np hpt h0
    obtain ⟨M, rfl⟩ : ∃ M', M = M' + 1 := ⟨M - 1, by omega⟩
    obtain rfl : i = L.length := by omega
    refine ⟨h, ts, told, ?_, S, fun b hb => hb, .refl _ _, rfl, rt, by rw [List.drop_length]; rfl⟩
    rw [loopx_succ]
    unfold srtRest_l1
    simp only [gv, List.getD_cons_zero, List.getD_cons_succ, iL_len, bop_i64_lss, bd_some, bv_bool]
    rw [if_neg (by simp)]
  | succ d ih =>
    intro i M h ts told v0 h1 h2 S hts rt rp hlt nt np hpt h0
    obtain ⟨M, rfl⟩ : ∃ M', M = M' + 1 := ⟨M - 1, by omega⟩
    obtain ⟨x, hx⟩ : ∃ x, L[i]? = some x := ⟨_, List.getElem?_eq_getElem (by omega)⟩
    have hdr : L.drop i = x :: L.drop (i + 1) := by
      rw [List.drop_eq_getElem_cons (by omega)]
      rw [List.getElem?_eq_getElem (by omega)] at hx
      rw [Option.some.inj hx]
    obtain ⟨x0, x1, xk⟩ := hL x (List.mem_of_getElem? hx)
    obtain ⟨k, rfl⟩ : ∃ k : Nat, x = (k : Int) := ⟨x.toNat, (Int.toNat_of_nonneg x0).symm⟩
    have hk : k < os.length := by omega
    obtain ⟨o, ho⟩ : ∃ o, os[k]? = some o := ⟨_, List.getElem?_eq_getElem hk⟩
    have hov : (os.map O.w)[k]? = some (O.w o) := by rw [get_os, ho]; rfl
    have hoo := oAt_some ho
    have ht0 : told[k]? = some ⟨0, 0⟩ := by
      have := h0 (k : Int) (by rw [hdr]; exact List.mem_cons_self ..)
      simpa using this
    obtain ⟨B1, w1, r1⟩ := rt.code ht0 5
    have hl1 : decide ((i : Int) < (L.length : Int)) = true := by simp; omega
    obtain ⟨g1, g2⟩ := rp.get hx
    have htk : k < told.length := by omega
    have hkeep1 : ∀ b, b ≠ tb -> (h.set tb B1)[b]? = h[b]? := fun b hb => List.getElem?_set_ne (Ne.symm hb)
    have hrest : ∀ (told2 : List R) (r : R), told2 = told.set k r -> ∀ y ∈ L.drop (i + 1), told2[y.toNat]? = some ⟨0, 0⟩ := fun told2 r e y hy => by
      rw [e, List.getElem?_set_ne]
      · exact h0 y (by rw [hdr]; exact List.mem_cons_of_mem _ hy)
      · intro e2
        have hy0 := hL y (List.mem_of_mem_drop hy)
        have hyk : y = (k : Int) := by omega
        have hnd2 : (L.drop i).Nodup := hnd.sublist (List.drop_sublist _ _)
        rw [hdr] at hnd2
        exact (List.nodup_cons.1 hnd2).1 (hyk ▸ hy)
    rw [hoo] at xk
    have hw1 : writeB h [.int .u8 5] (.rptr tb 2 k 0) = some (tb, B1) := w1
    have S1 : ∃ N, SkAt (h.set tb B1) s ts most N := by obtain ⟨N, S⟩ := S; exact ⟨N, S.keep fun b hb => hkeep1 b fun e => nt (e ▸ hb)⟩
    have fk : nv (V.int .i64 (k : Int)) = some k := nv_nat _ _
    have rp1 : RowI (h.set tb B1) pb .i64 3 L := rp.keep (hkeep1 pb hpt)
    have base : ∀ next, srtRest_l1 (n + 2) s (os.map O.w) lb (.row pb 1 0 L.length) (.row tb 2 0 os.length) (1, iL L) [v0, .int .i64 (i : Int)] h next =
        (if (o.k != 2) = true then next [.sl 2 (lsl v0) false, .int .i64 ((i + 1 : Nat) : Int)] (h.set tb B1) else
          (bd2 (writeB (h.set tb B1) [.int .u8 4] (.rptr tb 2 k 0)) fun b31 x32 =>
          (cl (call (n + 2) 63 [.ptr s 0] (((h.set tb B1)).set b31 x32)) (fun r33 h34 =>
          (bd (r33)[0]? fun v36 =>
          (bd (r33)[1]? fun v37 =>
          (bv v37 fun b38 => if b38 then
          (bd (bldV prog 34 [(0, (V.int .u8 2)), (1, v36)]) fun cs39 =>
          (if (cs39).length = 2 then
          (bd2 (writeB h34 cs39 (.rptr tb 2 k 0)) fun b42 x43 =>
          (next [(V.sl 2 (lsl v0) false), .int .i64 ((i + 1 : Nat) : Int)] ((h34).set b42 x43))) else none))
          else
          (next [(V.sl 2 (lsl v0) false), .int .i64 ((i + 1 : Nat) : Int)] h34))))) (fun z35 h34 => some (Res.pan z35, h34))))) := by
      intro next
      unfold srtRest_l1
      simp only [gv, List.getD_cons_zero, List.getD_cons_succ, iL_len, bop_i64_lss, bd_some, bv_bool, hl1, if_true, nv_nat, bdS_some, g1, g2, bd3_some, Nat.zero_add, Nat.le_refl, Nat.reduceLT, and_self, List.getElem?_cons_zero, idx_told hk, addP_rptr, Nat.add_zero, hw1, bd2_some, idxP_sl hov, addP_iptr, cellsP_iptr, Nat.reduceAdd, Nat.reduceLeDiff, ow_get0, bop_u8_neq', bop_i64_add, step64 (show i < lim by omega)]
    obtain ⟨N, hS⟩ := S
    rw [loopx_succ, base]
    have hst5 : stp most (itT ts, bits) o = if o.k = 2 then (match itT ts with | [] => ((itT ts, bits), ⟨4, 0⟩) | p :: r => ((r, bits), ⟨2, p.1⟩)) else ((itT ts, bits), ⟨5, 0⟩) := by
      unfold stp; rw [if_neg xk]
    have hrun : runO os most (L.drop i) (itT ts, bits) told = runO os most (L.drop (i + 1)) (stp most (itT ts, bits) o).1 (told.set k (stp most (itT ts, bits) o).2) := by
      rw [hdr]; show runO os most _ (stp most (itT ts, bits) (oAt os (k : Int))).1 (told.set (k : Int).toNat (stp most (itT ts, bits) (oAt os (k : Int))).2) = _
      rw [hoo, Int.toNat_natCast]
    by_cases hk2 : o.k = 2
    · rw [if_neg (by simp [hk2])]
      have ht5 : (told.set k ⟨5, 0⟩)[k]? = some ⟨5, 0⟩ := List.getElem?_set_self htk
      obtain ⟨B2, w2, r2⟩ := r1.code ht5 4
      have e2 : (told.set k ⟨5, 0⟩).set k ⟨4, 0⟩ = told.set k ⟨4, 0⟩ := List.set_set ..
      replace r2 : RowR ((h.set tb B1).set tb B2) tb (told.set k ⟨4, 0⟩) := by rw [<- e2]; exact r2
      rw [w2, bd2_some]
      have hkeep2 : ∀ b, b ≠ tb -> ((h.set tb B1).set tb B2)[b]? = h[b]? := fun b hb => by rw [List.getElem?_set_ne (Ne.symm hb)]; exact hkeep1 b hb
      have S2 : SkAt ((h.set tb B1).set tb B2) s ts most N := hS.keep fun b hb => hkeep2 b fun e => nt (e ▸ hb)
      cases ts with
      | nil =>
        rw [min_none n S2, cl_ret]
        simp only [List.getElem?_cons_zero, List.getElem?_cons_succ, bd_some, bv_bool]
        rw [if_neg (by decide)]
        obtain ⟨h', ts', told', e, b1, b2, b3, b4, b5, b6⟩ := ih (i + 1) M ((h.set tb B1).set tb B2) [] (told.set k ⟨4, 0⟩) (.sl 2 (lsl v0) false) (by omega) (by omega) ⟨N, S2⟩ hts r2 (rp.keep (hkeep2 pb hpt)) (by rw [List.length_set]; exact hlt) nt np hpt (hrest _ ⟨4, 0⟩ rfl)
        refine ⟨h', ts', told', e, b1, b2, ?_, by rw [b4, List.length_set, List.length_set], b5, ?_⟩
        · exact Frm.trans ⟨by simp, fun j _ hj => hkeep2 j fun e => hj (e ▸ List.mem_cons_self ..)⟩ b3 fun y hy => .inl hy
        · rw [hrun, hst5, if_pos hk2]
          exact b6
      | cons t ts =>
        obtain ⟨h3, e3, T⟩ := min_call n S2 hn (by simp at hts; omega)
        rw [e3, cl_ret]
        simp only [List.getElem?_cons_zero, List.getElem?_cons_succ, bd_some, bv_bool]
        rw [if_pos (by first | trivial | rfl), bld_res, bd_some, if_pos (by first | trivial | rfl)]
        have hts3 : tb ≠ s := fun e => nt (e ▸ List.mem_cons_self ..)
        have hps3 : pb ≠ s := fun e => np (e ▸ List.mem_cons_self ..)
        have r3 : RowR h3 tb (told.set k ⟨4, 0⟩) := r2.keep (T.old tb hts3)
        obtain ⟨B3, w3, r4⟩ := r3.all (show (told.set k ⟨4, 0⟩)[k]? = some ⟨4, 0⟩ from List.getElem?_set_self htk) 2 t.v
        have e4 : (told.set k ⟨4, 0⟩).set k ⟨2, t.v⟩ = told.set k ⟨2, t.v⟩ := List.set_set ..
        replace r4 : RowR (h3.set tb B3) tb (told.set k ⟨2, t.v⟩) := by rw [<- e4]; exact r4
        rw [w3, bd2_some]
        have hkeep4 : ∀ b, b ≠ tb -> (h3.set tb B3)[b]? = h3[b]? := fun b hb => List.getElem?_set_ne (Ne.symm hb)
        have nt' : tb ∉ skB s ts := fun hm => nt (by
          rcases List.mem_cons.1 hm with e | hm
          · exact e ▸ List.mem_cons_self ..
          · exact List.mem_cons_of_mem _ (List.mem_cons_of_mem _ hm))
        have hsub : ∀ b ∈ skB s ts, b ∈ skB s (t :: ts) := fun b hb => by
          rcases List.mem_cons.1 hb with e | hm
          · exact e ▸ List.mem_cons_self ..
          · exact List.mem_cons_of_mem _ (List.mem_cons_of_mem _ hm)
        have S4 : ∃ N, SkAt (h3.set tb B3) s ts most N := by obtain ⟨N', S'⟩ := T.sk; exact ⟨N', S'.keep fun b hb => hkeep4 b fun e => nt' (e ▸ hb)⟩
        obtain ⟨h', ts', told', e, b1, b2, b3, b4, b5, b6⟩ := ih (i + 1) M (h3.set tb B3) ts (told.set k ⟨2, t.v⟩) (.sl 2 (lsl v0) false) (by omega) (by omega) S4 (by simp at hts; omega) r4 (rp.keep (by rw [hkeep4 pb hpt, T.old pb hps3, hkeep2 pb hpt])) (by rw [List.length_set]; exact hlt) nt' (fun hm => np (hsub pb hm)) hpt (hrest _ ⟨2, t.v⟩ rfl)
        refine ⟨h', ts', told', e, b1, fun b hb => hsub b (b2 b hb), ?_, by rw [b4, List.length_set, T.len, List.length_set, List.length_set], b5, ?_⟩
        · refine Frm.trans (h1 := h3.set tb B3) ⟨by rw [List.length_set, T.len, List.length_set, List.length_set]; exact Nat.le_refl _, fun j _ hj => ?_⟩ b3 fun y hy => .inl ?_
          · have hj1 : j ≠ tb := fun e => hj (e ▸ List.mem_cons_self ..)
            have hj2 : j ≠ s := fun e => hj (e ▸ List.mem_cons_of_mem _ (List.mem_cons_self ..))
            rw [hkeep4 j hj1, T.old j hj2, hkeep2 j hj1]
          · rcases List.mem_cons.1 hy with e | hy
            · exact e ▸ List.mem_cons_self ..
            · exact List.mem_cons_of_mem _ (hsub y hy)
        · rw [hrun, hst5, if_pos hk2]
          exact b6
    · rw [if_pos (by simp [hk2])]
      obtain ⟨h', ts', told', e, b1, b2, b3, b4, b5, b6⟩ := ih (i + 1) M (h.set tb B1) ts (told.set k ⟨5, 0⟩) (.sl 2 (lsl v0) false) (by omega) (by omega) S1 hts r1 rp1 (by rw [List.length_set]; exact hlt) nt np hpt (hrest _ ⟨5, 0⟩ rfl)
      refine ⟨h', ts', told', e, b1, b2, ?_, by rw [b4, List.length_set], b5, ?_⟩
      · exact Frm.trans ⟨by simp, fun j _ hj => hkeep1 j fun e => hj (e ▸ List.mem_cons_self ..)⟩ b3 fun y hy => .inl hy
      · rw [hrun, hst5, if_neg hk2]
        exact b6
theorem rest_call (n : Nat) {h : Heap} {s : Nat} {ts : List Tw} {most : Int} (os : List O) (lb : Bool) (told : List R) (tb pb : Nat) (bits : List Bool) (S : ∃ N, SkAt h s ts most N) (hts : ts.length < lim) (rt : RowR h tb told) (rp : RowI h pb .i64 3 (others os)) (hlt : told.length = os.length) (nt : tb ∉ skB s ts) (np : pb ∉ skB s ts) (hpt : pb ≠ tb) (h0 : ∀ x ∈ others os, told[x.toNat]? = some ⟨0, 0⟩) (hlim : os.length < lim) (hn : os.length + 8 < n) :
    ∃ h' ts' told', call (n + 3) 38 [.ptr s 0, .sl 2 (os.map O.w) lb, .row pb 1 0 (others os).length, .row tb 2 0 os.length] h = some (.ret [.row tb 2 0 os.length], h') ∧
      (∃ N, SkAt h' s ts' most N) /\ (∀ b ∈ skB s ts', b ∈ skB s ts) /\ Frm h h' (tb :: skB s ts) /\ h'.length = h.length /\ RowR h' tb told' /\ runO os most (others os) (itT ts, bits) told = ((itT ts', bits), told') := by
  have hl := puts_len os os.length
  have hol : (others os).length <= os.length := by unfold others; omega
  have hnd : (others os).Nodup := by
    have : ∀ n : Nat, (restTo os n).Pairwise (· < ·) := fun n => by
      induction n with
      | zero => exact .nil
      | succ n ih =>
        simp only [restTo]
        split
        · exact ih
        · refine List.pairwise_append.2 ⟨ih, List.pairwise_singleton .., fun a ha b hb => ?_⟩
          rw [List.mem_singleton] at hb; subst hb
          exact (restTo_mem os n a ha).2.1
    exact (this os.length).imp fun h => by omega
  obtain ⟨h', ts', told', e, r⟩ := rest_loop n os lb (others os) (restTo_mem os os.length) hnd tb pb (by omega) (by omega) bits (others os).length 0 (n + 2) h ts told (.sl 2 [] false) (by omega) (by omega) S hts rt rp hlt nt np hpt (by rw [List.drop_zero]; exact h0)
  refine ⟨h', ts', told', ?_, by rw [List.drop_zero] at r; exact r⟩
  refine (srtRest_eq (n + 2) s (os.map O.w) lb _ _ h).trans ?_
  unfold srtRest
  rw [rp.slc, bd_some]
  exact e
end Go.Proofs.Try
set_option linter.unusedVariables false
set_option linter.unusedSimpArgs false
namespace Go.Proofs.Try
open Go.L Go.Rp Go.Sk
set_option maxRecDepth 100000
structure Env (h : Heap) (s : Nat) (ts : List Tw) (most : Int) (c : Nat) (cb : Option Nat) (bits : List Bool) (p1 : Nat) (P : List Int) (p2 : Nat) (Q : List Int) : Prop where
  sk : ∃ N, SkAt h s ts most N
  bt : BitsAt h c cb bits
  r1 : RowI h p1 .i64 3 P
  r2 : RowI h p2 .i64 3 Q
  nc : c ∉ skB s ts
  ncb : ∀ b, cb = some b -> b ∉ skB s ts
  n1 : p1 ∉ skB s ts /\ p1 ≠ c
  n2 : p2 ∉ skB s ts /\ p2 ≠ c
theorem BitsAt.lt {h : Heap} {c : Nat} {cb : Option Nat} {bits : List Bool} (hb : BitsAt h c cb bits) : c < h.length /\ ∀ b, cb = some b -> b < h.length := by
  cases cb with
  | none => exact ⟨lt_of_at hb.2, fun b e => by cases e⟩
  | some b =>
    obtain ⟨_, lo, l, z, h2, h3, _⟩ := hb
    exact ⟨lt_of_at h2, fun b' e => by cases e; exact lt_of_at h3⟩
theorem Env.coin {h h' : Heap} {s : Nat} {ts : List Tw} {most : Int} {c : Nat} {cb : Option Nat} {bits bits' : List Bool} {p1 p2 : Nat} {P Q : List Int} (E : Env h s ts most c cb bits p1 P p2 Q) (hb : BitsAt h' c cb bits') (hk : ∀ i, i ≠ c -> h'[i]? = h[i]?) : Env h' s ts most c cb bits' p1 P p2 Q :=
  ⟨by obtain ⟨N, S⟩ := E.sk; exact ⟨N, S.keep fun b hb => hk b fun e => E.nc (e ▸ hb)⟩, hb, E.r1.keep (hk _ E.n1.2), E.r2.keep (hk _ E.n2.2), E.nc, E.ncb, E.n1, E.n2⟩
theorem RowI.lt {h : Heap} {b : Nat} {k : IntKind} {e : Nat} {l : List Int} (r : RowI h b k e l) : b < h.length := by obtain ⟨z, hz⟩ := r; exact lt_of_at hz
theorem Env.grew {h h' : Heap} {s : Nat} {ts ts' : List Tw} {most : Int} {c : Nat} {cb : Option Nat} {bits : List Bool} {p1 p2 : Nat} {P Q : List Int} (E : Env h s ts most c cb bits p1 P p2 Q) (G : Grew h h' s ts ts' most) : Env h' s ts' most c cb bits p1 P p2 Q := by
  have l := E.bt.lt
  have hn : ∀ b, b < h.length -> b ∉ skB s ts -> b ∉ skB s ts' := fun b h1 h2 hm => by rcases G.new b hm with h | h; exact h2 h; omega
  exact ⟨G.sk, E.bt.keep (G.old c l.1 E.nc) fun b hb => G.old b (l.2 b hb) (E.ncb b hb), E.r1.keep (G.old _ E.r1.lt E.n1.1), E.r2.keep (G.old _ E.r2.lt E.n2.1), hn c l.1 E.nc, fun b hb => hn b (l.2 b hb) (E.ncb b hb), ⟨hn _ E.r1.lt E.n1.1, E.n1.2⟩, ⟨hn _ E.r2.lt E.n2.1, E.n2.2⟩⟩
theorem Env.push {h : Heap} {s : Nat} {ts : List Tw} {most : Int} {c : Nat} {cb : Option Nat} {bits : List Bool} {p1 p2 : Nat} {P Q : List Int} (E : Env h s ts most c cb bits p1 P p2 Q) (l : List HB) : Env (h ++ l) s ts most c cb bits p1 P p2 Q := by
  have hk : ∀ b, b < h.length -> (h ++ l)[b]? = h[b]? := fun b hb => List.getElem?_append_left hb
  have lt := E.bt.lt
  obtain ⟨N, S⟩ := E.sk
  exact ⟨⟨N, S.keep fun b hb => hk b (S.lt b hb)⟩, E.bt.keep (hk c lt.1) fun b hb => hk b (lt.2 b hb), E.r1.keep (hk _ E.r1.lt), E.r2.keep (hk _ E.r2.lt), E.nc, E.ncb, E.n1, E.n2⟩
structure Did (h h' : Heap) (s : Nat) (ts ts' : List Tw) (most : Int) (c : Nat) (cb : Option Nat) (bits' : List Bool) (tb : Nat) (told : List R) : Prop where
  sk : ∃ N, SkAt h' s ts' most N
  bt : BitsAt h' c cb bits'
  tl : RowR h' tb told
  tb : h.length <= tb
  frm : Frm h h' (c :: skB s ts)
  new : ∀ b ∈ skB s ts', b ∈ skB s ts \/ h.length <= b
  room : (ts'.length : Int) <= most
theorem hOf_hgt (bits : List Bool) : hOf ((hgt 1 bits).1 : Int) = (hgt 1 bits).1 := by
  have := hgt_pos bits 1 (Nat.le_refl _) (by omega)
  unfold hOf
  omega
theorem insI_len (l : List (Int × Nat)) (v : Int) (T : Nat) : (insI l v T).length = l.length + 1 := by
  unfold insI
  rw [List.length_append, List.length_cons]
  have := congrArg List.length (List.takeWhile_append_dropWhile (p := fun p : Int × Nat => decide (p.1 <= v)) (l := l))
  rw [List.length_append] at this
  omega
theorem itT_len (ts : List Tw) : (itT ts).length = ts.length := by simp [itT]
theorem stp_room {most : Int} {st : St} {o : O} (h : (st.1.length : Int) <= most) : ((stp most st o).1.1.length : Int) <= most := by
  unfold stp
  split
  · split
    · exact h
    · simp only [insI_len]; omega
  · split
    · split
      · exact h
      · rename_i p r e; rw [e] at h; simp at h; simp only; omega
    · exact h
theorem runO_room {os : List O} {most : Int} : ∀ (l : List Int) {st : St} {told : List R}, (st.1.length : Int) <= most -> ((runO os most l st told).1.1.length : Int) <= most
  | [], st, told, h => h
  | k :: l, st, told, h => runO_room l (stp_room h)
theorem app_r0 (l : List R) : lsl (V.sl 2 (l.map R.w) false) = l.map R.w := rfl
theorem rw_set (x : R) (c : Int) : setR (R.w x) 0 [.int .u8 c] = R.w ⟨c, x.v⟩ := rfl
theorem plain_loop (n : Nat) {s c : Nat} {cb : Option Nat} {most : Int} (os : List O) (lb : Bool) (P : List Int) (hP : ∀ x ∈ P, 0 <= x /\ x < (os.length : Int) /\ (oAt os x).k = 1) (hnd : P.Nodup) (p1 p2 : Nat) (Q0 : List Int) (v6 : V) (hlim : P.length < lim) : ∀ (d i M : Nat) (h : Heap) (ts : List Tw) (bits : List Bool) (told : List R) (v0 v2 : V), i + d = P.length -> d < M →
    Env h s ts most c cb bits p1 P p2 Q0 -> ts.length + d < lim -> ts.length + d + 10 < n -> told.length = os.length -> (∀ x ∈ P.drop i, told[x.toNat]? = some ⟨0, 0⟩) →
    ∃ h' ts' bits' told' v0' v2' M', loopx M (srtPlain_l8 (n + 3) s c (os.map O.w) lb (.row p1 1 0 P.length) v6 (1, iL P)) [v0, .sl 2 (told.map R.w) false, v2, .int .i64 (i : Int)] h = srtPlain_l8 (n + 3) s c (os.map O.w) lb (.row p1 1 0 P.length) v6 (1, iL P) [v0', .sl 2 (told'.map R.w) false, v2', .int .i64 (P.length : Int)] h' (loopx M' (srtPlain_l8 (n + 3) s c (os.map O.w) lb (.row p1 1 0 P.length) v6 (1, iL P))) ∧
      Env h' s ts' most c cb bits' p1 P p2 Q0 /\ Frm h h' (c :: skB s ts) /\ (∀ b ∈ skB s ts', b ∈ skB s ts \/ h.length <= b) /\ told'.length = os.length /\ ts'.length <= ts.length + d /\ runO os most (P.drop i) (itT ts, bits) told = ((itT ts', bits'), told') /\ (∀ y : Nat, (∀ x ∈ P.drop i, x ≠ (y : Int)) -> told'[y]? = told[y]?) := by
  intro d
  induction d with
  | zero =>
    intro i M h ts bits told v0 v2 h1 h2 E hts hn hlt h0
    obtain ⟨M, rfl⟩ : ∃ M', M = M' + 1 := ⟨M - 1, by omega⟩
    obtain rfl : i = P.length := by omega
    exact ⟨h, ts, bits, told, v0, v2, M, loopx_succ .., E, .refl _ _, fun b hb => .inl hb, hlt, Nat.le_refl _, by rw [List.drop_length]; rfl, fun _ _ => rfl⟩
  | succ d ih =>
    intro i M h ts bits told v0 v2 h1 h2 E hts hn hlt h0
    obtain ⟨M, rfl⟩ : ∃ M', M = M' + 1 := ⟨M - 1, by omega⟩
    obtain ⟨x, hx⟩ : ∃ x, P[i]? = some x := ⟨_, List.getElem?_eq_getElem (by omega)⟩
    have hdr : P.drop i = x :: P.drop (i + 1) := by
      rw [List.drop_eq_getElem_cons (by omega)]
      rw [List.getElem?_eq_getElem (by omega)] at hx
      rw [Option.some.inj hx]
    obtain ⟨x0, x1, xk⟩ := hP x (List.mem_of_getElem? hx)
    obtain ⟨k, rfl⟩ : ∃ k : Nat, x = (k : Int) := ⟨x.toNat, (Int.toNat_of_nonneg x0).symm⟩
    have hk : k < os.length := by omega
    obtain ⟨o, ho⟩ : ∃ o, os[k]? = some o := ⟨_, List.getElem?_eq_getElem hk⟩
    have hov : (os.map O.w)[k]? = some (O.w o) := by rw [get_os, ho]; rfl
    have hoo := oAt_some ho
    rw [hoo] at xk
    have ht0 : told[k]? = some ⟨0, 0⟩ := by
      have := h0 (k : Int) (by rw [hdr]; exact List.mem_cons_self ..)
      simpa using this
    have htk : k < told.length := by omega
    have htv : (told.map R.w)[k]? = some (R.w ⟨0, 0⟩) := by rw [get_rs, ht0]; rfl
    have hl1 : decide ((i : Int) < (P.length : Int)) = true := by simp; omega
    obtain ⟨g1, g2⟩ := E.r1.get hx
    have hnd2 : (P.drop i).Nodup := hnd.sublist (List.drop_sublist _ _)
    rw [hdr] at hnd2
    have hrest : ∀ (told2 : List R) (r : R), told2 = told.set k r -> ∀ y ∈ P.drop (i + 1), told2[y.toNat]? = some ⟨0, 0⟩ := fun told2 r e y hy => by
      rw [e, List.getElem?_set_ne]
      · exact h0 y (by rw [hdr]; exact List.mem_cons_of_mem _ hy)
      · intro e2
        have hy0 := hP y (List.mem_of_mem_drop hy)
        have hyk : y = (k : Int) := by omega
        exact (List.nodup_cons.1 hnd2).1 (hyk ▸ hy)
    have hrun : runO os most (P.drop i) (itT ts, bits) told = runO os most (P.drop (i + 1)) (stp most (itT ts, bits) o).1 (told.set k (stp most (itT ts, bits) o).2) := by
      rw [hdr]; show runO os most _ (stp most (itT ts, bits) (oAt os (k : Int))).1 (told.set (k : Int).toNat (stp most (itT ts, bits) (oAt os (k : Int))).2) = _
      rw [hoo, Int.toNat_natCast]
    have hoth : ∀ (r : R) (told' : List R), (∀ y : Nat, (∀ x ∈ P.drop (i + 1), x ≠ (y : Int)) -> told'[y]? = (told.set k r)[y]?) -> ∀ y : Nat, (∀ x ∈ P.drop i, x ≠ (y : Int)) -> told'[y]? = told[y]? := fun r told' hh y hy => by
      rw [hdr] at hy
      rw [hh y fun x hx => hy x (List.mem_cons_of_mem _ hx), List.getElem?_set_ne]
      intro e
      exact hy (k : Int) (List.mem_cons_self ..) (by omega)
    obtain ⟨N, hS⟩ := E.sk
    have hlenC := len_call (n + 2) hS
    have hmostC := most_call (n + 2) hS
    have hset3 : (told.map R.w).set k (setR (R.w ⟨0, 0⟩) 0 [.int .u8 3]) = (told.set k ⟨3, 0⟩).map R.w := by rw [rw_set, List.map_set]
    have c1 : (2 = 2 /\ k < (told.map R.w).length /\ (some 28 : Option Nat) ≠ some 7) := ⟨rfl, by rw [List.length_map]; exact htk, by decide⟩
    by_cases hfull : (ts.length : Int) < most
    ·
      obtain ⟨h2', e2, B2, l2, f2⟩ := height_call n E.bt (by omega)
      have E2 := E.coin B2 f2
      obtain ⟨N2, hS2⟩ := E2.sk
      obtain ⟨h3, ts3, e3, P3⟩ := insert_call n hS2 o.v ((hgt 1 bits).1 : Int) (by omega) (by omega) hfull
      have E3 := E2.grew P3.grew
      have hset1 : ((told.set k ⟨3, 0⟩).map R.w).set k (setR (R.w ⟨3, 0⟩) 0 [.int .u8 1]) = (told.set k ⟨1, 0⟩).map R.w := by rw [rw_set, <- List.map_set, List.set_set]
      have htv3 : ((told.set k ⟨3, 0⟩).map R.w)[k]? = some (R.w ⟨3, 0⟩) := by rw [get_rs, List.getElem?_set_self htk]; rfl
      have key : ∀ next, srtPlain_l8 (n + 3) s c (os.map O.w) lb (.row p1 1 0 P.length) v6 (1, iL P) [v0, .sl 2 (told.map R.w) false, v2, .int .i64 (i : Int)] h next = next [.sl 2 (lsl v0) false, .sl 2 ((told.set k ⟨1, 0⟩).map R.w) false, .bool false, .int .i64 ((i + 1 : Nat) : Int)] h3 := by
        intro next
        unfold srtPlain_l8
        simp only [gv, List.getD_cons_zero, List.getD_cons_succ, iL_len, bop_i64_lss, bd_some, bv_bool, hl1, if_true, nv_nat, bdS_some, g1, g2, bd3_some, Nat.zero_add, Nat.le_refl, Nat.reduceLT, and_self, List.getElem?_cons_zero, app_r0]
        rw [if_pos (by exact ⟨trivial, c1.2.1, by decide⟩), htv, bd_some, hlenC, cl_ret, one1_one, hmostC, cl_ret, one1_one, bop_i64_lss, bd_some, bv_bool, if_pos (by exact decide_eq_true hfull)]
        rw [idxP_sl hov, bd_some]
        simp only [esP, ow_get1, bd_some]
        rw [e2, clH_ret, one1_one, e3, clH_ret, one1_one, hset3]
        rw [if_pos (by exact ⟨trivial, by rw [List.length_map, List.length_set]; exact htk, by decide⟩), htv3, bd_some, bop_i64_add, bd_some, hset1, step64 (show i < lim by omega)]
      have hlen3 : ts3.length = ts.length + 1 := by
        have := congrArg List.length P3.items
        rwa [itT_len, insI_len, itT_len] at this
      obtain ⟨h', ts', bits', told', v0', v2', M', e, b1, b2, b3, b4, b5, b6, b7⟩ := ih (i + 1) M h3 ts3 (hgt 1 bits).2 (told.set k ⟨1, 0⟩) (.sl 2 (lsl v0) false) (.bool false) (by omega) (by omega) E3 (by omega) (by omega) (by rw [List.length_set]; exact hlt) (hrest _ ⟨1, 0⟩ rfl)
      refine ⟨h', ts', bits', told', v0', v2', M', by rw [loopx_succ, key]; exact e, b1, ?_, fun b hb => ?_, b4, by omega, ?_, hoth ⟨1, 0⟩ told' b7⟩
      · have f3 : Frm h h3 (c :: skB s ts) := Frm.trans (h1 := h2') ⟨Nat.le_of_eq l2.symm, fun j _ hj => f2 j fun e => hj (e ▸ List.mem_cons_self ..)⟩ P3.grew.frm fun y hy => .inl (List.mem_cons_of_mem _ hy)
        refine f3.trans b2 fun y hy => ?_
        rcases List.mem_cons.1 hy with e | hy
        · exact .inl (e ▸ List.mem_cons_self ..)
        · rcases P3.grew.new y hy with h | h
          · exact .inl (List.mem_cons_of_mem _ h)
          · exact .inr (by omega)
      · have hl3 := P3.len
        rcases b3 b hb with h | h
        · rcases P3.grew.new b h with h | h
          · exact .inl h
          · exact .inr (by omega)
        · exact .inr (by omega)
      · rw [hrun]
        have hst : stp most (itT ts, bits) o = ((insI (itT ts) o.v (hgt 1 bits).1, (hgt 1 bits).2), ⟨1, 0⟩) := by
          unfold stp
          rw [if_pos xk, if_neg (by simp only [itT_len]; omega)]
        rw [hst, <- hOf_hgt bits, <- P3.items]
        exact b6
    · have key : ∀ next, srtPlain_l8 (n + 3) s c (os.map O.w) lb (.row p1 1 0 P.length) v6 (1, iL P) [v0, .sl 2 (told.map R.w) false, v2, .int .i64 (i : Int)] h next = next [.sl 2 (lsl v0) false, .sl 2 ((told.set k ⟨3, 0⟩).map R.w) false, .bool false, .int .i64 ((i + 1 : Nat) : Int)] h := by
        intro next
        unfold srtPlain_l8
        simp only [gv, List.getD_cons_zero, List.getD_cons_succ, iL_len, bop_i64_lss, bd_some, bv_bool, hl1, if_true, nv_nat, bdS_some, g1, g2, bd3_some, Nat.zero_add, Nat.le_refl, Nat.reduceLT, and_self, List.getElem?_cons_zero, app_r0]
        rw [if_pos (by exact ⟨trivial, c1.2.1, by decide⟩), htv, bd_some, hlenC, cl_ret, one1_one, hmostC, cl_ret, one1_one, bop_i64_lss, bd_some, bv_bool, if_neg (by intro e; exact hfull (of_decide_eq_true e)), bop_i64_add, bd_some, hset3, step64 (show i < lim by omega)]
      obtain ⟨h', ts', bits', told', v0', v2', M', e, b1, b2, b3, b4, b5, b6, b7⟩ := ih (i + 1) M h ts bits (told.set k ⟨3, 0⟩) (.sl 2 (lsl v0) false) (.bool false) (by omega) (by omega) E (by omega) (by omega) (by rw [List.length_set]; exact hlt) (hrest _ ⟨3, 0⟩ rfl)
      refine ⟨h', ts', bits', told', v0', v2', M', by rw [loopx_succ, key]; exact e, b1, b2, b3, b4, by omega, ?_, hoth ⟨3, 0⟩ told' b7⟩
      rw [hrun]
      have hst : stp most (itT ts, bits) o = ((itT ts, bits), ⟨3, 0⟩) := by
        unfold stp
        rw [if_pos xk, if_pos (by simp only [itT_len]; omega)]
      rw [hst]
      exact b6
theorem rs_rep (n : Nat) : List.replicate n [V.int .u8 0, V.int .i32 0] = (List.replicate n (⟨0, 0⟩ : R)).map R.w := by rw [List.map_replicate]; rfl
def doneO (os : List O) (most : Int) (st : St) : St × List R := runO os most (sPuts os ++ others os) st (List.replicate os.length ⟨0, 0⟩)
theorem puts_others (os : List O) : ∀ x ∈ others os, ∀ y ∈ sPuts os, y ≠ x := fun x hx y hy e => by
  have h1 := restTo_mem os _ x hx
  have h2 := putsTo_mem os _ y ((sPuts_perm os).mem_iff.1 hy)
  rw [e] at h2
  exact h1.2.2 h2.2.2
theorem sPuts_nodup (os : List O) : (sPuts os).Nodup := (sPuts_perm os).nodup_iff.2 ((putsTo_up os os.length).imp fun h => by omega)
theorem sPuts_mem (os : List O) : ∀ x ∈ sPuts os, 0 <= x /\ x < (os.length : Int) /\ (oAt os x).k = 1 := fun x hx => putsTo_mem os _ x ((sPuts_perm os).mem_iff.1 hx)
theorem part_env {h : Heap} {s : Nat} {ts : List Tw} {most : Int} {c : Nat} {cb : Option Nat} {bits : List Bool} (os : List O) (S : ∃ N, SkAt h s ts most N) (B : BitsAt h c cb bits) (nc : c ∉ skB s ts) (ncb : ∀ b, cb = some b -> b ∉ skB s ts) :
    Env (partH h os) s ts most c cb bits h.length (sPuts os) (h.length + 1) (others os) := by
  obtain ⟨N, S⟩ := S
  have l := B.lt
  have hk : ∀ b, b < h.length -> (partH h os)[b]? = h[b]? := fun b hb => List.getElem?_append_left hb
  have h0 : (partH h os)[h.length]? = some (.row 3 1 (iL (sPuts os)) true) := by unfold partH; rw [List.getElem?_append_right (Nat.le_refl _), Nat.sub_self]; rfl
  have h1 : (partH h os)[h.length + 1]? = some (.row 3 1 (iL (others os)) true) := by unfold partH; rw [List.getElem?_append_right (by omega), Nat.add_sub_cancel_left]; rfl
  exact ⟨⟨N, S.keep fun b hb => hk b (S.lt b hb)⟩, B.keep (hk c l.1) fun b hb => hk b (l.2 b hb), ⟨_, h0⟩, ⟨_, h1⟩, nc, ncb, ⟨fun hm => by have := S.lt _ hm; omega, by omega⟩, ⟨fun hm => by have := S.lt _ hm; omega, by omega⟩⟩
theorem end_rest (n : Nat) {h hh : Heap} {s : Nat} {ts ts1 : List Tw} {most : Int} {c : Nat} {cb : Option Nat} {bits : List Bool} {p1 p2 : Nat} (os : List O) (lb : Bool) (told : List R) (E : Env hh s ts1 most c cb bits p1 (sPuts os) p2 (others os)) (hp2 : h.length <= p2) (hlt : told.length = os.length) (h0 : ∀ x ∈ others os, told[x.toNat]? = some ⟨0, 0⟩) (hts : ts1.length < lim) (hlim : os.length < lim) (hn : os.length + 8 < n) (hF : Frm h hh (c :: skB s ts)) (hN : ∀ b ∈ skB s ts1, b ∈ skB s ts \/ h.length <= b) (hroom : (ts1.length : Int) <= most) :
    ∃ h' ts' told', call (n + 3) 38 [.ptr s 0, .sl 2 (os.map O.w) lb, .row p2 1 0 (others os).length, .row hh.length 2 0 os.length] (hh ++ [.row 34 2 (told.map R.w) true]) = some (.ret [.row hh.length 2 0 os.length], h') ∧
      Did h h' s ts ts' most c cb bits hh.length told' /\ runO os most (others os) (itT ts1, bits) told = ((itT ts', bits), told') := by
  have E1 := E.push [.row 34 2 (told.map R.w) true]
  have rt : RowR (hh ++ [.row 34 2 (told.map R.w) true]) hh.length told := ⟨true, List.getElem?_concat_length⟩
  obtain ⟨N, S⟩ := E.sk
  have nt : hh.length ∉ skB s ts1 := fun hm => by have := S.lt _ hm; omega
  have hpl := E.r2.lt
  obtain ⟨h', ts', told', e, a1, a2, a3, a4, a5, a6⟩ := rest_call n os lb told hh.length p2 bits E1.sk hts rt E1.r2 hlt nt E.n2.1 (by omega) h0 hlim hn
  have hl := E.bt.lt
  refine ⟨h', ts', told', e, ⟨a1, ?_, a5, hF.len, ?_, fun b hb => ?_, ?_⟩, a6⟩
  · have hk : ∀ i, i < hh.length -> i ∉ skB s ts1 -> h'[i]? = hh[i]? := fun i h1 h2 => by
      rw [a3.old i (by rw [List.length_append]; omega) (fun hm => by rcases List.mem_cons.1 hm with e | hm; omega; exact h2 hm), List.getElem?_append_left h1]
    exact E.bt.keep (hk c hl.1 E.nc) fun b hb => hk b (hl.2 b hb) (E.ncb b hb)
  · refine (hF.trans (Frm.push hh _ []) (fun y hy => by cases hy)).trans a3 fun y hy => ?_
    rcases List.mem_cons.1 hy with e | hy
    · exact .inr (by have := hF.len; omega)
    · rcases hN y hy with h | h
      · exact .inl (List.mem_cons_of_mem _ h)
      · exact .inr h
  · exact hN b (a2 b hb)
  · have h1 := congrArg (fun p => (p.1.1.length : Int)) a6
    simp only [itT_len] at h1
    rw [<- h1]
    exact runO_room _ (by simp only [itT_len]; exact hroom)
theorem plain_call (n : Nat) {h : Heap} {s : Nat} {ts : List Tw} {most : Int} {c : Nat} {cb : Option Nat} {bits : List Bool} (os : List O) (lb : Bool) (S : ∃ N, SkAt h s ts most N) (B : BitsAt h c cb bits) (nc : c ∉ skB s ts) (ncb : ∀ b, cb = some b -> b ∉ skB s ts) (hroom : (ts.length : Int) <= most) (hl : ts.length + 4 * os.length + 100 < lim) (hn : ts.length + 2 * os.length + 50 <= n) :
    ∃ h' ts' bits' tb told', call (n + 4) 47 [.ptr s 0, .ptr c 0, .sl 2 (os.map O.w) lb] h = some (.ret [.row tb 2 0 os.length], h') /\ Did h h' s ts ts' most c cb bits' tb told' /\ doneO os most (itT ts, bits) = ((itT ts', bits'), told') := by
  have hpl := puts_len os os.length
  have hsl := sPuts_len os
  have hpo : (puts os).length <= os.length := by unfold puts; omega
  have E0 := part_env os S B nc ncb
  have hlf : (partH h os).length = h.length + 2 := by simp [partH]
  obtain ⟨h1, ts1, bits1, told1, v0', v2', M', e, b1, b2, b3, b4, b5, b6, b7⟩ := plain_loop n os lb (sPuts os) (sPuts_mem os) (sPuts_nodup os) h.length (h.length + 1) (others os) (.row (h.length + 1) 1 0 (others os).length) (by omega) (sPuts os).length 0 (n + 3) (partH h os) ts bits (List.replicate os.length ⟨0, 0⟩) (.sl 2 [] false) (.bool false) (by omega) (by omega) E0 (by omega) (by omega) (by simp) (fun x hx => by
    have := sPuts_mem os x (List.mem_of_mem_drop hx)
    rw [List.getElem?_replicate, if_pos (by omega)])
  rw [List.drop_zero] at b6 b7
  have hF : Frm h h1 (c :: skB s ts) := Frm.trans (Frm.push h _ (c :: skB s ts)) b2 fun y hy => .inl hy
  have hN : ∀ b ∈ skB s ts1, b ∈ skB s ts \/ h.length <= b := fun b hb => (b3 b hb).imp id fun h => by omega
  have hr1 : (ts1.length : Int) <= most := by
    have h1 := congrArg (fun p => (p.1.1.length : Int)) b6
    simp only [itT_len] at h1
    rw [<- h1]
    exact runO_room _ (by simp only [itT_len]; exact hroom)
  obtain ⟨h', ts', told', e2, D, r⟩ := end_rest (ts := ts) n os lb told1 b1 (by omega) b4 (fun x hx => by
    have hm := restTo_mem os _ x hx
    rw [b7 x.toNat fun y hy => fun e => puts_others os x hx y hy (by omega), List.getElem?_replicate, if_pos (by omega)]) (by omega) (by omega) (by omega) hF hN hr1
  refine ⟨h', ts', bits1, h1.length, told', ?_, D, ?_⟩
  · refine (srtPlain_eq (n + 3) s c (os.map O.w) lb h).trans ?_
    unfold srtPlain
    have fN : nv (V.int .i64 (os.length : Int)) = some os.length := nv_nat _ _
    have hpc : call (n + 3) 34 [.sl 2 (os.map O.w) lb] h = some (.ret [.row h.length 1 0 (puts os).length, .row (h.length + 1) 1 0 (others os).length], partH h os) := parted_call (n + 1) h os lb (by omega) (by omega)
    simp only [List.length_map]
    rw [fN, bdS_some, bdS_some, if_pos (by first | exact ⟨rfl, by omega, rfl⟩ | exact ⟨trivial, by omega, trivial⟩ | exact ⟨rfl, by omega, trivial⟩), hpc, cl_ret]
    simp only [List.getElem?_cons_zero, List.getElem?_cons_succ, bd_some]
    rw [<- hsl, E0.r1.slc, bd_some, rs_rep]
    refine e.trans ?_
    unfold srtPlain_l8
    simp only [gv, List.getD_cons_zero, List.getD_cons_succ, iL_len, bop_i64_lss, bd_some, bv_bool]
    rw [if_neg (by simp), app_r0, List.length_map, b4, e2, cl_ret, one1_one]
  · unfold doneO
    rw [runO_append, b6]
    exact r
end Go.Proofs.Try
set_option linter.unusedVariables false
set_option linter.unusedSimpArgs false
namespace Go.Proofs.Try
open Go.L Go.Rp Go.Sk
set_option maxRecDepth 100000
def hsOf : Nat -> List Bool -> List Int × List Bool
  | 0, bits => ([], bits)
  | k + 1, bits => (((hgt 1 bits).1 : Int) :: (hsOf k (hgt 1 bits).2).1, (hsOf k (hgt 1 bits).2).2)
theorem hsOf_len : ∀ (k : Nat) (bits : List Bool), (hsOf k bits).1.length = k
  | 0, _ => rfl
  | k + 1, bits => by simp [hsOf, hsOf_len k]
def setAll (r : R) : List Int -> List R -> List R
  | [], told => told
  | k :: l, told => setAll r l (told.set k.toNat r)
theorem setAll_len (r : R) : ∀ (l : List Int) (told : List R), (setAll r l told).length = told.length
  | [], _ => rfl
  | k :: l, told => by show (setAll r l _).length = _; rw [setAll_len r l, List.length_set]
theorem setAll_ne (r : R) : ∀ (l : List Int) (told : List R) (y : Nat), (∀ x ∈ l, x.toNat ≠ y) -> (setAll r l told)[y]? = told[y]?
  | [], _, _, _ => rfl
  | k :: l, told, y, h => by
    show (setAll r l _)[y]? = _
    rw [setAll_ne r l _ y fun x hx => h x (List.mem_cons_of_mem _ hx), List.getElem?_set_ne (h k (List.mem_cons_self ..))]
theorem run_put (os : List O) (most : Int) : ∀ (P : List Int) (st : St) (told : List R), (∀ x ∈ P, (oAt os x).k = 1) -> (st.1.length : Int) + P.length <= most →
    runO os most P st told = ((insAll st.1 ((P.map (keyV os)).zip (hsOf P.length st.2).1), (hsOf P.length st.2).2), setAll ⟨1, 0⟩ P told)
  | [], st, told, _, _ => rfl
  | k :: P, st, told, hk, hm => by
    have hst : stp most st (oAt os k) = ((insI st.1 (oAt os k).v (hgt 1 st.2).1, (hgt 1 st.2).2), ⟨1, 0⟩) := by
      unfold stp
      rw [if_pos (hk k (List.mem_cons_self ..)), if_neg (by simp at hm; omega)]
    show runO os most P (stp most st (oAt os k)).1 (told.set k.toNat (stp most st (oAt os k)).2) = _
    rw [hst, run_put os most P _ _ (fun x hx => hk x (List.mem_cons_of_mem _ hx)) (by rw [insI_len]; simp at hm ⊢; omega)]
    simp only [List.map_cons, List.length_cons, hsOf, List.zip_cons_cons, insAll, setAll, hOf_hgt]
    rfl
theorem run_full (os : List O) (most : Int) : ∀ (P : List Int) (st : St) (told : List R), (∀ x ∈ P, (oAt os x).k = 1) -> most <= (st.1.length : Int) -> runO os most P st told = (st, setAll ⟨3, 0⟩ P told)
  | [], st, told, _, _ => rfl
  | k :: P, st, told, hk, hm => by
    have hst : stp most st (oAt os k) = (st, ⟨3, 0⟩) := by
      unfold stp
      rw [if_pos (hk k (List.mem_cons_self ..)), if_pos hm]
    show runO os most P (stp most st (oAt os k)).1 (told.set k.toNat (stp most st (oAt os k)).2) = _
    rw [hst]
    exact run_full os most P st _ (fun x hx => hk x (List.mem_cons_of_mem _ hx)) hm
theorem RowI.getP {h : Heap} {b : Nat} {k : IntKind} {e : Nat} {l : List Int} (r : RowI h b k e l) {lo hi i : Nat} {x : Int} (hi' : lo + i < hi) (hx : l[lo + i]? = some x) : idxP 1 i (.row b 1 lo hi) = some (.rptr b 1 (lo + i) 0) /\ cellsP h (.rptr b 1 (lo + i) 0) = some ([.int k x], 1, 0) := by
  obtain ⟨z, hz⟩ := r
  refine ⟨idxP_row (by omega), cellsP_rptr hz (by decide) ?_⟩
  rw [List.getElem?_map, hx]
  rfl
theorem RowI.slcP {h : Heap} {b : Nat} {k : IntKind} {e : Nat} {l : List Int} (r : RowI h b k e l) {lo hi : Nat} (h1 : lo <= hi) (h2 : hi <= l.length) : slcH h (.row b 1 lo hi) = some (1, ((l.take hi).drop lo).map (intV k)) := by
  obtain ⟨z, hz⟩ := r
  rw [slcH_row hz h1 (by rw [List.length_map]; exact h2), List.map_drop, List.map_take]
theorem app_i32 (l : List Int) (x : Int) (h : l.length + 1 < lim) : app 21 1 (S.own 21 1 (l.map (intV .i32))) [[.int .i32 x]] = some ((l ++ [x]).map (intV .i32)) := by
  simp only [app]
  rw [if_pos (by refine ⟨?_, ?_, by simpa using h⟩ <;> first | trivial | rfl)]
  simp [intV]
theorem lsl_i32 (l : List Int) : lsl (V.sl 1 (l.map (intV .i32)) false) = l.map (intV .i32) := rfl
theorem lsl_iL (l : List Int) : lsl (V.sl 1 (iL l) false) = iL l := rfl
theorem draw_loop (n : Nat) {s c : Nat} {cb : Option Nat} {most : Int} {ts : List Tw} (os : List O) (lb : Bool) (P0 : List Int) (hP : ∀ x ∈ P0, 0 <= x /\ x < (os.length : Int)) (hnd : P0.Nodup) (p1 p2 : Nat) (Q0 : List Int) (v5 v6 v18 : V) (r : Nat) (hr : r <= P0.length) (hlim : P0.length < lim) (hn : 8 <= n) : ∀ (d i M : Nat) (h : Heap) (bits : List Bool) (told : List R) (vs hs : List Int) (v0 v4 : V), i + d = r -> d < M →
    Env h s ts most c cb bits p1 P0 p2 Q0 -> told.length = os.length -> vs.length = i -> hs.length = i -> (∀ x ∈ P0.drop i, told[x.toNat]? = some ⟨0, 0⟩) →
    ∃ h' v0' v4' M', loopx M (srtApply_l23 (n + 3) s c (os.map O.w) lb v5 v6 v18 (.row p1 1 0 r) (1, iL (P0.take r))) [v0, .sl 2 (told.map R.w) false, .sl 1 (vs.map (intV .i32)) false, .sl 1 (iL hs) false, v4, .int .i64 (i : Int)] h =
      srtApply_l23 (n + 3) s c (os.map O.w) lb v5 v6 v18 (.row p1 1 0 r) (1, iL (P0.take r)) [v0', .sl 2 ((setAll ⟨1, 0⟩ ((P0.take r).drop i) told).map R.w) false, .sl 1 ((vs ++ ((P0.take r).drop i).map (keyV os)).map (intV .i32)) false, .sl 1 (iL (hs ++ (hsOf d bits).1)) false, v4', .int .i64 (r : Int)] h' (loopx M' (srtApply_l23 (n + 3) s c (os.map O.w) lb v5 v6 v18 (.row p1 1 0 r) (1, iL (P0.take r)))) ∧
      Env h' s ts most c cb (hsOf d bits).2 p1 P0 p2 Q0 /\ h'.length = h.length /\ ∀ i, i ≠ c -> h'[i]? = h[i]? := by
  intro d
  induction d with
  | zero =>
    intro i M h bits told vs hs v0 v4 h1 h2 E hlt hvl hhl h0
    obtain ⟨M, rfl⟩ : ∃ M', M = M' + 1 := ⟨M - 1, by omega⟩
    obtain rfl : i = r := by omega
    have hd : (P0.take i).drop i = [] := List.drop_of_length_le (by rw [List.length_take]; omega)
    refine ⟨h, v0, v4, M, ?_, E, rfl, fun _ _ => rfl⟩
    rw [hd]
    simp only [setAll, List.map_nil, List.append_nil, hsOf]
    exact loopx_succ ..
  | succ d ih =>
    intro i M h bits told vs hs v0 v4 h1 h2 E hlt hvl hhl h0
    obtain ⟨M, rfl⟩ : ∃ M', M = M' + 1 := ⟨M - 1, by omega⟩
    have hiP : i < P0.length := by omega
    obtain ⟨x, hx⟩ : ∃ x, P0[i]? = some x := ⟨_, List.getElem?_eq_getElem hiP⟩
    have hdr : P0.drop i = x :: P0.drop (i + 1) := by
      rw [List.drop_eq_getElem_cons hiP]
      rw [List.getElem?_eq_getElem hiP] at hx
      rw [Option.some.inj hx]
    have hdt : (P0.take r).drop i = x :: (P0.take r).drop (i + 1) := by
      have hil : i < (P0.take r).length := by rw [List.length_take]; omega
      rw [List.drop_eq_getElem_cons hil]
      rw [List.getElem?_eq_getElem hiP] at hx
      rw [<- Option.some.inj hx, List.getElem_take]
    obtain ⟨x0, x1⟩ := hP x (List.mem_of_getElem? hx)
    obtain ⟨k, rfl⟩ : ∃ k : Nat, x = (k : Int) := ⟨x.toNat, (Int.toNat_of_nonneg x0).symm⟩
    have hk : k < os.length := by omega
    obtain ⟨o, ho⟩ : ∃ o, os[k]? = some o := ⟨_, List.getElem?_eq_getElem hk⟩
    have hov : (os.map O.w)[k]? = some (O.w o) := by rw [get_os, ho]; rfl
    have hoo := oAt_some ho
    have hkv : keyV os (k : Int) = o.v := by unfold keyV; rw [hoo]
    have ht0 : told[k]? = some ⟨0, 0⟩ := by
      have := h0 (k : Int) (by rw [hdr]; exact List.mem_cons_self ..)
      simpa using this
    have htk : k < told.length := by omega
    have htv : (told.map R.w)[k]? = some (R.w ⟨0, 0⟩) := by rw [get_rs, ht0]; rfl
    have hl1 : decide ((i : Int) < ((P0.take r).length : Int)) = true := by rw [List.length_take]; simp; omega
    obtain ⟨g1, g2⟩ := E.r1.getP (lo := 0) (hi := r) (i := i) (by omega) (by rw [Nat.zero_add]; exact hx)
    rw [Nat.zero_add] at g1 g2
    have hnd2 : (P0.drop i).Nodup := hnd.sublist (List.drop_sublist _ _)
    rw [hdr] at hnd2
    obtain ⟨h2', e2, B2, l2, f2⟩ := height_call n E.bt hn
    have E2 := E.coin B2 f2
    have hset1 : (told.map R.w).set k (setR (R.w ⟨0, 0⟩) 0 [.int .u8 1]) = (told.set k ⟨1, 0⟩).map R.w := by rw [rw_set, List.map_set]
    have key : ∀ next, srtApply_l23 (n + 3) s c (os.map O.w) lb v5 v6 v18 (.row p1 1 0 r) (1, iL (P0.take r)) [v0, .sl 2 (told.map R.w) false, .sl 1 (vs.map (intV .i32)) false, .sl 1 (iL hs) false, v4, .int .i64 (i : Int)] h next = next [.sl 2 (lsl v0) false, .sl 2 ((told.set k ⟨1, 0⟩).map R.w) false, .sl 1 ((vs ++ [o.v]).map (intV .i32)) false, .sl 1 (iL (hs ++ [((hgt 1 bits).1 : Int)])) false, .bool false, .int .i64 ((i + 1 : Nat) : Int)] h2' := by
      intro next
      unfold srtApply_l23
      simp only [gv, List.getD_cons_zero, List.getD_cons_succ, iL_len, bop_i64_lss, bd_some, bv_bool, hl1, if_true, nv_nat, bdS_some, g1, g2, bd3_some, Nat.zero_add, Nat.le_refl, Nat.reduceLT, and_self, List.getElem?_cons_zero, idxP_sl hov, addP_iptr, cellsP_iptr, Nat.reduceAdd, Nat.reduceLeDiff, ow_get1, bsl_i32, lsl_i32, lsl_iL, app_r0]
      rw [app_i32 _ _ (by omega), bd_some, e2, cl_ret, one1_one, bsl_int, bd_some, app_int _ _ (by omega), bd_some]
      rw [if_pos (by exact ⟨trivial, by rw [List.length_map]; exact htk, by decide⟩), htv, bd_some, bop_i64_add, bd_some, hset1, step64 (show i < lim by omega)]
    obtain ⟨h', v0', v4', M', e, b1, b2, b3⟩ := ih (i + 1) M h2' (hgt 1 bits).2 (told.set k ⟨1, 0⟩) (vs ++ [o.v]) (hs ++ [((hgt 1 bits).1 : Int)]) (.sl 2 (lsl v0) false) (.bool false) (by omega) (by omega) E2 (by rw [List.length_set]; exact hlt) (by simp; omega) (by simp; omega) (fun y hy => by
      rw [List.getElem?_set_ne]
      · exact h0 y (by rw [hdr]; exact List.mem_cons_of_mem _ hy)
      · intro e2
        have hy0 := hP y (List.mem_of_mem_drop hy)
        have hyk : y = (k : Int) := by omega
        exact (List.nodup_cons.1 hnd2).1 (hyk ▸ hy))
    refine ⟨h', v0', v4', M', ?_, b1, by rw [b2, l2], fun j hj => by rw [b3 j hj, f2 j hj]⟩
    rw [loopx_succ, key, e, hdt]
    simp only [setAll, Int.toNat_natCast, List.map_cons, hkv, hsOf, List.append_assoc, List.cons_append, List.nil_append]
theorem full_loop (n : Nat) {s c : Nat} {cb : Option Nat} {most : Int} {ts : List Tw} {bits : List Bool} {h : Heap} (os : List O) (lb : Bool) (P0 : List Int) (hP : ∀ x ∈ P0, 0 <= x /\ x < (os.length : Int)) (hnd : P0.Nodup) (p1 p2 : Nat) (Q0 : List Int) (v6 : V) (r : Nat) (hr : r <= P0.length) (hlim : P0.length < lim) (E : Env h s ts most c cb bits p1 P0 p2 Q0) : ∀ (d i M : Nat) (told : List R) (v0 v2 : V), r + i + d = P0.length -> d < M →
    told.length = os.length -> (∀ x ∈ P0.drop (r + i), told[x.toNat]? = some ⟨0, 0⟩) →
    ∃ v0' v2' M', loopx M (srtApply_l61 (n + 3) s (os.map O.w) lb v6 (.row p1 1 r P0.length) (1, iL (P0.drop r))) [v0, .sl 2 (told.map R.w) false, v2, .int .i64 (i : Int)] h =
      srtApply_l61 (n + 3) s (os.map O.w) lb v6 (.row p1 1 r P0.length) (1, iL (P0.drop r)) [v0', .sl 2 ((setAll ⟨3, 0⟩ (P0.drop (r + i)) told).map R.w) false, v2', .int .i64 ((P0.drop r).length : Int)] h (loopx M' (srtApply_l61 (n + 3) s (os.map O.w) lb v6 (.row p1 1 r P0.length) (1, iL (P0.drop r)))) := by
  intro d
  induction d with
  | zero =>
    intro i M told v0 v2 h1 h2 hlt h0
    obtain ⟨M, rfl⟩ : ∃ M', M = M' + 1 := ⟨M - 1, by omega⟩
    have hi : i = (P0.drop r).length := by rw [List.length_drop]; omega
    refine ⟨v0, v2, M, ?_⟩
    rw [List.drop_of_length_le (i := r + i) (by omega), <- hi]
    exact loopx_succ ..
  | succ d ih =>
    intro i M told v0 v2 h1 h2 hlt h0
    obtain ⟨M, rfl⟩ : ∃ M', M = M' + 1 := ⟨M - 1, by omega⟩
    obtain ⟨x, hx⟩ : ∃ x, P0[r + i]? = some x := ⟨_, List.getElem?_eq_getElem (by omega)⟩
    have hdr : P0.drop (r + i) = x :: P0.drop (r + (i + 1)) := by
      rw [List.drop_eq_getElem_cons (show r + i < P0.length by omega)]
      rw [List.getElem?_eq_getElem (by omega)] at hx
      rw [Option.some.inj hx, Nat.add_assoc]
    obtain ⟨x0, x1⟩ := hP x (List.mem_of_getElem? hx)
    obtain ⟨k, rfl⟩ : ∃ k : Nat, x = (k : Int) := ⟨x.toNat, (Int.toNat_of_nonneg x0).symm⟩
    have ht0 : told[k]? = some ⟨0, 0⟩ := by
      have := h0 (k : Int) (by rw [hdr]; exact List.mem_cons_self ..)
      simpa using this
    have htk : k < told.length := by omega
    have htv : (told.map R.w)[k]? = some (R.w ⟨0, 0⟩) := by rw [get_rs, ht0]; rfl
    have hl1 : decide ((i : Int) < ((P0.drop r).length : Int)) = true := by rw [List.length_drop]; simp; omega
    obtain ⟨g1, g2⟩ := E.r1.getP (lo := r) (hi := P0.length) (i := i) (by omega) hx
    have hnd2 : (P0.drop (r + i)).Nodup := hnd.sublist (List.drop_sublist _ _)
    rw [hdr] at hnd2
    have hset1 : (told.map R.w).set k (setR (R.w ⟨0, 0⟩) 0 [.int .u8 3]) = (told.set k ⟨3, 0⟩).map R.w := by rw [rw_set, List.map_set]
    have key : ∀ next, srtApply_l61 (n + 3) s (os.map O.w) lb v6 (.row p1 1 r P0.length) (1, iL (P0.drop r)) [v0, .sl 2 (told.map R.w) false, v2, .int .i64 (i : Int)] h next = next [.sl 2 (lsl v0) false, .sl 2 ((told.set k ⟨3, 0⟩).map R.w) false, .bool false, .int .i64 ((i + 1 : Nat) : Int)] h := by
      intro next
      unfold srtApply_l61
      simp only [gv, List.getD_cons_zero, List.getD_cons_succ, iL_len, bop_i64_lss, bd_some, bv_bool, hl1, if_true, nv_nat, bdS_some, g1, g2, bd3_some, Nat.zero_add, Nat.le_refl, Nat.reduceLT, and_self, List.getElem?_cons_zero, app_r0]
      rw [if_pos (by exact ⟨trivial, by rw [List.length_map]; exact htk, by decide⟩), htv, bd_some, bop_i64_add, bd_some, hset1, step64 (show i < lim by omega)]
    obtain ⟨v0', v2', M', e⟩ := ih (i + 1) M (told.set k ⟨3, 0⟩) (.sl 2 (lsl v0) false) (.bool false) (by omega) (by omega) (by rw [List.length_set]; exact hlt) (fun y hy => by
      rw [List.getElem?_set_ne]
      · exact h0 y (by rw [hdr]; exact List.mem_cons_of_mem _ hy)
      · intro e2
        have hy0 := hP y (List.mem_of_mem_drop hy)
        have hyk : y = (k : Int) := by omega
        exact (List.nodup_cons.1 hnd2).1 (hyk ▸ hy))
    refine ⟨v0', v2', M', ?_⟩
    rw [loopx_succ, key, e, hdr]
    simp only [setAll, Int.toNat_natCast]
theorem mm_min (a b : Int) : mm false [.int .i64 a, .int .i64 b] = some (.int .i64 (if b < a then b else a)) := rfl
theorem sPuts_rise (os : List O) (r : Nat) : (((sPuts os).take r).map (keyV os)).Pairwise (· <= ·) := by
  rw [List.pairwise_map]
  exact ((sPuts_sd os).sublist (List.take_sublist _ _)).imp fun h => h.of
theorem srtApply_call (n : Nat) {h : Heap} {s : Nat} {ts : List Tw} {most : Int} {c : Nat} {cb : Option Nat} {bits : List Bool} (os : List O) (lb : Bool) (S : ∃ N, SkAt h s ts most N) (B : BitsAt h c cb bits) (nc : c ∉ skB s ts) (ncb : ∀ b, cb = some b -> b ∉ skB s ts) (hroom : (ts.length : Int) <= most) (hmost : most <= 1000) (hl : ts.length + 4 * os.length + 100 < lim) (hn : ts.length + 2 * os.length + 50 <= n) :
    ∃ h' ts' bits' tb told', call (n + 4) 18 [.ptr s 0, .ptr c 0, .sl 2 (os.map O.w) lb] h = some (.ret [.row tb 2 0 os.length], h') /\ Did h h' s ts ts' most c cb bits' tb told' /\ doneO os most (itT ts, bits) = ((itT ts', bits'), told') := by
  have hpl := puts_len os os.length
  have hsl := sPuts_len os
  have hpo : (puts os).length <= os.length := by unfold puts; omega
  have E0 := part_env os S B nc ncb
  have hlf : (partH h os).length = h.length + 2 := by simp [partH]
  have hkp := fun x hx => (sPuts_mem os x hx).2.2
  obtain ⟨r, hr⟩ : ∃ r : Nat, (r : Int) = if most - (ts.length : Int) < ((sPuts os).length : Int) then most - (ts.length : Int) else ((sPuts os).length : Int) := ⟨(if most - (ts.length : Int) < ((sPuts os).length : Int) then most - (ts.length : Int) else ((sPuts os).length : Int)).toNat, Int.toNat_of_nonneg (by split <;> omega)⟩
  have hr1 : r <= (sPuts os).length := by split at hr <;> omega
  have hr2 : (ts.length : Int) + r <= most := by split at hr <;> omega
  have hr3 : r = (sPuts os).length \/ most <= (ts.length : Int) + r := by split at hr <;> omega
  have hlt1 : ((sPuts os).take r).length = r := by rw [List.length_take]; omega
  obtain ⟨h1, v0', v4', M', e1, E1, l1, f1⟩ := draw_loop n os lb (sPuts os) (fun x hx => ⟨(sPuts_mem os x hx).1, (sPuts_mem os x hx).2.1⟩) (sPuts_nodup os) h.length (h.length + 1) (others os) (.row h.length 1 0 (sPuts os).length) (.row (h.length + 1) 1 0 (others os).length) (.int .i64 (r : Int)) r hr1 (by omega) (by omega) r 0 (n + 3) (partH h os) bits (List.replicate os.length ⟨0, 0⟩) [] [] (.sl 2 [] false) (.bool false) (by omega) (by omega) E0 (by simp) rfl rfl (fun x hx => by
    have := sPuts_mem os x (List.mem_of_mem_drop hx)
    rw [List.getElem?_replicate, if_pos (by omega)])
  rw [List.drop_zero, List.nil_append, List.nil_append] at e1
  obtain ⟨vs, hvs⟩ : ∃ vs, vs = ((sPuts os).take r).map (keyV os) := ⟨_, rfl⟩
  obtain ⟨hs, hhs⟩ : ∃ hs, hs = (hsOf r bits).1 := ⟨_, rfl⟩
  have hvl : vs.length = r := by rw [hvs, List.length_map, hlt1]
  have hhl : hs.length = r := by rw [hhs, hsOf_len]
  rw [<- hvs, <- hhs] at e1
  have E2 := E1.push [.row 21 1 (vs.map (intV .i32)) true, .row 3 1 (iL hs) true]
  have hrow1 : RowI (h1 ++ [HB.row 21 1 (vs.map (intV .i32)) true, HB.row 3 1 (iL hs) true]) h1.length .i32 21 vs := ⟨true, by rw [List.getElem?_append_right (Nat.le_refl _), Nat.sub_self]; rfl⟩
  have hrow2 : RowI (h1 ++ [HB.row 21 1 (vs.map (intV .i32)) true, HB.row 3 1 (iL hs) true]) (h1.length + 1) .i64 3 hs := ⟨true, by rw [List.getElem?_append_right (by omega), Nat.add_sub_cancel_left]; rfl⟩
  obtain ⟨N1, S1⟩ := E1.sk
  obtain ⟨h2, ts2, tb2, e2, G2, I2⟩ := batch_call n E2.sk h1.length (h1.length + 1) vs hs (by omega) (hvs ▸ sPuts_rise os r) hrow1 hrow2 (fun hm => by have := S1.lt _ hm; omega) (fun hm => by have := S1.lt _ hm; omega) (by rw [hvl]; exact hr2) (by rw [hvl]; omega) (by rw [hvl]; omega)
  have E3 := E2.grew G2
  have told1 := setAll_len ⟨1, 0⟩ ((sPuts os).take r) (List.replicate os.length (⟨0, 0⟩ : R))
  rw [List.length_replicate] at told1
  have hnd := sPuts_nodup os
  have hdis : ∀ x ∈ (sPuts os).drop r, ∀ y ∈ (sPuts os).take r, y.toNat ≠ x.toNat := fun x hx y hy e => by
    have a := sPuts_mem os x (List.mem_of_mem_drop hx)
    have b := sPuts_mem os y (List.mem_of_mem_take hy)
    have hxy : x = y := by omega
    have hnd' : ((sPuts os).take r ++ (sPuts os).drop r).Nodup := by rw [List.take_append_drop]; exact hnd
    exact (List.nodup_append.1 hnd').2.2 y hy x hx hxy.symm
  obtain ⟨v0'', v2'', M'', e3⟩ := full_loop n os lb (sPuts os) (fun x hx => ⟨(sPuts_mem os x hx).1, (sPuts_mem os x hx).2.1⟩) hnd h.length (h.length + 1) (others os) (.row (h.length + 1) 1 0 (others os).length) r hr1 (by omega) E3 ((sPuts os).length - r) 0 (n + 3) (setAll ⟨1, 0⟩ ((sPuts os).take r) (List.replicate os.length ⟨0, 0⟩)) (.sl 2 (lsl v0') false) (.bool false) (by omega) (by omega) told1 (fun x hx => by
    rw [Nat.add_zero] at hx
    rw [setAll_ne _ _ _ _ (hdis x hx)]
    have := sPuts_mem os x (List.mem_of_mem_drop hx)
    rw [List.getElem?_replicate, if_pos (by omega)])
  simp only [Nat.add_zero] at e3
  obtain ⟨told2, htold2⟩ : ∃ told2, told2 = setAll (⟨3, 0⟩ : R) ((sPuts os).drop r) (setAll ⟨1, 0⟩ ((sPuts os).take r) (List.replicate os.length ⟨0, 0⟩)) := ⟨_, rfl⟩
  rw [<- htold2] at e3
  have told2l : told2.length = os.length := by rw [htold2, setAll_len, told1]
  have hlen2 : ts2.length = ts.length + r := by
    have hz : ∀ (q : List (Int × Int)) (l : List (Int × Nat)), (insAll l q).length = l.length + q.length := fun q => by
      induction q with
      | nil => intro l; rfl
      | cons p q ih => intro l; show (insAll (insI l p.1 (hOf p.2)) q).length = _; rw [ih, insI_len, List.length_cons]; omega
    have := congrArg List.length I2
    rw [hz, itT_len, itT_len, List.length_zip, hvl, hhl, Nat.min_self] at this
    exact this
  have hF : Frm h h2 (c :: skB s ts) := by
    have a : Frm h (partH h os) (c :: skB s ts) := Frm.push h _ _
    have b : Frm (partH h os) h1 [c] := ⟨Nat.le_of_eq l1.symm, fun j _ hj => f1 j fun e => hj (e ▸ List.mem_cons_self ..)⟩
    have c' : Frm h1 (h1 ++ [HB.row 21 1 (vs.map (intV .i32)) true, HB.row 3 1 (iL hs) true]) [] := Frm.push h1 _ _
    exact (((a.trans b fun y hy => .inl (by rw [List.mem_singleton] at hy; exact hy ▸ List.mem_cons_self ..)).trans c' fun y hy => by cases hy).trans G2.frm fun y hy => .inl (List.mem_cons_of_mem _ hy))
  have hN : ∀ b ∈ skB s ts2, b ∈ skB s ts \/ h.length <= b := fun b hb => (G2.new b hb).imp id fun hh => by rw [List.length_append, l1, hlf] at hh; omega
  have h0 : ∀ x ∈ others os, told2[x.toNat]? = some ⟨0, 0⟩ := fun x hx => by
    have hm := restTo_mem os _ x hx
    have hne : ∀ y ∈ sPuts os, y.toNat ≠ x.toNat := fun y hy e => puts_others os x hx y hy (by have := sPuts_mem os y hy; omega)
    rw [htold2, setAll_ne _ _ _ _ fun y hy => hne y (List.mem_of_mem_drop hy), setAll_ne _ _ _ _ fun y hy => hne y (List.mem_of_mem_take hy), List.getElem?_replicate, if_pos (by omega)]
  obtain ⟨h', ts', told', e4, D, rr⟩ := end_rest (ts := ts) n os lb told2 E3 (by omega) told2l h0 (by omega) (by omega) (by omega) hF hN (by omega)
  refine ⟨h', ts', (hsOf r bits).2, h2.length, told', ?_, D, ?_⟩
  · refine (srtApply_eq (n + 3) s c (os.map O.w) lb h).trans ?_
    unfold srtApply
    have fN : nv (V.int .i64 (os.length : Int)) = some os.length := nv_nat _ _
    have fr : nv (V.int .i64 (r : Int)) = some r := nv_nat _ _
    have hpc : call (n + 3) 34 [.sl 2 (os.map O.w) lb] h = some (.ret [.row h.length 1 0 (puts os).length, .row (h.length + 1) 1 0 (others os).length], partH h os) := parted_call (n + 1) h os lb (by omega) (by omega)
    obtain ⟨N0, S0⟩ := E0.sk
    have hm1 := most_call (n + 2) S0
    have hl1 := len_call (n + 2) S0
    have hsub : IntKind.i64.wrap (most - (ts.length : Int)) = most - (ts.length : Int) := by rw [w64] <;> omega
    have hs1 : sliceP 1 0 r none true (.row h.length 1 0 (sPuts os).length) = some (.row h.length 1 0 r) := by simpa using sliceP_row (r := h.length) (sz := 1) (u := 0) (v := (sPuts os).length) (Nat.zero_le r) (by omega) true
    have hs2 : sliceP 1 r (sPuts os).length none true (.row h.length 1 0 (sPuts os).length) = some (.row h.length 1 r (sPuts os).length) := by simpa using sliceP_row (r := h.length) (sz := 1) (u := 0) (v := (sPuts os).length) hr1 (by omega) true
    have hc1 : slcH (partH h os) (.row h.length 1 0 r) = some (1, iL ((sPuts os).take r)) := by have := E0.r1.slcP (lo := 0) (hi := r) (Nat.zero_le _) hr1; rwa [List.drop_zero] at this
    have hc2 : slcH h2 (.row h.length 1 r (sPuts os).length) = some (1, iL ((sPuts os).drop r)) := by have := E3.r1.slcP (lo := r) (hi := (sPuts os).length) hr1 (Nat.le_refl _); rwa [List.take_length] at this
    simp only [List.length_map]
    rw [fN, bdS_some, bdS_some, if_pos (by first | exact ⟨rfl, by omega, rfl⟩ | exact ⟨trivial, by omega, trivial⟩ | exact ⟨rfl, by omega, trivial⟩), hpc, cl_ret]
    simp only [List.getElem?_cons_zero, List.getElem?_cons_succ, bd_some]
    rw [<- hsl, E0.r1.slc, bd_some, hm1, cl_ret, one1_one, hl1, cl_ret, one1_one, bop_i64_sub, bd_some, hsub]
    simp only [List.length_map, valB, evBsL, bd_some]
    rw [mm_min, bd_some, <- hr, lenP_row, bd_some, fr, bdS_some, hs1, bd_some, hc1, bd_some, rs_rep]
    refine e1.trans ?_
    unfold srtApply_l23
    simp only [gv, List.getD_cons_zero, List.getD_cons_succ, iL_len, hlt1, bop_i64_lss, bd_some, bv_bool]
    rw [if_neg (by simp), lsl_i32, lsl_iL, iL_len, List.length_map, List.append_assoc]
    rw [show (h1 ++ [HB.row 21 1 (vs.map (intV .i32)) true]).length = h1.length + 1 by simp]
    rw [show ([HB.row 21 1 (vs.map (intV .i32)) true] ++ [HB.row 3 1 (iL hs) true]) = [HB.row 21 1 (vs.map (intV .i32)) true, HB.row 3 1 (iL hs) true] from rfl, e2, cl_ret, one1_one, lenP_row, bd_some, fr, bdS_some, Nat.sub_zero, hs2, bd_some, hc2, bd_some]
    rw [show lsl (V.sl 2 ((setAll (⟨1, 0⟩ : R) ((sPuts os).take r) (List.replicate os.length ⟨0, 0⟩)).map R.w) false) = (setAll (⟨1, 0⟩ : R) ((sPuts os).take r) (List.replicate os.length ⟨0, 0⟩)).map R.w from rfl]
    refine e3.trans ?_
    unfold srtApply_l61
    simp only [gv, List.getD_cons_zero, List.getD_cons_succ, iL_len, bop_i64_lss, bd_some, bv_bool]
    rw [if_neg (by simp), app_r0, List.length_map, told2l, e4, cl_ret, one1_one]
  · unfold doneO
    have hp := run_put os most ((sPuts os).take r) (itT ts, bits) (List.replicate os.length ⟨0, 0⟩) (fun x hx => hkp x (List.mem_of_mem_take hx)) (by simp only [itT_len, hlt1]; exact hr2)
    simp only [hlt1, <- hvs, <- hhs, <- I2] at hp
    have hsplit : sPuts os ++ others os = (sPuts os).take r ++ ((sPuts os).drop r ++ others os) := by rw [<- List.append_assoc, List.take_append_drop]
    rw [hsplit, runO_append, hp, runO_append]
    have hfull : runO os most ((sPuts os).drop r) (itT ts2, (hsOf r bits).2) (setAll ⟨1, 0⟩ ((sPuts os).take r) (List.replicate os.length ⟨0, 0⟩)) = ((itT ts2, (hsOf r bits).2), told2) := by
      rcases hr3 with h3 | h3
      · rw [htold2, h3, List.drop_length]; rfl
      · rw [run_full os most _ _ _ (fun x hx => hkp x (List.mem_of_mem_drop hx)) (by simp only [itT_len, hlen2]; omega), htold2]
    rw [hfull]
    exact rr
end Go.Proofs.Try
set_option linter.unusedVariables false
set_option linter.unusedSimpArgs false
namespace Go.Proofs.Try
open Go.L Go.Rp Go.Sk
set_option maxRecDepth 100000
end Go.Proofs.Try
set_option linter.unusedVariables false
namespace Go.Proofs.Try
open Go.L
set_option maxRecDepth 100000
noncomputable def lOps_l0 (n : Nat) (c : V) (kinds : Int) (st1 : List V) (hh2 : Heap) (next3 : List V -> Heap -> Option (Res × Heap)) : Option (Res × Heap) :=
 (bd (slcH hh2 c) fun p4 =>
 (bd (bop prog .lss 3 (gv st1 2) (V.int .i64 ((p4.2).length : Int))) fun v5 =>
 (bv v5 fun b6 => if b6 then
 (bd (bop prog .lss 3 (gv st1 2) (V.int .i64 80)) fun v7 =>
 (bv v7 fun b8 => if b8 then
 (bdS (nv (gv st1 2)) fun n9 =>
 (bd (idxP 1 n9 c) fun p10 =>
 (bd3 (cellsP hh2 p10) fun cs12 m11 o13 => if (o13 + 1 <= m11 /\ 0 < 1) then
 (bd (cs12)[o13]? fun v14 =>
 (bd (bop prog .rem 5 v14 (V.int .u8 kinds)) fun v15 =>
 (bd (bop prog .add 5 (V.int .u8 1) v15) fun v16 =>
 (bdS (nv (gv st1 2)) fun n17 =>
 (bd (idxP 1 n17 c) fun p18 =>
 (bd3 (cellsP hh2 p18) fun cs20 m19 o21 => if (o21 + 1 <= m19 /\ 0 < 1) then
 (bd (cs20)[o21]? fun v22 =>
 (bd (bop prog .quo 5 v22 (V.int .u8 8)) fun v23 =>
 (bd (cvt prog 5 21 v23) fun v24 =>
 (bd (bop prog .sub 21 v24 (V.int .i32 9)) fun v25 =>
 (bd (bldV prog 38 [(0, v16), (1, v25)]) fun cs26 =>
 (bd (bslV prog 24 1 [(0, (V.agg cs26))]) fun p27 =>
 (bd (app 38 2 (S.own 38 2 (lsl (gv st1 1))) p27.2) fun l28 =>
 (bd (bop prog .add 3 (gv st1 2) (V.int .i64 1)) fun v29 =>
 (next3 [(V.sl 2 (lsl (gv st1 0)) false), (V.sl 2 l28 false), v29] hh2))))))))) else none)))))) else none)))
 else
 some (Res.ret [(V.sl 2 (lsl (gv st1 1)) false)], hh2)))
 else
 some (Res.ret [(V.sl 2 (lsl (gv st1 1)) false)], hh2))))
noncomputable def lOps (n : Nat) (c : V) (kinds : Int) (h : Heap) : Option (Res × Heap) :=
 (loopx n (lOps_l0 n c kinds) [(V.sl 2 [] false), (V.sl 2 [] false), (V.int .i64 0)] h)
theorem lOps_eq (n : Nat) (c : V) (kinds : Int) (h : Heap) : call (n + 1) 14 [c, (V.int .u8 kinds)] h = lOps n c kinds h := by kernel_rfl
end Go.Proofs.Try
set_option linter.unusedVariables false
set_option linter.unusedSimpArgs false
namespace Go.Proofs.Try
open Go.L Go.Rp
set_option maxRecDepth 100000
theorem bop_u8_rem {a b : Int} (h : b ≠ 0) : bop prog .rem 5 (.int .u8 a) (.int .u8 b) = some (.int .u8 (a.tmod b)) := by
  have : bop prog .rem 5 (.int .u8 a) (.int .u8 b) = if b = 0 then none else some (.int .u8 (a.tmod b)) := by kernel_rfl
  rw [this, if_neg h]
theorem bop_u8_quo8 (a : Int) : bop prog .quo 5 (.int .u8 a) (.int .u8 8) = some (.int .u8 (IntKind.u8.wrap (a.tdiv 8))) := by kernel_rfl
theorem cvt_i32 (a : Int) : cvt prog 5 21 (.int .u8 a) = some (.int .i32 (IntKind.i32.wrap a)) := by kernel_rfl
theorem bld_o (k v : Int) : bldV prog 38 [(0, .int .u8 k), (1, .int .i32 v)] = some (O.w ⟨k, v⟩) := by kernel_rfl
theorem w32 {n : Int} (h1 : -2147483648 <= n) (h2 : n < 2147483648) : IntKind.i32.wrap n = n := by rw [IntKind.wrap_i32]; omega
theorem ops_loop (c : List Int) (z : Nat) (b : Bool) (kinds : Int) (H : Heap) (N : Nat) (hz : z = 1 \/ c = []) (hc : small c = true) (hk1 : 1 <= kinds) (hk2 : kinds <= 100) : ∀ (d k M : Nat), k + d = min c.length 80 -> d < M →
    loopx M (lOps_l0 N (.sl z (c.map (intV .u8)) b) kinds) [.sl 2 [] false, .sl 2 (((c.take k).map (opOf kinds)).map O.w) false, .int .i64 (k : Int)] H = some (.ret [.sl 2 ((ops c kinds).map O.w) false], H)
  | d, k, 0, _, h => by omega
  | 0, k, M + 1, hk, _ => by
    have he : (c.take k).map (opOf kinds) = ops c kinds := by
      unfold ops
      rcases Nat.lt_or_ge 80 c.length with h | h
      · rw [show k = 80 by omega]
      · rw [List.take_of_length_le (by omega), List.take_of_length_le (by omega)]
    rw [loopx_succ, he]
    by_cases hl : (k : Int) < (c.length : Int)
    · have h80 : ¬ (k : Int) < 80 := by omega
      simp only [lOps_l0, gv, List.getD_cons_succ, List.getD_cons_zero, slcH_sl, bd_some, List.length_map, bop_i64_lss, bv_bool, hl, decide_true, if_true, h80, decide_false, Bool.false_eq_true, if_false, lsl]
    · simp only [lOps_l0, gv, List.getD_cons_succ, List.getD_cons_zero, slcH_sl, bd_some, List.length_map, bop_i64_lss, bv_bool, hl, decide_false, Bool.false_eq_true, if_false, lsl]
  | d + 1, k, M + 1, hk, hM => by
    have hl : (k : Int) < (c.length : Int) := by omega
    have h80 : (k : Int) < 80 := by omega
    obtain ⟨x, hx⟩ : ∃ x, c[k]? = some x := ⟨_, List.getElem?_eq_getElem (by omega)⟩
    obtain rfl : z = 1 := hz.resolve_right (by rintro rfl; simp at hx)
    have hxv : (c.map (intV .u8))[k]? = some [.int .u8 x] := by rw [get_ints, hx]; rfl
    have hxs := small_len hc x (List.mem_of_getElem? hx)
    have hk0 : kinds ≠ 0 := by omega
    have e1 : Int.tmod x kinds = x % kinds := Int.tmod_eq_emod_of_nonneg hxs.1
    have h1 := Int.emod_nonneg x hk0
    have h2 := Int.emod_lt_of_pos x (show 0 < kinds by omega)
    have e2 : Int.tdiv x 8 = x / 8 := Int.tdiv_eq_ediv_of_nonneg hxs.1
    have w1 : IntKind.u8.wrap (1 + x % kinds) = 1 + x % kinds := w8 (by omega) (by omega)
    have w2 : IntKind.u8.wrap (x / 8) = x / 8 := w8 (by omega) (by omega)
    have w3 : IntKind.i32.wrap (x / 8) = x / 8 := w32 (by omega) (by omega)
    have w4 : IntKind.i32.wrap (x / 8 - 9) = x / 8 - 9 := w32 (by omega) (by omega)
    have hop : (⟨1 + x % kinds, x / 8 - 9⟩ : O) = opOf kinds x := rfl
    have happ := app_os 38 ((c.take k).map (opOf kinds)) (opOf kinds x) (by rw [List.length_map, List.length_take]; unfold lim; omega)
    have htk : (c.take k).map (opOf kinds) ++ [opOf kinds x] = (c.take (k + 1)).map (opOf kinds) := by
      rw [List.take_add_one, hx, List.map_append]; rfl
    rw [htk] at happ
    rw [loopx_succ]
    simp only [lOps_l0, gv, List.getD_cons_succ, List.getD_cons_zero, slcH_sl, idxP_sl hxv, cellsP_iptr, bd3_some, Nat.zero_add, Nat.le_refl, Nat.reduceLT, and_self, bd_some, List.length_map, bop_i64_lss, bv_bool, hl, h80, decide_true, if_true, nv_nat, bdS_some, get_ints, hx, Option.map_some, intV, List.getElem?_cons_zero, bop_u8_rem hk0, e1, bop_u8_add, w1, bop_u8_quo8, e2, w2, cvt_i32, w3, bop_i32_sub, w4, bld_o, hop, bsl_o, lsl, happ, bop_i64_add, step64 (show k < lim by unfold lim; omega)]
    exact ops_loop c 1 b kinds H N (.inl rfl) hc hk1 hk2 d (k + 1) M (by omega) (by omega)
theorem ops_call (n : Nat) (c : List Int) (z : Nat) (b : Bool) (kinds : Int) (H : Heap) (hz : z = 1 \/ c = []) (hc : small c = true) (hk1 : 1 <= kinds) (hk2 : kinds <= 100) (hn : 90 <= n) :
    call n 14 [.sl z (c.map (intV .u8)) b, .int .u8 kinds] H = some (.ret [.sl 2 ((ops c kinds).map O.w) false], H) := by
  obtain ⟨N, rfl⟩ : ∃ N, n = N + 1 := ⟨n - 1, by omega⟩
  rw [lOps_eq]
  unfold lOps
  exact ops_loop c z b kinds H N hz hc hk1 hk2 (min c.length 80) 0 N (by omega) (by omega)
theorem ops_len (c : List Int) (kinds : Int) : (ops c kinds).length <= 80 := by unfold ops; simp; omega
end Go.Proofs.Try
set_option linter.unusedVariables false
set_option linter.unusedSimpArgs false
namespace Go.Proofs.Try
open Go.L Go.Rp Go.Sk
set_option maxRecDepth 100000
theorem RowR.get {h : Heap} {b : Nat} {l : List R} (r : RowR h b l) {i : Nat} {x : R} (hx : l[i]? = some x) (o : Nat) : idxP 2 i (.row b 2 0 l.length) = some (.rptr b 2 i 0) /\ cellsP h (.rptr b 2 i o) = some (R.w x, 2, o) := by
  obtain ⟨z, hz⟩ := r
  have hi := (List.getElem?_eq_some_iff.1 hx).1
  exact ⟨idx_told hi, cellsP_rptr hz (by decide) (by rw [get_rs, hx]; rfl)⟩
theorem RowR.slc {h : Heap} {b : Nat} {l : List R} (r : RowR h b l) : slcH h (.row b 2 0 l.length) = some (2, l.map R.w) := by
  obtain ⟨z, hz⟩ := r
  have := slcH_all hz
  rwa [List.length_map] at this
def LastOk (told : List R) (k : Nat) (last : Int) : Prop := last = -2147483648 \/ ∃ (j : Nat) (a : R), j < k /\ told[j]? = some a /\ a.c = 2 /\ a.v = last
theorem LastOk.up {told : List R} {k : Nat} {last : Int} (h : LastOk told k last) : LastOk told (k + 1) last := by
  rcases h with h | ⟨j, a, h1, h2⟩
  · exact .inl h
  · exact .inr ⟨j, a, by omega, h2⟩
theorem ops_v {c : List Int} {kinds : Int} (hc : small c = true) : ∀ o ∈ ops c kinds, -2147483648 <= o.v /\ o.v < 2147483648 := by
  intro o ho
  unfold ops at ho
  obtain ⟨x, hx, rfl⟩ := List.mem_map.1 ho
  unfold small at hc
  have := List.all_eq_true.1 hc x (List.mem_of_mem_take hx)
  simp at this
  unfold Go.Rp.opOf
  simp only
  omega
theorem SlI.slc {h : Heap} {lo : Nat} {r : V} {l : List Int} (s : SlI h lo r l) : ∃ sz, slcH h r = some (sz, l.map (intV .i32)) := by
  rcases s with ⟨rfl, rfl⟩ | ⟨b, z, _, rfl, hz⟩
  · exact ⟨0, rfl⟩
  · have := slcH_all hz
    rw [List.length_map] at this
    exact ⟨1, this⟩
theorem SlI.get0 {h : Heap} {lo : Nat} {r : V} {x : Int} {l : List Int} (s : SlI h lo r (x :: l)) : ∃ p, idxP 1 0 r = some p /\ cellsP h p = some ([.int .i32 x], 1, 0) := by
  rcases s with ⟨_, e⟩ | ⟨b, z, _, rfl, hz⟩
  · cases e
  · exact ⟨_, by simpa using idxP_row (b := b) (sz := 1) (lo := 0) (hi := (x :: l).length) (n := 0) (by simp), cellsP_rptr hz (by decide) rfl⟩
end Go.Proofs.Try
set_option linter.unusedVariables false
set_option linter.unusedSimpArgs false
namespace Go.Proofs.Try
open Go.L Go.Rp Go.Sk
set_option maxRecDepth 100000
def Sees (h : Heap) (r : V) (l : List Int) : Prop := (∃ sz, slcH h r = some (sz, l.map (intV .i32))) /\ ∀ (i : Nat) (x : Int), l[i]? = some x -> ∃ p, idxP 1 i r = some p /\ cellsP h p = some ([.int .i32 x], 1, 0)
theorem RowI.sees {h : Heap} {b : Nat} {L : List Int} (r : RowI h b .i32 21 L) {lo hi : Nat} (h1 : lo <= hi) (h2 : hi <= L.length) : Sees h (.row b 1 lo hi) ((L.take hi).drop lo) := by
  refine ⟨⟨1, r.slcP h1 h2⟩, fun i x hx => ?_⟩
  rw [List.getElem?_drop] at hx
  have hi' : lo + i < hi := by
    have := (List.getElem?_eq_some_iff.1 hx).1
    rw [List.length_take] at this
    omega
  rw [List.getElem?_take_of_lt hi'] at hx
  obtain ⟨a, c⟩ := r.getP hi' hx
  exact ⟨_, a, c⟩
theorem sees_nil (h : Heap) : Sees h (.sl 0 [] true) [] := ⟨⟨0, rfl⟩, fun i x hx => by simp at hx⟩
theorem SlI.sees {h : Heap} {lo : Nat} {r : V} {l : List Int} (s : SlI h lo r l) : Sees h r l := by
  rcases s with ⟨rfl, rfl⟩ | ⟨b, z, _, rfl, hz⟩
  · exact sees_nil h
  · have := RowI.sees (L := l) ⟨z, hz⟩ (Nat.zero_le l.length) (Nat.le_refl _)
    rwa [List.take_length, List.drop_zero] at this
theorem SlI.keep {h h' : Heap} {lo : Nat} {r : V} {l : List Int} (s : SlI h lo r l) (hk : ∀ (b : Nat) (l : List (List V)) (z : Bool), h[b]? = some (HB.row 21 1 l z) -> h'[b]? = some (HB.row 21 1 l z)) : SlI h' lo r l := by
  rcases s with e | ⟨b, z, h1, h2, hz⟩
  · exact .inl e
  · exact .inr ⟨b, z, h1, h2, hk _ _ _ hz⟩
theorem SlI.tail {h : Heap} {lo : Nat} {r : V} {x : Int} {l : List Int} (s : SlI h lo r (x :: l)) : ∃ r', lenP r = some (l.length + 1) /\ sliceP 1 1 (l.length + 1) none true r = some r' /\ Sees h r' l := by
  rcases s with ⟨_, e⟩ | ⟨b, z, _, rfl, hz⟩
  · cases e
  · refine ⟨.row b 1 1 (l.length + 1), rfl, ?_, ?_⟩
    · simpa using sliceP_row (r := b) (sz := 1) (u := 0) (v := l.length + 1) (show 1 <= l.length + 1 by omega) (by omega) true
    · have := RowI.sees (L := x :: l) (lo := 1) (hi := l.length + 1) ⟨z, hz⟩ (by omega) (Nat.le_refl _)
      rwa [show l.length + 1 = (x :: l).length from rfl, List.take_length] at this
theorem rSame_loop (n : Nat) {h : Heap} {a b : V} {l : List Int} (ha : Sees h a l) (hb : Sees h b l) (hl : l.length < lim) : ∀ (d i M : Nat) (v0 : V), i + d = l.length -> d < M -> loopx M (rSame_l2 n a b) [v0, .int .i64 (i : Int)] h = some (.ret [.bool true], h) := by
  obtain ⟨⟨sa, hsa⟩, ga⟩ := ha
  intro d
  induction d with
  | zero =>
    intro i M v0 h1 h2
    obtain ⟨M, rfl⟩ : ∃ M', M = M' + 1 := ⟨M - 1, by omega⟩
    obtain rfl : i = l.length := by omega
    rw [loopx_succ]
    unfold rSame_l2
    rw [hsa, bd_some]
    simp only [gv, List.getD_cons_zero, List.getD_cons_succ, List.length_map, bop_i64_lss, bd_some, bv_bool]
    rw [if_neg (by simp)]
  | succ d ih =>
    intro i M v0 h1 h2
    obtain ⟨M, rfl⟩ : ∃ M', M = M' + 1 := ⟨M - 1, by omega⟩
    obtain ⟨x, hx⟩ : ∃ x, l[i]? = some x := ⟨_, List.getElem?_eq_getElem (by omega)⟩
    obtain ⟨p, p1, p2⟩ := ga i x hx
    obtain ⟨q, q1, q2⟩ := hb.2 i x hx
    have hlt : decide ((i : Int) < (l.length : Int)) = true := by simp; omega
    have key : ∀ next, rSame_l2 n a b [v0, .int .i64 (i : Int)] h next = next [v0, .int .i64 ((i + 1 : Nat) : Int)] h := by
      intro next
      unfold rSame_l2
      rw [hsa, bd_some]
      simp only [gv, List.getD_cons_zero, List.getD_cons_succ, List.length_map, bop_i64_lss, bd_some, bv_bool, hlt, if_true, nv_nat, bdS_some, p1, p2, q1, q2, bd3_some, Nat.zero_add, Nat.le_refl, Nat.reduceLT, and_self, List.getElem?_cons_zero, bop_i32_neq, bop_i64_add, step64 (show i < lim by omega)]
      rw [if_neg (by simp)]
    rw [loopx_succ, key]
    exact ih (i + 1) M v0 (by omega) (by omega)
theorem rSame_call (n : Nat) {h : Heap} {a b : V} {l : List Int} (ha : Sees h a l) (hb : Sees h b l) (hl : l.length < lim) (hn : l.length < n) : call (n + 1) 23 [a, b] h = some (.ret [.bool true], h) := by
  refine (rSame_eq n a b h).trans ?_
  unfold rSame
  obtain ⟨sa, hsa⟩ := ha.1
  obtain ⟨sb, hsb⟩ := hb.1
  rw [hsa, bd_some, hsb, bd_some, if_neg (by simp)]
  exact rSame_loop n ha hb hl l.length 0 n (.bool false) (by omega) hn
theorem SkAt.box {h : Heap} {s : Nat} {ts : List Tw} {most : Int} {N : Nx} (S : SkAt h s ts most N) : ∀ b ∈ skB s ts, ∃ n cs, h[b]? = some (.box n cs) := fun b hb => by
  unfold skB at hb
  rw [<- nds_bs s (ts.length : Int) most] at hb
  obtain ⟨x, hx, rfl⟩ := List.mem_map.1 hb
  exact ⟨_, _, S.rep.at_ x hx⟩
theorem BitsAt.box {h : Heap} {c : Nat} {cb : Option Nat} {bits : List Bool} (hb : BitsAt h c cb bits) : ∃ cs, h[c]? = some (.box 1 cs) := by
  cases cb with
  | none => exact ⟨_, hb.2⟩
  | some b => obtain ⟨_, lo, l, z, h2, _⟩ := hb; exact ⟨_, h2⟩
theorem all_mem (os : List O) : ∀ (n k : Nat), k < n -> (k : Int) ∈ putsTo os n \/ (k : Int) ∈ restTo os n
  | 0, k, h => by omega
  | n + 1, k, h => by
    simp only [putsTo, restTo]
    by_cases e : k = n
    · subst e
      by_cases h1 : (oAt os (k : Int)).k = 1
      · rw [if_pos h1]; exact .inl (List.mem_append_right _ (List.mem_singleton.2 rfl))
      · rw [if_neg h1, if_neg h1]; exact .inr (List.mem_append_right _ (List.mem_singleton.2 rfl))
    · rcases all_mem os n k (by omega) with h | h
      · left; split
        · exact List.mem_append_left _ h
        · exact h
      · right; split
        · exact h
        · exact List.mem_append_left _ h
theorem order_all (os : List O) (k : Nat) (hk : k < os.length) : (k : Int) ∈ sPuts os ++ others os := by
  rcases all_mem os os.length k hk with h | h
  · exact List.mem_append_left _ ((sPuts_perm os).mem_iff.2 h)
  · exact List.mem_append_right _ h
theorem order_mem (os : List O) : ∀ x ∈ sPuts os ++ others os, 0 <= x /\ x < (os.length : Int) := fun x hx => by
  rcases List.mem_append.1 hx with h | h
  · exact ⟨(sPuts_mem os x h).1, (sPuts_mem os x h).2.1⟩
  · have := restTo_mem os _ x h; exact ⟨this.1, this.2.1⟩
end Go.Proofs.Try
set_option linter.unusedVariables false
set_option linter.unusedSimpArgs false
namespace Go.Proofs.Try
open Go.L Go.Rp Go.Sk
set_option maxRecDepth 100000
def lessO (a b : O) : Bool := if a.k = 1 /\ b.k = 1 then decide (a.v <= b.v) else decide (a.k = 1 \/ b.k ≠ 1)
def keyO (os : List O) (x : Int) : Int := if (oAt os x).k = 1 then (oAt os x).v else 2147483648
def Small (os : List O) : Prop := ∀ x ∈ os, -2147483648 <= x.v /\ x.v < 2147483648
theorem rless_call (n : Nat) (a b : O) (h : Heap) : call (n + 1) 69 [.agg [.int .u8 a.k, .int .i32 a.v], .agg [.int .u8 b.k, .int .i32 b.v]] h = some (.ret [.bool (lessO a b)], h) := by
  rw [rLess_eq]
  unfold rLess lessO
  by_cases h1 : a.k = 1 <;> by_cases h2 : b.k = 1 <;> simp [h1, h2]
theorem less_key {os : List O} {i j : Nat} {x y : O} (hs : Small os) (hx : os[i]? = some x) (hy : os[j]? = some y) : (!lessO y x) = decide (keyO os (i : Int) < keyO os (j : Int)) := by
  have hxs := hs x (List.mem_of_getElem? hx)
  have hys := hs y (List.mem_of_getElem? hy)
  unfold keyO lessO
  rw [oAt_some hx, oAt_some hy]
  by_cases h1 : x.k = 1 <;> by_cases h2 : y.k = 1
  · simp only [h1, h2, and_self, if_true]; by_cases h3 : y.v <= x.v <;> simp [h3] <;> omega
  · simp [h1, h2]; omega
  · simp [h1, h2]; omega
  · simp [h1, h2]
theorem app_ints (a b : List Int) (h : a.length + b.length < lim) : app 3 1 (.own 3 1 (iL a)) (iL b) = some (iL (a ++ b)) := by
  simp [app, h, iL]
theorem app_ints0 (b : List Int) (h : b.length < lim) : app 3 1 (.own 3 1 []) (iL b) = some (iL b) := by
  simp [app, h, iL]
theorem bsl_ints (x : Int) : bslV prog 43 1 [(0, .int .i64 x)] = some (1, iL [x]) := by kernel_rfl
theorem slP1 {a b : Nat} {l : List (List V)} {sb : Bool} (h1 : a <= b) (h2 : b <= l.length) : sliceP 1 a b (none : Option Nat) true (.sl 1 l sb) = some (.sl 1 ((l.take b).drop a) false) := by
  simp [sliceP, h1, h2]
theorem iL_take (l : List Int) (n : Nat) : (iL l).take n = iL (l.take n) := by simp [iL, List.map_take]
theorem iL_drop (l : List Int) (n : Nat) : (iL l).drop n = iL (l.drop n) := by simp [iL, List.map_drop]
theorem put_endR {H : Heap} {l : List Int} {a k : Nat} {N : List (List V) -> V -> Option (Res × Heap)} {c1 c2 : Nat × List (List V) -> Prop} {d1 : ∀ p, Decidable (c1 p)} {d2 : ∀ p, Decidable (c2 p)} (h1 : ∀ p, p.1 = 1 -> c1 p) (h2 : ∀ p, p.1 = 1 -> c2 p) (ha : a <= l.length) (hl : l.length + 2 < lim) (hk : k + 1 < lim) :
    (bd (lenP (V.sl 1 (iL l) false)) fun n47 =>
     (bd (sliceP 1 0 a (none : Option Nat) true (V.sl 1 (iL l) false)) fun v49 =>
     (bdS (slcH H v49) fun p50 =>
     (if c1 p50 then
     (bd (app 3 1 (S.own 3 1 []) p50.2) fun l51 =>
     (bd (bslV prog 43 1 [(0, (V.int .i64 (k : Int)))]) fun p52 =>
     (bd (app 3 1 (S.own 3 1 l51) p52.2) fun l53 =>
     (bd (lenP (V.sl 1 (iL l) false)) fun n54 =>
     (bd (sliceP 1 a n54 (none : Option Nat) true (V.sl 1 (iL l) false)) fun v56 =>
     (bdS (slcH H v56) fun p57 =>
     (if c2 p57 then
     (bd (app 3 1 (S.own 3 1 l53) p57.2) fun l58 =>
     (bd (bop prog .add 3 (V.int .i64 (k : Int)) (V.int .i64 1)) fun v59 => N l58 v59)) else none))))))) else none)))) = N (iL (l.take a ++ (k : Int) :: l.drop a)) (.int .i64 ((k + 1 : Nat) : Int)) := by
  have e1 : IntKind.i64.wrap ((k : Int) + 1) = ((k + 1 : Nat) : Int) := step64 (by omega)
  have t1 : (l.take a).length <= l.length := by rw [List.length_take]; omega
  rw [lenP_sl, bd_some, slP1 (Nat.zero_le _) (by rw [iL_len]; exact ha), bd_some, slcH_sl, bdS_some, if_pos (h1 _ rfl)]
  simp only [List.drop_zero]
  rw [iL_take, app_ints0 _ (by omega), bd_some, bsl_ints, bd_some]
  simp only
  rw [app_ints _ _ (by simp; omega), bd_some, bd_some, slP1 (by rw [iL_len]; exact ha) (Nat.le_refl _), bd_some, slcH_sl, bdS_some, if_pos (h2 _ rfl)]
  simp only [List.take_length]
  rw [iL_drop, app_ints _ _ (by simp; omega), bd_some, bop_i64_add, bd_some, e1]
  simp
theorem mid_at {a b : List Int} {x : Int} : (a ++ x :: b)[a.length]? = some x := by
  rw [List.getElem?_append_right (Nat.le_refl _), Nat.sub_self]; rfl
theorem rord_inner (N : Nat) (os : List O) (b : Bool) (hs : Small os) (H : Heap) (k : Nat) (x : O) (hx : os[k]? = some x) (v0 v1 : V) (next3 : List V -> Heap -> Option (Res × Heap)) (hl : os.length + 2 < lim) : ∀ (r b' : List Int) (M : Nat), r.length + b'.length <= os.length -> (∀ y ∈ r, 0 <= y /\ y < (os.length : Int)) -> r.length < M →
    loopx M (rOrder_l7 (N + 1) (.sl 2 (os.map O.w) b) [v0, v1, .int .i64 (k : Int)] next3) [.sl 1 [] false, .sl 1 (iL (r.reverse ++ b')) false, .int .i64 (r.length : Int)] H = next3 [.sl 1 [] false, .sl 1 (iL (insD (keyO os) r (k : Int) b')) false, .int .i64 ((k + 1 : Nat) : Int)] H
  | _, _, 0, _, _, h => by omega
  | [], b', M + 1, hrl, hr, hM => by
    have hkl : k < os.length := (List.getElem?_eq_some_iff.1 hx).1
    rw [loopx_succ]
    unfold rOrder_l7
    simp only [gv, List.getD_cons_succ, List.getD_cons_zero, bop_i64_gtr, bd_some, bv_bool, lsl, nv_nat, bdS_some]
    rw [if_neg (by simp)]
    simp only [List.reverse_nil, List.nil_append]
    refine (put_endR (H := H) (l := b') (a := ([] : List Int).length) (k := k) (N := fun l v => next3 [.sl 1 [] false, .sl 1 l false, v] H) (fun p h => by simp [h]) (fun p h => by simp [h]) (by simp) (by simp at hrl; omega) (by omega)).trans ?_
    simp [insD]
  | y :: r, b', M + 1, hrl, hr, hM => by
    have hkl : k < os.length := (List.getElem?_eq_some_iff.1 hx).1
    obtain ⟨hy0, hy1⟩ := hr y (by simp)
    obtain ⟨j, rfl⟩ := Int.eq_ofNat_of_zero_le hy0
    obtain ⟨v, hv⟩ : ∃ v, os[j]? = some v := ⟨_, List.getElem?_eq_getElem (by omega)⟩
    simp only [List.length_cons] at hrl hM
    have e1 : IntKind.i64.wrap (((((j : Nat) : Int) :: r).length : Nat) - 1 : Int) = ((r.length : Nat) : Int) := wN (by simp) (by omega)
    have hL : ((j : Int) :: r).reverse ++ b' = r.reverse ++ ((j : Int) :: b') := by simp
    have s1 : (r.reverse ++ (j : Int) :: b')[r.length]? = some (j : Int) := by
      have := mid_at (a := r.reverse) (b := b') (x := (j : Int))
      rwa [List.length_reverse] at this
    have s2 : (iL (r.reverse ++ (j : Int) :: b'))[r.length]? = some [.int .i64 (j : Int)] := by unfold iL; rw [List.getElem?_map, s1]; rfl
    have l1 := (List.getElem?_eq_some_iff.1 s1).1
    have hxv : (os.map O.w)[k]? = some (O.w x) := by rw [get_os, hx]; rfl
    have hvv : (os.map O.w)[j]? = some (O.w v) := by rw [get_os, hv]; rfl
    have ih := rord_inner N os b hs H k x hx v0 v1 next3 hl r ((j : Int) :: b') M (by simp; omega) (fun u hu => hr u (List.mem_cons_of_mem _ hu)) (by omega)
    rw [hL]
    have hou : ∀ u : O, V.agg (List.take 2 (List.drop 0 (O.w u))) = .agg [.int .u8 u.k, .int .i32 u.v] := fun _ => rfl
    have key : ∀ next, rOrder_l7 (N + 1) (.sl 2 (os.map O.w) b) [v0, v1, .int .i64 (k : Int)] next3 [.sl 1 [] false, .sl 1 (iL (r.reverse ++ (j : Int) :: b')) false, .int .i64 (((j : Int) :: r).length : Int)] H next = if keyO os (k : Int) < keyO os (j : Int) then next [.sl 1 [] false, .sl 1 (iL (r.reverse ++ (j : Int) :: b')) false, .int .i64 (r.length : Int)] H else next3 [.sl 1 [] false, .sl 1 (iL (r.reverse ++ (j : Int) :: (k : Int) :: b')) false, .int .i64 ((k + 1 : Nat) : Int)] H := by
      intro next
      unfold rOrder_l7
      simp only [gv, List.getD_cons_succ, List.getD_cons_zero, bop_i64_gtr, bd_some, bv_bool, lsl, bop_i64_sub, e1, nv_nat, bdS_some, iL_len]
      rw [if_pos (by simp), if_pos (by first | exact ⟨rfl, l1, by decide⟩ | exact ⟨trivial, l1, by decide⟩), s2, bd_some]
      simp only [List.getElem?_cons_zero, bd_some, nv_nat, bdS_some, idxP_sl hvv, idxP_sl hxv, cellsP_iptr, bd3_some, Nat.zero_add, Nat.le_refl, Nat.reduceLT, and_self, if_true, hou]
      rw [rless_call, cl_ret, one1_one, uop_not, bd_some, bv_bool, less_key hs hx hv]
      by_cases h : keyO os (k : Int) < keyO os (j : Int)
      · rw [if_pos (decide_eq_true h), if_pos h]
      · rw [if_neg (by simpa using h), if_neg h]
        refine (put_endR (H := H) (l := r.reverse ++ (j : Int) :: b') (a := ((j : Int) :: r).length) (k := k) (N := fun l v => next3 [.sl 1 [] false, .sl 1 l false, v] H) (fun p h => by simp [h]) (fun p h => by simp [h]) (by simp) (by simp; omega) (by omega)).trans ?_
        rw [<- hL, List.take_left' (by simp), List.drop_left' (by simp)]
        simp
    rw [loopx_succ, key]
    by_cases h : keyO os (k : Int) < keyO os (j : Int)
    · rw [if_pos h, insD, if_pos h]
      exact ih
    · rw [if_neg h, insD, if_neg h]
theorem rord_loop (N : Nat) (os : List O) (b : Bool) (hs : Small os) (H : Heap) (hl : os.length + 2 < lim) (hN : os.length + 2 <= N) : ∀ (d k M : Nat), k + d = os.length -> d < M →
    loopx M (rOrder_l0 (N + 1) (.sl 2 (os.map O.w) b)) [.sl 1 [] false, .sl 1 (iL (ordL (keyO os) k)) false, .int .i64 (k : Int)] H = some (.ret [.sl 1 (iL (ordL (keyO os) os.length)) false], H)
  | d, k, 0, _, h => by omega
  | 0, k, M + 1, hk, _ => by
    obtain rfl : k = os.length := by omega
    rw [loopx_succ]
    unfold rOrder_l0
    simp only [gv, List.getD_cons_succ, List.getD_cons_zero, slcH_sl, List.length_map, bop_i64_lss, bd_some, bv_bool]
    rw [if_neg (by simp)]
    rfl
  | d + 1, k, M + 1, hk, hM => by
    have hlt : decide ((k : Int) < (os.length : Int)) = true := by simp; omega
    obtain ⟨x, hx⟩ : ∃ x, os[k]? = some x := ⟨_, List.getElem?_eq_getElem (by omega)⟩
    have ih := rord_loop N os b hs H hl hN d (k + 1) M (by omega) (by omega)
    have inner := fun next3 => rord_inner N os b hs H k x hx (.sl 1 [] false) (.sl 1 (iL (ordL (keyO os) k)) false) next3 hl (ordL (keyO os) k).reverse [] (N + 1) (by simp [ordL_len]; omega) (fun y hy => by
        have := ordL_mem.1 (List.mem_reverse.1 hy); omega) (by simp [ordL_len]; omega)
    have key : ∀ next, rOrder_l0 (N + 1) (.sl 2 (os.map O.w) b) [.sl 1 [] false, .sl 1 (iL (ordL (keyO os) k)) false, .int .i64 (k : Int)] H next = next [.sl 1 [] false, .sl 1 (iL (ordL (keyO os) (k + 1))) false, .int .i64 ((k + 1 : Nat) : Int)] H := by
      intro next
      have i := inner next
      rw [List.reverse_reverse, List.append_nil, List.length_reverse] at i
      refine Eq.trans ?_ i
      unfold rOrder_l0
      simp only [gv, List.getD_cons_succ, List.getD_cons_zero, slcH_sl, List.length_map, bop_i64_lss, bd_some, bv_bool, hlt, if_true, lsl, iL_len]
    rw [loopx_succ, key]
    exact ih
theorem order_eq (os : List O) (hs : Small os) : ordL (keyO os) os.length = sPuts os ++ others os := by
  have hsd : Sd (keyO os) (sPuts os ++ others os) := by
    refine List.pairwise_append.2 ⟨?_, ?_, fun a ha b hb => .inl ?_⟩
    · refine (List.Pairwise.and_mem.1 (sPuts_sd os)).imp fun ⟨ha, hb, h⟩ => ?_
      have h1 := (sPuts_mem os _ ha).2.2
      have h2 := (sPuts_mem os _ hb).2.2
      unfold Ah keyV at h
      unfold Ah keyO
      rw [if_pos h1, if_pos h2]
      exact h
    · have hp : ∀ n : Nat, (restTo os n).Pairwise (· < ·) := fun n => by
        induction n with
        | zero => exact .nil
        | succ n ih =>
          simp only [restTo]
          split
          · exact ih
          · refine List.pairwise_append.2 ⟨ih, List.pairwise_singleton .., fun a ha b hb => ?_⟩
            rw [List.mem_singleton.1 hb]
            exact (restTo_mem os _ a ha).2.1
      refine (List.Pairwise.and_mem.1 (hp os.length)).imp fun ⟨ha, hb, h⟩ => .inr ⟨?_, h⟩
      unfold keyO
      rw [if_neg (restTo_mem os _ _ ha).2.2, if_neg (restTo_mem os _ _ hb).2.2]
    · have h1 := sPuts_mem os a ha
      have h2 := restTo_mem os _ b hb
      unfold keyO
      rw [if_pos h1.2.2, if_neg h2.2.2]
      obtain ⟨k, rfl⟩ : ∃ k : Nat, a = (k : Int) := ⟨a.toNat, (Int.toNat_of_nonneg h1.1).symm⟩
      obtain ⟨o, ho⟩ : ∃ o, os[k]? = some o := ⟨_, List.getElem?_eq_getElem (by omega)⟩
      rw [oAt_some ho]
      exact (hs o (List.mem_of_getElem? ho)).2
  refine sd_unique (K := keyO os) ?_ (ordL_sd _) hsd
  have nd : (sPuts os ++ others os).Nodup := hsd.imp fun h => by rintro rfl; exact h.asymm h
  refine (List.perm_ext_iff_of_nodup (ordL_nodup _) nd).2 fun x => ⟨fun hx => ?_, fun hx => ?_⟩
  · obtain ⟨h1, h2⟩ := ordL_mem.1 hx
    have := order_all os x.toNat (by omega)
    rwa [Int.toNat_of_nonneg h1] at this
  · exact ordL_mem.2 (order_mem os x hx)
theorem rorder_call (n : Nat) (os : List O) (b : Bool) (h : Heap) (hs : Small os) (hl : os.length + 2 < lim) (hn : os.length + 4 <= n) :
    call n 49 [.int .u8 3, .sl 2 (os.map O.w) b] h = some (.ret [.sl 1 (iL (sPuts os ++ others os)) false], h) := by
  obtain ⟨N, rfl⟩ : ∃ N, n = (N + 1) + 1 := ⟨n - 2, by omega⟩
  refine (rOrder_eq (N + 1) _ h).trans ?_
  unfold rOrder
  have e := rord_loop N os b hs [] hl (by omega) os.length 0 (N + 1) (by omega) (by omega)
  rw [order_eq os hs] at e
  rw [show ordL (keyO os) 0 = [] from rfl] at e
  have e' : loopx (N + 1) (rOrder_l0 (N + 1) (.sl 2 (os.map O.w) b)) [.sl 1 [] false, .sl 1 [] false, .int .i64 0] [] = some (.ret [.sl 1 (iL (sPuts os ++ others os)) false], []) := e
  rw [e']
  generalize sPuts os ++ others os = L
  exact gcw_ret (by simp [free_map O.w (fun _ => rfl)]) (by simp [intV])
end Go.Proofs.Try
set_option linter.unusedVariables false
set_option linter.unusedSimpArgs false
namespace Go.Proofs.Try
open Go.L Go.Rp Go.Sk
set_option maxRecDepth 100000
abbrev vL (l : List Int) : List (List V) := l.map (intV .i32)
def insV (s : List Int) (v : Int) : List Int := s.takeWhile (· <= v) ++ v :: s.dropWhile (· <= v)
theorem app_vL (a b : List Int) (h : a.length + b.length < lim) : app 21 1 (.own 21 1 (vL a)) (vL b) = some (vL (a ++ b)) := by
  simp [app, h, vL]
theorem bsl_vL (x : Int) : bslV prog 39 1 [(0, .int .i32 x)] = some (1, vL [x]) := by kernel_rfl
theorem slPz {sz z a b : Nat} {l : List (List V)} {sb : Bool} (hz : z = sz \/ l.isEmpty = true) (h1 : a <= b) (h2 : b <= l.length) : sliceP sz a b (none : Option Nat) true (.sl z l sb) = some (.sl sz ((l.take b).drop a) false) := by
  have hc : a <= b /\ b <= l.length /\ (z = sz \/ l.isEmpty = true) /\ ((none : Option Nat) = none \/ (none : Option Nat) = some b) /\ true = true := ⟨h1, h2, hz, .inl rfl, rfl⟩
  show (if _ then _ else _) = _
  rw [if_pos hc]
  rfl
def stpV (most : Int) (s : List Int) (o : O) : List Int × R :=
  if o.k = 1 then (if most <= (s.length : Int) then (s, ⟨3, 0⟩) else (insV s o.v, ⟨1, 0⟩))
  else if o.k = 2 then (match s with | [] => (s, ⟨4, 0⟩) | x :: r => (r, ⟨2, x⟩))
  else (s, ⟨5, 0⟩)
theorem clamp_eq (x : Int) : (if 0 < (if 1000 < x then 1000 else x) then (if 1000 < x then 1000 else x) else (0 : Int)) = max 0 (min x 1000) := by
  split <;> split at * <;> omega
def runV (os : List O) (most : Int) : List Int -> List Int -> List R -> List Int × List R
  | [], s, told => (s, told)
  | k :: l, s, told => runV os most l (stpV most s (oAt os k)).1 (told.set k.toNat (stpV most s (oAt os k)).2)
theorem insV_len (s : List Int) (v : Int) : (insV s v).length = s.length + 1 := by
  unfold insV
  rw [List.length_append, List.length_cons]
  have := congrArg List.length (List.takeWhile_append_dropWhile (p := fun y : Int => decide (y <= v)) (l := s))
  rw [List.length_append] at this
  omega
theorem stpV_len (most : Int) (s : List Int) (o : O) : (stpV most s o).1.length <= s.length + 1 := by
  unfold stpV
  split
  · split
    · simp
    · simp [insV_len]
  · split
    · cases s <;> simp <;> omega
    · simp
theorem order_len (os : List O) : (sPuts os ++ others os).length = os.length := by
  have h : ∀ n : Nat, (putsTo os n).length + (restTo os n).length = n := fun n => by
    induction n with
    | zero => rfl
    | succ n ih =>
      simp only [putsTo, restTo]
      split <;> simp <;> omega
  rw [List.length_append, sPuts_len]
  exact h os.length
end Go.Proofs.Try
set_option linter.unusedVariables false
set_option linter.unusedSimpArgs false
namespace Go.Proofs.Try
open Go.L Go.Rp Go.Sk
set_option maxRecDepth 100000
def SeesR (h : Heap) (r : V) (l : List R) : Prop := (∃ sz, slcH h r = some (sz, l.map R.w)) /\ ∀ (i : Nat) (x : R), l[i]? = some x -> ∃ p, idxP 2 i r = some p /\ cellsP h p = some (R.w x, 2, 0)
theorem RowR.sees {h : Heap} {b : Nat} {l : List R} (r : RowR h b l) : SeesR h (.row b 2 0 l.length) l := ⟨⟨2, r.slc⟩, fun i x hx => ⟨_, r.get hx 0⟩⟩
theorem sees_slR (h : Heap) (l : List R) (sb : Bool) : SeesR h (.sl 2 (l.map R.w) sb) l := ⟨⟨2, slcH_sl ..⟩, fun i x hx => ⟨_, idxP_sl (es := R.w x) (by rw [get_rs, hx]; rfl) sb, cellsP_iptr ..⟩⟩
theorem sees_sl (h : Heap) {z : Nat} {l : List Int} {sb : Bool} (hz : z = 1 \/ l = []) : Sees h (.sl z (vL l) sb) l := ⟨⟨z, slcH_sl ..⟩, fun i x hx => by
  obtain rfl : z = 1 := hz.resolve_right (by rintro rfl; simp at hx)
  exact ⟨_, idxP_sl (es := intV .i32 x) (by rw [List.getElem?_map, hx]; rfl) sb, cellsP_iptr ..⟩⟩
theorem neq_res (a b c d : Int) : bop prog .neq 34 (.agg [.int .u8 a, .int .i32 b]) (.agg [.int .u8 c, .int .i32 d]) = some (.bool !(a == c && (b == d && true))) := by kernel_rfl
theorem rTold_loop (n : Nat) {h : Heap} {a b : V} {l : List R} (ha : SeesR h a l) (hb : SeesR h b l) (hl : l.length < lim) : ∀ (d i M : Nat) (v0 : V), i + d = l.length -> d < M -> loopx M (rTold_l2 n a b) [v0, .int .i64 (i : Int)] h = some (.ret [.bool true], h) := by
  obtain ⟨⟨sa, hsa⟩, ga⟩ := ha
  intro d
  induction d with
  | zero =>
    intro i M v0 h1 h2
    obtain ⟨M, rfl⟩ : ∃ M', M = M' + 1 := ⟨M - 1, by omega⟩
    obtain rfl : i = l.length := by omega
    rw [loopx_succ]
    unfold rTold_l2
    rw [hsa, bd_some]
    simp only [gv, List.getD_cons_zero, List.getD_cons_succ, List.length_map, bop_i64_lss, bd_some, bv_bool]
    rw [if_neg (by simp)]
  | succ d ih =>
    intro i M v0 h1 h2
    obtain ⟨M, rfl⟩ : ∃ M', M = M' + 1 := ⟨M - 1, by omega⟩
    obtain ⟨x, hx⟩ : ∃ x, l[i]? = some x := ⟨_, List.getElem?_eq_getElem (by omega)⟩
    obtain ⟨p, p1, p2⟩ := ga i x hx
    obtain ⟨q, q1, q2⟩ := hb.2 i x hx
    have hlt : decide ((i : Int) < (l.length : Int)) = true := by simp; omega
    have hc : V.agg (List.take 2 (List.drop 0 (R.w x))) = .agg [.int .u8 x.c, .int .i32 x.v] := rfl
    have key : ∀ next, rTold_l2 n a b [v0, .int .i64 (i : Int)] h next = next [v0, .int .i64 ((i + 1 : Nat) : Int)] h := by
      intro next
      unfold rTold_l2
      rw [hsa, bd_some]
      simp only [gv, List.getD_cons_zero, List.getD_cons_succ, List.length_map, bop_i64_lss, bd_some, bv_bool, hlt, if_true, nv_nat, bdS_some, p1, p2, q1, q2, bd3_some, Nat.zero_add, Nat.le_refl, Nat.reduceLT, and_self, hc, neq_res, bop_i64_add, step64 (show i < lim by omega)]
      rw [if_neg (by simp)]
    rw [loopx_succ, key]
    exact ih (i + 1) M v0 (by omega) (by omega)
theorem rTold_call (n : Nat) {h : Heap} {a b : V} {l : List R} (ha : SeesR h a l) (hb : SeesR h b l) (hl : l.length < lim) (hn : l.length < n) : call (n + 1) 31 [a, b] h = some (.ret [.bool true], h) := by
  refine (rTold_eq n a b h).trans ?_
  unfold rTold
  obtain ⟨sa, hsa⟩ := ha.1
  obtain ⟨sb, hsb⟩ := hb.1
  rw [hsa, bd_some, hsb, bd_some, if_neg (by simp)]
  exact rTold_loop n ha hb hl l.length 0 n (.bool false) (by omega) hn
theorem ins_vals (I : List (Int × Nat)) (v : Int) (T : Nat) : (insI I v T).map (·.1) = insV (I.map (·.1)) v := by
  unfold insI insV
  rw [List.map_append, List.map_cons, List.takeWhile_map, List.dropWhile_map]
  rfl
theorem stp_vals (most : Int) (st : St) (o : O) : ((stp most st o).1.1.map (·.1), (stp most st o).2) = stpV most (st.1.map (·.1)) o := by
  unfold stp stpV
  rw [List.length_map]
  by_cases h1 : o.k = 1
  · rw [if_pos h1, if_pos h1]
    by_cases h2 : most <= (st.1.length : Int)
    · rw [if_pos h2, if_pos h2]
    · rw [if_neg h2, if_neg h2]
      simp only [ins_vals]
  · rw [if_neg h1, if_neg h1]
    by_cases h2 : o.k = 2
    · rw [if_pos h2, if_pos h2]
      obtain ⟨I, B⟩ := st
      cases I <;> rfl
    · rw [if_neg h2, if_neg h2]
theorem run_vals (os : List O) (most : Int) : ∀ (l : List Int) (st : St) (told : List R), ((runO os most l st told).1.1.map (·.1), (runO os most l st told).2) = runV os most l (st.1.map (·.1)) told
  | [], st, told => rfl
  | k :: l, st, told => by
    show ((runO os most l _ _).1.1.map (·.1), (runO os most l _ _).2) = runV os most l (stpV most (st.1.map (·.1)) (oAt os k)).1 (told.set k.toNat (stpV most (st.1.map (·.1)) (oAt os k)).2)
    rw [<- stp_vals, run_vals os most l]
theorem stp_grow (most : Int) (st : St) (o : O) : (stp most st o).1.1.length <= st.1.length + 1 := by
  have := stpV_len most (st.1.map (·.1)) o
  rw [<- stp_vals] at this
  simpa using this
theorem runO_grow (os : List O) (most : Int) : ∀ (l : List Int) (st : St) (told : List R), (runO os most l st told).1.1.length <= st.1.length + l.length
  | [], st, told => Nat.le_refl _
  | k :: l, st, told => by
    show (runO os most l _ _).1.1.length <= _
    have h1 := runO_grow os most l (stp most st (oAt os k)).1 (told.set k.toNat (stp most st (oAt os k)).2)
    have h2 := stp_grow most st (oAt os k)
    rw [List.length_cons]
    omega
theorem done_grow (os : List O) (most : Int) (st : St) : (doneO os most st).1.1.length <= st.1.length + os.length := by
  have := runO_grow os most (sPuts os ++ others os) st (List.replicate os.length ⟨0, 0⟩)
  rw [order_len] at this
  exact this
theorem done_len (os : List O) (most : Int) (st : St) : (doneO os most st).2.length = os.length := by
  unfold doneO
  rw [runO_len, List.length_replicate]
structure Made (h h' : Heap) (most : Int) (cb : Option Nat) (bits : List Bool) : Prop where
  sk : ∃ N, SkAt h' h.length [] (max 0 (min most 1000)) N
  bt : BitsAt h' (h.length + 1) cb bits
  ncb : ∀ b, cb = some b -> h.length + 2 <= b
  len : h.length <= h'.length
  old : ∀ i, i < h.length -> h'[i]? = h[i]?
theorem Made.apart {h h' : Heap} {m : Int} {cb : Option Nat} {bits : List Bool} (M : Made h h' m cb bits) : h.length + 1 ∉ skB h.length [] /\ ∀ b, cb = some b -> b ∉ skB h.length [] := by
  have hne : ∀ b ∈ skB h.length [], b = h.length := fun b hb => by simpa [skB] using hb
  refine ⟨fun hm => ?_, fun b e hm => ?_⟩
  · have := hne _ hm; omega
  · have := hne _ hm; have := M.ncb b e; omega
theorem Did.apart {h h' : Heap} {s : Nat} {ts ts' : List Tw} {most : Int} {c : Nat} {cb : Option Nat} {bits bits' : List Bool} {tb : Nat} {told : List R} (D : Did h h' s ts ts' most c cb bits' tb told) (B : BitsAt h c cb bits) (nc : c ∉ skB s ts) (ncb : ∀ b, cb = some b -> b ∉ skB s ts) : c ∉ skB s ts' /\ ∀ b, cb = some b -> b ∉ skB s ts' := by
  obtain ⟨b1, b2⟩ := B.lt
  refine ⟨fun hm => ?_, fun b e hm => ?_⟩
  · rcases D.new _ hm with h | h
    · exact nc h
    · omega
  · rcases D.new _ hm with h | h
    · exact ncb b e h
    · have := b2 b e; omega
end Go.Proofs.Try
set_option linter.unusedVariables false
namespace Go.Proofs.Try
open Go.L
set_option maxRecDepth 100000
noncomputable def r6Feed_l9 (n : Nat) (bits : V) (st3 : List V) (next5 : List V -> Heap -> Option (Res × Heap)) (st10 : List V) (hh11 : Heap) (next12 : List V -> Heap -> Option (Res × Heap)) : Option (Res × Heap) :=
 (bd (bop prog .lss 3 (gv st10 2) (V.int .i64 8)) fun v13 =>
 (bv v13 fun b14 => if b14 then
 (if (decide ((((lsl (gv st10 1))).length : Int) < 20000)) then
 (bdS (nv (gv st3 2)) fun n15 =>
 (bd (idxP 1 n15 bits) fun p16 =>
 (bd3 (cellsP hh11 p16) fun cs18 m17 o19 => if (o19 + 1 <= m17 /\ 0 < 1) then
 (bd (cs18)[o19]? fun v20 =>
 (bd (cvt prog 3 124 (gv st10 2)) fun v21 =>
 (bd (bop prog .shr 5 v20 v21) fun v22 =>
 (bd (bop prog .rem 5 v22 (V.int .u8 2)) fun v23 =>
 (bd (bop prog .eql 5 v23 (V.int .u8 1)) fun v24 =>
 (bd (bslV prog 74 1 [(0, v24)]) fun p25 =>
 (bd (app 4 1 (S.own 4 1 (lsl (gv st10 1))) p25.2) fun l26 =>
 (bd (bop prog .add 3 (gv st10 2) (V.int .i64 1)) fun v27 =>
 (next12 [(V.sl 1 (lsl (gv st10 0)) false), (V.sl 1 l26 false), v27, (V.bool false)] hh11))))))))) else none)))
 else
 (bd (bop prog .add 3 (gv st10 2) (V.int .i64 1)) fun v28 =>
 (next12 [(V.sl 1 (lsl (gv st10 0)) false), (V.sl 1 (lsl (gv st10 1)) false), v28, (V.bool false)] hh11)))
 else
 (bd (bop prog .add 3 (gv st3 2) (V.int .i64 1)) fun v29 =>
 (next5 [(V.sl 1 (lsl (gv st10 0)) false), (V.sl 1 (lsl (gv st10 1)) false), v29, (V.bool false)] hh11))))
noncomputable def r6Feed_l2 (n : Nat) (bits : V) (st3 : List V) (hh4 : Heap) (next5 : List V -> Heap -> Option (Res × Heap)) : Option (Res × Heap) :=
 (bd (slcH hh4 bits) fun p6 =>
 (bd (bop prog .lss 3 (gv st3 2) (V.int .i64 ((p6.2).length : Int))) fun v7 =>
 (bv v7 fun b8 => if b8 then
 (loopx n (r6Feed_l9 n bits st3 next5) [(V.sl 1 (lsl (gv st3 0)) false), (V.sl 1 (lsl (gv st3 1)) false), (V.int .i64 0), (V.bool false)] hh4)
 else
 some (Res.ret [(V.sl 1 (lsl (gv st3 1)) false)], hh4))))
noncomputable def r6Feed (n : Nat) (l : V) (bits : V) (h : Heap) : Option (Res × Heap) :=
 (bdS (slcH h l) fun p0 =>
 (if (74 = 74 /\ (p0.1 = 1 \/ (p0.2).isEmpty = true)) then
 (bd (app 4 1 (S.own 4 1 []) p0.2) fun l1 =>
 (loopx n (r6Feed_l2 n bits) [(V.sl 1 [] false), (V.sl 1 l1 false), (V.int .i64 0), (V.bool false)] h)) else none))
theorem r6Feed_eq (n : Nat) (l : V) (bits : V) (h : Heap) : call (n + 1) 45 [l, bits] h = r6Feed n l bits h := by kernel_rfl
noncomputable def r6Toss (n : Nat) (l : V) (h : Heap) : Option (Res × Heap) :=
 (bd (slcH h l) fun p0 =>
 (if (((p0.2).length : Int) == 0) then
 some (Res.ret [l, (V.bool false)], h)
 else
 (bd (lenP l) fun n1 =>
 (bd (sliceP 1 1 n1 (none : Option Nat) true l) fun v2 =>
 (bd (idxP 1 0 l) fun p3 =>
 (bd3 (cellsP h p3) fun cs5 m4 o6 => if (o6 + 1 <= m4 /\ 0 < 1) then
 (bd (cs5)[o6]? fun v7 =>
 some (Res.ret [v2, v7], h)) else none))))))
theorem r6Toss_eq (n : Nat) (l : V) (h : Heap) : call (n + 1) 85 [l] h = r6Toss n l h := by kernel_rfl
noncomputable def r6Height_l0 (n : Nat)  (st1 : List V) (hh2 : Heap) (next3 : List V -> Heap -> Option (Res × Heap)) : Option (Res × Heap) :=
 (bd (bop prog .lss 3 (gv st1 3) (V.int .i64 8)) fun v4 =>
 (bv v4 fun b5 => if b5 then
 (cl (call n 85 [(gv st1 0)] hh2) (fun r6 h7 =>
 (bd (r6)[0]? fun v9 =>
 (bd (r6)[1]? fun v10 =>
 (bd (uop .not v10) fun v11 =>
 (bv v11 fun b12 => if b12 then
 some (Res.ret [v9, (gv st1 3)], h7)
 else
 (bd (bop prog .add 3 (gv st1 3) (V.int .i64 1)) fun v13 =>
 (next3 [v9, (gv st1 1), (gv st1 2), v13] h7))))))) (fun z8 h7 => some (Res.pan z8, h7)))
 else
 some (Res.ret [(gv st1 0), (gv st1 3)], hh2)))
noncomputable def r6Height (n : Nat) (l : V) (h : Heap) : Option (Res × Heap) :=
 (loopx n (r6Height_l0 n ) [l, (V.sl 1 [] false), (V.int .i64 0), (V.int .i64 1)] h)
theorem r6Height_eq (n : Nat) (l : V) (h : Heap) : call (n + 1) 67 [l] h = r6Height n l h := by kernel_rfl
noncomputable def r7Insert_l7 (n : Nat) (l : V) (v : Int) (k : Int) (st8 : List V) (hh9 : Heap) (next10 : List V -> Heap -> Option (Res × Heap)) : Option (Res × Heap) :=
 (bd (slcH hh9 l) fun p11 =>
 (bd (bop prog .lss 3 (gv st8 1) (V.int .i64 ((p11.2).length : Int))) fun v12 =>
 (bv v12 fun b13 => if b13 then
 (bdS (nv (gv st8 1)) fun n14 =>
 (bd (idxP 2 n14 l) fun p15 =>
 (bd (addP 0 p15) fun p16 =>
 (bd3 (cellsP hh9 p16) fun cs18 m17 o19 => if (o19 + 1 <= m17 /\ 0 < 1) then
 (bd (cs18)[o19]? fun v20 =>
 (bd (bop prog .leq 21 v20 (V.int .i32 v)) fun v21 =>
 (bv v21 fun b22 => if b22 then
 (bd (bop prog .add 3 (gv st8 1) (V.int .i64 1)) fun v23 =>
 (next10 [(V.sl 2 (lsl (gv st8 0)) false), v23] hh9))
 else
 (bd (lenP l) fun n24 =>
 (bdS (nv (gv st8 1)) fun n25 =>
 (bd (sliceP 2 0 n25 (none : Option Nat) true l) fun v26 =>
 (bdS (slcH hh9 v26) fun p27 =>
 (if (87 = 87 /\ (p27.1 = 2 \/ (p27.2).isEmpty = true)) then
 (bd (app 131 2 (S.own 131 2 []) p27.2) fun l28 =>
 (bd (app 131 2 (S.own 131 2 l28) [[(V.int .i32 v), (V.int .i64 (if 1 < (if 8 < k then 8 else k) then (if 8 < k then 8 else k) else 1))]]) fun l29 =>
 (bd (lenP l) fun n30 =>
 (bdS (nv (gv st8 1)) fun n31 =>
 (bd (sliceP 2 n31 n30 (none : Option Nat) true l) fun v32 =>
 (bdS (slcH hh9 v32) fun p33 =>
 (if (87 = 87 /\ (p33.1 = 2 \/ (p33.2).isEmpty = true)) then
 (bd (app 131 2 (S.own 131 2 l29) p33.2) fun l34 =>
 some (Res.ret [(V.sl 2 l34 false), (V.bool true)], hh9)) else none))))))) else none)))))))) else none))))
 else
 (bd (lenP l) fun n35 =>
 (bdS (nv (gv st8 1)) fun n36 =>
 (bd (sliceP 2 0 n36 (none : Option Nat) true l) fun v37 =>
 (bdS (slcH hh9 v37) fun p38 =>
 (if (87 = 87 /\ (p38.1 = 2 \/ (p38.2).isEmpty = true)) then
 (bd (app 131 2 (S.own 131 2 []) p38.2) fun l39 =>
 (bd (app 131 2 (S.own 131 2 l39) [[(V.int .i32 v), (V.int .i64 (if 1 < (if 8 < k then 8 else k) then (if 8 < k then 8 else k) else 1))]]) fun l40 =>
 (bd (lenP l) fun n41 =>
 (bdS (nv (gv st8 1)) fun n42 =>
 (bd (sliceP 2 n42 n41 (none : Option Nat) true l) fun v43 =>
 (bdS (slcH hh9 v43) fun p44 =>
 (if (87 = 87 /\ (p44.1 = 2 \/ (p44.2).isEmpty = true)) then
 (bd (app 131 2 (S.own 131 2 l40) p44.2) fun l45 =>
 some (Res.ret [(V.sl 2 l45 false), (V.bool true)], hh9)) else none))))))) else none))))))))
noncomputable def r7Insert (n : Nat) (m : Int) (l : V) (v : Int) (k : Int) (h : Heap) : Option (Res × Heap) :=
 (bd (slcH h l) fun p0 =>
 (cl (call n 66 [(V.int .i64 m)] h) (fun r1 h2 =>
 (one1 r1 fun v4 =>
 (bd (bop prog .geq 3 (V.int .i64 ((p0.2).length : Int)) v4) fun v5 =>
 (bv v5 fun b6 => if b6 then
 some (Res.ret [l, (V.bool false)], h2)
 else
 (loopx n (r7Insert_l7 n l v k) [(V.sl 2 [] false), (V.int .i64 0)] h2))))) (fun z3 h2 => some (Res.pan z3, h2))))
theorem r7Insert_eq (n : Nat) (m : Int) (l : V) (v : Int) (k : Int) (h : Heap) : call (n + 1) 68 [(V.int .i64 m), l, (V.int .i32 v), (V.int .i64 k)] h = r7Insert n m l v k h := by kernel_rfl
noncomputable def r7Level_l0 (n : Nat) (l : V) (k : Int) (st1 : List V) (hh2 : Heap) (next3 : List V -> Heap -> Option (Res × Heap)) : Option (Res × Heap) :=
 (bd (slcH hh2 l) fun p4 =>
 (bd (bop prog .lss 3 (gv st1 2) (V.int .i64 ((p4.2).length : Int))) fun v5 =>
 (bv v5 fun b6 => if b6 then
 (if (decide (k ≥ 1)) then
 (bdS (nv (gv st1 2)) fun n7 =>
 (bd (idxP 2 n7 l) fun p8 =>
 (bd (addP 1 p8) fun p9 =>
 (bd3 (cellsP hh2 p9) fun cs11 m10 o12 => if (o12 + 1 <= m10 /\ 0 < 1) then
 (bd (cs11)[o12]? fun v13 =>
 (bd (bop prog .geq 3 v13 (V.int .i64 k)) fun v14 =>
 (bv v14 fun b15 => if b15 then
 (bdS (nv (gv st1 2)) fun n16 =>
 (bd (idxP 2 n16 l) fun p17 =>
 (bd (addP 0 p17) fun p18 =>
 (bd3 (cellsP hh2 p18) fun cs20 m19 o21 => if (o21 + 1 <= m19 /\ 0 < 1) then
 (bd (cs20)[o21]? fun v22 =>
 (bd (bslV prog 39 1 [(0, v22)]) fun p23 =>
 (bd (app 21 1 (S.own 21 1 (lsl (gv st1 1))) p23.2) fun l24 =>
 (bd (bop prog .add 3 (gv st1 2) (V.int .i64 1)) fun v25 =>
 (next3 [(V.sl 1 (lsl (gv st1 0)) false), (V.sl 1 l24 false), v25] hh2))))) else none))))
 else
 (bd (bop prog .add 3 (gv st1 2) (V.int .i64 1)) fun v26 =>
 (next3 [(V.sl 1 (lsl (gv st1 0)) false), (V.sl 1 (lsl (gv st1 1)) false), v26] hh2))))) else none))))
 else
 (bd (bop prog .add 3 (gv st1 2) (V.int .i64 1)) fun v27 =>
 (next3 [(V.sl 1 (lsl (gv st1 0)) false), (V.sl 1 (lsl (gv st1 1)) false), v27] hh2)))
 else
 some (Res.ret [(V.sl 1 (lsl (gv st1 1)) false)], hh2))))
noncomputable def r7Level (n : Nat) (l : V) (k : Int) (h : Heap) : Option (Res × Heap) :=
 (loopx n (r7Level_l0 n l k) [(V.sl 1 [] false), (V.sl 1 [] false), (V.int .i64 0)] h)
theorem r7Level_eq (n : Nat) (l : V) (k : Int) (h : Heap) : call (n + 1) 48 [l, (V.int .i64 k)] h = r7Level n l k h := by kernel_rfl
noncomputable def r11Apply_l7 (n : Nat) (m : Int) (l : V) (v6 : V) (st8 : List V) (hh9 : Heap) (next10 : List V -> Heap -> Option (Res × Heap)) : Option (Res × Heap) :=
 (bd (slcH hh9 v6) fun p11 =>
 (bd (bop prog .lss 3 (gv st8 6) (V.int .i64 ((p11.2).length : Int))) fun v12 =>
 (bv v12 fun b13 => if b13 then
 (bdS (nv (gv st8 6)) fun n14 =>
 (bd (idxP 1 n14 v6) fun p15 =>
 (bd3 (cellsP hh9 p15) fun cs17 m16 o18 => if (o18 + 1 <= m16 /\ 0 < 1) then
 (bd (cs17)[o18]? fun v19 =>
 (bdS (nv v19) fun n20 =>
 (bd (idxP 2 n20 l) fun p21 =>
 (bd3 (cellsP hh9 p21) fun cs23 m22 o24 => if (o24 + 2 <= m22 /\ 0 < 2) then
 (if (((cs23).drop o24 |>.take 2)).length = 2 then
 (if ((((cs23).drop o24 |>.take 2)).length <= 2) then
 (bd ((setR [(V.int .u8 0), (V.int .i32 0)] 0 ((cs23).drop o24 |>.take 2)))[0]? fun v25 =>
 (bd (bop prog .eql 5 v25 (V.int .u8 1)) fun v26 =>
 (bv v26 fun b27 => if b27 then
 (bd (slcH hh9 (gv st8 0)) fun p28 =>
 (cl (call n 66 [(V.int .i64 m)] hh9) (fun r29 h30 =>
 (one1 r29 fun v32 =>
 (bd (bop prog .geq 3 (V.int .i64 ((p28.2).length : Int)) v32) fun v33 =>
 (bv v33 fun b34 => if b34 then
 (bdS (nv (gv st8 6)) fun n35 =>
 (bd (idxP 1 n35 v6) fun p36 =>
 (bd3 (cellsP h30 p36) fun cs38 m37 o39 => if (o39 + 1 <= m37 /\ 0 < 1) then
 (bd (cs38)[o39]? fun v40 =>
 (bdS (nv v40) fun n41 =>
 (if (2 = 2 /\ n41 < ((lsl (gv st8 5))).length /\ (some 99 : Option Nat) ≠ some 11) then
 (bd ((lsl (gv st8 5)))[n41]? fun es42 =>
 (bd (bop prog .add 3 (gv st8 6) (V.int .i64 1)) fun v43 =>
 (next10 [(gv st8 0), (gv st8 1), (V.sl 2 (lsl (gv st8 2)) false), (V.sl 1 (lsl (gv st8 3)) false), (V.sl 2 (lsl (gv st8 4)) false), (V.sl 2 (((lsl (gv st8 5))).set n41 (setR es42 0 [(V.int .u8 3), (V.int .i32 0)])) false), v43, (V.bool false)] h30))) else none))) else none)))
 else
 (bd ((setR [(V.int .u8 0), (V.int .i32 0)] 0 ((cs23).drop o24 |>.take 2)))[0]? fun v44 =>
 (bd (bop prog .eql 5 v44 (V.int .u8 1)) fun v45 =>
 (bv v45 fun b46 => if b46 then
 (cl (call n 67 [(gv st8 1)] h30) (fun r47 h48 =>
 (bd (r47)[0]? fun v50 =>
 (bd (r47)[1]? fun v51 =>
 (bd ((setR [(V.int .u8 0), (V.int .i32 0)] 0 ((cs23).drop o24 |>.take 2)))[1]? fun v52 =>
 (cl (call n 68 [(V.int .i64 m), (gv st8 0), v52, v51] h48) (fun r53 h54 =>
 (bd (r53)[0]? fun v56 =>
 (bd (r53)[1]? fun v57 =>
 (bdS (nv (gv st8 6)) fun n58 =>
 (bd (idxP 1 n58 v6) fun p59 =>
 (bd3 (cellsP h54 p59) fun cs61 m60 o62 => if (o62 + 1 <= m60 /\ 0 < 1) then
 (bd (cs61)[o62]? fun v63 =>
 (bdS (nv v63) fun n64 =>
 (if (2 = 2 /\ n64 < ((lsl (gv st8 5))).length /\ (some 99 : Option Nat) ≠ some 11) then
 (bd ((lsl (gv st8 5)))[n64]? fun es65 =>
 (bd (bop prog .add 3 (gv st8 6) (V.int .i64 1)) fun v66 =>
 (next10 [v56, v50, (V.sl 2 (lsl (gv st8 2)) false), (V.sl 1 (lsl (gv st8 3)) false), (V.sl 2 (lsl (gv st8 4)) false), (V.sl 2 (((lsl (gv st8 5))).set n64 (setR es65 0 [(V.int .u8 1), (V.int .i32 0)])) false), v66, (V.bool false)] h54))) else none))) else none)))))) (fun z55 h54 => some (Res.pan z55, h54))))))) (fun z49 h48 => some (Res.pan z49, h48)))
 else
 (bd ((setR [(V.int .u8 0), (V.int .i32 0)] 0 ((cs23).drop o24 |>.take 2)))[0]? fun v67 =>
 (bd (bop prog .eql 5 v67 (V.int .u8 2)) fun v68 =>
 (bv v68 fun b69 => if b69 then
 (bd (slcH h30 (gv st8 0)) fun p70 =>
 (if (((p70.2).length : Int) == 0) then
 (bdS (nv (gv st8 6)) fun n71 =>
 (bd (idxP 1 n71 v6) fun p72 =>
 (bd3 (cellsP h30 p72) fun cs74 m73 o75 => if (o75 + 1 <= m73 /\ 0 < 1) then
 (bd (cs74)[o75]? fun v76 =>
 (bdS (nv v76) fun n77 =>
 (if (2 = 2 /\ n77 < ((lsl (gv st8 5))).length /\ (some 99 : Option Nat) ≠ some 11) then
 (bd ((lsl (gv st8 5)))[n77]? fun es78 =>
 (bd (bop prog .add 3 (gv st8 6) (V.int .i64 1)) fun v79 =>
 (next10 [(gv st8 0), (gv st8 1), (V.sl 2 (lsl (gv st8 2)) false), (V.sl 1 (lsl (gv st8 3)) false), (V.sl 2 (lsl (gv st8 4)) false), (V.sl 2 (((lsl (gv st8 5))).set n77 (setR es78 0 [(V.int .u8 4), (V.int .i32 0)])) false), v79, (V.bool false)] h30))) else none))) else none)))
 else
 (bd ((setR [(V.int .u8 0), (V.int .i32 0)] 0 ((cs23).drop o24 |>.take 2)))[0]? fun v80 =>
 (bd (bop prog .eql 5 v80 (V.int .u8 2)) fun v81 =>
 (bv v81 fun b82 => if b82 then
 (bd (idxP 2 0 (gv st8 0)) fun p83 =>
 (bd (addP 0 p83) fun p84 =>
 (bd3 (cellsP h30 p84) fun cs86 m85 o87 => if (o87 + 1 <= m85 /\ 0 < 1) then
 (bd (cs86)[o87]? fun v88 =>
 (bd (bldV prog 34 [(0, (V.int .u8 2)), (1, v88)]) fun cs89 =>
 (if (cs89).length = 2 then
 (if ((cs89).length <= 2) then
 (bd (lenP (gv st8 0)) fun n90 =>
 (bd (sliceP 2 1 n90 (none : Option Nat) true (gv st8 0)) fun v91 =>
 (bdS (nv (gv st8 6)) fun n92 =>
 (bd (idxP 1 n92 v6) fun p93 =>
 (bd3 (cellsP h30 p93) fun cs95 m94 o96 => if (o96 + 1 <= m94 /\ 0 < 1) then
 (bd (cs95)[o96]? fun v97 =>
 (bdS (nv v97) fun n98 =>
 (if (2 = 2 /\ n98 < ((lsl (gv st8 5))).length /\ (some 99 : Option Nat) ≠ some 11) then
 (if ((((setR [(V.int .u8 5), (V.int .i32 0)] 0 cs89)).drop 0 |>.take 2)).length = 2 then
 (if (2 = 2 /\ 0 < 2 /\ 0 + ((((setR [(V.int .u8 5), (V.int .i32 0)] 0 cs89)).drop 0 |>.take 2)).length <= 2) then
 (bd ((lsl (gv st8 5)))[n98]? fun es99 =>
 (bd (bop prog .add 3 (gv st8 6) (V.int .i64 1)) fun v100 =>
 (next10 [v91, (gv st8 1), (V.sl 2 (lsl (gv st8 2)) false), (V.sl 1 (lsl (gv st8 3)) false), (V.sl 2 (lsl (gv st8 4)) false), (V.sl 2 (((lsl (gv st8 5))).set n98 (setR es99 0 (((setR [(V.int .u8 5), (V.int .i32 0)] 0 cs89)).drop 0 |>.take 2))) false), v100, (V.bool false)] h30))) else none) else none) else none))) else none))))) else none) else none))) else none)))
 else
 (bdS (nv (gv st8 6)) fun n101 =>
 (bd (idxP 1 n101 v6) fun p102 =>
 (bd3 (cellsP h30 p102) fun cs104 m103 o105 => if (o105 + 1 <= m103 /\ 0 < 1) then
 (bd (cs104)[o105]? fun v106 =>
 (bdS (nv v106) fun n107 =>
 (if (2 = 2 /\ n107 < ((lsl (gv st8 5))).length /\ (some 99 : Option Nat) ≠ some 11) then
 (bd ((lsl (gv st8 5)))[n107]? fun es108 =>
 (bd (bop prog .add 3 (gv st8 6) (V.int .i64 1)) fun v109 =>
 (next10 [(gv st8 0), (gv st8 1), (V.sl 2 (lsl (gv st8 2)) false), (V.sl 1 (lsl (gv st8 3)) false), (V.sl 2 (lsl (gv st8 4)) false), (V.sl 2 (((lsl (gv st8 5))).set n107 (setR es108 0 [(V.int .u8 5), (V.int .i32 0)])) false), v109, (V.bool false)] h30))) else none))) else none))))))))
 else
 (bd ((setR [(V.int .u8 0), (V.int .i32 0)] 0 ((cs23).drop o24 |>.take 2)))[0]? fun v110 =>
 (bd (bop prog .eql 5 v110 (V.int .u8 2)) fun v111 =>
 (bv v111 fun b112 => if b112 then
 (bd (idxP 2 0 (gv st8 0)) fun p113 =>
 (bd (addP 0 p113) fun p114 =>
 (bd3 (cellsP h30 p114) fun cs116 m115 o117 => if (o117 + 1 <= m115 /\ 0 < 1) then
 (bd (cs116)[o117]? fun v118 =>
 (bd (bldV prog 34 [(0, (V.int .u8 2)), (1, v118)]) fun cs119 =>
 (if (cs119).length = 2 then
 (if ((cs119).length <= 2) then
 (bd (lenP (gv st8 0)) fun n120 =>
 (bd (sliceP 2 1 n120 (none : Option Nat) true (gv st8 0)) fun v121 =>
 (bdS (nv (gv st8 6)) fun n122 =>
 (bd (idxP 1 n122 v6) fun p123 =>
 (bd3 (cellsP h30 p123) fun cs125 m124 o126 => if (o126 + 1 <= m124 /\ 0 < 1) then
 (bd (cs125)[o126]? fun v127 =>
 (bdS (nv v127) fun n128 =>
 (if (2 = 2 /\ n128 < ((lsl (gv st8 5))).length /\ (some 99 : Option Nat) ≠ some 11) then
 (if ((((setR [(V.int .u8 5), (V.int .i32 0)] 0 cs119)).drop 0 |>.take 2)).length = 2 then
 (if (2 = 2 /\ 0 < 2 /\ 0 + ((((setR [(V.int .u8 5), (V.int .i32 0)] 0 cs119)).drop 0 |>.take 2)).length <= 2) then
 (bd ((lsl (gv st8 5)))[n128]? fun es129 =>
 (bd (bop prog .add 3 (gv st8 6) (V.int .i64 1)) fun v130 =>
 (next10 [v121, (gv st8 1), (V.sl 2 (lsl (gv st8 2)) false), (V.sl 1 (lsl (gv st8 3)) false), (V.sl 2 (lsl (gv st8 4)) false), (V.sl 2 (((lsl (gv st8 5))).set n128 (setR es129 0 (((setR [(V.int .u8 5), (V.int .i32 0)] 0 cs119)).drop 0 |>.take 2))) false), v130, (V.bool false)] h30))) else none) else none) else none))) else none))))) else none) else none))) else none)))
 else
 (bdS (nv (gv st8 6)) fun n131 =>
 (bd (idxP 1 n131 v6) fun p132 =>
 (bd3 (cellsP h30 p132) fun cs134 m133 o135 => if (o135 + 1 <= m133 /\ 0 < 1) then
 (bd (cs134)[o135]? fun v136 =>
 (bdS (nv v136) fun n137 =>
 (if (2 = 2 /\ n137 < ((lsl (gv st8 5))).length /\ (some 99 : Option Nat) ≠ some 11) then
 (bd ((lsl (gv st8 5)))[n137]? fun es138 =>
 (bd (bop prog .add 3 (gv st8 6) (V.int .i64 1)) fun v139 =>
 (next10 [(gv st8 0), (gv st8 1), (V.sl 2 (lsl (gv st8 2)) false), (V.sl 1 (lsl (gv st8 3)) false), (V.sl 2 (lsl (gv st8 4)) false), (V.sl 2 (((lsl (gv st8 5))).set n137 (setR es138 0 [(V.int .u8 5), (V.int .i32 0)])) false), v139, (V.bool false)] h30))) else none))) else none)))))))))))))))) (fun z31 h30 => some (Res.pan z31, h30))))
 else
 (bd ((setR [(V.int .u8 0), (V.int .i32 0)] 0 ((cs23).drop o24 |>.take 2)))[0]? fun v140 =>
 (bd (bop prog .eql 5 v140 (V.int .u8 1)) fun v141 =>
 (bv v141 fun b142 => if b142 then
 (cl (call n 67 [(gv st8 1)] hh9) (fun r143 h144 =>
 (bd (r143)[0]? fun v146 =>
 (bd (r143)[1]? fun v147 =>
 (bd ((setR [(V.int .u8 0), (V.int .i32 0)] 0 ((cs23).drop o24 |>.take 2)))[1]? fun v148 =>
 (cl (call n 68 [(V.int .i64 m), (gv st8 0), v148, v147] h144) (fun r149 h150 =>
 (bd (r149)[0]? fun v152 =>
 (bd (r149)[1]? fun v153 =>
 (bdS (nv (gv st8 6)) fun n154 =>
 (bd (idxP 1 n154 v6) fun p155 =>
 (bd3 (cellsP h150 p155) fun cs157 m156 o158 => if (o158 + 1 <= m156 /\ 0 < 1) then
 (bd (cs157)[o158]? fun v159 =>
 (bdS (nv v159) fun n160 =>
 (if (2 = 2 /\ n160 < ((lsl (gv st8 5))).length /\ (some 99 : Option Nat) ≠ some 11) then
 (bd ((lsl (gv st8 5)))[n160]? fun es161 =>
 (bd (bop prog .add 3 (gv st8 6) (V.int .i64 1)) fun v162 =>
 (next10 [v152, v146, (V.sl 2 (lsl (gv st8 2)) false), (V.sl 1 (lsl (gv st8 3)) false), (V.sl 2 (lsl (gv st8 4)) false), (V.sl 2 (((lsl (gv st8 5))).set n160 (setR es161 0 [(V.int .u8 1), (V.int .i32 0)])) false), v162, (V.bool false)] h150))) else none))) else none)))))) (fun z151 h150 => some (Res.pan z151, h150))))))) (fun z145 h144 => some (Res.pan z145, h144)))
 else
 (bd ((setR [(V.int .u8 0), (V.int .i32 0)] 0 ((cs23).drop o24 |>.take 2)))[0]? fun v163 =>
 (bd (bop prog .eql 5 v163 (V.int .u8 2)) fun v164 =>
 (bv v164 fun b165 => if b165 then
 (bd (slcH hh9 (gv st8 0)) fun p166 =>
 (if (((p166.2).length : Int) == 0) then
 (bdS (nv (gv st8 6)) fun n167 =>
 (bd (idxP 1 n167 v6) fun p168 =>
 (bd3 (cellsP hh9 p168) fun cs170 m169 o171 => if (o171 + 1 <= m169 /\ 0 < 1) then
 (bd (cs170)[o171]? fun v172 =>
 (bdS (nv v172) fun n173 =>
 (if (2 = 2 /\ n173 < ((lsl (gv st8 5))).length /\ (some 99 : Option Nat) ≠ some 11) then
 (bd ((lsl (gv st8 5)))[n173]? fun es174 =>
 (bd (bop prog .add 3 (gv st8 6) (V.int .i64 1)) fun v175 =>
 (next10 [(gv st8 0), (gv st8 1), (V.sl 2 (lsl (gv st8 2)) false), (V.sl 1 (lsl (gv st8 3)) false), (V.sl 2 (lsl (gv st8 4)) false), (V.sl 2 (((lsl (gv st8 5))).set n173 (setR es174 0 [(V.int .u8 4), (V.int .i32 0)])) false), v175, (V.bool false)] hh9))) else none))) else none)))
 else
 (bd ((setR [(V.int .u8 0), (V.int .i32 0)] 0 ((cs23).drop o24 |>.take 2)))[0]? fun v176 =>
 (bd (bop prog .eql 5 v176 (V.int .u8 2)) fun v177 =>
 (bv v177 fun b178 => if b178 then
 (bd (idxP 2 0 (gv st8 0)) fun p179 =>
 (bd (addP 0 p179) fun p180 =>
 (bd3 (cellsP hh9 p180) fun cs182 m181 o183 => if (o183 + 1 <= m181 /\ 0 < 1) then
 (bd (cs182)[o183]? fun v184 =>
 (bd (bldV prog 34 [(0, (V.int .u8 2)), (1, v184)]) fun cs185 =>
 (if (cs185).length = 2 then
 (if ((cs185).length <= 2) then
 (bd (lenP (gv st8 0)) fun n186 =>
 (bd (sliceP 2 1 n186 (none : Option Nat) true (gv st8 0)) fun v187 =>
 (bdS (nv (gv st8 6)) fun n188 =>
 (bd (idxP 1 n188 v6) fun p189 =>
 (bd3 (cellsP hh9 p189) fun cs191 m190 o192 => if (o192 + 1 <= m190 /\ 0 < 1) then
 (bd (cs191)[o192]? fun v193 =>
 (bdS (nv v193) fun n194 =>
 (if (2 = 2 /\ n194 < ((lsl (gv st8 5))).length /\ (some 99 : Option Nat) ≠ some 11) then
 (if ((((setR [(V.int .u8 5), (V.int .i32 0)] 0 cs185)).drop 0 |>.take 2)).length = 2 then
 (if (2 = 2 /\ 0 < 2 /\ 0 + ((((setR [(V.int .u8 5), (V.int .i32 0)] 0 cs185)).drop 0 |>.take 2)).length <= 2) then
 (bd ((lsl (gv st8 5)))[n194]? fun es195 =>
 (bd (bop prog .add 3 (gv st8 6) (V.int .i64 1)) fun v196 =>
 (next10 [v187, (gv st8 1), (V.sl 2 (lsl (gv st8 2)) false), (V.sl 1 (lsl (gv st8 3)) false), (V.sl 2 (lsl (gv st8 4)) false), (V.sl 2 (((lsl (gv st8 5))).set n194 (setR es195 0 (((setR [(V.int .u8 5), (V.int .i32 0)] 0 cs185)).drop 0 |>.take 2))) false), v196, (V.bool false)] hh9))) else none) else none) else none))) else none))))) else none) else none))) else none)))
 else
 (bdS (nv (gv st8 6)) fun n197 =>
 (bd (idxP 1 n197 v6) fun p198 =>
 (bd3 (cellsP hh9 p198) fun cs200 m199 o201 => if (o201 + 1 <= m199 /\ 0 < 1) then
 (bd (cs200)[o201]? fun v202 =>
 (bdS (nv v202) fun n203 =>
 (if (2 = 2 /\ n203 < ((lsl (gv st8 5))).length /\ (some 99 : Option Nat) ≠ some 11) then
 (bd ((lsl (gv st8 5)))[n203]? fun es204 =>
 (bd (bop prog .add 3 (gv st8 6) (V.int .i64 1)) fun v205 =>
 (next10 [(gv st8 0), (gv st8 1), (V.sl 2 (lsl (gv st8 2)) false), (V.sl 1 (lsl (gv st8 3)) false), (V.sl 2 (lsl (gv st8 4)) false), (V.sl 2 (((lsl (gv st8 5))).set n203 (setR es204 0 [(V.int .u8 5), (V.int .i32 0)])) false), v205, (V.bool false)] hh9))) else none))) else none))))))))
 else
 (bd ((setR [(V.int .u8 0), (V.int .i32 0)] 0 ((cs23).drop o24 |>.take 2)))[0]? fun v206 =>
 (bd (bop prog .eql 5 v206 (V.int .u8 2)) fun v207 =>
 (bv v207 fun b208 => if b208 then
 (bd (idxP 2 0 (gv st8 0)) fun p209 =>
 (bd (addP 0 p209) fun p210 =>
 (bd3 (cellsP hh9 p210) fun cs212 m211 o213 => if (o213 + 1 <= m211 /\ 0 < 1) then
 (bd (cs212)[o213]? fun v214 =>
 (bd (bldV prog 34 [(0, (V.int .u8 2)), (1, v214)]) fun cs215 =>
 (if (cs215).length = 2 then
 (if ((cs215).length <= 2) then
 (bd (lenP (gv st8 0)) fun n216 =>
 (bd (sliceP 2 1 n216 (none : Option Nat) true (gv st8 0)) fun v217 =>
 (bdS (nv (gv st8 6)) fun n218 =>
 (bd (idxP 1 n218 v6) fun p219 =>
 (bd3 (cellsP hh9 p219) fun cs221 m220 o222 => if (o222 + 1 <= m220 /\ 0 < 1) then
 (bd (cs221)[o222]? fun v223 =>
 (bdS (nv v223) fun n224 =>
 (if (2 = 2 /\ n224 < ((lsl (gv st8 5))).length /\ (some 99 : Option Nat) ≠ some 11) then
 (if ((((setR [(V.int .u8 5), (V.int .i32 0)] 0 cs215)).drop 0 |>.take 2)).length = 2 then
 (if (2 = 2 /\ 0 < 2 /\ 0 + ((((setR [(V.int .u8 5), (V.int .i32 0)] 0 cs215)).drop 0 |>.take 2)).length <= 2) then
 (bd ((lsl (gv st8 5)))[n224]? fun es225 =>
 (bd (bop prog .add 3 (gv st8 6) (V.int .i64 1)) fun v226 =>
 (next10 [v217, (gv st8 1), (V.sl 2 (lsl (gv st8 2)) false), (V.sl 1 (lsl (gv st8 3)) false), (V.sl 2 (lsl (gv st8 4)) false), (V.sl 2 (((lsl (gv st8 5))).set n224 (setR es225 0 (((setR [(V.int .u8 5), (V.int .i32 0)] 0 cs215)).drop 0 |>.take 2))) false), v226, (V.bool false)] hh9))) else none) else none) else none))) else none))))) else none) else none))) else none)))
 else
 (bdS (nv (gv st8 6)) fun n227 =>
 (bd (idxP 1 n227 v6) fun p228 =>
 (bd3 (cellsP hh9 p228) fun cs230 m229 o231 => if (o231 + 1 <= m229 /\ 0 < 1) then
 (bd (cs230)[o231]? fun v232 =>
 (bdS (nv v232) fun n233 =>
 (if (2 = 2 /\ n233 < ((lsl (gv st8 5))).length /\ (some 99 : Option Nat) ≠ some 11) then
 (bd ((lsl (gv st8 5)))[n233]? fun es234 =>
 (bd (bop prog .add 3 (gv st8 6) (V.int .i64 1)) fun v235 =>
 (next10 [(gv st8 0), (gv st8 1), (V.sl 2 (lsl (gv st8 2)) false), (V.sl 1 (lsl (gv st8 3)) false), (V.sl 2 (lsl (gv st8 4)) false), (V.sl 2 (((lsl (gv st8 5))).set n233 (setR es234 0 [(V.int .u8 5), (V.int .i32 0)])) false), v235, (V.bool false)] hh9))) else none))) else none))))))))))))))) else none) else none) else none)))) else none)))
 else
 some (Res.ret [(gv st8 0), (gv st8 1), (V.sl 2 (lsl (gv st8 5)) false)], hh9))))
noncomputable def r11Apply (n : Nat) (m : Int) (s : V) (bits : V) (l : V) (h : Heap) : Option (Res × Heap) :=
 (bd (slcH h l) fun p0 =>
 (bdS (nv (V.int .i64 ((p0.2).length : Int))) fun n1 =>
 (bdS (nv (V.int .i64 ((p0.2).length : Int))) fun n2 =>
 (if (n1 = n2 /\ n1 < lim /\ 2 = 2) then
 (cl (call n 49 [(V.int .u8 3), l] h) (fun r3 h4 =>
 (one1 r3 fun v6 =>
 (loopx n (r11Apply_l7 n m l v6) [s, bits, (V.sl 2 [] false), (V.sl 1 [] false), (V.sl 2 [] false), (V.sl 2 (List.replicate n1 [(V.int .u8 0), (V.int .i32 0)]) false), (V.int .i64 0), (V.bool false)] h4))) (fun z5 h4 => some (Res.pan z5, h4))) else none))))
theorem r11Apply_eq (n : Nat) (m : Int) (s : V) (bits : V) (l : V) (h : Heap) : call (n + 1) 46 [(V.int .i64 m), s, bits, l] h = r11Apply n m s bits l h := by kernel_rfl
noncomputable def lwdoes_l82 (n : Nat) (v3 : V) (v7 : V) (st35 : List V) (next37 : List V -> Heap -> Option (Res × Heap)) (v45 : V) (v46 : V) (st83 : List V) (hh84 : Heap) (next85 : List V -> Heap -> Option (Res × Heap)) : Option (Res × Heap) :=
 (bd (bop prog .leq 3 (gv st83 1) (V.int .i64 8)) fun v86 =>
 (bv v86 fun b87 => if b87 then
 (cl (call n 40 [v3, (gv st83 1)] hh84) (fun r88 h89 =>
 (one1 r88 fun v91 =>
 (cl (call n 48 [v45, (gv st83 1)] h89) (fun r92 h93 =>
 (one1 r92 fun v95 =>
 (cl (call n 23 [v91, v95] h93) (fun r96 h97 =>
 (one1 r96 fun v99 =>
 (bd (uop .not v99) fun v100 =>
 (bv v100 fun b101 => if b101 then
 some (Res.ret [(V.bool false)], h97)
 else
 (cl (call n 40 [v7, (gv st83 1)] h97) (fun r102 h103 =>
 (one1 r102 fun v105 =>
 (cl (call n 48 [v45, (gv st83 1)] h103) (fun r106 h107 =>
 (one1 r106 fun v109 =>
 (cl (call n 23 [v105, v109] h107) (fun r110 h111 =>
 (one1 r110 fun v113 =>
 (bd (uop .not v113) fun v114 =>
 (bv v114 fun b115 => if b115 then
 some (Res.ret [(V.bool false)], h111)
 else
 (bd (bop prog .add 3 (gv st83 1) (V.int .i64 1)) fun v116 =>
 (next85 [(gv st83 0), v116] h111)))))) (fun z112 h111 => some (Res.pan z112, h111))))) (fun z108 h107 => some (Res.pan z108, h107))))) (fun z104 h103 => some (Res.pan z104, h103))))))) (fun z98 h97 => some (Res.pan z98, h97))))) (fun z94 h93 => some (Res.pan z94, h93))))) (fun z90 h89 => some (Res.pan z90, h89)))
 else
 (bd (bop prog .add 3 (gv st35 3) (V.int .i64 1)) fun v117 =>
 (next37 [(gv st83 0), v45, v46, v117] hh84))))
noncomputable def lwdoes_l158 (n : Nat) (v3 : V) (v7 : V) (st35 : List V) (next37 : List V -> Heap -> Option (Res × Heap)) (v121 : V) (v122 : V) (st159 : List V) (hh160 : Heap) (next161 : List V -> Heap -> Option (Res × Heap)) : Option (Res × Heap) :=
 (bd (bop prog .leq 3 (gv st159 1) (V.int .i64 8)) fun v162 =>
 (bv v162 fun b163 => if b163 then
 (cl (call n 40 [v3, (gv st159 1)] hh160) (fun r164 h165 =>
 (one1 r164 fun v167 =>
 (cl (call n 48 [v121, (gv st159 1)] h165) (fun r168 h169 =>
 (one1 r168 fun v171 =>
 (cl (call n 23 [v167, v171] h169) (fun r172 h173 =>
 (one1 r172 fun v175 =>
 (bd (uop .not v175) fun v176 =>
 (bv v176 fun b177 => if b177 then
 some (Res.ret [(V.bool false)], h173)
 else
 (cl (call n 40 [v7, (gv st159 1)] h173) (fun r178 h179 =>
 (one1 r178 fun v181 =>
 (cl (call n 48 [v121, (gv st159 1)] h179) (fun r182 h183 =>
 (one1 r182 fun v185 =>
 (cl (call n 23 [v181, v185] h183) (fun r186 h187 =>
 (one1 r186 fun v189 =>
 (bd (uop .not v189) fun v190 =>
 (bv v190 fun b191 => if b191 then
 some (Res.ret [(V.bool false)], h187)
 else
 (bd (bop prog .add 3 (gv st159 1) (V.int .i64 1)) fun v192 =>
 (next161 [(gv st159 0), v192] h187)))))) (fun z188 h187 => some (Res.pan z188, h187))))) (fun z184 h183 => some (Res.pan z184, h183))))) (fun z180 h179 => some (Res.pan z180, h179))))))) (fun z174 h173 => some (Res.pan z174, h173))))) (fun z170 h169 => some (Res.pan z170, h169))))) (fun z166 h165 => some (Res.pan z166, h165)))
 else
 (bd (bop prog .add 3 (gv st35 3) (V.int .i64 1)) fun v193 =>
 (next37 [(gv st159 0), v121, v122, v193] hh160))))
noncomputable def lwdoes_l34 (n : Nat) (m : Int) (a : V) (b : V) (v3 : V) (v7 : V) (v11 : V) (v15 : V) (st35 : List V) (hh36 : Heap) (next37 : List V -> Heap -> Option (Res × Heap)) : Option (Res × Heap) :=
 (bd (bop prog .lss 3 (gv st35 3) (V.int .i64 2)) fun v38 =>
 (bv v38 fun b39 => if b39 then
 (bd (bop prog .eql 3 (gv st35 3) (V.int .i64 1)) fun v40 =>
 (bv v40 fun b41 => if b41 then
 (cl (call n 46 [(V.int .i64 m), (gv st35 1), (gv st35 2), b] hh36) (fun r42 h43 =>
 (bd (r42)[0]? fun v45 =>
 (bd (r42)[1]? fun v46 =>
 (bd (r42)[2]? fun v47 =>
 (cl (call n 18 [v3, v11, b] h43) (fun r48 h49 =>
 (one1 r48 fun v51 =>
 (cl (call n 31 [v51, v47] h49) (fun r52 h53 =>
 (one1 r52 fun v55 =>
 (bd (uop .not v55) fun v56 =>
 (bv v56 fun b57 => if b57 then
 some (Res.ret [(V.bool false)], h53)
 else
 (cl (call n 47 [v7, v15, b] h53) (fun r58 h59 =>
 (one1 r58 fun v61 =>
 (cl (call n 31 [v61, v47] h59) (fun r62 h63 =>
 (one1 r62 fun v65 =>
 (bd (uop .not v65) fun v66 =>
 (bv v66 fun b67 => if b67 then
 some (Res.ret [(V.bool false)], h63)
 else
 (cl (call n 20 [v11] h63) (fun r68 h69 =>
 (one1 r68 fun v71 =>
 (bd (slcH h69 v46) fun p72 =>
 (bd (bop prog .neq 3 v71 (V.int .i64 ((p72.2).length : Int))) fun v73 =>
 (bv v73 fun b74 => if b74 then
 some (Res.ret [(V.bool false)], h69)
 else
 (cl (call n 20 [v15] h69) (fun r75 h76 =>
 (one1 r75 fun v78 =>
 (bd (slcH h76 v46) fun p79 =>
 (bd (bop prog .neq 3 v78 (V.int .i64 ((p79.2).length : Int))) fun v80 =>
 (bv v80 fun b81 => if b81 then
 some (Res.ret [(V.bool false)], h76)
 else
 (loopx n (lwdoes_l82 n v3 v7 st35 next37 v45 v46) [(gv st35 0), (V.int .i64 1)] h76)))))) (fun z77 h76 => some (Res.pan z77, h76)))))))) (fun z70 h69 => some (Res.pan z70, h69))))))) (fun z64 h63 => some (Res.pan z64, h63))))) (fun z60 h59 => some (Res.pan z60, h59))))))) (fun z54 h53 => some (Res.pan z54, h53))))) (fun z50 h49 => some (Res.pan z50, h49))))))) (fun z44 h43 => some (Res.pan z44, h43)))
 else
 (cl (call n 46 [(V.int .i64 m), (gv st35 1), (gv st35 2), a] hh36) (fun r118 h119 =>
 (bd (r118)[0]? fun v121 =>
 (bd (r118)[1]? fun v122 =>
 (bd (r118)[2]? fun v123 =>
 (cl (call n 18 [v3, v11, a] h119) (fun r124 h125 =>
 (one1 r124 fun v127 =>
 (cl (call n 31 [v127, v123] h125) (fun r128 h129 =>
 (one1 r128 fun v131 =>
 (bd (uop .not v131) fun v132 =>
 (bv v132 fun b133 => if b133 then
 some (Res.ret [(V.bool false)], h129)
 else
 (cl (call n 47 [v7, v15, a] h129) (fun r134 h135 =>
 (one1 r134 fun v137 =>
 (cl (call n 31 [v137, v123] h135) (fun r138 h139 =>
 (one1 r138 fun v141 =>
 (bd (uop .not v141) fun v142 =>
 (bv v142 fun b143 => if b143 then
 some (Res.ret [(V.bool false)], h139)
 else
 (cl (call n 20 [v11] h139) (fun r144 h145 =>
 (one1 r144 fun v147 =>
 (bd (slcH h145 v122) fun p148 =>
 (bd (bop prog .neq 3 v147 (V.int .i64 ((p148.2).length : Int))) fun v149 =>
 (bv v149 fun b150 => if b150 then
 some (Res.ret [(V.bool false)], h145)
 else
 (cl (call n 20 [v15] h145) (fun r151 h152 =>
 (one1 r151 fun v154 =>
 (bd (slcH h152 v122) fun p155 =>
 (bd (bop prog .neq 3 v154 (V.int .i64 ((p155.2).length : Int))) fun v156 =>
 (bv v156 fun b157 => if b157 then
 some (Res.ret [(V.bool false)], h152)
 else
 (loopx n (lwdoes_l158 n v3 v7 st35 next37 v121 v122) [(gv st35 0), (V.int .i64 1)] h152)))))) (fun z153 h152 => some (Res.pan z153, h152)))))))) (fun z146 h145 => some (Res.pan z146, h145))))))) (fun z140 h139 => some (Res.pan z140, h139))))) (fun z136 h135 => some (Res.pan z136, h135))))))) (fun z130 h129 => some (Res.pan z130, h129))))) (fun z126 h125 => some (Res.pan z126, h125))))))) (fun z120 h119 => some (Res.pan z120, h119)))))
 else
 (cl (call n 33 [a] hh36) (fun r194 h195 =>
 (one1 r194 fun v197 =>
 (cl (call n 49 [(V.int .u8 3), a] h195) (fun r198 h199 =>
 (one1 r198 fun v201 =>
 (cl (call n 32 [v197, v201] h199) (fun r202 h203 =>
 (one1 r202 fun v205 =>
 some (Res.ret [v205], h203))) (fun z204 h203 => some (Res.pan z204, h203))))) (fun z200 h199 => some (Res.pan z200, h199))))) (fun z196 h195 => some (Res.pan z196, h195)))))
noncomputable def lwdoes (n : Nat) (m : Int) (bits : V) (a : V) (b : V) (h : Heap) : Option (Res × Heap) :=
 (cl (call n 15 [(V.int .i64 m)] h) (fun r0 h1 =>
 (one1 r0 fun v3 =>
 (cl (call n 15 [(V.int .i64 m)] h1) (fun r4 h5 =>
 (one1 r4 fun v7 =>
 (cl (call n 16 [] h5) (fun r8 h9 =>
 (one1 r8 fun v11 =>
 (cl (call n 16 [] h9) (fun r12 h13 =>
 (one1 r12 fun v15 =>
 (bd (bopH prog h13 .eql 26 v3 (V.val (.pointer none))) fun v16 =>
 (bv v16 fun b17 => if b17 then
 some (Res.ret [(V.bool false)], h13)
 else
 (bd (bopH prog h13 .eql 26 v7 (V.val (.pointer none))) fun v18 =>
 (bv v18 fun b19 => if b19 then
 some (Res.ret [(V.bool false)], h13)
 else
 (bd (bopH prog h13 .eql 28 v11 (V.val (.pointer none))) fun v20 =>
 (bv v20 fun b21 => if b21 then
 some (Res.ret [(V.bool false)], h13)
 else
 (bd (bopH prog h13 .eql 28 v15 (V.val (.pointer none))) fun v22 =>
 (bv v22 fun b23 => if b23 then
 some (Res.ret [(V.bool false)], h13)
 else
 (cl (call n 17 [v11, bits] h13) (fun r24 h25 =>
 (cl (call n 17 [v15, bits] h25) (fun r27 h28 =>
 (cl (call n 45 [(V.sl 0 [] true), bits] h28) (fun r30 h31 =>
 (one1 r30 fun v33 =>
 (loopx n (lwdoes_l34 n m a b v3 v7 v11 v15) [(V.bool false), (V.sl 2 [] false), v33, (V.int .i64 0)] h31))) (fun z32 h31 => some (Res.pan z32, h31)))) (fun z29 h28 => some (Res.pan z29, h28)))) (fun z26 h25 => some (Res.pan z26, h25))))))))))))) (fun z14 h13 => some (Res.pan z14, h13))))) (fun z10 h9 => some (Res.pan z10, h9))))) (fun z6 h5 => some (Res.pan z6, h5))))) (fun z2 h1 => some (Res.pan z2, h1)))
theorem lwdoes_eq (n : Nat) (m : Int) (bits : V) (a : V) (b : V) (h : Heap) : call (n + 1) 24 [(V.int .i64 m), bits, a, b] h = lwdoes n m bits a b h := by kernel_rfl
noncomputable def lwDoes (n : Nat) (x0 : Int) (x1 : Int) (x2 : List (List V)) (x2b : Bool) (x3 : List (List V)) (x3b : Bool) (x4 : List (List V)) (x4b : Bool) (x5 : List (List V)) (x5b : Bool) (x6 : List (List V)) (x6b : Bool) : Option (Res × Heap) :=
 (if (decide ((IntKind.i64.wrap ((IntKind.i64.wrap ((IntKind.i64.wrap ((IntKind.i64.wrap (((x2).length : Int) + ((x3).length : Int))) + ((x4).length : Int))) + ((x5).length : Int))) + ((x6).length : Int))) > 200)) then
 (cl (call n 13 [] []) (fun r0 h1 =>
 (one1 r0 fun v3 =>
 some (Res.ret [v3], h1))) (fun z2 h1 => some (Res.pan z2, h1)))
 else
 (cl (call n 13 [] []) (fun r4 h5 =>
 (one1 r4 fun v7 =>
 (bd (uop .not v7) fun v8 =>
 (bv v8 fun b9 => if b9 then
 (cl (call n 13 [] h5) (fun r10 h11 =>
 (one1 r10 fun v13 =>
 some (Res.ret [v13], h11))) (fun z12 h11 => some (Res.pan z12, h11)))
 else
 (cl (call n 24 [(V.int .i64 x0), (V.sl 1 x2 x2b), (V.sl 2 x3 x3b), (V.sl 2 x4 x4b)] h5) (fun r14 h15 =>
 (one1 r14 fun v17 =>
 (bv v17 fun b18 => if b18 then
 (cl (call n 14 [(V.sl 1 x5 x5b), (V.int .u8 3)] h15) (fun r19 h20 =>
 (one1 r19 fun v22 =>
 (cl (call n 14 [(V.sl 1 x6 x6b), (V.int .u8 2)] h20) (fun r23 h24 =>
 (one1 r23 fun v26 =>
 (cl (call n 24 [(V.int .i64 (IntKind.i64.wrap (Int.tmod x1 9))), (V.sl 1 x2 x2b), v22, v26] h24) (fun r27 h28 =>
 (one1 r27 fun v30 =>
 (bv v30 fun b31 => if b31 then
 (cl (call n 14 [(V.sl 1 x5 x5b), (V.int .u8 2)] h28) (fun r32 h33 =>
 (one1 r32 fun v35 =>
 (cl (call n 24 [(V.int .i64 (IntKind.i64.wrap (Int.tmod x1 30))), (V.sl 1 x2 x2b), v35, (V.sl 2 x3 x3b)] h33) (fun r36 h37 =>
 (one1 r36 fun v39 =>
 some (Res.ret [v39], h37))) (fun z38 h37 => some (Res.pan z38, h37))))) (fun z34 h33 => some (Res.pan z34, h33)))
 else
 some (Res.ret [(V.bool false)], h28)))) (fun z29 h28 => some (Res.pan z29, h28))))) (fun z25 h24 => some (Res.pan z25, h24))))) (fun z21 h20 => some (Res.pan z21, h20)))
 else
 some (Res.ret [(V.bool false)], h15)))) (fun z16 h15 => some (Res.pan z16, h15))))))) (fun z6 h5 => some (Res.pan z6, h5))))
theorem lwDoes_eq (n : Nat) (x0 : Int) (x1 : Int) (x2 : List (List V)) (x2b : Bool) (x3 : List (List V)) (x3b : Bool) (x4 : List (List V)) (x4b : Bool) (x5 : List (List V)) (x5b : Bool) (x6 : List (List V)) (x6b : Bool) (h : Heap) : call (n + 1) 7 [(V.int .i64 x0), (V.int .u8 x1), (V.sl 1 x2 x2b), (V.sl 2 x3 x3b), (V.sl 2 x4 x4b), (V.sl 1 x5 x5b), (V.sl 1 x6 x6b)] h = gcw [(V.int .i64 x0), (V.int .u8 x1), (V.sl 1 x2 x2b), (V.sl 2 x3 x3b), (V.sl 2 x4 x4b), (V.sl 1 x5 x5b), (V.sl 1 x6 x6b)] (lwDoes n x0 x1 x2 x2b x3 x3b x4 x4b x5 x5b x6 x6b) h := by kernel_rfl
end Go.Proofs.Try
set_option linter.unusedVariables false
set_option linter.unusedSimpArgs false
namespace Go.Proofs.Try
open Go.L Go.Rp Go.Sk
set_option maxRecDepth 100000
def itW (p : Int × Nat) : List V := [.int .i32 p.1, .int .i64 (p.2 : Int)]
abbrev slI (I : List (Int × Nat)) : V := .sl 2 (I.map itW) false
abbrev slB (B : List Bool) : V := .sl 1 (B.map boolV) false
theorem cvt_uint (i : Nat) (hi : i <= 8) : cvt prog 3 124 (.int .i64 (i : Int)) = some (.int .u64 (i : Int)) := by
  have e : cvt prog 3 124 (.int .i64 (i : Int)) = some (.int .u64 (IntKind.u64.wrap (i : Int))) := by kernel_rfl
  rw [e]
  have : IntKind.u64.wrap (i : Int) = (i : Int) := by
    unfold IntKind.wrap
    simp [IntKind.bits, IntKind.signed]
    omega
  rw [this]
theorem bop_u8_shru (a : Int) (i : Nat) (hi : i <= 8) : bop prog .shr 5 (.int .u8 a) (.int .u64 (i : Int)) = some (.int .u8 (a.fdiv (2 ^ i))) := by
  have e : bop prog .shr 5 (.int .u8 a) (.int .u64 (i : Int)) = bopS .shr .u8 a (i : Int) := by kernel_rfl
  rw [e]
  unfold bopS
  rw [if_neg (by omega)]
  simp only [Int.toNat_natCast]
  rw [Nat.min_eq_left (by exact hi)]
theorem bit_rem {y : Int} (h0 : 0 <= y) (i : Nat) : (Int.tmod (y.fdiv (2 ^ i)) 2 == (1 : Int)) = bitAt y i := by
  obtain ⟨m, rfl⟩ : ∃ m : Nat, y = (m : Int) := ⟨y.toNat, (Int.toNat_of_nonneg h0).symm⟩
  have hp : ((2 : Int) ^ i) = ((2 ^ i : Nat) : Int) := by simp
  have hf : (m : Int).fdiv (2 ^ i) = ((m / 2 ^ i : Nat) : Int) := by rw [hp, Int.fdiv_eq_ediv_of_nonneg _ (Int.natCast_nonneg _)]; rfl
  rw [hf, Int.tmod_eq_emod_of_nonneg (Int.natCast_nonneg _)]
  unfold bitAt
  rw [Int.toNat_natCast]
  generalize m / 2 ^ i = q
  by_cases h : q % 2 = 1
  · simp [h]; omega
  · have h' : q % 2 = 0 := by omega
    simp [h']; omega
theorem app_bool (l : List Bool) (x : Bool) (h : l.length + 1 < lim) : app 4 1 (S.own 4 1 (l.map boolV)) [[.bool x]] = some ((l ++ [x]).map boolV) := by
  simp [app, h, boolV]
theorem r6feed_inner (n : Nat) (bs : List Int) (bb : Bool) {h : Heap} (v0 : V) (k : Nat) (hk : k < bs.length) {y : Int} (hy : bs[k]? = some y) (y0 : 0 <= y) (u0 u1 u3 : V) (hkl : k < lim) (next5 : List V -> Heap -> Option (Res × Heap)) : ∀ (d i M : Nat) (out : List Bool), i + d = 8 -> d < M -> out.length + d <= 20000 →
    loopx M (r6Feed_l9 n (.sl 1 (bs.map (intV .u8)) bb) [u0, u1, .int .i64 (k : Int), u3] next5) [.sl 1 [] false, slB out, .int .i64 (i : Int), .bool false] h = next5 [.sl 1 [] false, slB (out ++ ((List.range 8).drop i).map (bitAt y)), .int .i64 ((k + 1 : Nat) : Int), .bool false] h := by
  intro d
  induction d with
  | zero =>
    intro i M out h1 h2 h3
    obtain ⟨M, rfl⟩ : ∃ M', M = M' + 1 := ⟨M - 1, by omega⟩
    obtain rfl : i = 8 := by omega
    rw [loopx_succ]
    unfold r6Feed_l9
    simp only [gv, List.getD_cons_zero, List.getD_cons_succ, bop_i64_lss, bd_some, bv_bool]
    rw [if_neg (by decide), bop_i64_add, bd_some, step64 hkl]
    rw [show (List.range 8).drop 8 = [] from rfl]
    simp [lsl]
  | succ d ih =>
    intro i M out h1 h2 h3
    obtain ⟨M, rfl⟩ : ∃ M', M = M' + 1 := ⟨M - 1, by omega⟩
    have hlt : decide ((i : Int) < 8) = true := by simp; omega
    have hyv : (bs.map (intV .u8))[k]? = some [.int .u8 y] := by rw [List.getElem?_map, hy]; rfl
    have hout : decide (((out.map boolV).length : Int) < 20000) = true := by simp; omega
    have key : ∀ next, r6Feed_l9 n (.sl 1 (bs.map (intV .u8)) bb) [u0, u1, .int .i64 (k : Int), u3] next5 [.sl 1 [] false, slB out, .int .i64 (i : Int), .bool false] h next = next [.sl 1 [] false, slB (out ++ [bitAt y i]), .int .i64 ((i + 1 : Nat) : Int), .bool false] h := by
      intro next
      unfold r6Feed_l9
      simp only [gv, List.getD_cons_zero, List.getD_cons_succ, bop_i64_lss, bd_some, bv_bool, hlt, if_true, lsl, hout, nv_nat, bdS_some, idxP_sl hyv, cellsP_iptr, bd3_some, Nat.zero_add, Nat.le_refl, Nat.reduceLT, and_self, List.getElem?_cons_zero]
      rw [cvt_uint i (by omega), bd_some, bop_u8_shru y i (by omega), bd_some, bop_u8_rem (by decide), bd_some, bop_u8_eql1, bd_some, bit_rem y0, bsl_bool, bd_some]
      simp only
      rw [app_bool _ _ (by unfold lim; omega), bd_some, bop_i64_add, bd_some, step64 (show i < lim by unfold lim; omega)]
    have hd : (List.range 8).drop i = i :: (List.range 8).drop (i + 1) := by
      rw [List.drop_eq_getElem_cons (by simp; omega)]
      simp
    rw [loopx_succ, key, ih (i + 1) M (out ++ [bitAt y i]) (by omega) (by omega) (by simp; omega), hd]
    simp
theorem r6feed_call (n : Nat) (h : Heap) (bs : List Int) (bb : Bool) (hs : small bs = true) (hl : 8 * bs.length <= 20000) (hn : bs.length + 8 < n) :
    call (n + 1) 45 [.sl 0 [] true, .sl 1 (bs.map (intV .u8)) bb] h = some (.ret [slB (bs.flatMap bitsOf)], h) := by
  have loop : ∀ (d k M : Nat) (out : List Bool), k + d = bs.length -> d < M -> out.length + 8 * d <= 20000 -> loopx M (r6Feed_l2 n (.sl 1 (bs.map (intV .u8)) bb)) [.sl 1 [] false, slB out, .int .i64 (k : Int), .bool false] h = some (.ret [slB (out ++ (bs.drop k).flatMap bitsOf)], h) := by
    intro d
    induction d with
    | zero =>
      intro k M out h1 h2 h3
      obtain ⟨M, rfl⟩ : ∃ M', M = M' + 1 := ⟨M - 1, by omega⟩
      obtain rfl : k = bs.length := by omega
      rw [loopx_succ]
      unfold r6Feed_l2
      simp only [gv, List.getD_cons_zero, List.getD_cons_succ, slcH_sl, List.length_map, bop_i64_lss, bd_some, bv_bool]
      rw [if_neg (by simp), List.drop_length]
      simp [lsl]
    | succ d ih =>
      intro k M out h1 h2 h3
      obtain ⟨M, rfl⟩ : ∃ M', M = M' + 1 := ⟨M - 1, by omega⟩
      have hlt : decide ((k : Int) < (bs.length : Int)) = true := by simp; omega
      obtain ⟨y, hy⟩ : ∃ y, bs[k]? = some y := ⟨_, List.getElem?_eq_getElem (by omega)⟩
      have hy2 := small_len hs y (List.mem_of_getElem? hy)
      have key : ∀ next, r6Feed_l2 n (.sl 1 (bs.map (intV .u8)) bb) [.sl 1 [] false, slB out, .int .i64 (k : Int), .bool false] h next = next [.sl 1 [] false, slB (out ++ bitsOf y), .int .i64 ((k + 1 : Nat) : Int), .bool false] h := by
        intro next
        unfold r6Feed_l2
        simp only [gv, List.getD_cons_zero, List.getD_cons_succ, slcH_sl, List.length_map, bop_i64_lss, bd_some, bv_bool, hlt, if_true, lsl]
        exact r6feed_inner n bs bb (.sl 1 [] false) k (by omega) hy hy2.1 _ _ _ (by unfold lim; omega) next 8 0 n out (by omega) (by omega) (by omega)
      rw [loopx_succ, key, ih (k + 1) M _ (by omega) (by omega) (by simp [bitsOf]; omega)]
      have hd : bs.drop k = y :: bs.drop (k + 1) := by
        rw [List.drop_eq_getElem_cons (by omega)]
        rw [List.getElem?_eq_getElem (by omega)] at hy
        rw [Option.some.inj hy]
      rw [hd, List.flatMap_cons, List.append_assoc]
  refine (r6Feed_eq n _ _ h).trans ?_
  unfold r6Feed
  rw [slcH_sl, bdS_some, if_pos (by first | exact ⟨rfl, .inr rfl⟩ | exact ⟨trivial, .inr rfl⟩)]
  have ha : app 4 1 (S.own 4 1 []) [] = some ([] : List (List V)) := rfl
  rw [ha, bd_some]
  exact loop bs.length 0 n [] (by omega) (by omega) (by simp; omega)
theorem r6toss_call (n : Nat) (h : Heap) (B : List Bool) : call (n + 1) 85 [slB B] h = some (.ret [slB B.tail, .bool (B.headD false)], h) := by
  refine (r6Toss_eq n _ h).trans ?_
  unfold r6Toss
  rw [slcH_sl, bd_some]
  cases B with
  | nil => rfl
  | cons x r =>
    have hx : ((x :: r).map boolV)[0]? = some [.bool x] := rfl
    rw [if_neg (by simp; omega), lenP_sl, bd_some, slPz (.inl rfl) (by simp) (Nat.le_refl _), bd_some, idxP_sl hx, bd_some, cellsP_iptr, bd3_some, if_pos (by decide)]
    simp only [List.getElem?_cons_zero, bd_some, List.take_length]
    rfl
theorem r6height_loop (n : Nat) (h : Heap) (v1 v2 : V) : ∀ (B : List Bool) (k M : Nat), 1 <= k -> k <= 8 -> 8 < M + k →
    loopx M (r6Height_l0 (n + 1)) [slB B, v1, v2, .int .i64 (k : Int)] h = some (.ret [slB (hgt k B).2, .int .i64 ((hgt k B).1 : Int)], h) := by
  intro B
  induction B with
  | nil =>
    intro k M h1 h2 h3
    obtain ⟨M, rfl⟩ : ∃ M', M = M' + 1 := ⟨M - 1, by omega⟩
    rw [loopx_succ]
    unfold r6Height_l0
    simp only [gv, List.getD_cons_zero, List.getD_cons_succ, bop_i64_lss, bd_some, bv_bool]
    by_cases h8 : k = 8
    · subst h8
      rw [if_neg (by decide)]
      rfl
    · rw [if_pos (by simp; omega), r6toss_call, cl_ret]
      simp only [List.getElem?_cons_zero, List.getElem?_cons_succ, bd_some, List.headD_nil, uop_not, bv_bool]
      rfl
  | cons b r ih =>
    intro k M h1 h2 h3
    obtain ⟨M, rfl⟩ : ∃ M', M = M' + 1 := ⟨M - 1, by omega⟩
    rw [loopx_succ]
    unfold r6Height_l0
    simp only [gv, List.getD_cons_zero, List.getD_cons_succ, bop_i64_lss, bd_some, bv_bool]
    by_cases h8 : k = 8
    · subst h8
      rw [if_neg (by decide), hgt, if_pos rfl]
    · rw [if_pos (by simp; omega), r6toss_call, cl_ret]
      simp only [List.getElem?_cons_zero, List.getElem?_cons_succ, bd_some, List.headD_cons, List.tail_cons, uop_not, bv_bool]
      rw [hgt, if_neg h8]
      cases b with
      | false => rfl
      | true =>
        rw [if_neg (by decide), if_pos rfl, bop_i64_add, bd_some, step64 (show k < lim by unfold lim; omega)]
        exact ih (k + 1) M (by omega) (by omega) (by omega)
theorem r6height_call (n : Nat) (h : Heap) (B : List Bool) (hn : 8 <= n) : call (n + 2) 67 [slB B] h = some (.ret [slB (hgt 1 B).2, .int .i64 ((hgt 1 B).1 : Int)], h) := by
  refine (r6Height_eq (n + 1) _ h).trans ?_
  unfold r6Height
  exact r6height_loop n h _ _ B 1 (n + 1) (by omega) (by omega) (by omega)
theorem get_it (I : List (Int × Nat)) (i : Nat) : (I.map itW)[i]? = (I[i]?).map itW := List.getElem?_map
theorem app_it (a b : List (Int × Nat)) (h : a.length + b.length < lim) : app 131 2 (.own 131 2 (a.map itW)) (b.map itW) = some ((a ++ b).map itW) := by
  simp [app, h]
theorem put_endI {H : Heap} {I : List (Int × Nat)} {a : Nat} {p : Int × Nat} {w : List V} {N : List (List V) -> Option (Res × Heap)} {c1 c2 : Nat × List (List V) -> Prop} {d1 : ∀ p, Decidable (c1 p)} {d2 : ∀ p, Decidable (c2 p)} (h1 : ∀ p, p.1 = 2 -> c1 p) (h2 : ∀ p, p.1 = 2 -> c2 p) (hw : w = itW p) (ha : a <= I.length) (hl : I.length + 2 < lim) :
    (bd (lenP (slI I)) fun n24 =>
     (bdS (nv (V.int .i64 (a : Int))) fun n25 =>
     (bd (sliceP 2 0 n25 (none : Option Nat) true (slI I)) fun v26 =>
     (bdS (slcH H v26) fun p27 =>
     (if c1 p27 then
     (bd (app 131 2 (S.own 131 2 []) p27.2) fun l28 =>
     (bd (app 131 2 (S.own 131 2 l28) [w]) fun l29 =>
     (bd (lenP (slI I)) fun n30 =>
     (bdS (nv (V.int .i64 (a : Int))) fun n31 =>
     (bd (sliceP 2 n31 n30 (none : Option Nat) true (slI I)) fun v32 =>
     (bdS (slcH H v32) fun p33 =>
     (if c2 p33 then
     (bd (app 131 2 (S.own 131 2 l29) p33.2) fun l34 => N l34) else none))))))) else none))))) = N ((I.take a ++ p :: I.drop a).map itW) := by
  subst hw
  have t1 : (I.take a).length <= I.length := by rw [List.length_take]; omega
  rw [lenP_sl, bd_some, nv_nat, bdS_some, slPz (.inl rfl) (Nat.zero_le _) (by rw [List.length_map]; exact ha), bd_some, slcH_sl, bdS_some, if_pos (h1 _ rfl)]
  simp only [List.drop_zero]
  rw [<- List.map_take]
  have a1 := app_it [] (I.take a) (by simp; omega)
  rw [List.map_nil, List.nil_append] at a1
  have a2 := app_it (I.take a) [p] (by simp; omega)
  rw [List.map_cons, List.map_nil] at a2
  rw [a1, bd_some, a2, bd_some, bd_some, bdS_some, slPz (.inl rfl) (by rw [List.length_map]; exact ha) (Nat.le_refl _), bd_some, slcH_sl, bdS_some, if_pos (h2 _ rfl)]
  simp only [List.take_length]
  rw [<- List.map_drop, app_it _ _ (by simp; omega), bd_some]
  simp
theorem insI_at {s : List (Int × Nat)} {v : Int} {T a : Nat} (h1 : ∀ y ∈ s.take a, y.1 <= v) (h2 : ∀ y, s[a]? = some y -> ¬ y.1 <= v) : s.take a ++ (v, T) :: s.drop a = insI s v T := by
  unfold insI
  have e : s = s.take a ++ s.drop a := (List.take_append_drop a s).symm
  have hd : (s.drop a).takeWhile (fun p => decide (p.1 <= v)) = [] /\ (s.drop a).dropWhile (fun p => decide (p.1 <= v)) = s.drop a := by
    cases hda : s.drop a with
    | nil => exact ⟨rfl, rfl⟩
    | cons y r =>
      have : s[a]? = some y := by
        have := congrArg (fun l => l[0]?) hda
        simpa [List.getElem?_drop] using this
      have hy := h2 y this
      exact ⟨List.takeWhile_cons_of_neg (by simpa using hy), List.dropWhile_cons_of_neg (by simpa using hy)⟩
  have h3 : s.takeWhile (fun p => decide (p.1 <= v)) = s.take a := by
    conv => lhs; rw [e]
    rw [List.takeWhile_append_of_pos (fun y hy => by simpa using h1 y hy), hd.1, List.append_nil]
  have h4 : s.dropWhile (fun p => decide (p.1 <= v)) = s.drop a := by
    conv => lhs; rw [e]
    rw [List.dropWhile_append_of_pos (fun y hy => by simpa using h1 y hy), hd.2]
  rw [h3, h4]
theorem clamp8 (k : Int) : (if 1 < (if 8 < k then 8 else k) then (if 8 < k then 8 else k) else (1 : Int)) = (hOf k : Int) := by
  unfold hOf
  split <;> split at * <;> omega
theorem r7insert_loop (n : Nat) (I : List (Int × Nat)) (v k : Int) (H : Heap) (hl : I.length + 2 < lim) : ∀ (d a M : Nat), a + d = I.length -> d < M -> (∀ y ∈ I.take a, y.1 <= v) →
    loopx M (r7Insert_l7 n (slI I) v k) [.sl 2 [] false, .int .i64 (a : Int)] H = some (.ret [slI (insI I v (hOf k)), .bool true], H) := by
  intro d
  induction d with
  | zero =>
    intro a M h1 h2 h3
    obtain ⟨M, rfl⟩ : ∃ M', M = M' + 1 := ⟨M - 1, by omega⟩
    obtain rfl : a = I.length := by omega
    rw [loopx_succ]
    unfold r7Insert_l7
    simp only [gv, List.getD_cons_succ, List.getD_cons_zero, slcH_sl, List.length_map, bop_i64_lss, bd_some, bv_bool, clamp8]
    rw [if_neg (by simp)]
    refine (put_endI (H := H) (I := I) (a := I.length) (p := (v, hOf k)) (N := fun l => some (Res.ret [.sl 2 l false, .bool true], H)) (fun p h => by simp [h]) (fun p h => by simp [h]) rfl (Nat.le_refl _) hl).trans ?_
    rw [insI_at h3 (fun y hy => by simp at hy)]
  | succ d ih =>
    intro a M h1 h2 h3
    obtain ⟨M, rfl⟩ : ∃ M', M = M' + 1 := ⟨M - 1, by omega⟩
    obtain ⟨x, hx⟩ : ∃ x, I[a]? = some x := ⟨_, List.getElem?_eq_getElem (by omega)⟩
    have hxv : (I.map itW)[a]? = some [.int .i32 x.1, .int .i64 (x.2 : Int)] := by rw [get_it, hx]; rfl
    have hlt : decide ((a : Int) < (I.length : Int)) = true := by simp; omega
    have key : ∀ next, r7Insert_l7 n (slI I) v k [.sl 2 [] false, .int .i64 (a : Int)] H next = if x.1 <= v then next [.sl 2 [] false, .int .i64 ((a + 1 : Nat) : Int)] H else some (.ret [slI (I.take a ++ (v, hOf k) :: I.drop a), .bool true], H) := by
      intro next
      unfold r7Insert_l7
      simp only [gv, List.getD_cons_succ, List.getD_cons_zero, slcH_sl, List.length_map, bop_i64_lss, bd_some, bv_bool, hlt, if_true, nv_nat, bdS_some, idxP_sl hxv, addP_iptr, cellsP_iptr, bd3_some, Nat.zero_add, Nat.add_zero, Nat.reduceLeDiff, Nat.reduceLT, and_self, List.getElem?_cons_zero, bop_i32_leq, clamp8]
      by_cases h : x.1 <= v
      · rw [if_pos (by simpa using h), if_pos h, bop_i64_add, bd_some, step64 (by omega)]
        rfl
      · rw [if_neg (by simpa using h), if_neg h]
        exact put_endI (H := H) (I := I) (a := a) (p := (v, hOf k)) (N := fun l => some (Res.ret [.sl 2 l false, .bool true], H)) (fun p h => by simp [h]) (fun p h => by simp [h]) rfl (by omega) hl
    rw [loopx_succ, key]
    by_cases h : x.1 <= v
    · rw [if_pos h]
      refine ih (a + 1) M (by omega) (by omega) fun y hy => ?_
      rw [List.take_add_one, hx] at hy
      rcases List.mem_append.1 hy with hy | hy
      · exact h3 y hy
      · simp at hy; rw [hy]; exact h
    · rw [if_neg h, insI_at h3 fun y hy => by rw [hx] at hy; cases hy; exact h]
theorem rmost_call (n : Nat) (m : Int) (H : Heap) : call (n + 1) 66 [.int .i64 m] H = some (.ret [.int .i64 (max 0 (min m 1000))], H) := by
  rw [rMost_eq]; unfold rMost; rw [clamp_eq]
theorem r7insert_call (n : Nat) (m : Int) (I : List (Int × Nat)) (v k : Int) (H : Heap) (hr : (I.length : Int) < max 0 (min m 1000)) (hl : I.length + 2 < lim) (hn : I.length < n + 1) :
    call (n + 2) 68 [.int .i64 m, slI I, .int .i32 v, .int .i64 k] H = some (.ret [slI (insI I v (hOf k)), .bool true], H) := by
  refine (r7Insert_eq (n + 1) m _ v k H).trans ?_
  unfold r7Insert
  rw [slcH_sl, bd_some, rmost_call, cl_ret, one1_one]
  simp only [List.length_map, bop_i64_geq, bd_some, bv_bool]
  rw [if_neg (by simp; omega)]
  exact r7insert_loop (n + 1) I v k H hl I.length 0 (n + 1) (by omega) (by omega) (by simp)
def lvI (k : Nat) (I : List (Int × Nat)) : List Int := (I.filter fun p => decide (k < p.2)).map (·.1)
theorem lvI_itT (k : Nat) (ts : List Tw) : lvV k ts = lvI k (itT ts) := by
  unfold lvV lvI itT
  rw [List.filter_map, List.map_map]
  rfl
theorem r7level_call (n : Nat) (I : List (Int × Nat)) (k : Nat) (hk : 1 <= k) (H : Heap) (hl : I.length + 2 < lim) (hn : I.length < n) :
    call (n + 1) 48 [slI I, .int .i64 (k : Int)] H = some (.ret [.sl 1 (vL (lvI (k - 1) I)) false], H) := by
  have loop : ∀ (d i M : Nat) (out : List Int), i + d = I.length -> d < M -> out.length <= i -> loopx M (r7Level_l0 n (slI I) (k : Int)) [.sl 1 [] false, .sl 1 (vL out) false, .int .i64 (i : Int)] H = some (.ret [.sl 1 (vL (out ++ lvI (k - 1) (I.drop i))) false], H) := by
    intro d
    induction d with
    | zero =>
      intro i M out h1 h2 h3
      obtain ⟨M, rfl⟩ : ∃ M', M = M' + 1 := ⟨M - 1, by omega⟩
      obtain rfl : i = I.length := by omega
      rw [loopx_succ]
      unfold r7Level_l0
      simp only [gv, List.getD_cons_zero, List.getD_cons_succ, slcH_sl, List.length_map, bop_i64_lss, bd_some, bv_bool]
      rw [if_neg (by simp), List.drop_length]
      simp [lsl, lvI]
    | succ d ih =>
      intro i M out h1 h2 h3
      obtain ⟨M, rfl⟩ : ∃ M', M = M' + 1 := ⟨M - 1, by omega⟩
      obtain ⟨x, hx⟩ : ∃ x, I[i]? = some x := ⟨_, List.getElem?_eq_getElem (by omega)⟩
      have hxv : (I.map itW)[i]? = some [.int .i32 x.1, .int .i64 (x.2 : Int)] := by rw [get_it, hx]; rfl
      have hlt : decide ((i : Int) < (I.length : Int)) = true := by simp; omega
      have hk1 : decide ((k : Int) ≥ 1) = true := by simp; omega
      have hd : I.drop i = x :: I.drop (i + 1) := by
        rw [List.drop_eq_getElem_cons (by omega)]
        rw [List.getElem?_eq_getElem (by omega)] at hx
        rw [Option.some.inj hx]
      have key : ∀ next, r7Level_l0 n (slI I) (k : Int) [.sl 1 [] false, .sl 1 (vL out) false, .int .i64 (i : Int)] H next = next [.sl 1 [] false, .sl 1 (vL (if k <= x.2 then out ++ [x.1] else out)) false, .int .i64 ((i + 1 : Nat) : Int)] H := by
        intro next
        unfold r7Level_l0
        simp only [gv, List.getD_cons_zero, List.getD_cons_succ, slcH_sl, List.length_map, bop_i64_lss, bd_some, bv_bool, hlt, if_true, hk1, nv_nat, bdS_some, idxP_sl hxv, addP_iptr, cellsP_iptr, bd3_some, Nat.zero_add, Nat.add_zero, Nat.reduceAdd, Nat.reduceLeDiff, Nat.reduceLT, Nat.le_refl, and_self, List.getElem?_cons_zero, List.getElem?_cons_succ, bop_i64_geq, lsl]
        by_cases h : k <= x.2
        · rw [if_pos (by simpa using h), if_pos h]
          rw [bsl_vL, bd_some]
          simp only
          rw [app_vL _ _ (by simp; omega), bd_some, bop_i64_add, bd_some, step64 (by omega)]
        · rw [if_neg (by simpa using h), if_neg h, bop_i64_add, bd_some, step64 (by omega)]
      rw [loopx_succ, key, ih (i + 1) M _ (by omega) (by omega) (by split <;> (try simp) <;> omega), hd]
      have e : lvI (k - 1) (x :: I.drop (i + 1)) = if k <= x.2 then x.1 :: lvI (k - 1) (I.drop (i + 1)) else lvI (k - 1) (I.drop (i + 1)) := by
        unfold lvI
        by_cases h : k <= x.2
        · rw [if_pos h, List.filter_cons_of_pos (by simp; omega), List.map_cons]
        · rw [if_neg h, List.filter_cons_of_neg (by simp; omega)]
      rw [e]
      by_cases h : k <= x.2
      · rw [if_pos h, if_pos h, List.append_assoc]; rfl
      · rw [if_neg h, if_neg h]
  refine (r7Level_eq n _ (k : Int) H).trans ?_
  unfold r7Level
  exact loop I.length 0 n [] (by omega) hn (Nat.le_refl _)
end Go.Proofs.Try
set_option linter.unusedVariables false
set_option linter.unusedSimpArgs false
namespace Go.Proofs.Try
open Go.L Go.Rp Go.Sk
set_option maxRecDepth 100000
theorem set_rw (told : List R) (k : Nat) (a q : R) : (told.map R.w).set k (setR (R.w a) 0 (R.w q)) = (told.set k q).map R.w := by rw [List.map_set]; rfl
theorem stp1f {most : Int} {I : List (Int × Nat)} {B : List Bool} {o : O} (h1 : o.k = 1) (h2 : most <= (I.length : Int)) : stp most (I, B) o = ((I, B), ⟨3, 0⟩) := by unfold stp; rw [if_pos h1, if_pos h2]
theorem stp1r {most : Int} {I : List (Int × Nat)} {B : List Bool} {o : O} (h1 : o.k = 1) (h2 : ¬ most <= (I.length : Int)) : stp most (I, B) o = ((insI I o.v (hgt 1 B).1, (hgt 1 B).2), ⟨1, 0⟩) := by unfold stp; rw [if_pos h1, if_neg h2]
theorem stp2e {most : Int} {B : List Bool} {o : O} (h2 : o.k = 2) : stp most ([], B) o = (([], B), ⟨4, 0⟩) := by unfold stp; rw [if_neg (by omega), if_pos h2]
theorem stp2g {most : Int} {p : Int × Nat} {I : List (Int × Nat)} {B : List Bool} {o : O} (h2 : o.k = 2) : stp most (p :: I, B) o = ((I, B), ⟨2, p.1⟩) := by unfold stp; rw [if_neg (by omega), if_pos h2]
theorem stp0 {most : Int} {I : List (Int × Nat)} {B : List Bool} {o : O} (h1 : ¬ o.k = 1) (h2 : ¬ o.k = 2) : stp most (I, B) o = ((I, B), ⟨5, 0⟩) := by unfold stp; rw [if_neg h1, if_neg h2]
theorem r11_step (n : Nat) (m : Int) (os : List O) (b : Bool) (L : List Int) (H : Heap) (hlim : L.length < lim) (i k : Nat) (hx : L[i]? = some (k : Int)) {o : O} (ho : os[k]? = some o) (I : List (Int × Nat)) (B : List Bool) (told : List R) (ht : told.length = os.length) (hl : I.length + 2 < lim) (hn : I.length + 8 <= n) (v7 : V) (next : List V -> Heap -> Option (Res × Heap)) :
    r11Apply_l7 (n + 2) m (.sl 2 (os.map O.w) b) (.sl 1 (iL L) false) [slI I, slB B, .sl 2 [] false, .sl 1 [] false, .sl 2 [] false, .sl 2 (told.map R.w) false, .int .i64 (i : Int), v7] H next = next [slI (stp (max 0 (min m 1000)) (I, B) o).1.1, slB (stp (max 0 (min m 1000)) (I, B) o).1.2, .sl 2 [] false, .sl 1 [] false, .sl 2 [] false, .sl 2 ((told.set k (stp (max 0 (min m 1000)) (I, B) o).2).map R.w) false, .int .i64 ((i + 1 : Nat) : Int), .bool false] H := by
  obtain ⟨mo, hmo⟩ : ∃ mo, mo = max 0 (min m 1000) := ⟨_, rfl⟩
  rw [<- hmo]
  have hil := (List.getElem?_eq_some_iff.1 hx).1
  have hkl := (List.getElem?_eq_some_iff.1 ho).1
  have hov : (os.map O.w)[k]? = some (O.w o) := by rw [get_os, ho]; rfl
  have hxv : (iL L)[i]? = some [.int .i64 (k : Int)] := by unfold iL; rw [List.getElem?_map, hx]; rfl
  have hlt : decide ((i : Int) < (L.length : Int)) = true := by simp; omega
  obtain ⟨a, ha⟩ : ∃ a, told[k]? = some a := ⟨_, List.getElem?_eq_getElem (by omega)⟩
  have hav : (told.map R.w)[k]? = some (R.w a) := by rw [get_rs, ha]; rfl
  have hcut : List.take 2 (List.drop 0 (O.w o)) = O.w o := rfl
  have hkm : k < (told.map R.w).length := by rw [List.length_map]; omega
  have hst : ∀ q : R, [V.int .u8 q.c, V.int .i32 q.v] = R.w q := fun _ => rfl
  have s64 : IntKind.i64.wrap ((i : Int) + 1) = ((i + 1 : Nat) : Int) := step64 (by omega)
  have setq : ∀ c v : Int, (told.map R.w).set k (setR (R.w a) 0 [V.int .u8 c, V.int .i32 v]) = (told.set k ⟨c, v⟩).map R.w := fun c v => set_rw told k a ⟨c, v⟩
  unfold r11Apply_l7
  simp only [gv, List.getD_cons_succ, List.getD_cons_zero, slcH_sl, iL_len, bop_i64_lss, bd_some, bv_bool, hlt, if_true, nv_nat, bdS_some, idxP_sl hxv, idxP_sl hov, cellsP_iptr, bd3_some, Nat.zero_add, Nat.le_refl, Nat.reduceLT, and_self, List.getElem?_cons_zero, List.getElem?_cons_succ, hcut, ow_len, set_o, ow_get0, ow_get1, bop_u8_eql', lsl]
  by_cases h1 : o.k = 1
  · have e1 : (o.k == 1) = true := by simp [h1]
    simp only [e1, if_true]
    rw [show n + 2 = (n + 1) + 1 from rfl, rmost_call, cl_ret, one1_one, <- hmo]
    simp only [List.length_map, bop_i64_geq, bd_some, bv_bool]
    by_cases h2 : mo <= (I.length : Int)
    · rw [if_pos (by simpa using h2), if_pos (by refine ⟨?_, ?_, by decide⟩ <;> first | trivial | rfl | exact (by omega : k < told.length)), hav, bd_some, bop_i64_add, bd_some, s64, setq, stp1f h1 h2]
    · rw [if_neg (by simpa using h2)]
      have c1 := r6height_call n H B (by omega)
      have c2 := r7insert_call n m I o.v ((hgt 1 B).1 : Int) H (by omega) hl (by omega)
      rw [hOf_hgt] at c2
      rw [show n + 1 + 1 = n + 2 from rfl, c1, cl_ret]
      simp only [List.getElem?_cons_zero, List.getElem?_cons_succ, bd_some]
      rw [c2, cl_ret]
      simp only [List.getElem?_cons_zero, List.getElem?_cons_succ, bd_some]
      rw [if_pos (by refine ⟨?_, ?_, by decide⟩ <;> first | trivial | rfl | exact (by omega : k < told.length)), hav, bd_some, bop_i64_add, bd_some, s64, setq, stp1r h1 h2]
  · have e1 : (o.k == 1) = false := by simp [h1]
    simp only [e1, Bool.false_eq_true, if_false]
    by_cases h2 : o.k = 2
    · have e2 : (o.k == 2) = true := by simp [h2]
      simp only [e2, if_true]
      cases I with
      | nil =>
        simp only [List.map_nil, List.length_nil]
        rw [if_pos (by rfl), if_pos (by refine ⟨?_, ?_, by decide⟩ <;> first | trivial | rfl | exact hkm), hav, bd_some, bop_i64_add, bd_some, s64, setq, stp2e h2]
      | cons p I =>
        have hpv : ((p :: I).map itW)[0]? = some [.int .i32 p.1, .int .i64 (p.2 : Int)] := rfl
        have hbl : bldV prog 34 [(0, .int .u8 2), (1, .int .i32 p.1)] = some [.int .u8 2, .int .i32 p.1] := bld_res p.1
        rw [if_neg (by simp; omega)]
        simp only [idxP_sl hpv, addP_iptr, cellsP_iptr, bd_some, bd3_some, Nat.zero_add, Nat.add_zero, Nat.reduceLeDiff, Nat.reduceLT, and_self, if_true, List.getElem?_cons_zero, hbl, lenP_sl, List.length_cons, List.length_nil, Nat.reduceAdd, Nat.le_refl]
        rw [slPz (.inl rfl) (by simp) (by simp), bd_some, if_pos (by refine ⟨?_, ?_, by decide⟩ <;> first | trivial | rfl | exact hkm)]
        rw [if_pos (by rfl), if_pos (by refine ⟨?_, ?_, ?_⟩ <;> first | trivial | rfl | exact Nat.le_refl 2), hav, bd_some, bop_i64_add, bd_some, s64]
        rw [show setR (R.w a) 0 (List.take 2 (List.drop 0 (setR [V.int .u8 5, V.int .i32 0] 0 [V.int .u8 2, V.int .i32 p.1]))) = setR (R.w a) 0 (R.w ⟨2, p.1⟩) from rfl, set_rw, stp2g h2]
        simp [List.take_of_length_le]
    · have e2 : (o.k == 2) = false := by simp [h2]
      simp only [e2, Bool.false_eq_true, if_false]
      rw [if_pos (by refine ⟨?_, ?_, by decide⟩ <;> first | trivial | rfl | exact hkm), hav, bd_some, bop_i64_add, bd_some, s64, setq, stp0 h1 h2]
theorem r11_loop (n : Nat) (m : Int) (os : List O) (b : Bool) (L : List Int) (hL : ∀ x ∈ L, 0 <= x /\ x < (os.length : Int)) (H : Heap) (hlim : L.length < lim) : ∀ (d i M : Nat) (I : List (Int × Nat)) (B : List Bool) (told : List R) (v7 : V), i + d = L.length -> d < M -> I.length + d + 2 < lim -> I.length + d + 8 <= n -> told.length = os.length →
    loopx M (r11Apply_l7 (n + 2) m (.sl 2 (os.map O.w) b) (.sl 1 (iL L) false)) [slI I, slB B, .sl 2 [] false, .sl 1 [] false, .sl 2 [] false, .sl 2 (told.map R.w) false, .int .i64 (i : Int), v7] H = some (.ret [slI (runO os (max 0 (min m 1000)) (L.drop i) (I, B) told).1.1, slB (runO os (max 0 (min m 1000)) (L.drop i) (I, B) told).1.2, .sl 2 ((runO os (max 0 (min m 1000)) (L.drop i) (I, B) told).2.map R.w) false], H) := by
  intro d
  induction d with
  | zero =>
    intro i M I B told v7 h1 h2 hl hn ht
    obtain ⟨M, rfl⟩ : ∃ M', M = M' + 1 := ⟨M - 1, by omega⟩
    obtain rfl : i = L.length := by omega
    rw [List.drop_length, loopx_succ]
    unfold r11Apply_l7
    simp only [gv, List.getD_cons_succ, List.getD_cons_zero, slcH_sl, iL_len, bop_i64_lss, bd_some, bv_bool]
    rw [if_neg (by simp)]
    rfl
  | succ d ih =>
    intro i M I B told v7 h1 h2 hl hn ht
    obtain ⟨M, rfl⟩ : ∃ M', M = M' + 1 := ⟨M - 1, by omega⟩
    obtain ⟨x, hx⟩ : ∃ x, L[i]? = some x := ⟨_, List.getElem?_eq_getElem (by omega)⟩
    have hdr : L.drop i = x :: L.drop (i + 1) := by
      rw [List.drop_eq_getElem_cons (by omega)]
      rw [List.getElem?_eq_getElem (by omega)] at hx
      rw [Option.some.inj hx]
    obtain ⟨x0, x1⟩ := hL x (List.mem_of_getElem? hx)
    obtain ⟨k, rfl⟩ : ∃ k : Nat, x = (k : Int) := ⟨x.toNat, (Int.toNat_of_nonneg x0).symm⟩
    obtain ⟨o, ho⟩ : ∃ o, os[k]? = some o := ⟨_, List.getElem?_eq_getElem (by omega)⟩
    have hg := stp_grow (max 0 (min m 1000)) (I, B) o
    rw [loopx_succ, r11_step n m os b L H hlim i k hx ho I B told ht (by omega) (by omega), hdr]
    show _ = some (Res.ret [slI (runO os _ _ (stp _ (I, B) (oAt os (k : Int))).1 (told.set (k : Int).toNat (stp _ (I, B) (oAt os (k : Int))).2)).1.1, slB (runO os _ _ (stp _ (I, B) (oAt os (k : Int))).1 (told.set (k : Int).toNat (stp _ (I, B) (oAt os (k : Int))).2)).1.2, .sl 2 ((runO os _ _ (stp _ (I, B) (oAt os (k : Int))).1 (told.set (k : Int).toNat (stp _ (I, B) (oAt os (k : Int))).2)).2.map R.w) false], H)
    rw [oAt_some ho, Int.toNat_natCast]
    exact ih (i + 1) M _ _ _ _ (by omega) (by omega) (by simp only at hg; omega) (by simp only at hg; omega) (by rw [List.length_set]; exact ht)
theorem r11apply_call (n : Nat) (m : Int) (I : List (Int × Nat)) (B : List Bool) (os : List O) (b : Bool) (H : Heap) (hs : Small os) (hl : I.length + os.length + 4 < lim) (hn : I.length + os.length + 10 <= n) :
    call (n + 3) 46 [.int .i64 m, slI I, slB B, .sl 2 (os.map O.w) b] H = some (.ret [slI (doneO os (max 0 (min m 1000)) (I, B)).1.1, slB (doneO os (max 0 (min m 1000)) (I, B)).1.2, .sl 2 ((doneO os (max 0 (min m 1000)) (I, B)).2.map R.w) false], H) := by
  have hol := order_len os
  have e := r11_loop n m os b (sPuts os ++ others os) (order_mem os) H (by omega) os.length 0 (n + 2) I B (List.replicate os.length ⟨0, 0⟩) (.bool false) (by omega) (by omega) (by omega) (by omega) (by simp)
  rw [List.drop_zero] at e
  refine (r11Apply_eq (n + 2) m _ _ _ H).trans ?_
  unfold r11Apply
  have fN : nv (V.int .i64 (os.length : Int)) = some os.length := nv_nat _ _
  rw [slcH_sl, bd_some]
  simp only [List.length_map]
  rw [fN, bdS_some, bdS_some, if_pos (by first | exact ⟨rfl, by omega, rfl⟩ | exact ⟨rfl, by omega, trivial⟩ | exact ⟨trivial, by omega, trivial⟩), rorder_call (n + 2) os b H hs (by omega) (by omega), cl_ret, one1_one, rs_rep]
  exact e
end Go.Proofs.Try
set_option linter.unusedVariables false
set_option linter.unusedSimpArgs false
namespace Go.Proofs.Try
open Go.L Go.Rp Go.Sk
set_option maxRecDepth 100000
structure Sys (h : Heap) (s : Nat) (ts : List Tw) (most : Int) (c : Nat) (cb : Option Nat) (bits : List Bool) : Prop where
  sk : ∃ N, SkAt h s ts most N
  bt : BitsAt h c cb bits
  nc : c ∉ skB s ts
  ncb : ∀ b, cb = some b -> b ∉ skB s ts
  room : (ts.length : Int) <= most
def fp (s : Nat) (ts : List Tw) (c : Nat) (cb : Option Nat) : List Nat := c :: (cb.toList ++ skB s ts)
theorem Sys.lt {h : Heap} {s : Nat} {ts : List Tw} {most : Int} {c : Nat} {cb : Option Nat} {bits : List Bool} (S : Sys h s ts most c cb bits) : ∀ b ∈ fp s ts c cb, b < h.length := fun b hb => by
  obtain ⟨N, S0⟩ := S.sk
  rcases List.mem_cons.1 hb with rfl | hb
  · exact S.bt.lt.1
  · rcases List.mem_append.1 hb with hb | hb
    · exact S.bt.lt.2 b (by simpa using hb)
    · exact S0.lt b hb
theorem Sys.keep {h h' : Heap} {s : Nat} {ts : List Tw} {most : Int} {c : Nat} {cb : Option Nat} {bits : List Bool} (S : Sys h s ts most c cb bits) (hk : ∀ b ∈ fp s ts c cb, h'[b]? = h[b]?) : Sys h' s ts most c cb bits := by
  obtain ⟨N, S0⟩ := S.sk
  exact ⟨⟨N, S0.keep fun b hb => hk b (List.mem_cons_of_mem _ (List.mem_append_right _ hb))⟩, S.bt.keep (hk c (List.mem_cons_self ..)) (fun b e => hk b (List.mem_cons_of_mem _ (List.mem_append_left _ (by simp [e])))), S.nc, S.ncb, S.room⟩
theorem Sys.grown {h h' : Heap} {s : Nat} {ts : List Tw} {most : Int} {c : Nat} {cb : Option Nat} {bits : List Bool} (S : Sys h s ts most c cb bits) (hk : ∀ i, i < h.length -> h'[i]? = h[i]?) : Sys h' s ts most c cb bits := S.keep fun b hb => hk b (S.lt b hb)
theorem Sys.did {h h' : Heap} {s : Nat} {ts ts' : List Tw} {most : Int} {c : Nat} {cb : Option Nat} {bits bits' : List Bool} {tb : Nat} {told : List R} (S : Sys h s ts most c cb bits) (D : Did h h' s ts ts' most c cb bits' tb told) : Sys h' s ts' most c cb bits' /\ ∀ b ∈ fp s ts' c cb, b ∈ fp s ts c cb \/ h.length <= b := by
  obtain ⟨a1, a2⟩ := D.apart S.bt S.nc S.ncb
  refine ⟨⟨D.sk, D.bt, a1, a2, D.room⟩, fun b hb => ?_⟩
  rcases List.mem_cons.1 hb with rfl | hb
  · exact .inl (List.mem_cons_self ..)
  · rcases List.mem_append.1 hb with hb | hb
    · exact .inl (List.mem_cons_of_mem _ (List.mem_append_left _ hb))
    · rcases D.new b hb with h | h
      · exact .inl (List.mem_cons_of_mem _ (List.mem_append_right _ h))
      · exact .inr h
theorem Sys.other {h h' : Heap} {s s2 : Nat} {ts ts' ts2 : List Tw} {most most2 : Int} {c c2 : Nat} {cb cb2 : Option Nat} {bits' bits2 : List Bool} {tb : Nat} {told : List R} (B : Sys h s2 ts2 most2 c2 cb2 bits2) (D : Did h h' s ts ts' most c cb bits' tb told) (dis : ∀ b ∈ fp s2 ts2 c2 cb2, b ∉ fp s ts c cb) : Sys h' s2 ts2 most2 c2 cb2 bits2 :=
  B.keep fun b hb => D.frm.old b (B.lt b hb) fun hm => dis b hb (by
    rcases List.mem_cons.1 hm with rfl | hm
    · exact List.mem_cons_self ..
    · exact List.mem_cons_of_mem _ (List.mem_append_right _ hm))
theorem does_round (n : Nat) {h : Heap} {s t x y : Nat} {ts us : List Tw} {m : Int} {cx cy : Option Nat} {bits : List Bool} (os : List O) (lb : Bool) (A : Sys h s ts (max 0 (min m 1000)) x cx bits) (B : Sys h t us (max 0 (min m 1000)) y cy bits) (dis : ∀ b ∈ fp t us y cy, b ∉ fp s ts x cx) (hit : itT us = itT ts) (hs : Small os) (hl : ts.length + os.length <= 600) (hn : 3000 <= n) :
    ∃ (h1 h2 : Heap) (ts' us' : List Tw) (bits' : List Bool) (told : List R) (tb1 tb2 : Nat), call (n + 4) 46 [.int .i64 m, slI (itT ts), slB bits, .sl 2 (os.map O.w) lb] h = some (.ret [slI (itT ts'), slB bits', .sl 2 (told.map R.w) false], h) ∧
      call (n + 4) 18 [.ptr s 0, .ptr x 0, .sl 2 (os.map O.w) lb] h = some (.ret [.row tb1 2 0 os.length], h1) ∧
      call (n + 4) 31 [.row tb1 2 0 os.length, .sl 2 (told.map R.w) false] h1 = some (.ret [.bool true], h1) ∧
      call (n + 4) 47 [.ptr t 0, .ptr y 0, .sl 2 (os.map O.w) lb] h1 = some (.ret [.row tb2 2 0 os.length], h2) ∧
      call (n + 4) 31 [.row tb2 2 0 os.length, .sl 2 (told.map R.w) false] h2 = some (.ret [.bool true], h2) ∧
      call (n + 4) 20 [.ptr x 0] h2 = some (.ret [.int .i64 (bits'.length : Int)], h2) ∧
      call (n + 4) 20 [.ptr y 0] h2 = some (.ret [.int .i64 (bits'.length : Int)], h2) ∧
      Sys h2 s ts' (max 0 (min m 1000)) x cx bits' /\ Sys h2 t us' (max 0 (min m 1000)) y cy bits' /\ (∀ b ∈ fp t us' y cy, b ∉ fp s ts' x cx) /\ itT us' = itT ts' /\ ts'.length <= ts.length + os.length := by
  have hul : us.length = ts.length := by have := congrArg List.length hit; rwa [itT_len, itT_len] at this
  have c1 := r11apply_call (n + 1) m (itT ts) bits os lb h hs (by rw [itT_len]; unfold lim; omega) (by rw [itT_len]; omega)
  obtain ⟨h1, ts1, bits1, tb1, told1, e1, D1, r1⟩ := srtApply_call n os lb A.sk A.bt A.nc A.ncb A.room (by omega) (by unfold lim; omega) (by omega)
  obtain ⟨A1, fA⟩ := A.did D1
  have B1 := B.other D1 dis
  obtain ⟨h2, us2, bits2, tb2, told2, e2, D2, r2⟩ := plain_call n os lb B1.sk B1.bt B1.nc B1.ncb B1.room (by unfold lim; omega) (by omega)
  obtain ⟨B2, fB⟩ := B1.did D2
  have ltB := B.lt
  have hlen1 := D1.frm.len
  have dis1 : ∀ b ∈ fp s ts1 x cx, b ∉ fp t us y cy := fun b hb hc => by
    rcases fA b hb with h | h
    · exact dis b hc h
    · have := ltB b hc; omega
  have A2 := A1.other D2 dis1
  rw [hit] at r2
  obtain ⟨q1, q2⟩ := Prod.mk.inj (r2.symm.trans r1)
  obtain ⟨q3, q4⟩ := Prod.mk.inj q1
  subst q2 q4
  rw [r1] at c1
  have lt1 : told2.length = os.length := by have := done_len os (max 0 (min m 1000)) (itT ts, bits); rwa [r1] at this
  have t1 := D1.tl.sees
  have t2 := D2.tl.sees
  rw [lt1] at t1 t2
  have lg : ts1.length <= ts.length + os.length := by
    have := done_grow os (max 0 (min m 1000)) (itT ts, bits)
    rw [r1] at this
    simpa [itT] using this
  refine ⟨h1, h2, ts1, us2, bits2, told2, tb1, tb2, c1, e1, rTold_call (n + 3) t1 (sees_slR h1 _ false) (by rw [lt1]; unfold lim; omega) (by omega), e2, rTold_call (n + 3) t2 (sees_slR h2 _ false) (by rw [lt1]; unfold lim; omega) (by omega), left_call (n + 3) A2.bt, left_call (n + 3) B2.bt, A2, B2, fun b hb hc => ?_, q3, lg⟩
  rcases fB b hb with h | h
  · exact dis1 b hc h
  · have := A1.lt b hc; omega
theorem does_levels (n : Nat) {s t x y : Nat} {ts us : List Tw} {most : Int} {cx cy : Option Nat} {bits : List Bool} (hit : itT us = itT ts) (hts : ts.length <= 1000) (hn : 3000 <= n) (u0 u1 u2 v0 : V) (k : Nat) (hk : k < lim) (next : List V -> Heap -> Option (Res × Heap)) : ∀ (d j M : Nat) (h : Heap), j + d = 9 -> 1 <= j -> d < M -> Sys h s ts most x cx bits -> Sys h t us most y cy bits →
    ∃ h', loopx M (lwdoes_l82 (n + 4) (.ptr s 0) (.ptr t 0) [u0, u1, u2, .int .i64 (k : Int)] next (slI (itT ts)) (slB bits)) [v0, .int .i64 (j : Int)] h = next [v0, slI (itT ts), slB bits, .int .i64 ((k + 1 : Nat) : Int)] h' /\ Sys h' s ts most x cx bits /\ Sys h' t us most y cy bits := by
  have hul : us.length = ts.length := by have := congrArg List.length hit; rwa [itT_len, itT_len] at this
  intro d
  induction d with
  | zero =>
    intro j M h h1 h2 h3 A B
    obtain ⟨M, rfl⟩ : ∃ M', M = M' + 1 := ⟨M - 1, by omega⟩
    obtain rfl : j = 9 := by omega
    refine ⟨h, ?_, A, B⟩
    rw [loopx_succ]
    unfold lwdoes_l82
    simp only [gv, List.getD_cons_succ, List.getD_cons_zero, bop_i64_leq, bd_some, bv_bool]
    rw [if_neg (by decide), bop_i64_add, bd_some, step64 hk]
  | succ d ih =>
    intro j M h h1 h2 h3 A B
    obtain ⟨M, rfl⟩ : ∃ M', M = M' + 1 := ⟨M - 1, by omega⟩
    obtain ⟨j, rfl⟩ : ∃ j', j = j' + 1 := ⟨j - 1, by omega⟩
    obtain ⟨NA, SA⟩ := A.sk
    obtain ⟨ha, ra, ea, sa, la, ka⟩ := level_call (n + 2) SA (k := j) (by omega) (by unfold lim; omega) (by omega)
    have B1 := B.grown ka
    have A1 := A.grown ka
    have fl := r7level_call (n + 3) (itT ts) (j + 1) (by omega) ha (by rw [itT_len]; unfold lim; omega) (by rw [itT_len]; omega)
    rw [Nat.add_sub_cancel] at fl
    rw [lvI_itT] at sa
    have hlv : (lvI j (itT ts)).length <= ts.length := by unfold lvI; rw [List.length_map]; exact Nat.le_trans (List.length_filter_le _ _) (by rw [itT_len]; exact Nat.le_refl _)
    have fs := rSame_call (n + 3) sa.sees (sees_sl ha (sb := false) (.inl rfl)) (by unfold lim; omega) (by omega)
    obtain ⟨NB, SB⟩ := B1.sk
    obtain ⟨hb, rb, eb, sb, lb, kb⟩ := level_call (n + 2) SB (k := j) (by omega) (by unfold lim; omega) (by omega)
    have A2 := A1.grown kb
    have B2 := B1.grown kb
    have fl2 := r7level_call (n + 3) (itT ts) (j + 1) (by omega) hb (by rw [itT_len]; unfold lim; omega) (by rw [itT_len]; omega)
    rw [Nat.add_sub_cancel] at fl2
    rw [lvI_itT, hit] at sb
    have fs2 := rSame_call (n + 3) sb.sees (sees_sl hb (sb := false) (.inl rfl)) (by unfold lim; omega) (by omega)
    obtain ⟨h', e', r⟩ := ih (j + 1 + 1) M hb (by omega) (by omega) (by omega) A2 B2
    refine ⟨h', ?_, r⟩
    have hle : decide (((j + 1 : Nat) : Int) <= 8) = true := by simp; omega
    have key : ∀ nx, lwdoes_l82 (n + 4) (.ptr s 0) (.ptr t 0) [u0, u1, u2, .int .i64 (k : Int)] next (slI (itT ts)) (slB bits) [v0, .int .i64 ((j + 1 : Nat) : Int)] h nx = nx [v0, .int .i64 ((j + 1 + 1 : Nat) : Int)] hb := by
      intro nx
      unfold lwdoes_l82
      simp only [gv, List.getD_cons_succ, List.getD_cons_zero, bop_i64_leq, bd_some, bv_bool, hle, if_true]
      rw [ea, cl_ret, one1_one, fl, cl_ret, one1_one, fs, cl_ret, one1_one, uop_not, bd_some, bv_bool, if_neg (by decide), eb, cl_ret, one1_one, fl2, cl_ret, one1_one, fs2, cl_ret, one1_one, uop_not, bd_some, bv_bool, if_neg (by decide), bop_i64_add, bd_some, step64 (by unfold lim; omega)]
    rw [loopx_succ, key, e']
theorem l158_eq : @lwdoes_l158 = @lwdoes_l82 := rfl
def SeesN (h : Heap) (r : V) (l : List Int) : Prop := (∃ sz, slcH h r = some (sz, iL l)) /\ ∀ (i : Nat) (x : Int), l[i]? = some x -> ∃ p, idxP 1 i r = some p /\ cellsP h p = some ([.int .i64 x], 1, 0)
theorem sees_iL (h : Heap) (l : List Int) (sb : Bool) : SeesN h (.sl 1 (iL l) sb) l := ⟨⟨1, slcH_sl ..⟩, fun i x hx => ⟨_, idxP_sl (es := [.int .i64 x]) (by unfold iL; rw [List.getElem?_map, hx]; rfl) sb, cellsP_iptr ..⟩⟩
theorem sees_rowN {h : Heap} {b e : Nat} {l : List Int} {z : Bool} (hb : h[b]? = some (.row e 1 (iL l) z)) : SeesN h (.row b 1 0 l.length) l := by
  have := slcH_all hb
  rw [iL_len] at this
  exact ⟨⟨1, this⟩, fun i x hx => ⟨_, by simpa using idxP_row (b := b) (sz := 1) (lo := 0) (hi := l.length) (n := i) (by have := (List.getElem?_eq_some_iff.1 hx).1; omega), cellsP_rptr hb (by decide) (by unfold iL; rw [List.getElem?_map, hx]; rfl)⟩⟩
theorem rInts_call (n : Nat) {h : Heap} {a b : V} {l : List Int} (ha : SeesN h a l) (hb : SeesN h b l) (hl : l.length < lim) (hn : l.length < n) : call (n + 1) 32 [a, b] h = some (.ret [.bool true], h) := by
  obtain ⟨⟨sa, hsa⟩, ga⟩ := ha
  have loop : ∀ (d i M : Nat) (v0 : V), i + d = l.length -> d < M -> loopx M (rInts_l2 n a b) [v0, .int .i64 (i : Int)] h = some (.ret [.bool true], h) := by
    intro d
    induction d with
    | zero =>
      intro i M v0 h1 h2
      obtain ⟨M, rfl⟩ : ∃ M', M = M' + 1 := ⟨M - 1, by omega⟩
      obtain rfl : i = l.length := by omega
      rw [loopx_succ]
      unfold rInts_l2
      rw [hsa, bd_some]
      simp only [gv, List.getD_cons_zero, List.getD_cons_succ, iL_len, bop_i64_lss, bd_some, bv_bool]
      rw [if_neg (by simp)]
    | succ d ih =>
      intro i M v0 h1 h2
      obtain ⟨M, rfl⟩ : ∃ M', M = M' + 1 := ⟨M - 1, by omega⟩
      obtain ⟨x, hx⟩ : ∃ x, l[i]? = some x := ⟨_, List.getElem?_eq_getElem (by omega)⟩
      obtain ⟨p, p1, p2⟩ := ga i x hx
      obtain ⟨q, q1, q2⟩ := hb.2 i x hx
      have hlt : decide ((i : Int) < (l.length : Int)) = true := by simp; omega
      have key : ∀ next, rInts_l2 n a b [v0, .int .i64 (i : Int)] h next = next [v0, .int .i64 ((i + 1 : Nat) : Int)] h := by
        intro next
        unfold rInts_l2
        rw [hsa, bd_some]
        simp only [gv, List.getD_cons_zero, List.getD_cons_succ, iL_len, bop_i64_lss, bd_some, bv_bool, hlt, if_true, nv_nat, bdS_some, p1, p2, q1, q2, bd3_some, Nat.zero_add, Nat.le_refl, Nat.reduceLT, and_self, List.getElem?_cons_zero, bop_i64_neq, bop_i64_add, step64 (show i < lim by omega)]
        rw [if_neg (by simp)]
      rw [loopx_succ, key]
      exact ih (i + 1) M v0 (by omega) (by omega)
  refine (rInts_eq n a b h).trans ?_
  unfold rInts
  obtain ⟨sb, hsb⟩ := hb.1
  rw [hsa, bd_some, hsb, bd_some, if_neg (by simp)]
  exact loop l.length 0 n (.bool false) (by omega) hn
theorem srtOrder_call (n : Nat) (h : Heap) (os : List O) (lb : Bool) (hl : 4 * os.length + 100 < lim) (hn : 2 * os.length + 50 <= n) :
    ∃ h' r, call (n + 3) 33 [.sl 2 (os.map O.w) lb] h = some (.ret [r], h') /\ SeesN h' r (sPuts os ++ others os) := by
  have hpl := puts_len os os.length
  have hsl := sPuts_len os
  have hpo : (puts os).length + (others os).length = os.length := hpl
  have g1 : (partH h os)[h.length]? = some (.row 3 1 (iL (sPuts os)) true) := by unfold partH; rw [List.getElem?_append_right (Nat.le_refl _), Nat.sub_self]; rfl
  have g2 : (partH h os)[h.length + 1]? = some (.row 3 1 (iL (others os)) true) := by unfold partH; rw [List.getElem?_append_right (by omega), Nat.add_sub_cancel_left]; rfl
  have s2 := slcH_all g2
  rw [iL_len] at s2
  have happ : appP 3 1 (partH h os) (iL (others os)) (.row h.length 1 0 (puts os).length) = some (.row (partH h os).length 1 0 ((puts os).length + (others os).length), (partH h os).set h.length .dead ++ [.row 3 1 (iL (sPuts os ++ others os)) true]) := by
    simp only [appP, g1]
    rw [if_pos (by refine ⟨⟨?_, ?_, ?_⟩, ⟨by omega, by rw [iL_len]; omega⟩, by rw [iL_len]; unfold lim at hl ⊢; omega⟩ <;> first | trivial | rfl), iL_len, List.drop_zero, List.take_of_length_le (by rw [iL_len]; omega), Nat.sub_zero]
    simp [iL]
  refine ⟨_, _, (srtOrder_eq (n + 2) _ lb h).trans ?_, sees_rowN (h := (partH h os).set h.length .dead ++ [.row 3 1 (iL (sPuts os ++ others os)) true]) (b := (partH h os).length) (e := 3) (z := true) ?_⟩
  · unfold srtOrder
    rw [parted_call n h os lb hl hn, cl_ret]
    simp only [List.getElem?_cons_zero, List.getElem?_cons_succ, bd_some]
    rw [s2, bdS_some, if_pos (by first | exact ⟨rfl, .inl rfl⟩ | exact ⟨trivial, .inl rfl⟩)]
    simp only
    rw [happ, bd2_some, List.length_append, hsl]
  · rw [List.getElem?_append_right (by rw [List.length_set]; exact Nat.le_refl _), List.length_set, Nat.sub_self]; rfl
end Go.Proofs.Try
set_option linter.unusedVariables false
set_option linter.unusedSimpArgs false
namespace Go.Proofs.Try
open Go.L Go.Rp Go.Sk
set_option maxRecDepth 100000
theorem lwdoes_loop (n : Nat) {h : Heap} {s t x y : Nat} {ts us : List Tw} {m : Int} {cx cy : Option Nat} {bits : List Bool} (a b : List O) (ab b2 : Bool) (A : Sys h s ts (max 0 (min m 1000)) x cx bits) (B : Sys h t us (max 0 (min m 1000)) y cy bits) (dis : ∀ b ∈ fp t us y cy, b ∉ fp s ts x cx) (hit : itT us = itT ts) (ha : Small a) (hb : Small b) (hl : ts.length + a.length + b.length <= 600) (hn : 3000 <= n) (v0 : V) (M : Nat) (hM : 3 <= M) :
    ∃ H, loopx M (lwdoes_l34 (n + 4) m (.sl 2 (a.map O.w) ab) (.sl 2 (b.map O.w) b2) (.ptr s 0) (.ptr t 0) (.ptr x 0) (.ptr y 0)) [v0, slI (itT ts), slB bits, .int .i64 0] h = some (.ret [.bool true], H) := by
  obtain ⟨M, rfl⟩ : ∃ M', M = M' + 1 + 1 + 1 := ⟨M - 3, by omega⟩
  obtain ⟨h1, h2, ts1, us1, bits1, told1, tb1, tb2, c1, c2, c3, c4, c5, c6, c7, A1, B1, dis1, hit1, g1⟩ := does_round n a ab A B dis hit ha (by omega) hn
  have lv1 := fun u0 u1 u2 next => does_levels n (s := s) (t := t) hit1 (by omega) hn u0 u1 u2 v0 0 (by unfold lim; omega) next 8 1 (n + 4) h2 (by omega) (by omega) (by omega) A1 B1
  obtain ⟨h3, l3, A2, B2⟩ := lv1 v0 (slI (itT ts)) (slB bits) (loopx (M + 1 + 1) (lwdoes_l34 (n + 4) m (.sl 2 (a.map O.w) ab) (.sl 2 (b.map O.w) b2) (.ptr s 0) (.ptr t 0) (.ptr x 0) (.ptr y 0)))
  have key1 : loopx (M + 1 + 1 + 1) (lwdoes_l34 (n + 4) m (.sl 2 (a.map O.w) ab) (.sl 2 (b.map O.w) b2) (.ptr s 0) (.ptr t 0) (.ptr x 0) (.ptr y 0)) [v0, slI (itT ts), slB bits, .int .i64 0] h = loopx (M + 1 + 1) (lwdoes_l34 (n + 4) m (.sl 2 (a.map O.w) ab) (.sl 2 (b.map O.w) b2) (.ptr s 0) (.ptr t 0) (.ptr x 0) (.ptr y 0)) [v0, slI (itT ts1), slB bits1, .int .i64 ((0 + 1 : Nat) : Int)] h3 := by
    rw [loopx_succ, <- l3]
    generalize loopx (M + 1 + 1) (lwdoes_l34 (n + 4) m (.sl 2 (a.map O.w) ab) (.sl 2 (b.map O.w) b2) (.ptr s 0) (.ptr t 0) (.ptr x 0) (.ptr y 0)) = next
    unfold lwdoes_l34
    simp only [gv, List.getD_cons_succ, List.getD_cons_zero, bop_i64_lss, bop_i64_eql, bd_some, bv_bool]
    rw [if_pos (by decide), if_neg (by decide), c1, cl_ret]
    simp only [List.getElem?_cons_zero, List.getElem?_cons_succ, bd_some]
    rw [c2, cl_ret, one1_one, c3, cl_ret, one1_one, uop_not, bd_some, bv_bool, if_neg (by decide), c4, cl_ret, one1_one, c5, cl_ret, one1_one, uop_not, bd_some, bv_bool, if_neg (by decide), c6, cl_ret, one1_one, slcH_sl, bd_some]
    simp only [List.length_map, bop_i64_neq, bd_some, bv_bool]
    rw [if_neg (by simp), c7, cl_ret, one1_one, slcH_sl, bd_some]
    simp only [List.length_map, bop_i64_neq, bd_some, bv_bool]
    rw [if_neg (by simp), l158_eq]
    rfl
  obtain ⟨h4, h5, ts2, us2, bits2, told2, tb3, tb4, d1, d2, d3, d4, d5, d6, d7, A3, B3, dis3, hit3, g3⟩ := does_round n b b2 A2 B2 dis1 hit1 hb (by omega) hn
  obtain ⟨h6, l6, A4, B4⟩ := does_levels n (s := s) (t := t) hit3 (by omega) hn v0 (slI (itT ts1)) (slB bits1) v0 1 (by unfold lim; omega) (loopx (M + 1) (lwdoes_l34 (n + 4) m (.sl 2 (a.map O.w) ab) (.sl 2 (b.map O.w) b2) (.ptr s 0) (.ptr t 0) (.ptr x 0) (.ptr y 0))) 8 1 (n + 4) h5 (by omega) (by omega) (by omega) A3 B3
  have key2 : loopx (M + 1 + 1) (lwdoes_l34 (n + 4) m (.sl 2 (a.map O.w) ab) (.sl 2 (b.map O.w) b2) (.ptr s 0) (.ptr t 0) (.ptr x 0) (.ptr y 0)) [v0, slI (itT ts1), slB bits1, .int .i64 ((0 + 1 : Nat) : Int)] h3 = loopx (M + 1) (lwdoes_l34 (n + 4) m (.sl 2 (a.map O.w) ab) (.sl 2 (b.map O.w) b2) (.ptr s 0) (.ptr t 0) (.ptr x 0) (.ptr y 0)) [v0, slI (itT ts2), slB bits2, .int .i64 ((1 + 1 : Nat) : Int)] h6 := by
    rw [loopx_succ, <- l6]
    generalize loopx (M + 1) (lwdoes_l34 (n + 4) m (.sl 2 (a.map O.w) ab) (.sl 2 (b.map O.w) b2) (.ptr s 0) (.ptr t 0) (.ptr x 0) (.ptr y 0)) = next
    unfold lwdoes_l34
    simp only [gv, List.getD_cons_succ, List.getD_cons_zero, bop_i64_lss, bop_i64_eql, bd_some, bv_bool]
    rw [if_pos (by decide), if_pos (by decide), d1, cl_ret]
    simp only [List.getElem?_cons_zero, List.getElem?_cons_succ, bd_some]
    rw [d2, cl_ret, one1_one, d3, cl_ret, one1_one, uop_not, bd_some, bv_bool, if_neg (by decide), d4, cl_ret, one1_one, d5, cl_ret, one1_one, uop_not, bd_some, bv_bool, if_neg (by decide), d6, cl_ret, one1_one, slcH_sl, bd_some]
    simp only [List.length_map, bop_i64_neq, bd_some, bv_bool]
    rw [if_neg (by simp), d7, cl_ret, one1_one, slcH_sl, bd_some]
    simp only [List.length_map, bop_i64_neq, bd_some, bv_bool]
    rw [if_neg (by simp)]
    rfl
  obtain ⟨h7, r7, e7, s7⟩ := srtOrder_call (n + 1) h6 a ab (by unfold lim; omega) (by omega)
  have e8 := rorder_call (n + 4) a ab h7 ha (by unfold lim; omega) (by omega)
  have hol := order_len a
  have e9 := rInts_call (n + 3) s7 (sees_iL h7 (sPuts a ++ others a) false) (by unfold lim; omega) (by omega)
  refine ⟨h7, ?_⟩
  rw [key1, key2, loopx_succ]
  unfold lwdoes_l34
  simp only [gv, List.getD_cons_succ, List.getD_cons_zero, bop_i64_lss, bd_some, bv_bool]
  rw [if_neg (by decide), e7, cl_ret, one1_one, e8, cl_ret, one1_one, e9, cl_ret, one1_one]
theorem does_new (n : Nat) (h : Heap) (m : Int) (bs : List Int) (bb : Bool) (hs : small bs = true) (hl : bs.length <= 1000) (hn : 3000 <= n) :
    ∃ h1 h2 h3 h4 h5 h6 cx cy, call (n + 1) 15 [.int .i64 m] h = some (.ret [.ptr h.length 0], h1) ∧
      call (n + 1) 15 [.int .i64 m] h1 = some (.ret [.ptr (h.length + 1) 0], h2) ∧
      call (n + 1) 16 [] h2 = some (.ret [.ptr (h.length + 2) 0], h3) ∧
      call (n + 1) 16 [] h3 = some (.ret [.ptr (h.length + 3) 0], h4) ∧
      call (n + 1) 17 [.ptr (h.length + 2) 0, .sl 1 (bs.map (intV .u8)) bb] h4 = some (.ret [], h5) ∧
      call (n + 1) 17 [.ptr (h.length + 3) 0, .sl 1 (bs.map (intV .u8)) bb] h5 = some (.ret [], h6) ∧
      Sys h6 h.length [] (max 0 (min m 1000)) (h.length + 2) cx (bs.flatMap bitsOf) /\ Sys h6 (h.length + 1) [] (max 0 (min m 1000)) (h.length + 3) cy (bs.flatMap bitsOf) ∧
      ∀ b ∈ fp (h.length + 1) [] (h.length + 3) cy, b ∉ fp h.length [] (h.length + 2) cx := by
  obtain ⟨N1, e1, S1⟩ := new_call n h m
  generalize hh1 : h ++ [HB.box 12 ((ndH h.length 0 (max 0 (min m 1000))).cells (fun _ _ => nilP))] = h1 at e1 S1
  have l1 : h1.length = h.length + 1 := by rw [<- hh1]; simp
  obtain ⟨N2, e2, S2⟩ := new_call n h1 m
  generalize hh2 : h1 ++ [HB.box 12 ((ndH h1.length 0 (max 0 (min m 1000))).cells (fun _ _ => nilP))] = h2 at e2 S2
  have l2 : h2.length = h.length + 2 := by rw [<- hh2]; simp [l1]
  have e3 := coin_new_call n h2
  generalize hh3 : h2 ++ [HB.box 1 [.sl 0 [] true]] = h3 at e3
  have l3 : h3.length = h.length + 3 := by rw [<- hh3]; simp [l2]
  have e4 := coin_new_call n h3
  generalize hh4 : h3 ++ [HB.box 1 [.sl 0 [] true]] = h4 at e4
  have l4 : h4.length = h.length + 4 := by rw [<- hh4]; simp [l3]
  rw [l1] at e2 S2
  rw [l2] at e3
  rw [l3] at e4
  have k1 : ∀ i, i < h1.length -> h2[i]? = h1[i]? := fun i hi => by rw [<- hh2, List.getElem?_append_left hi]
  have k2 : ∀ i, i < h2.length -> h3[i]? = h2[i]? := fun i hi => by rw [<- hh3, List.getElem?_append_left hi]
  have k3 : ∀ i, i < h3.length -> h4[i]? = h3[i]? := fun i hi => by rw [<- hh4, List.getElem?_append_left hi]
  have b1 : h4[h.length + 2]? = some (.box 1 [.sl 0 [] true]) := by rw [k3 _ (by omega), <- hh3, List.getElem?_append_right (by omega), l2, Nat.sub_self]; rfl
  have b2 : h4[h.length + 3]? = some (.box 1 [.sl 0 [] true]) := by rw [<- hh4, List.getElem?_append_right (by omega), l3, Nat.sub_self]; rfl
  have sk0 : ∀ s, ∀ b ∈ skB s [], b = s := fun s b hb => by simpa [skB] using hb
  have A : Sys h4 h.length [] (max 0 (min m 1000)) (h.length + 2) none [] := ⟨⟨N1, S1.keep fun b hb => by
    have := sk0 _ b hb
    rw [k3 b (by omega), k2 b (by omega), k1 b (by omega)]⟩, ⟨rfl, b1⟩, fun hm => by have := sk0 _ _ hm; omega, fun b e => (by cases e), by simp; omega⟩
  have B : Sys h4 (h.length + 1) [] (max 0 (min m 1000)) (h.length + 3) none [] := ⟨⟨N2, S2.keep fun b hb => by
    have := sk0 _ b hb
    rw [k3 b (by omega), k2 b (by omega)]⟩, ⟨rfl, b2⟩, fun hm => by have := sk0 _ _ hm; omega, fun b e => (by cases e), by simp; omega⟩
  obtain ⟨h5, cx, e5, X1, F1⟩ := feed_call n A.bt bs bb hs (by simp; omega) (by omega)
  have B' : Sys h5 (h.length + 1) [] (max 0 (min m 1000)) (h.length + 3) none [] := B.keep fun b hb => F1.old b (B.lt b hb) (by
    rcases List.mem_cons.1 hb with e | hb
    · omega
    · have := sk0 _ b (by simpa using hb); omega) (by simp)
  have cxg : ∀ b, cx = some b -> h.length + 4 <= b := fun b e => by
    rcases F1.own b e with h | h
    · cases h
    · omega
  have A' : Sys h5 h.length [] (max 0 (min m 1000)) (h.length + 2) cx (bs.flatMap bitsOf) := ⟨by
    obtain ⟨N, S⟩ := A.sk
    exact ⟨N, S.keep fun b hb => F1.old b (S.lt b hb) (by have := sk0 _ b hb; omega) (by simp)⟩, X1, A.nc, fun b e hm => by have := sk0 _ b hm; have := cxg b e; omega, A.room⟩
  obtain ⟨h6, cy, e6, Y1, F2⟩ := feed_call n B'.bt bs bb hs (by simp; omega) (by omega)
  have cyg : ∀ b, cy = some b -> h5.length <= b := fun b e => by
    rcases F2.own b e with h | h
    · cases h
    · exact h
  have lt5 : h.length + 4 <= h5.length := by have := F1.len; omega
  have A2 : Sys h6 h.length [] (max 0 (min m 1000)) (h.length + 2) cx (bs.flatMap bitsOf) := A'.keep fun b hb => F2.old b (A'.lt b hb) (by
    rcases List.mem_cons.1 hb with e | hb
    · omega
    · rcases List.mem_append.1 hb with hb | hb
      · have := cxg b (by simpa using hb); omega
      · have := sk0 _ b hb; omega) (by simp)
  have B2 : Sys h6 (h.length + 1) [] (max 0 (min m 1000)) (h.length + 3) cy (bs.flatMap bitsOf) := ⟨by
    obtain ⟨N, S⟩ := B'.sk
    exact ⟨N, S.keep fun b hb => F2.old b (S.lt b hb) (by have := sk0 _ b hb; omega) (by simp)⟩, Y1, B'.nc, fun b e hm => by have := sk0 _ b hm; have := cyg b e; omega, B'.room⟩
  refine ⟨h1, h2, h3, h4, h5, h6, cx, cy, e1, e2, e3, e4, e5, e6, A2, B2, fun b hb hc => ?_⟩
  have hc' := A'.lt b hc
  rcases List.mem_cons.1 hb with rfl | hb
  · rcases List.mem_cons.1 hc with e | hc
    · omega
    · rcases List.mem_append.1 hc with hc | hc
      · have := cxg _ (by simpa using hc); omega
      · have := sk0 _ _ hc; omega
  · rcases List.mem_append.1 hb with hb | hb
    · have := cyg b (by simpa using hb); omega
    · have := sk0 _ b hb
      subst this
      rcases List.mem_cons.1 hc with e | hc
      · omega
      · rcases List.mem_append.1 hc with hc | hc
        · have := cxg _ (by simpa using hc); omega
        · have := sk0 _ _ hc; omega
theorem lwdoes_call (n : Nat) (h : Heap) (m : Int) (bs : List Int) (bb : Bool) (hbs : small bs = true) (a b : List O) (ab b2 : Bool) (ha : Small a) (hb : Small b) (hl : bs.length + a.length + b.length <= 400) (hn : 3100 <= n) :
    ∃ H, call (n + 1) 24 [.int .i64 m, .sl 1 (bs.map (intV .u8)) bb, .sl 2 (a.map O.w) ab, .sl 2 (b.map O.w) b2] h = some (.ret [.bool true], H) := by
  obtain ⟨n, rfl⟩ : ∃ k, n = k + 4 := ⟨n - 4, by omega⟩
  obtain ⟨h1, h2, h3, h4, h5, h6, cx, cy, e1, e2, e3, e4, e5, e6, A, B, dis⟩ := does_new (n + 3) h m bs bb hbs (by omega) (by omega)
  have e7 := r6feed_call (n + 3) h6 bs bb hbs (by omega) (by omega)
  obtain ⟨H, e8⟩ := lwdoes_loop n a b ab b2 A B dis rfl ha hb (by simp; omega) (by omega) (.bool false) (n + 4) (by omega)
  refine ⟨H, (lwdoes_eq (n + 4) m _ _ _ h).trans ?_⟩
  unfold lwdoes
  rw [e1, cl_ret, one1_one, e2, cl_ret, one1_one, e3, cl_ret, one1_one, e4, cl_ret, one1_one, bop_sk_nil, bd_some, bv_bool, if_neg (by decide), bop_sk_nil, bd_some, bv_bool, if_neg (by decide), bop_coin_nil, bd_some, bv_bool, if_neg (by decide), bop_coin_nil, bd_some, bv_bool, if_neg (by decide), e5, cl_ret, e6, cl_ret, e7, cl_ret, one1_one]
  exact e8
theorem known11_n (n : Nat) (h : Heap) : call (n + 300) 13 [] h = some (.ret [.bool true], h) := by kernel_rfl
theorem known11_4000 (h : Heap) : call 4000 13 [] h = some (.ret [.bool true], h) := known11_n 3700 h
theorem does_law_call (x0 x1 : Int) (bs : List Int) (bb : Bool) (a : List O) (ab : Bool) (b : List O) (b2 : Bool) (c : List Int) (cb : Bool) (d : List Int) (db : Bool) (h1 : 0 <= x1 /\ x1 < 256) (hbs : small bs = true) (ha : Small a) (hb : Small b) (hc : small c = true) (hd : small d = true) (l1 : bs.length <= 140737488355328) (l2 : a.length <= 140737488355328) (l3 : b.length <= 140737488355328) (l4 : c.length <= 140737488355328) (l5 : d.length <= 140737488355328) :
    call 4001 7 [.int .i64 x0, .int .u8 x1, .sl 1 (bs.map (intV .u8)) bb, .sl 2 (a.map O.w) ab, .sl 2 (b.map O.w) b2, .sl 1 (c.map (intV .u8)) cb, .sl 1 (d.map (intV .u8)) db] [] = some (.ret [.bool true], []) := by
  refine (lwDoes_eq 4000 x0 x1 _ bb _ ab _ b2 _ cb _ db []).trans ?_
  have hfree : ∀ os : List O, V.free.freeLL (os.map O.w) = true := fun os => free_map _ (fun _ => rfl) os
  have key : ∃ H, lwDoes 4000 x0 x1 (bs.map (intV .u8)) bb (a.map O.w) ab (b.map O.w) b2 (c.map (intV .u8)) cb (d.map (intV .u8)) db = some (.ret [.bool true], H) := by
    unfold lwDoes
    simp only [List.length_map]
    rw [w64 (n := (bs.length : Int) + (a.length : Int)) (by omega) (by omega), w64 (n := (bs.length : Int) + (a.length : Int) + (b.length : Int)) (by omega) (by omega), w64 (n := (bs.length : Int) + (a.length : Int) + (b.length : Int) + (c.length : Int)) (by omega) (by omega), w64 (by omega) (by omega)]
    by_cases hbig : ((bs.length : Int) + (a.length : Int) + (b.length : Int) + (c.length : Int) + (d.length : Int) > 200)
    · rw [if_pos (by simpa using hbig), known11_4000, cl_ret, one1_one]
      exact ⟨_, rfl⟩
    · rw [if_neg (by simpa using hbig)]
      have hol := ops_len c 2
      have hol3 := ops_len c 3
      have hold := ops_len d 2
      obtain ⟨H1, c1⟩ := lwdoes_call 3999 [] x0 bs bb hbs a b ab b2 ha hb (by omega) (by omega)
      have o3 := ops_call 4000 c 1 cb 3 H1 (.inl rfl) hc (by decide) (by decide) (by omega)
      have o2 := ops_call 4000 d 1 db 2 H1 (.inl rfl) hd (by decide) (by decide) (by omega)
      obtain ⟨H2, c2⟩ := lwdoes_call 3999 H1 (IntKind.i64.wrap (Int.tmod x1 9)) bs bb hbs (ops c 3) (ops d 2) false false (ops_v hc) (ops_v hd) (by omega) (by omega)
      have o4 := ops_call 4000 c 1 cb 2 H2 (.inl rfl) hc (by decide) (by decide) (by omega)
      obtain ⟨H3, c3⟩ := lwdoes_call 3999 H2 (IntKind.i64.wrap (Int.tmod x1 30)) bs bb hbs (ops c 2) a false ab (ops_v hc) ha (by omega) (by omega)
      rw [known11_4000, cl_ret, one1_one, uop_not, bd_some, bv_bool, if_neg (by decide), c1, cl_ret, one1_one, bv_bool, if_pos rfl, o3, cl_ret, one1_one, o2, cl_ret, one1_one, c2, cl_ret, one1_one, bv_bool, if_pos rfl, o4, cl_ret, one1_one, c3, cl_ret, one1_one]
      exact ⟨_, rfl⟩
  obtain ⟨H, key⟩ := key
  rw [key]
  exact gcw_ret (by simp [hfree, intV]) (by simp)
end Go.Proofs.Try
