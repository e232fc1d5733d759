import Derived.Test.YtodgpfffnnlbhaaLso
import Derived.Test.YtodgpfffnnlbhaaSortL
/-! slices.swapRangeCmpFunc and rotateCmpFunc at []int: what they come to -/
set_option linter.unusedVariables false
set_option linter.unusedSimpArgs false
namespace Go.Proofs.Try
open Go.L Go.Rp
set_option maxRecDepth 100000
abbrev iL (l : List Int) : List (List V) := l.map (intV .i64)
theorem wN {e : Int} {n : Nat} (h : e = (n : Int)) (hn : n < lim) : IntKind.i64.wrap e = (n : Int) := by unfold lim at hn; subst h; rw [w64] <;> omega
theorem iL_set (l : List Int) (i : Nat) (x : Int) : (iL l).set i [V.int .i64 x] = iL (l.set i x) := by
  unfold iL; rw [List.map_set]; rfl
theorem iL_len (l : List Int) : (iL l).length = l.length := by simp
theorem iL_get {l : List Int} {i : Nat} {x : Int} (h : l[i]? = some x) : (iL l)[i]? = some [V.int .i64 x] := by
  unfold iL; rw [List.getElem?_map, h]; rfl
theorem setR_11 (a b : V) : setR [a] 0 [b] = [b] := rfl
theorem own_iff {n m k : Nat} : (1 = 1 ∧ n < m ∧ (some k : Option Nat) ≠ some 0) ↔ (n < m ∧ (k == 0) = false) := by simp
theorem one_iff : (1 = 1 ∧ 0 < 1 ∧ 0 + 1 ≤ 1) ↔ True := by decide
theorem mid_get {α : Type} (P : List α) (x : α) (R : List α) {i : Nat} (h : i = P.length) : (P ++ x :: R)[i]? = some x := by subst h; simp
theorem mid_set {α : Type} (P : List α) (x y : α) (R : List α) {i : Nat} (h : i = P.length) : (P ++ x :: R).set i y = P ++ y :: R := by subst h; simp
theorem swp_1 (P A M B S : List Int) (x y : Int) {i j : Nat} (hi : i = P.length) (hj : j = P.length + 1 + A.length + M.length) :
    (P ++ (x :: A ++ (M ++ (y :: B ++ S))))[i]? = some x ∧ (P ++ (x :: A ++ (M ++ (y :: B ++ S))))[j]? = some y ∧ (P ++ (y :: A ++ (M ++ (y :: B ++ S))))[j]? = some y ∧
    (P ++ (x :: A ++ (M ++ (y :: B ++ S)))).set i y = P ++ (y :: A ++ (M ++ (y :: B ++ S))) ∧ (P ++ (y :: A ++ (M ++ (y :: B ++ S)))).set j x = (P ++ [y]) ++ (A ++ ((M ++ [x]) ++ (B ++ S))) := by
  have e : ∀ u : Int, P ++ (u :: A ++ (M ++ (y :: B ++ S))) = (P ++ u :: (A ++ M)) ++ y :: (B ++ S) := fun u => by simp
  have hl : ∀ u : Int, j = (P ++ u :: (A ++ M)).length := fun u => by simp; omega
  refine ⟨mid_get P x _ hi, ?_, ?_, mid_set P x y _ hi, ?_⟩
  · rw [e]; exact mid_get _ _ _ (hl x)
  · rw [e]; exact mid_get _ _ _ (hl y)
  · rw [e, mid_set _ _ _ _ (hl y)]; simp
theorem swap_loop (n : Nat) (H : Heap) (a b k : Nat) (S : List Int) : ∀ (A B P M : List Int) (i Mx : Nat), B.length = A.length → i + A.length = k → a + i = P.length → b + i = P.length + A.length + M.length → P.length + A.length + M.length + B.length < lim → A.length < Mx →
    loopx Mx (lSwap_l0 n a b k) [.sl 1 (iL (P ++ (A ++ (M ++ (B ++ S))))) false, .int .i64 (i : Int)] H = some (.ret [.sl 1 (iL (P ++ (B ++ (M ++ (A ++ S))))) false], H)
  | _, _, _, _, i, 0, _, _, _, _, _, h => by omega
  | [], B, P, M, i, Mx + 1, hB, hk, ha, hb, hl, hm => by
    obtain rfl : B = [] := by cases B <;> simp_all
    have hik : ¬ (i : Int) < (k : Int) := by simp at hk; omega
    rw [loopx_succ]
    simp only [lSwap_l0, gv, List.getD_cons_succ, List.getD_cons_zero, bop_i64_lss, bd_some, bv_bool, hik, decide_false, Bool.false_eq_true, if_false, lsl, List.nil_append]
  | x :: A, [], P, M, i, Mx + 1, hB, hk, ha, hb, hl, hm => by simp at hB
  | x :: A, y :: B, P, M, i, Mx + 1, hB, hk, ha, hb, hl, hm => by
    simp only [List.length_cons] at hB hk hb hl hm
    have hik : (i : Int) < (k : Int) := by omega
    have e1 : IntKind.i64.wrap ((a : Int) + (i : Int)) = ((a + i : Nat) : Int) := wN (by omega) (by omega)
    have e2 : IntKind.i64.wrap ((b : Int) + (i : Int)) = ((b + i : Nat) : Int) := wN (by omega) (by omega)
    have e3 : IntKind.i64.wrap ((i : Int) + 1) = ((i + 1 : Nat) : Int) := wN (by omega) (by omega)
    obtain ⟨s1, s2, s3, s4, s5⟩ := swp_1 P A M B S x y ha (show b + i = P.length + 1 + A.length + M.length by omega)
    have l1 : a + i < (P ++ (x :: A ++ (M ++ (y :: B ++ S)))).length := (List.getElem?_eq_some_iff.1 s1).1
    have l2 : b + i < (P ++ (x :: A ++ (M ++ (y :: B ++ S)))).length := (List.getElem?_eq_some_iff.1 s2).1
    have l3 : b + i < (P ++ (y :: A ++ (M ++ (y :: B ++ S)))).length := (List.getElem?_eq_some_iff.1 s3).1
    have ih := swap_loop n H a b k S A B (P ++ [y]) (M ++ [x]) (i + 1) Mx (by omega) (by omega) (by simp; omega) (by simp; omega) (by simp; omega) (by omega)
    rw [loopx_succ]
    simp only [lSwap_l0, gv, List.getD_cons_succ, List.getD_cons_zero, bop_i64_lss, bd_some, bv_bool, hik, decide_true, if_true, bop_i64_add, e1, e2, e3, nv_nat, bdS_some, lsl, iL_len, own_iff, Nat.reduceBEq, and_true, if_true, l1, l2, l3, iL_get s1, iL_get s2, List.getElem?_cons_zero, V.cells, List.length_cons, List.length_nil, Nat.zero_add, one_iff, setR_11, iL_set, s4,
      iL_get s3, s5, ih]
    simp
theorem swap_call (n : Nat) (H : Heap) (c : V) (a b k : Nat) (P A M B S : List Int) (hB : B.length = A.length) (hk : A.length = k) (ha : a = P.length) (hb : b = P.length + A.length + M.length) (hl : P.length + A.length + M.length + B.length < lim) (hn : k + 2 ≤ n) :
    call n 105 [.sl 1 (iL (P ++ (A ++ (M ++ (B ++ S))))) false, .int .i64 (a : Int), .int .i64 (b : Int), .int .i64 (k : Int), c] H = some (.ret [.sl 1 (iL (P ++ (B ++ (M ++ (A ++ S))))) false], H) := by
  obtain ⟨N, rfl⟩ : ∃ N, n = N + 1 := ⟨n - 1, by omega⟩
  rw [lSwap_eq]
  unfold lSwap
  exact swap_loop N H a b k S A B P M 0 N hB (by omega) (by omega) (by omega) hl (by omega)
/-- two parts one behind the other are turned -/
theorem rot_loop (n : Nat) (H : Heap) (c : V) (m : Nat) : ∀ (Mx : Nat) (A B P S : List Int), A ≠ [] → B ≠ [] → m = P.length + A.length → P.length + A.length + B.length < lim → A.length + B.length ≤ Mx → A.length + B.length + 2 ≤ n →
    loopx Mx (lRot_l0 n m c) [.sl 1 (iL (P ++ (A ++ (B ++ S)))) false, .int .i64 (A.length : Int), .int .i64 (B.length : Int)] H = some (.ret [.sl 1 (iL (P ++ (B ++ (A ++ S)))) false], H)
  | 0, A, B, P, S, hA, hB, _, _, h, _ => by
    cases A with
    | nil => exact absurd rfl hA
    | cons => simp at h
  | Mx + 1, A, B, P, S, hA, hB, hm, hl, hx, hn => by
    have a0 : 0 < A.length := List.length_pos_iff.2 hA
    have b0 : 0 < B.length := List.length_pos_iff.2 hB
    have e1 : IntKind.i64.wrap ((m : Int) - (A.length : Int)) = ((P.length : Nat) : Int) := wN (by omega) (by omega)
    rw [loopx_succ]
    by_cases h1 : A.length = B.length
    · have hne : ((A.length : Int) != (B.length : Int)) = false := by simp [h1]
      have hs := swap_call n H c P.length m A.length P A [] B S h1.symm rfl rfl (by simpa using hm) (by simp; omega) (by omega)
      simp only [List.nil_append] at hs
      simp only [lRot_l0, gv, List.getD_cons_succ, List.getD_cons_zero, bop_i64_neq, bd_some, bv_bool, hne, Bool.false_eq_true, if_false, bop_i64_sub, e1, lsl]
      rw [hs, clm_ret]
    · have hne : ((A.length : Int) != (B.length : Int)) = true := by simp; omega
      by_cases h2 : B.length < A.length
      · -- the first part is the longer one
        have hgt : (A.length : Int) > (B.length : Int) := by omega
        obtain ⟨A1, A2, rfl, hA1⟩ : ∃ A1 A2, A = A1 ++ A2 ∧ A1.length = B.length := ⟨A.take B.length, A.drop B.length, (List.take_append_drop _ _).symm, by rw [List.length_take]; omega⟩
        rw [List.length_append] at *
        have hs := swap_call n H c P.length m B.length P A1 A2 B S hA1.symm hA1 rfl (by omega) (by omega) (by omega)
        have e2 : IntKind.i64.wrap (((A1.length + A2.length : Nat) : Int) - (B.length : Int)) = ((A2.length : Nat) : Int) := wN (by omega) (by omega)
        have ih := rot_loop n H c m Mx A2 A1 (P ++ B) S (by rintro rfl; simp at h2; omega) (by rintro rfl; simp at hA1; omega) (by simp; omega) (by simp; omega) (by omega) (by omega)
        simp only [List.append_assoc] at hs ih ⊢
        rw [hA1] at ih
        simp only [lRot_l0, gv, List.getD_cons_succ, List.getD_cons_zero, bop_i64_neq, bd_some, bv_bool, hne, if_true, bop_i64_gtr, hgt, decide_true, bop_i64_sub, e1, lsl]
        rw [hs, clm_ret, e2, ih]
      · have hgt : ¬ (A.length : Int) > (B.length : Int) := by omega
        obtain ⟨B1, B2, rfl, hB2⟩ : ∃ B1 B2, B = B1 ++ B2 ∧ B2.length = A.length := ⟨B.take (B.length - A.length), B.drop (B.length - A.length), (List.take_append_drop _ _).symm, by rw [List.length_drop]; omega⟩
        rw [List.length_append] at *
        have hs := swap_call n H c P.length (P.length + A.length + B1.length) A.length P A B1 B2 S hB2 rfl rfl rfl (by omega) (by omega)
        have e2 : IntKind.i64.wrap ((m : Int) + ((B1.length + B2.length : Nat) : Int)) = ((m + (B1.length + B2.length) : Nat) : Int) := wN (by omega) (by omega)
        have e3 : IntKind.i64.wrap (((m + (B1.length + B2.length) : Nat) : Int) - (A.length : Int)) = ((P.length + A.length + B1.length : Nat) : Int) := wN (by omega) (by omega)
        have e4 : IntKind.i64.wrap (((B1.length + B2.length : Nat) : Int) - (A.length : Int)) = ((B1.length : Nat) : Int) := wN (by omega) (by omega)
        have ih := rot_loop n H c m Mx B2 B1 P (A ++ S) (by rintro rfl; simp at hB2; omega) (by rintro rfl; simp at h1; omega) (by omega) (by omega) (by omega) (by omega)
        simp only [List.append_assoc] at hs ih ⊢
        rw [hB2] at ih
        simp only [lRot_l0, gv, List.getD_cons_succ, List.getD_cons_zero, bop_i64_neq, bd_some, bv_bool, hne, if_true, bop_i64_gtr, hgt, decide_false, Bool.false_eq_true, if_false, bop_i64_sub, bop_i64_add, e1, e2, e3, lsl]
        rw [hs, clm_ret, e4, ih]
theorem rot_call (n : Nat) (H : Heap) (c : V) (a m b : Nat) (P A B S : List Int) (hA : A ≠ []) (hB : B ≠ []) (ha : a = P.length) (hm : m = P.length + A.length) (hb : b = P.length + A.length + B.length) (hl : P.length + A.length + B.length < lim) (hn : A.length + B.length + 3 ≤ n) :
    call n 101 [.sl 1 (iL (P ++ (A ++ (B ++ S)))) false, .int .i64 (a : Int), .int .i64 (m : Int), .int .i64 (b : Int), c] H = some (.ret [.sl 1 (iL (P ++ (B ++ (A ++ S)))) false], H) := by
  obtain ⟨N, rfl⟩ : ∃ N, n = N + 1 := ⟨n - 1, by omega⟩
  have e1 : IntKind.i64.wrap ((m : Int) - (a : Int)) = ((A.length : Nat) : Int) := wN (by omega) (by omega)
  have e2 : IntKind.i64.wrap ((b : Int) - (m : Int)) = ((B.length : Nat) : Int) := wN (by omega) (by omega)
  rw [lRot_eq]
  unfold lRot
  rw [e1, e2]
  exact rot_loop N H c m N A B P S hA hB hm hl (by omega) (by omega)
end Go.Proofs.Try
