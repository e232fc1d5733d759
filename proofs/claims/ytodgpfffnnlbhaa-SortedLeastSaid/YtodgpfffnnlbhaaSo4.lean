import Derived.Test.YtodgpfffnnlbhaaSo3
/-! slices.symMergeCmpFunc, stableCmpFunc, SortStableFunc at []int: what they come to -/
set_option linter.unusedVariables false
set_option linter.unusedSimpArgs false
namespace Go.Proofs.Try
open Go.L Go.Rp
set_option maxRecDepth 100000
theorem some_ne {k : Nat} : ((some k : Option Nat) ≠ some 0) = ((k == 0) = false) := by simp
theorem zlo : (0 : Nat) < 1 := by decide
theorem ole : (1 : Nat) ≤ 1 := by decide
theorem seg_get (P A S : List Int) {h : Nat} (h1 : P.length ≤ h) (h2 : h < P.length + A.length) : (P ++ (A ++ S))[h]? = some (A.getD (h - P.length) 0) := by
  rw [List.getElem?_append_right h1, List.getElem?_append_left (by omega), List.getD_eq_getElem?_getD, List.getElem?_eq_getElem (by omega)]; rfl
theorem getD_mem {A : List Int} {k : Nat} (h : k < A.length) : A.getD k 0 ∈ A := by
  rw [List.getD_eq_getElem?_getD, List.getElem?_eq_getElem h]; exact List.getElem_mem h
section
variable {K : Int → Int} {D : Int → Prop} {H : Heap} {c : V} {n0 : Nat} {p : Nat → Int}
theorem shr_loop (n i : Nat) (st1 : List V) (hst : st1.getD 1 (.bool false) = .int .i64 (i : Int)) (hi : i + 1 < lim) (x : Int) (R : List Int) : ∀ (B P : List Int) (k Mx : Nat), k = P.length → i = k + 1 + B.length → B.length < Mx →
    loopx Mx (lSym_l30 n st1) [.sl 1 (iL (P ++ (x :: (B ++ R)))) false, .int .i64 (k : Int)] H = some (.ret [.sl 1 (iL (P ++ (B ++ (x :: R)))) false], H)
  | _, _, _, 0, _, _, h => by omega
  | [], P, k, Mx + 1, hk, hi', hM => by
    have e1 : IntKind.i64.wrap ((i : Int) - 1) = ((i - 1 : Nat) : Int) := wN (by omega) (by omega)
    have hc : ¬ (k : Int) < ((i - 1 : Nat) : Int) := by simp at hi'; omega
    rw [loopx_succ]
    simp only [lSym_l30, gv, List.getD_cons_succ, List.getD_cons_zero, hst, bop_i64_sub, bd_some, e1, bop_i64_lss, bv_bool, hc, decide_false, Bool.false_eq_true, if_false, lsl, List.nil_append]
  | y :: B, P, k, Mx + 1, hk, hi', hM => by
    simp only [List.length_cons] at hi' hM
    have e1 : IntKind.i64.wrap ((i : Int) - 1) = ((i - 1 : Nat) : Int) := wN (by omega) (by omega)
    have e2 : IntKind.i64.wrap ((k : Int) + 1) = ((k + 1 : Nat) : Int) := wN (by omega) (by omega)
    have hc : (k : Int) < ((i - 1 : Nat) : Int) := by omega
    obtain ⟨s1, s2, s3, s4, s5, s6, s7, s8⟩ := adj P (B ++ R) x y hk (show k + 1 = P.length + 1 by omega)
    have l1 := (List.getElem?_eq_some_iff.1 s1).1
    have l2 := (List.getElem?_eq_some_iff.1 s2).1
    have l6 := (List.getElem?_eq_some_iff.1 s6).1
    have ih := shr_loop n i st1 hst hi x R B (P ++ [y]) (k + 1) Mx (by simp; omega) (by omega) (by omega)
    rw [loopx_succ, List.cons_append]
    simp only [lSym_l30, gv, List.getD_cons_succ, List.getD_cons_zero, hst, bop_i64_sub, bop_i64_add, bd_some, e1, e2, bop_i64_lss, bv_bool, hc, decide_true, if_true, nv_nat, bdS_some, lsl, iL_len, own_iff, some_ne, true_and, zlo, ole, Nat.reduceBEq, and_true, l1, l2, l6, iL_get s1, iL_get s2, List.getElem?_cons_zero, V.cells, List.length_cons, List.length_nil, Nat.zero_add, one_iff, setR_11, iL_set, s4, iL_get s6, s8]
    simpa only [List.append_assoc, List.cons_append, List.nil_append] using ih
theorem shl_loop (n i : Nat) (st50 : List V) (hst : st50.getD 1 (.bool false) = .int .i64 (i : Int)) (x : Int) : ∀ (r R P : List Int) (k Mx : Nat), i = P.length → k = P.length + r.length → k + 1 < lim → r.length < Mx →
    loopx Mx (lSym_l82 n st50) [.sl 1 (iL (P ++ (r.reverse ++ (x :: R)))) false, .int .i64 (k : Int)] H = some (.ret [.sl 1 (iL (P ++ (x :: (r.reverse ++ R)))) false], H)
  | _, _, _, _, 0, _, _, _, h => by omega
  | [], R, P, k, Mx + 1, hi, hk, hl, hM => by
    have hc : ¬ (k : Int) > (i : Int) := by simp at hk; omega
    rw [loopx_succ]
    simp only [lSym_l82, gv, List.getD_cons_succ, List.getD_cons_zero, hst, bop_i64_gtr, bd_some, bv_bool, hc, decide_false, Bool.false_eq_true, if_false, lsl, List.nil_append, List.reverse_nil]
  | y :: r, R, P, k, Mx + 1, hi, hk, hl, hM => by
    simp only [List.length_cons] at hk hM
    have e1 : IntKind.i64.wrap ((k : Int) - 1) = ((k - 1 : Nat) : Int) := wN (by omega) (by omega)
    have hc : (k : Int) > (i : Int) := by omega
    have hL : P ++ ((y :: r).reverse ++ (x :: R)) = (P ++ r.reverse) ++ y :: x :: R := by simp
    obtain ⟨s1, s2, s3, s4, s5, s6, s7, s8⟩ := adj (P ++ r.reverse) R y x (i := k - 1) (j := k) (by simp; omega) (by simp; omega)
    have l1 := (List.getElem?_eq_some_iff.1 s1).1
    have l2 := (List.getElem?_eq_some_iff.1 s2).1
    have l5 := (List.getElem?_eq_some_iff.1 s5).1
    have ih := shl_loop n i st50 hst x r (y :: R) P (k - 1) Mx hi (by omega) (by omega) (by omega)
    rw [loopx_succ, hL]
    simp only [lSym_l82, gv, List.getD_cons_succ, List.getD_cons_zero, hst, bop_i64_sub, bd_some, e1, bop_i64_gtr, bv_bool, hc, decide_true, if_true, nv_nat, bdS_some, lsl, iL_len, own_iff, some_ne, true_and, zlo, ole, Nat.reduceBEq, and_true, l1, l2, l5, iL_get s1, iL_get s2, List.getElem?_cons_zero, V.cells, List.length_cons, List.length_nil, Nat.zero_add, one_iff, setR_11, iL_set, s3, iL_get s5, s7]
    simpa only [List.append_assoc, List.reverse_cons, List.cons_append, List.nil_append] using ih

/-- one, and what comes behind it -/
theorem sym_one (hc : CmpOk n0 c H K D) (n : Nat) (x : Int) (B P S : List Int) (a m b : Nat) (ha : a = P.length) (hm : m = P.length + 1) (hb : b = P.length + 1 + B.length) (hl : 2 * b + 1 < lim) (hB : Sd K B) (hlt : ∀ y ∈ B, x < y) (dx : D x) (dB : ∀ y ∈ B, D y) (hn : n0 ≤ n) (hn2 : B.length + 2 ≤ n) :
    ∃ C, C.Perm (x :: B) ∧ Sd K C ∧ loopx n (lSym_l0 n a c) [.sl 1 (iL (P ++ (x :: (B ++ S)))) false, .int .i64 (m : Int), .int .i64 (b : Int)] H = some (.ret [.sl 1 (iL (P ++ (C ++ S))) false], H) := by
  obtain ⟨f, caps, hcf, hok, hk, hcmp⟩ := hc.ex
  have hfn : ∀ k : Nat → List V → Option (Res × Heap), fnK c k = k f caps := fun k => by rw [hcf]; rfl
  have gx : (P ++ (x :: (B ++ S)))[a]? = some x := mid_get _ _ _ ha
  have gB : ∀ h, m ≤ h → h < b → (P ++ (x :: (B ++ S)))[h]? = some (B.getD (h - m) 0) := fun h h1 h2 => by
    have := seg_get (P ++ [x]) B S (h := h) (by simp; omega) (by simp; omega)
    simp only [List.append_assoc, List.cons_append, List.nil_append, List.length_append, List.length_singleton] at this
    rw [this, hm]
  obtain ⟨r, r1, r2, r3, r4, r5⟩ := bs_gen (H := H) (l := .sl 1 (iL (P ++ (x :: (B ++ S)))) false) (body := lSym_l0 n a c) (fin := fun i => loopx n (lSym_l30 n [.sl 1 (iL (P ++ (x :: (B ++ S)))) false, .int .i64 (i : Int), .int .i64 (i : Int)]) [.sl 1 (iL (P ++ (x :: (B ++ S)))) false, .int .i64 (a : Int)] H) (Q := fun h => K (B.getD (h - m) 0) < K x) m b
    (fun i j h1 h2 h3 next => by
      have hij : (i : Int) < (j : Int) := by omega
      have e1 : IntKind.i64.wrap ((i : Int) + (j : Int)) = ((i + j : Nat) : Int) := wN (by omega) (by omega)
      have g1 := gB ((i + j) / 2) (by omega) (by omega)
      have l1 := (List.getElem?_eq_some_iff.1 g1).1
      have l2 := (List.getElem?_eq_some_iff.1 gx).1
      have e2 : IntKind.i64.wrap ((((i + j) / 2 : Nat) : Int) + 1) = (((i + j) / 2 + 1 : Nat) : Int) := wN (by omega) (by omega)
      obtain ⟨q, hq, hqk⟩ := hcmp n hn (B.getD ((i + j) / 2 - m) 0) x (dB _ (getD_mem (by omega))) dx
      simp only [lSym_l0, gv, List.getD_cons_succ, List.getD_cons_zero, bop_i64_lss, bd_some, bv_bool, hij, decide_true, if_true, bop_i64_add, e1, cvt_iu, shr_u, cvt_ui, half_ok (show i + j < lim by omega), nv_nat, bdS_some, lsl, iL_len, own_iff, some_ne, true_and, zlo, ole, Nat.reduceBEq, and_true, l1, l2, iL_get g1, iL_get gx, List.getElem?_cons_zero, hfn, hok, hk]
      rw [hq, cl_ret]
      simp only [one1_one, bop_i64_lss, bd_some, bv_bool, bop_i64_add, e2]
      by_cases h : K (B.getD ((i + j) / 2 - m) 0) < K x
      · exact .inl ⟨h, by simp only [hqk.2 h, decide_true, if_true]⟩
      · exact .inr ⟨h, by simp only [show ¬ q < 0 from fun h' => h (hqk.1 h'), decide_false, Bool.false_eq_true, if_false]⟩)
    (fun i h1 h2 next => by
      have hii : ¬ (i : Int) < (i : Int) := by omega
      simp only [lSym_l0, gv, List.getD_cons_succ, List.getD_cons_zero, bop_i64_lss, bd_some, bv_bool, hii, decide_false, Bool.false_eq_true, if_false, lsl])
    n m b (by omega) (Nat.le_refl _) (by omega) (Nat.le_refl _) (.inl rfl) (.inl rfl)
  rw [r5]
  have hB2 : B = B.take (r - m) ++ B.drop (r - m) := (List.take_append_drop _ _).symm
  refine ⟨B.take (r - m) ++ x :: B.drop (r - m), ?_, merge_one hB (by omega) hlt ?_ ?_, ?_⟩
  · refine List.perm_middle.trans ?_
    rw [← hB2]
  · rcases r3 with h | h
    · exact .inl (by omega)
    · exact .inr (by rw [show r - m - 1 = r - 1 - m by omega]; exact h)
  · rcases r4 with h | h
    · exact .inl (by omega)
    · exact .inr h
  · have := shr_loop (H := H) n r [.sl 1 (iL (P ++ (x :: (B ++ S)))) false, .int .i64 (r : Int), .int .i64 (r : Int)] rfl (by omega) x (B.drop (r - m) ++ S) (B.take (r - m)) P a n ha (by rw [List.length_take]; omega) (by rw [List.length_take]; omega)
    have e : B ++ S = B.take (r - m) ++ (B.drop (r - m) ++ S) := by rw [← List.append_assoc, ← hB2]
    rw [e]
    rw [e] at this
    rw [this]
    simp
/-- one, and what comes ahead of it -/
theorem sym_last (hc : CmpOk n0 c H K D) (n : Nat) (x : Int) (A P S : List Int) (a m : Nat) (ha : a = P.length) (hm : m = P.length + A.length) (hl : 2 * (m + 1) + 1 < lim) (hA : Sd K A) (hlt : ∀ y ∈ A, y < x) (dx : D x) (dA : ∀ y ∈ A, D y) (hn : n0 ≤ n) (hn2 : A.length + 2 ≤ n) :
    ∃ C, C.Perm (A ++ [x]) ∧ Sd K C ∧ loopx n (lSym_l50 n m c) [.sl 1 (iL (P ++ (A ++ (x :: S)))) false, .int .i64 (a : Int), .int .i64 (m : Int)] H = some (.ret [.sl 1 (iL (P ++ (C ++ S))) false], H) := by
  obtain ⟨f, caps, hcf, hok, hk, hcmp⟩ := hc.ex
  have hfn : ∀ k : Nat → List V → Option (Res × Heap), fnK c k = k f caps := fun k => by rw [hcf]; rfl
  have gx : (P ++ (A ++ (x :: S)))[m]? = some x := by rw [← List.append_assoc]; exact mid_get _ _ _ (by simp; omega)
  have gA : ∀ h, a ≤ h → h < m → (P ++ (A ++ (x :: S)))[h]? = some (A.getD (h - a) 0) := fun h h1 h2 => by
    rw [seg_get P A (x :: S) (h := h) (by omega) (by omega), ha]
  obtain ⟨r, r1, r2, r3, r4, r5⟩ := bs_gen (H := H) (l := .sl 1 (iL (P ++ (A ++ (x :: S)))) false) (body := lSym_l50 n m c) (fin := fun i => loopx n (lSym_l82 n [.sl 1 (iL (P ++ (A ++ (x :: S)))) false, .int .i64 (i : Int), .int .i64 (i : Int)]) [.sl 1 (iL (P ++ (A ++ (x :: S)))) false, .int .i64 (m : Int)] H) (Q := fun h => ¬ K x < K (A.getD (h - a) 0)) a m
    (fun i j h1 h2 h3 next => by
      have hij : (i : Int) < (j : Int) := by omega
      have e1 : IntKind.i64.wrap ((i : Int) + (j : Int)) = ((i + j : Nat) : Int) := wN (by omega) (by omega)
      have g1 := gA ((i + j) / 2) (by omega) (by omega)
      have l1 := (List.getElem?_eq_some_iff.1 g1).1
      have l2 := (List.getElem?_eq_some_iff.1 gx).1
      have e2 : IntKind.i64.wrap ((((i + j) / 2 : Nat) : Int) + 1) = (((i + j) / 2 + 1 : Nat) : Int) := wN (by omega) (by omega)
      obtain ⟨q, hq, hqk⟩ := hcmp n hn x (A.getD ((i + j) / 2 - a) 0) dx (dA _ (getD_mem (by omega)))
      simp only [lSym_l50, gv, List.getD_cons_succ, List.getD_cons_zero, bop_i64_lss, bd_some, bv_bool, hij, decide_true, if_true, bop_i64_add, e1, cvt_iu, shr_u, cvt_ui, half_ok (show i + j < lim by omega), nv_nat, bdS_some, lsl, iL_len, own_iff, some_ne, true_and, zlo, ole, Nat.reduceBEq, and_true, l1, l2, iL_get g1, iL_get gx, List.getElem?_cons_zero, hfn, hok, hk]
      rw [hq, cl_ret]
      simp only [one1_one, bop_i64_lss, bd_some, uop_not, bv_bool, bop_i64_add, e2]
      by_cases h : K x < K (A.getD ((i + j) / 2 - a) 0)
      · exact .inr ⟨fun h' => h' h, by simp only [hqk.2 h, decide_true, Bool.not_true, Bool.false_eq_true, if_false]⟩
      · exact .inl ⟨h, by simp only [show ¬ q < 0 from fun h' => h (hqk.1 h'), decide_false, Bool.not_false, if_true]⟩)
    (fun i h1 h2 next => by
      have hii : ¬ (i : Int) < (i : Int) := by omega
      simp only [lSym_l50, gv, List.getD_cons_succ, List.getD_cons_zero, bop_i64_lss, bd_some, bv_bool, hii, decide_false, Bool.false_eq_true, if_false, lsl])
    n a m (by omega) (Nat.le_refl _) (by omega) (Nat.le_refl _) (.inl rfl) (.inl rfl)
  rw [r5]
  have hA2 : A = A.take (r - a) ++ A.drop (r - a) := (List.take_append_drop _ _).symm
  refine ⟨A.take (r - a) ++ x :: A.drop (r - a), ?_, merge_last hA (by omega) hlt ?_ ?_, ?_⟩
  · refine List.perm_middle.trans ?_
    rw [← hA2]
    exact (List.perm_append_singleton x A).symm
  · rcases r3 with h | h
    · exact .inl (by omega)
    · exact .inr (by rw [show r - a - 1 = r - 1 - a by omega]; exact h)
  · rcases r4 with h | h
    · exact .inl (by omega)
    · exact .inr (by simpa using h)
  · have := shl_loop (H := H) n r [.sl 1 (iL (P ++ (A ++ (x :: S)))) false, .int .i64 (r : Int), .int .i64 (r : Int)] rfl x (A.drop (r - a)).reverse S (P ++ A.take (r - a)) m n (by simp; omega) (by simp; omega) (by omega) (by simp; omega)
    rw [List.reverse_reverse] at this
    have e : P ++ (A ++ (x :: S)) = (P ++ A.take (r - a)) ++ (A.drop (r - a) ++ (x :: S)) := by
      conv => lhs; rw [hA2]
      simp only [List.append_assoc]
    rw [e]
    rw [e] at this
    rw [this]
    simp
end
end Go.Proofs.Try
