import Derived.Test.YtffncipacppjoaaSops
/-! the law SpecHeap: it returns true -/
set_option linter.unusedVariables false
set_option linter.unusedSimpArgs false
namespace Go.Proofs.Try
open Go.L Go.Rp
set_option maxRecDepth 100000
theorem known_call : call 100 10 [] [] = some (.ret [.bool true], []) := known_true
theorem inner33 (L : List Int) (hL : L.Pairwise (· ≤ ·)) (hlim : L.length < lim) (N : Nat) (u w : V) (cs : List V) (k : Nat) (hk : k < lim) (next7 : List V → Heap → Option (Res × Heap)) (H : Heap) : ∀ (d j M : Nat), 1 ≤ j → L.length ≤ j + d → d < M →
    loopx M (lawHeap_l33 N [u, w, .int .i64 (k : Int)] next7 (.sl 1 (L.map (intV .i32)) false)) [u, .agg cs, .int .i64 (j : Int)] H = next7 [u, .sl 1 (L.map (intV .i32)) false, .int .i64 ((k + 1 : Nat) : Int)] H
  | d, j, 0, _, _, h => by omega
  | d, j, M + 1, hj, hd, hM => by
    rw [loopx_succ]
    by_cases hlt : j < L.length
    · obtain ⟨d, rfl⟩ : ∃ d', d = d' + 1 := ⟨d - 1, by omega⟩
      have hlt' : (j : Int) < (L.length : Int) := by omega
      obtain ⟨x, hx⟩ : ∃ x, L[j - 1]? = some x := ⟨_, List.getElem?_eq_getElem (by omega)⟩
      obtain ⟨y, hy⟩ : ∃ y, L[j]? = some y := ⟨_, List.getElem?_eq_getElem hlt⟩
      have hxy : ¬ x > y := by
        have := List.pairwise_iff_getElem.1 hL (j - 1) j (by omega) hlt (by omega)
        rw [List.getElem?_eq_some_iff] at hx hy
        rw [hx.2, hy.2] at this
        omega
      have hw : IntKind.i64.wrap ((j : Int) - 1) = ((j - 1 : Nat) : Int) := by unfold lim at hlim; rw [w64] <;> omega
      simp only [lawHeap_l33, gv, List.getD_cons_succ, List.getD_cons_zero, slc_sl, slk_sl, bd_some, List.length_map, bop_i64_lss, bv_bool, hlt', decide_true, if_true, bop_i64_sub, hw, nv_nat, bdS_some, get_ints, hx, hy, Option.map_some, intV, List.getElem?_cons_zero, bop_i32_gtr, hxy, decide_false, Bool.false_eq_true, if_false, bop_i64_add, step64 (show j < lim by omega), lcs]
      exact inner33 L hL hlim N u w cs k hk next7 H d (j + 1) M (by omega) (by omega) (by omega)
    · have hlt' : ¬ (j : Int) < (L.length : Int) := by omega
      simp only [lawHeap_l33, gv, List.getD_cons_succ, List.getD_cons_zero, slc_sl, bd_some, List.length_map, bop_i64_lss, bv_bool, hlt', decide_false, Bool.false_eq_true, if_false, bop_i64_add, step64 hk]
theorem inner57 (L : List Int) (hL : L.Pairwise (· ≤ ·)) (hlim : L.length < lim) (N : Nat) (u w : V) (cs : List V) (k : Nat) (hk : k < lim) (next7 : List V → Heap → Option (Res × Heap)) (H : Heap) : ∀ (d j M : Nat), 1 ≤ j → L.length ≤ j + d → d < M →
    loopx M (lawHeap_l57 N [u, w, .int .i64 (k : Int)] next7 (.sl 1 (L.map (intV .i32)) false)) [u, .agg cs, .int .i64 (j : Int)] H = next7 [u, .sl 1 (L.map (intV .i32)) false, .int .i64 ((k + 1 : Nat) : Int)] H
  | d, j, 0, _, _, h => by omega
  | d, j, M + 1, hj, hd, hM => by
    rw [loopx_succ]
    by_cases hlt : j < L.length
    · obtain ⟨d, rfl⟩ : ∃ d', d = d' + 1 := ⟨d - 1, by omega⟩
      have hlt' : (j : Int) < (L.length : Int) := by omega
      obtain ⟨x, hx⟩ : ∃ x, L[j - 1]? = some x := ⟨_, List.getElem?_eq_getElem (by omega)⟩
      obtain ⟨y, hy⟩ : ∃ y, L[j]? = some y := ⟨_, List.getElem?_eq_getElem hlt⟩
      have hxy : ¬ x > y := by
        have := List.pairwise_iff_getElem.1 hL (j - 1) j (by omega) hlt (by omega)
        rw [List.getElem?_eq_some_iff] at hx hy
        rw [hx.2, hy.2] at this
        omega
      have hw : IntKind.i64.wrap ((j : Int) - 1) = ((j - 1 : Nat) : Int) := by unfold lim at hlim; rw [w64] <;> omega
      simp only [lawHeap_l57, gv, List.getD_cons_succ, List.getD_cons_zero, slc_sl, slk_sl, bd_some, List.length_map, bop_i64_lss, bv_bool, hlt', decide_true, if_true, bop_i64_sub, hw, nv_nat, bdS_some, get_ints, hx, hy, Option.map_some, intV, List.getElem?_cons_zero, bop_i32_gtr, hxy, decide_false, Bool.false_eq_true, if_false, bop_i64_add, step64 (show j < lim by omega), lcs]
      exact inner57 L hL hlim N u w cs k hk next7 H d (j + 1) M (by omega) (by omega) (by omega)
    · have hlt' : ¬ (j : Int) < (L.length : Int) := by omega
      simp only [lawHeap_l57, gv, List.getD_cons_succ, List.getD_cons_zero, slc_sl, bd_some, List.length_map, bop_i64_lss, bv_bool, hlt', decide_false, Bool.false_eq_true, if_false, bop_i64_add, step64 hk]
theorem heap_law_loop (x0 m : Int) (os : List O) (hm : IntKind.i64.wrap (Int.tmod x0 20) = m) (hm0 : 0 ≤ m) (hm1 : m ≤ 19) (hol : os.length ≤ 80) (hk : ∀ o ∈ os, 0 ≤ o.k) : ∀ (d k M : Nat) (s : List Int), k + d = os.length → d < M → s.Pairwise (· ≤ ·) → (s.length : Int) ≤ m →
    loopx M (lawHeap_l4 100 x0 (.sl 2 (os.map O.w) false)) [.bool false, .sl 1 (s.map (intV .i32)) false, .int .i64 (k : Int)] [] = some (.ret [.bool true], [])
  | d, k, 0, s, _, h, _, _ => by omega
  | 0, k, M + 1, s, hkd, _, hs, hl => by
    obtain rfl : k = os.length := by omega
    rw [loopx_succ]
    simp only [lawHeap_l4, gv, List.getD_cons_succ, List.getD_cons_zero, slc_sl, bd_some, List.length_map, bop_i64_lss, bv_bool, Int.lt_irrefl, decide_false, Bool.false_eq_true, if_false]
    rw [known_call, cl_ret, one1_one, bv_bool, if_pos rfl, hm]
    simp [hl]
  | d + 1, k, M + 1, s, hkd, hM, hs, hl => by
    have hlt : (k : Int) < (os.length : Int) := by omega
    obtain ⟨x, hx⟩ : ∃ x, os[k]? = some x := ⟨_, List.getElem?_eq_getElem (by omega)⟩
    have hA := apply_call 100 3 m 1 s false x.k x.v [] (.inl rfl) (by decide) (hk x (List.mem_of_getElem? hx)) (by unfold lim; omega) (by omega)
    have hop : V.agg (O.w x) = .agg [.int .u8 x.k, .int .i32 x.v] := rfl
    have h8 : apply 3 m s ⟨x.k, x.v⟩ = do8 m s x := rfl
    have hs' := heap_sorted (m := m) x hs
    have hl' := heap_len (m := m) (s := s) x hm0 (by omega) hl
    have hset : ∀ a b : V, setR [V.int .u8 0, .int .i32 0] 0 [a, b] = [a, b] := fun a b => rfl
    have IH := heap_law_loop x0 m os hm hm0 hm1 hol hk d (k + 1) M (do8 m s x).1 (by omega) (by omega) hs' hl'
    rw [h8] at hA
    rw [loopx_succ]
    simp only [lawHeap_l4, gv, List.getD_cons_succ, List.getD_cons_zero, slc_sl, slk_sl, bd_some, List.length_map, bop_i64_lss, bv_bool, hlt, decide_true, if_true, nv_nat, bdS_some, get_os, hx, Option.map_some, List.drop_zero, ow_take, hop, hm]
    rw [hA]
    simp only [ansA, cl_ret, List.getElem?_cons_zero, List.getElem?_cons_succ, bd_some, V.cells, List.length_cons, List.length_nil, Nat.zero_add, Nat.reduceAdd, Nat.le_refl, if_true, hset, bop_u8_eql, bv_bool]
    have hone : (V.int .i64 1) = .int .i64 ((1 : Nat) : Int) := rfl
    by_cases hc : (do8 m s x).2.c = 2
    · obtain ⟨h0, hv⟩ := heap_got hc
      have hb : ((do8 m s x).2.c == 2) = true := by simp [hc]
      have hb0 : ((s.length : Int) == 0) = false := by rw [beq_eq_false_iff_ne]; omega
      obtain ⟨y, hy⟩ : ∃ y, s[0]? = some y := ⟨_, List.getElem?_eq_getElem (by omega)⟩
      have hvy : (do8 m s x).2.v = y := by rw [hv, List.getD_eq_getElem?_getD, hy]; rfl
      have hne : (y != y) = false := by simp
      simp only [hb, if_true, hb0, Bool.false_eq_true, if_false, get_ints, hy, Option.map_some, bd_some, intV, List.getElem?_cons_zero, hvy, bop_i32_neq, hne, bv_bool, hone]
      rw [inner33 (do8 m s x).1 hs' (by unfold lim; omega) 100 (.bool false) (.sl 1 (s.map (intV .i32)) false) _ k (by unfold lim; omega) _ [] (do8 m s x).1.length 1 100 (by omega) (by omega) (by omega)]
      exact IH
    · have hb : ((do8 m s x).2.c == 2) = false := by simpa using hc
      simp only [hb, Bool.false_eq_true, if_false, hone]
      rw [inner57 (do8 m s x).1 hs' (by unfold lim; omega) 100 (.bool false) (.sl 1 (s.map (intV .i32)) false) _ k (by unfold lim; omega) _ [] (do8 m s x).1.length 1 100 (by omega) (by omega) (by omega)]
      exact IH
/-- SpecHeap -/
theorem heap_law_call (x0 : Int) (c : List Int) (b : Bool) (h0 : 0 ≤ x0) (hc : small c = true) : call 101 4 [.int .u8 x0, .sl 1 (c.map (intV .u8)) b] [] = some (.ret [.bool true], []) := by
  have e1 : Int.tmod x0 20 = x0 % 20 := Int.tmod_eq_emod_of_nonneg h0
  have hm : IntKind.i64.wrap (Int.tmod x0 20) = x0 % 20 := by rw [e1, w64] <;> omega
  refine (lawHeap_eq 100 x0 _ b []).trans ?_
  have key : lawHeap 100 x0 (c.map (intV .u8)) b = some (.ret [.bool true], []) := by
    unfold lawHeap
    rw [ops_call 100 c 1 b 2 [] (.inl rfl) hc (by decide) (by decide) (by omega), cl_ret, one1_one]
    exact heap_law_loop x0 (x0 % 20) (ops c 2) hm (by omega) (by omega) (ops_len c 2) (ops_k hc (by decide)) (ops c 2).length 0 100 [] (by omega) (by have := ops_len c 2; omega) (by simp) (by simp; omega)
  rw [key]
  exact gcw_ret (by simp) (by simp)
end Go.Proofs.Try
