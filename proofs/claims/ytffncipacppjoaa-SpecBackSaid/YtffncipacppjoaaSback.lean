import Derived.Test.YtffncipacppjoaaSheap
/-! the law SpecBack: it returns true -/
set_option linter.unusedVariables false
set_option linter.unusedSimpArgs false
namespace Go.Proofs.Try
open Go.L Go.Rp
set_option maxRecDepth 100000
theorem back_stack (s : List Int) (v : Int) (h : s.length ≤ 100) : run 1 200 s [⟨1, v⟩, ⟨2, 0⟩] = (s, [⟨1, 0⟩, ⟨2, v⟩]) := by
  have h1 : ¬ most 200 ≤ (s.length : Int) := by unfold most; omega
  simp [run, apply, do4, h1]
theorem back_left (s : List Int) (v : Int) (h : s.length ≤ 100) : run 2 200 s [⟨1, v⟩, ⟨3, 0⟩] = (s, [⟨1, 0⟩, ⟨2, v⟩]) := by
  have h1 : ¬ most 200 ≤ (s.length : Int) := by unfold most; omega
  simp [run, apply, do5, h1]
theorem back_right (s : List Int) (v : Int) (h : s.length ≤ 100) : run 2 200 s [⟨2, v⟩, ⟨4, 0⟩] = (s, [⟨1, 0⟩, ⟨2, v⟩]) := by
  have h1 : ¬ most 200 ≤ (s.length : Int) := by unfold most; omega
  simp [run, apply, do5, h1]
theorem eql_res (a b c d : Int) : bop prog .eql 30 (.agg [.int .u8 a, .int .i32 b]) (.agg [.int .u8 c, .int .i32 d]) = some (.bool (a == c && (b == d && true))) := by kernel_rfl
theorem known_true2 : call 119 10 [] [] = some (.ret [.bool true], []) := by kernel_rfl
/-- SpecBack -/
theorem back_law_call (s : List Int) (b : Bool) (v : Int) (right : Bool) : call 120 9 [.sl 1 (s.map (intV .i32)) b, .int .i32 v, .bool right] [] = some (.ret [.bool true], []) := by
  refine (lawBack_eq 119 _ b v right []).trans ?_
  have hkn := known_true2
  have key : lawBack 119 (s.map (intV .i32)) b v right = some (.ret [.bool true], []) := by
    unfold lawBack
    simp only [List.length_map]
    by_cases hbig : ((s.length : Int) > 100)
    · rw [if_pos (by simpa using hbig), hkn, cl_ret, one1_one]
    · rw [if_neg (by simpa using hbig)]
      have hs : s.length ≤ 100 := by omega
      have hk : ∀ k k' : Int, 0 ≤ k → 0 ≤ k' → ∀ x ∈ ([⟨k, v⟩, ⟨k', 0⟩] : List O), 0 ≤ x.k := fun k k' h h' x hx => by
        simp only [List.mem_cons, List.not_mem_nil, or_false] at hx
        rcases hx with rfl | rfl
        · exact h
        · exact h'
      have c1 : call 119 17 [.int .u8 1, .int .i64 200, .sl 1 (s.map (intV .i32)) b, .sl 2 [[.int .u8 1, .int .i32 v], [.int .u8 2, .int .i32 0]] false] [] = _ := run_call 119 1 200 1 s b 2 [⟨1, v⟩, ⟨2, 0⟩] false [] (.inl rfl) (.inl rfl) (by decide) (hk 1 2 (by decide) (by decide)) (by unfold lim; simp; omega) (by simp; omega)
      have c2 : call 119 17 [.int .u8 2, .int .i64 200, .sl 1 (s.map (intV .i32)) b, .sl 2 [[.int .u8 1, .int .i32 v], [.int .u8 3, .int .i32 0]] false] [] = _ := run_call 119 2 200 1 s b 2 [⟨1, v⟩, ⟨3, 0⟩] false [] (.inl rfl) (.inl rfl) (by decide) (hk 1 3 (by decide) (by decide)) (by unfold lim; simp; omega) (by simp; omega)
      have c3 : call 119 17 [.int .u8 2, .int .i64 200, .sl 1 (s.map (intV .i32)) b, .sl 2 [[.int .u8 2, .int .i32 v], [.int .u8 4, .int .i32 0]] false] [] = _ := run_call 119 2 200 1 s b 2 [⟨2, v⟩, ⟨4, 0⟩] false [] (.inl rfl) (.inl rfl) (by decide) (hk 2 4 (by decide) (by decide)) (by unfold lim; simp; omega) (by simp; omega)
      rw [back_stack s v hs] at c1
      rw [back_left s v hs] at c2
      rw [back_right s v hs] at c3
      have c4 := same_call 119 s s 1 1 false b [] (.inl rfl) (.inl rfl) (by unfold lim; omega) (by omega)
      rw [decide_eq_true (rfl : s = s)] at c4
      have hw1 : R.w ⟨1, 0⟩ = [.int .u8 1, .int .i32 0] := rfl
      have hw2 : R.w ⟨2, v⟩ = [.int .u8 2, .int .i32 v] := rfl
      have ht : ∀ a b : V, List.take 2 [a, b] = [a, b] := fun a b => rfl
      have hv : (v == v) = true := by simp
      have hne : ((((0 + 1 + 1 : Nat) : Int)) != 2) = false := by decide
      generalize call 119 = C at c1 c2 c3 c4 hkn ⊢
      cases right
      · rw [if_neg (by decide)]
        rw [c1, cl_ret]
        simp only [List.getElem?_cons_zero, List.getElem?_cons_succ, bd_some]
        rw [c2, cl_ret]
        simp only [List.getElem?_cons_zero, List.getElem?_cons_succ, bd_some, slc_sl, List.length_map, List.length_cons, List.length_nil, hne, Bool.false_eq_true, if_false]
        rw [hkn, cl_ret, one1_one, bv_bool, if_pos rfl, c4, cl_ret, one1_one, bv_bool, if_pos rfl, c4, cl_ret, one1_one, bv_bool, if_pos rfl]
        simp only [slk_sl, if_true, List.map_cons, List.map_nil, List.getElem?_cons_zero, List.getElem?_cons_succ, bd_some, hw1, hw2, List.drop_zero, ht, eql_res, beq_self_eq_true, hv, Bool.and_self, Bool.and_true, bv_bool]
      · rw [if_pos rfl]
        rw [c1, cl_ret]
        simp only [List.getElem?_cons_zero, List.getElem?_cons_succ, bd_some]
        rw [c3, cl_ret]
        simp only [List.getElem?_cons_zero, List.getElem?_cons_succ, bd_some, slc_sl, List.length_map, List.length_cons, List.length_nil, hne, Bool.false_eq_true, if_false]
        rw [hkn, cl_ret, one1_one, bv_bool, if_pos rfl, c4, cl_ret, one1_one, bv_bool, if_pos rfl, c4, cl_ret, one1_one, bv_bool, if_pos rfl]
        simp only [slk_sl, if_true, List.map_cons, List.map_nil, List.getElem?_cons_zero, List.getElem?_cons_succ, bd_some, hw1, hw2, List.drop_zero, ht, eql_res, beq_self_eq_true, hv, Bool.and_self, Bool.and_true, bv_bool]
  rw [key]
  exact gcw_ret (by simp) (by simp)
end Go.Proofs.Try
