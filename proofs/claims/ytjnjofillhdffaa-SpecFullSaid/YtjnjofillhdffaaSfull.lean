import Derived.Test.YtjnjofillhdffaaSback
import Derived.Test.YtjnjofillhdffaaSfa
/-! the law SpecFull: it returns true; the cases are printed by a program of mine -/
set_option linter.unusedVariables false
set_option linter.unusedSimpArgs false
namespace Go.Proofs.Try
open Go.L Go.Rp
set_option maxRecDepth 100000
theorem full_setR (a b c d : V) : setR [a, b] 0 [c, d] = [c, d] := rfl
theorem full_take (a b : V) : List.take 2 [a, b] = [a, b] := rfl
theorem full_u8 (a b : Int) : bop prog .eql 5 (.int .u8 a) (.int .u8 b) = some (.bool (a == b)) := bop_u8_eql a b
theorem full_app (k m : Int) (z : Nat) (s : List Int) (b : Bool) (kd v : Int) (t : List Int) (c w : Int) (hz : z = 1 ∨ s = []) (hs : s.length ≤ 100) (h0 : 0 ≤ k) (h1 : 0 ≤ kd) (h : apply k m s ⟨kd, v⟩ = (t, ⟨c, w⟩)) :
    call 119 26 [.int .u8 k, .int .i64 m, .sl z (s.map (intV .i32)) b, .agg [.int .u8 kd, .int .i32 v]] [] = some (.ret [.sl 1 (t.map (intV .i32)) false, .agg [.int .u8 c, .int .i32 w]], []) := by
  rw [apply_call 119 k m z s b kd v [] hz h0 h1 (by unfold lim; omega) (by omega), h]
  rfl
theorem full_e0 : ((((0 : Nat) : Int) == 0) = true) := rfl
theorem full_len (s : List Int) : ((s.map (intV .i32)).length : Int) = (s.length : Int) := by rw [List.length_map]
theorem full_11 (s : List Int) (b : Bool) (v x3 m : Int) (hs : s.length ≤ 100) (hm : (if 0 < (IntKind.i64.wrap ((s.length : Int) - (IntKind.i64.wrap (Int.tmod x3 3)))) then (IntKind.i64.wrap ((s.length : Int) - (IntKind.i64.wrap (Int.tmod x3 3)))) else 0) = m) (hm0 : 0 ≤ m) (hm1 : m ≤ s.length) :
    lawFull_11 119 (s.map (intV .i32)) b v x3 = some (.ret [.bool true], []) := by
  have hkn := known_true2
  have hmost : most m ≤ (s.length : Int) := by unfold most; omega
  have hm5 : ¬ most 5 ≤ (0 : Int) := by unfold most; omega
  have hA : apply 1 m s ⟨1, v⟩ = (s, ⟨3, 0⟩) := by simp [apply, do4, hmost]
  have hB : apply 1 5 [] ⟨1, v⟩ = ([v], ⟨1, 0⟩) := by simp [apply, do4, hm5, upto]
  have c1 := full_app 1 m 1 s b 1 v s 3 0 (.inl rfl) hs (by decide) (by decide) hA
  have c2 : call 119 26 [.int .u8 1, .int .i64 5, .sl 0 [] false, .agg [.int .u8 1, .int .i32 v]] [] = _ := full_app 1 5 0 [] false 1 v [v] 1 0 (.inr rfl) (by simp) (by decide) (by decide) hB
  have c4 := same_call 119 s s 1 1 false b [] (.inl rfl) (.inl rfl) (by unfold lim; omega) (by omega)
  rw [decide_eq_true (rfl : s = s)] at c4
  unfold lawFull_11
  rw [full_len, hm]
  generalize call 119 = C at c1 c2 c4 hkn ⊢
  rw [c1, cl_ret]
  simp only [List.getElem?_cons_zero, List.getElem?_cons_succ, bd_some, V.cells, List.length_cons, List.length_nil, Nat.zero_add, Nat.reduceAdd, Nat.le_refl, if_true]
  rw [c2, cl_ret]
  simp only [List.getElem?_cons_zero, List.getElem?_cons_succ, bd_some, V.cells, List.length_cons, List.length_nil, Nat.zero_add, Nat.reduceAdd, Nat.le_refl, if_true]
  rw [hkn, cl_ret, one1_one, bv_bool, if_pos rfl]
  simp only [full_setR, List.drop_zero, full_take, eql_res, full_u8, List.getElem?_cons_zero, bd_some, beq_self_eq_true, Bool.and_self, Bool.and_true, bv_bool, if_true]
  rw [c4, cl_ret, one1_one, bv_bool, if_pos rfl]
  simp only [slc_sl, bd_some, List.map_cons, List.map_nil, List.length_cons, List.length_nil, Nat.zero_add]
  rfl
theorem full_12 (s : List Int) (b : Bool) (v x3 m : Int) (hs : s.length ≤ 100) (hm : (if 0 < (IntKind.i64.wrap ((s.length : Int) - (IntKind.i64.wrap (Int.tmod x3 3)))) then (IntKind.i64.wrap ((s.length : Int) - (IntKind.i64.wrap (Int.tmod x3 3)))) else 0) = m) (hm0 : 0 ≤ m) (hm1 : m ≤ s.length) :
    lawFull_12 119 (s.map (intV .i32)) b v x3 = some (.ret [.bool true], []) := by
  have hkn := known_true2
  have hmost : most m ≤ (s.length : Int) := by unfold most; omega
  have hm5 : ¬ most 5 ≤ (0 : Int) := by unfold most; omega
  have hB : apply 1 5 [] ⟨2, v⟩ = ([], ⟨4, 0⟩) := by simp [apply, do4]
  have c2 : call 119 26 [.int .u8 1, .int .i64 5, .sl 0 [] false, .agg [.int .u8 2, .int .i32 v]] [] = _ := full_app 1 5 0 [] false 2 v [] 4 0 (.inr rfl) (by simp) (by decide) (by decide) hB
  unfold lawFull_12
  rw [full_len, hm]
  by_cases h0 : s.length = 0
  · have hA : apply 1 m s ⟨2, v⟩ = (s, ⟨4, 0⟩) := by simp [apply, do4, h0]
    have c1 := full_app 1 m 1 s b 2 v s 4 0 (.inl rfl) hs (by decide) (by decide) hA
    have hz : ((s.length : Int) == 0) = true := by rw [h0]; rfl
    generalize call 119 = C at c1 c2 hkn ⊢
    rw [c1, cl_ret]
    simp only [List.getElem?_cons_zero, List.getElem?_cons_succ, bd_some, V.cells, List.length_cons, List.length_nil, Nat.zero_add, Nat.reduceAdd, Nat.le_refl, if_true]
    rw [c2, cl_ret]
    simp only [List.getElem?_cons_zero, List.getElem?_cons_succ, bd_some, V.cells, List.length_cons, List.length_nil, Nat.zero_add, Nat.reduceAdd, Nat.le_refl, if_true]
    rw [hkn, cl_ret, one1_one, bv_bool, if_pos rfl]
    simp only [full_setR, List.drop_zero, full_take, eql_res, full_u8, List.getElem?_cons_zero, bd_some, beq_self_eq_true, Bool.and_self, Bool.and_true, bv_bool, if_true]
    simp only [slc_sl, bd_some, List.map_nil, List.length_nil]
    rw [if_pos full_e0, hz, if_pos rfl]
  · have hA : apply 1 m s ⟨2, v⟩ = (s.take (s.length - 1), ⟨2, s.getD (s.length - 1) 0⟩) := by simp [apply, do4, h0]
    have c1 := full_app 1 m 1 s b 2 v (s.take (s.length - 1)) 2 (s.getD (s.length - 1) 0) (.inl rfl) hs (by decide) (by decide) hA
    have hz : ((s.length : Int) == 0) = false := by rw [beq_eq_false_iff_ne]; omega
    have hl : (((((s.take (s.length - 1)).map (intV .i32)).length : Nat) : Int) == IntKind.i64.wrap ((s.length : Int) - 1)) = true := by
      rw [w64 (by omega) (by omega), beq_iff_eq]
      simp only [List.length_map, List.length_take, List.length_drop]
      omega
    generalize call 119 = C at c1 c2 hkn ⊢
    rw [c1, cl_ret]
    simp only [List.getElem?_cons_zero, List.getElem?_cons_succ, bd_some, V.cells, List.length_cons, List.length_nil, Nat.zero_add, Nat.reduceAdd, Nat.le_refl, if_true]
    rw [c2, cl_ret]
    simp only [List.getElem?_cons_zero, List.getElem?_cons_succ, bd_some, V.cells, List.length_cons, List.length_nil, Nat.zero_add, Nat.reduceAdd, Nat.le_refl, if_true]
    rw [hkn, cl_ret, one1_one, bv_bool, if_pos rfl]
    simp only [full_setR, List.drop_zero, full_take, eql_res, full_u8, List.getElem?_cons_zero, bd_some, beq_self_eq_true, Bool.and_self, Bool.and_true, bv_bool, if_true]
    simp only [slc_sl, bd_some, List.map_nil, List.length_nil]
    rw [if_pos full_e0, hz, if_neg Bool.false_ne_true, hl]
theorem full_13 (s : List Int) (b : Bool) (v x3 m : Int) (hs : s.length ≤ 100) (hm : (if 0 < (IntKind.i64.wrap ((s.length : Int) - (IntKind.i64.wrap (Int.tmod x3 3)))) then (IntKind.i64.wrap ((s.length : Int) - (IntKind.i64.wrap (Int.tmod x3 3)))) else 0) = m) (hm0 : 0 ≤ m) (hm1 : m ≤ s.length) :
    lawFull_13 119 (s.map (intV .i32)) b v x3 = some (.ret [.bool true], []) := by
  have hkn := known_true2
  have hmost : most m ≤ (s.length : Int) := by unfold most; omega
  have hm5 : ¬ most 5 ≤ (0 : Int) := by unfold most; omega
  have hA : apply 1 m s ⟨3, v⟩ = (s, ⟨5, 0⟩) := by simp [apply, do4]
  have hB : apply 1 5 [] ⟨3, v⟩ = ([], ⟨5, 0⟩) := by simp [apply, do4]
  have c1 := full_app 1 m 1 s b 3 v s 5 0 (.inl rfl) hs (by decide) (by decide) hA
  have c2 : call 119 26 [.int .u8 1, .int .i64 5, .sl 0 [] false, .agg [.int .u8 3, .int .i32 v]] [] = _ := full_app 1 5 0 [] false 3 v [] 5 0 (.inr rfl) (by simp) (by decide) (by decide) hB
  have c4 := same_call 119 s s 1 1 false b [] (.inl rfl) (.inl rfl) (by unfold lim; omega) (by omega)
  rw [decide_eq_true (rfl : s = s)] at c4
  unfold lawFull_13
  rw [full_len, hm]
  generalize call 119 = C at c1 c2 c4 hkn ⊢
  rw [c1, cl_ret]
  simp only [List.getElem?_cons_zero, List.getElem?_cons_succ, bd_some, V.cells, List.length_cons, List.length_nil, Nat.zero_add, Nat.reduceAdd, Nat.le_refl, if_true]
  rw [c2, cl_ret]
  simp only [List.getElem?_cons_zero, List.getElem?_cons_succ, bd_some, V.cells, List.length_cons, List.length_nil, Nat.zero_add, Nat.reduceAdd, Nat.le_refl, if_true]
  rw [hkn, cl_ret, one1_one, bv_bool, if_pos rfl]
  simp only [full_setR, List.drop_zero, full_take, eql_res, full_u8, List.getElem?_cons_zero, bd_some, beq_self_eq_true, Bool.and_self, Bool.and_true, bv_bool, if_true]
  rw [c4, cl_ret, one1_one]
theorem full_14 (s : List Int) (b : Bool) (v x3 m : Int) (hs : s.length ≤ 100) (hm : (if 0 < (IntKind.i64.wrap ((s.length : Int) - (IntKind.i64.wrap (Int.tmod x3 3)))) then (IntKind.i64.wrap ((s.length : Int) - (IntKind.i64.wrap (Int.tmod x3 3)))) else 0) = m) (hm0 : 0 ≤ m) (hm1 : m ≤ s.length) :
    lawFull_14 119 (s.map (intV .i32)) b v x3 = some (.ret [.bool true], []) := by
  have hkn := known_true2
  have hmost : most m ≤ (s.length : Int) := by unfold most; omega
  have hm5 : ¬ most 5 ≤ (0 : Int) := by unfold most; omega
  have hA : apply 1 m s ⟨4, v⟩ = (s, ⟨5, 0⟩) := by simp [apply, do4]
  have hB : apply 1 5 [] ⟨4, v⟩ = ([], ⟨5, 0⟩) := by simp [apply, do4]
  have c1 := full_app 1 m 1 s b 4 v s 5 0 (.inl rfl) hs (by decide) (by decide) hA
  have c2 : call 119 26 [.int .u8 1, .int .i64 5, .sl 0 [] false, .agg [.int .u8 4, .int .i32 v]] [] = _ := full_app 1 5 0 [] false 4 v [] 5 0 (.inr rfl) (by simp) (by decide) (by decide) hB
  have c4 := same_call 119 s s 1 1 false b [] (.inl rfl) (.inl rfl) (by unfold lim; omega) (by omega)
  rw [decide_eq_true (rfl : s = s)] at c4
  unfold lawFull_14
  rw [full_len, hm]
  generalize call 119 = C at c1 c2 c4 hkn ⊢
  rw [c1, cl_ret]
  simp only [List.getElem?_cons_zero, List.getElem?_cons_succ, bd_some, V.cells, List.length_cons, List.length_nil, Nat.zero_add, Nat.reduceAdd, Nat.le_refl, if_true]
  rw [c2, cl_ret]
  simp only [List.getElem?_cons_zero, List.getElem?_cons_succ, bd_some, V.cells, List.length_cons, List.length_nil, Nat.zero_add, Nat.reduceAdd, Nat.le_refl, if_true]
  rw [hkn, cl_ret, one1_one, bv_bool, if_pos rfl]
  simp only [full_setR, List.drop_zero, full_take, eql_res, full_u8, List.getElem?_cons_zero, bd_some, beq_self_eq_true, Bool.and_self, Bool.and_true, bv_bool, if_true]
  rw [c4, cl_ret, one1_one]
theorem full_21 (s : List Int) (b : Bool) (v x3 m : Int) (hs : s.length ≤ 100) (hm : (if 0 < (IntKind.i64.wrap ((s.length : Int) - (IntKind.i64.wrap (Int.tmod x3 3)))) then (IntKind.i64.wrap ((s.length : Int) - (IntKind.i64.wrap (Int.tmod x3 3)))) else 0) = m) (hm0 : 0 ≤ m) (hm1 : m ≤ s.length) :
    lawFull_21 119 (s.map (intV .i32)) b v x3 = some (.ret [.bool true], []) := by
  have hkn := known_true2
  have hmost : most m ≤ (s.length : Int) := by unfold most; omega
  have hm5 : ¬ most 5 ≤ (0 : Int) := by unfold most; omega
  have hA : apply 2 m s ⟨1, v⟩ = (s, ⟨3, 0⟩) := by simp [apply, do5, hmost]
  have hB : apply 2 5 [] ⟨1, v⟩ = ([v], ⟨1, 0⟩) := by simp [apply, do5, hm5, upto]
  have c1 := full_app 2 m 1 s b 1 v s 3 0 (.inl rfl) hs (by decide) (by decide) hA
  have c2 : call 119 26 [.int .u8 2, .int .i64 5, .sl 0 [] false, .agg [.int .u8 1, .int .i32 v]] [] = _ := full_app 2 5 0 [] false 1 v [v] 1 0 (.inr rfl) (by simp) (by decide) (by decide) hB
  have c4 := same_call 119 s s 1 1 false b [] (.inl rfl) (.inl rfl) (by unfold lim; omega) (by omega)
  rw [decide_eq_true (rfl : s = s)] at c4
  unfold lawFull_21
  rw [full_len, hm]
  generalize call 119 = C at c1 c2 c4 hkn ⊢
  rw [c1, cl_ret]
  simp only [List.getElem?_cons_zero, List.getElem?_cons_succ, bd_some, V.cells, List.length_cons, List.length_nil, Nat.zero_add, Nat.reduceAdd, Nat.le_refl, if_true]
  rw [c2, cl_ret]
  simp only [List.getElem?_cons_zero, List.getElem?_cons_succ, bd_some, V.cells, List.length_cons, List.length_nil, Nat.zero_add, Nat.reduceAdd, Nat.le_refl, if_true]
  rw [hkn, cl_ret, one1_one, bv_bool, if_pos rfl]
  simp only [full_setR, List.drop_zero, full_take, eql_res, full_u8, List.getElem?_cons_zero, bd_some, beq_self_eq_true, Bool.and_self, Bool.and_true, bv_bool, if_true]
  rw [c4, cl_ret, one1_one, bv_bool, if_pos rfl]
  simp only [slc_sl, bd_some, List.map_cons, List.map_nil, List.length_cons, List.length_nil, Nat.zero_add]
  rfl
theorem full_22 (s : List Int) (b : Bool) (v x3 m : Int) (hs : s.length ≤ 100) (hm : (if 0 < (IntKind.i64.wrap ((s.length : Int) - (IntKind.i64.wrap (Int.tmod x3 3)))) then (IntKind.i64.wrap ((s.length : Int) - (IntKind.i64.wrap (Int.tmod x3 3)))) else 0) = m) (hm0 : 0 ≤ m) (hm1 : m ≤ s.length) :
    lawFull_22 119 (s.map (intV .i32)) b v x3 = some (.ret [.bool true], []) := by
  have hkn := known_true2
  have hmost : most m ≤ (s.length : Int) := by unfold most; omega
  have hm5 : ¬ most 5 ≤ (0 : Int) := by unfold most; omega
  have hA : apply 2 m s ⟨2, v⟩ = (s, ⟨3, 0⟩) := by simp [apply, do5, hmost]
  have hB : apply 2 5 [] ⟨2, v⟩ = ([v], ⟨1, 0⟩) := by simp [apply, do5, hm5, upto]
  have c1 := full_app 2 m 1 s b 2 v s 3 0 (.inl rfl) hs (by decide) (by decide) hA
  have c2 : call 119 26 [.int .u8 2, .int .i64 5, .sl 0 [] false, .agg [.int .u8 2, .int .i32 v]] [] = _ := full_app 2 5 0 [] false 2 v [v] 1 0 (.inr rfl) (by simp) (by decide) (by decide) hB
  have c4 := same_call 119 s s 1 1 false b [] (.inl rfl) (.inl rfl) (by unfold lim; omega) (by omega)
  rw [decide_eq_true (rfl : s = s)] at c4
  unfold lawFull_22
  rw [full_len, hm]
  generalize call 119 = C at c1 c2 c4 hkn ⊢
  rw [c1, cl_ret]
  simp only [List.getElem?_cons_zero, List.getElem?_cons_succ, bd_some, V.cells, List.length_cons, List.length_nil, Nat.zero_add, Nat.reduceAdd, Nat.le_refl, if_true]
  rw [c2, cl_ret]
  simp only [List.getElem?_cons_zero, List.getElem?_cons_succ, bd_some, V.cells, List.length_cons, List.length_nil, Nat.zero_add, Nat.reduceAdd, Nat.le_refl, if_true]
  rw [hkn, cl_ret, one1_one, bv_bool, if_pos rfl]
  simp only [full_setR, List.drop_zero, full_take, eql_res, full_u8, List.getElem?_cons_zero, bd_some, beq_self_eq_true, Bool.and_self, Bool.and_true, bv_bool, if_true]
  rw [c4, cl_ret, one1_one, bv_bool, if_pos rfl]
  simp only [slc_sl, bd_some, List.map_cons, List.map_nil, List.length_cons, List.length_nil, Nat.zero_add]
  rfl
theorem full_23 (s : List Int) (b : Bool) (v x3 m : Int) (hs : s.length ≤ 100) (hm : (if 0 < (IntKind.i64.wrap ((s.length : Int) - (IntKind.i64.wrap (Int.tmod x3 3)))) then (IntKind.i64.wrap ((s.length : Int) - (IntKind.i64.wrap (Int.tmod x3 3)))) else 0) = m) (hm0 : 0 ≤ m) (hm1 : m ≤ s.length) :
    lawFull_23 119 (s.map (intV .i32)) b v x3 = some (.ret [.bool true], []) := by
  have hkn := known_true2
  have hmost : most m ≤ (s.length : Int) := by unfold most; omega
  have hm5 : ¬ most 5 ≤ (0 : Int) := by unfold most; omega
  have hB : apply 2 5 [] ⟨3, v⟩ = ([], ⟨4, 0⟩) := by simp [apply, do5]
  have c2 : call 119 26 [.int .u8 2, .int .i64 5, .sl 0 [] false, .agg [.int .u8 3, .int .i32 v]] [] = _ := full_app 2 5 0 [] false 3 v [] 4 0 (.inr rfl) (by simp) (by decide) (by decide) hB
  unfold lawFull_23
  rw [full_len, hm]
  by_cases h0 : s.length = 0
  · have hA : apply 2 m s ⟨3, v⟩ = (s, ⟨4, 0⟩) := by simp [apply, do5, h0]
    have c1 := full_app 2 m 1 s b 3 v s 4 0 (.inl rfl) hs (by decide) (by decide) hA
    have hz : ((s.length : Int) == 0) = true := by rw [h0]; rfl
    generalize call 119 = C at c1 c2 hkn ⊢
    rw [c1, cl_ret]
    simp only [List.getElem?_cons_zero, List.getElem?_cons_succ, bd_some, V.cells, List.length_cons, List.length_nil, Nat.zero_add, Nat.reduceAdd, Nat.le_refl, if_true]
    rw [c2, cl_ret]
    simp only [List.getElem?_cons_zero, List.getElem?_cons_succ, bd_some, V.cells, List.length_cons, List.length_nil, Nat.zero_add, Nat.reduceAdd, Nat.le_refl, if_true]
    rw [hkn, cl_ret, one1_one, bv_bool, if_pos rfl]
    simp only [full_setR, List.drop_zero, full_take, eql_res, full_u8, List.getElem?_cons_zero, bd_some, beq_self_eq_true, Bool.and_self, Bool.and_true, bv_bool, if_true]
    simp only [slc_sl, bd_some, List.map_nil, List.length_nil]
    rw [if_pos full_e0, hz, if_pos rfl]
  · have hA : apply 2 m s ⟨3, v⟩ = (s.drop 1, ⟨2, s.getD 0 0⟩) := by simp [apply, do5, h0]
    have c1 := full_app 2 m 1 s b 3 v (s.drop 1) 2 (s.getD 0 0) (.inl rfl) hs (by decide) (by decide) hA
    have hz : ((s.length : Int) == 0) = false := by rw [beq_eq_false_iff_ne]; omega
    have hl : (((((s.drop 1).map (intV .i32)).length : Nat) : Int) == IntKind.i64.wrap ((s.length : Int) - 1)) = true := by
      rw [w64 (by omega) (by omega), beq_iff_eq]
      simp only [List.length_map, List.length_take, List.length_drop]
      omega
    generalize call 119 = C at c1 c2 hkn ⊢
    rw [c1, cl_ret]
    simp only [List.getElem?_cons_zero, List.getElem?_cons_succ, bd_some, V.cells, List.length_cons, List.length_nil, Nat.zero_add, Nat.reduceAdd, Nat.le_refl, if_true]
    rw [c2, cl_ret]
    simp only [List.getElem?_cons_zero, List.getElem?_cons_succ, bd_some, V.cells, List.length_cons, List.length_nil, Nat.zero_add, Nat.reduceAdd, Nat.le_refl, if_true]
    rw [hkn, cl_ret, one1_one, bv_bool, if_pos rfl]
    simp only [full_setR, List.drop_zero, full_take, eql_res, full_u8, List.getElem?_cons_zero, bd_some, beq_self_eq_true, Bool.and_self, Bool.and_true, bv_bool, if_true]
    simp only [slc_sl, bd_some, List.map_nil, List.length_nil]
    rw [if_pos full_e0, hz, if_neg Bool.false_ne_true, hl]
theorem full_24 (s : List Int) (b : Bool) (v x3 m : Int) (hs : s.length ≤ 100) (hm : (if 0 < (IntKind.i64.wrap ((s.length : Int) - (IntKind.i64.wrap (Int.tmod x3 3)))) then (IntKind.i64.wrap ((s.length : Int) - (IntKind.i64.wrap (Int.tmod x3 3)))) else 0) = m) (hm0 : 0 ≤ m) (hm1 : m ≤ s.length) :
    lawFull_24 119 (s.map (intV .i32)) b v x3 = some (.ret [.bool true], []) := by
  have hkn := known_true2
  have hmost : most m ≤ (s.length : Int) := by unfold most; omega
  have hm5 : ¬ most 5 ≤ (0 : Int) := by unfold most; omega
  have hB : apply 2 5 [] ⟨4, v⟩ = ([], ⟨4, 0⟩) := by simp [apply, do5]
  have c2 : call 119 26 [.int .u8 2, .int .i64 5, .sl 0 [] false, .agg [.int .u8 4, .int .i32 v]] [] = _ := full_app 2 5 0 [] false 4 v [] 4 0 (.inr rfl) (by simp) (by decide) (by decide) hB
  unfold lawFull_24
  rw [full_len, hm]
  by_cases h0 : s.length = 0
  · have hA : apply 2 m s ⟨4, v⟩ = (s, ⟨4, 0⟩) := by simp [apply, do5, h0]
    have c1 := full_app 2 m 1 s b 4 v s 4 0 (.inl rfl) hs (by decide) (by decide) hA
    have hz : ((s.length : Int) == 0) = true := by rw [h0]; rfl
    generalize call 119 = C at c1 c2 hkn ⊢
    rw [c1, cl_ret]
    simp only [List.getElem?_cons_zero, List.getElem?_cons_succ, bd_some, V.cells, List.length_cons, List.length_nil, Nat.zero_add, Nat.reduceAdd, Nat.le_refl, if_true]
    rw [c2, cl_ret]
    simp only [List.getElem?_cons_zero, List.getElem?_cons_succ, bd_some, V.cells, List.length_cons, List.length_nil, Nat.zero_add, Nat.reduceAdd, Nat.le_refl, if_true]
    rw [hkn, cl_ret, one1_one, bv_bool, if_pos rfl]
    simp only [full_setR, List.drop_zero, full_take, eql_res, full_u8, List.getElem?_cons_zero, bd_some, beq_self_eq_true, Bool.and_self, Bool.and_true, bv_bool, if_true]
    simp only [slc_sl, bd_some, List.map_nil, List.length_nil]
    rw [if_pos full_e0, hz, if_pos rfl]
  · have hA : apply 2 m s ⟨4, v⟩ = (s.take (s.length - 1), ⟨2, s.getD (s.length - 1) 0⟩) := by simp [apply, do5, h0]
    have c1 := full_app 2 m 1 s b 4 v (s.take (s.length - 1)) 2 (s.getD (s.length - 1) 0) (.inl rfl) hs (by decide) (by decide) hA
    have hz : ((s.length : Int) == 0) = false := by rw [beq_eq_false_iff_ne]; omega
    have hl : (((((s.take (s.length - 1)).map (intV .i32)).length : Nat) : Int) == IntKind.i64.wrap ((s.length : Int) - 1)) = true := by
      rw [w64 (by omega) (by omega), beq_iff_eq]
      simp only [List.length_map, List.length_take, List.length_drop]
      omega
    generalize call 119 = C at c1 c2 hkn ⊢
    rw [c1, cl_ret]
    simp only [List.getElem?_cons_zero, List.getElem?_cons_succ, bd_some, V.cells, List.length_cons, List.length_nil, Nat.zero_add, Nat.reduceAdd, Nat.le_refl, if_true]
    rw [c2, cl_ret]
    simp only [List.getElem?_cons_zero, List.getElem?_cons_succ, bd_some, V.cells, List.length_cons, List.length_nil, Nat.zero_add, Nat.reduceAdd, Nat.le_refl, if_true]
    rw [hkn, cl_ret, one1_one, bv_bool, if_pos rfl]
    simp only [full_setR, List.drop_zero, full_take, eql_res, full_u8, List.getElem?_cons_zero, bd_some, beq_self_eq_true, Bool.and_self, Bool.and_true, bv_bool, if_true]
    simp only [slc_sl, bd_some, List.map_nil, List.length_nil]
    rw [if_pos full_e0, hz, if_neg Bool.false_ne_true, hl]
theorem full_31 (s : List Int) (b : Bool) (v x3 m : Int) (hs : s.length ≤ 100) (hm : (if 0 < (IntKind.i64.wrap ((s.length : Int) - (IntKind.i64.wrap (Int.tmod x3 3)))) then (IntKind.i64.wrap ((s.length : Int) - (IntKind.i64.wrap (Int.tmod x3 3)))) else 0) = m) (hm0 : 0 ≤ m) (hm1 : m ≤ s.length) :
    lawFull_31 119 (s.map (intV .i32)) b v x3 = some (.ret [.bool true], []) := by
  have hkn := known_true2
  have hmost : most m ≤ (s.length : Int) := by unfold most; omega
  have hm5 : ¬ most 5 ≤ (0 : Int) := by unfold most; omega
  have hA : apply 3 m s ⟨1, v⟩ = (s, ⟨3, 0⟩) := by simp [apply, do8, hmost]
  have hB : apply 3 5 [] ⟨1, v⟩ = ([v], ⟨1, 0⟩) := by simp [apply, do8, hm5, upto]
  have c1 := full_app 3 m 1 s b 1 v s 3 0 (.inl rfl) hs (by decide) (by decide) hA
  have c2 : call 119 26 [.int .u8 3, .int .i64 5, .sl 0 [] false, .agg [.int .u8 1, .int .i32 v]] [] = _ := full_app 3 5 0 [] false 1 v [v] 1 0 (.inr rfl) (by simp) (by decide) (by decide) hB
  have c4 := same_call 119 s s 1 1 false b [] (.inl rfl) (.inl rfl) (by unfold lim; omega) (by omega)
  rw [decide_eq_true (rfl : s = s)] at c4
  unfold lawFull_31
  rw [full_len, hm]
  generalize call 119 = C at c1 c2 c4 hkn ⊢
  rw [c1, cl_ret]
  simp only [List.getElem?_cons_zero, List.getElem?_cons_succ, bd_some, V.cells, List.length_cons, List.length_nil, Nat.zero_add, Nat.reduceAdd, Nat.le_refl, if_true]
  rw [c2, cl_ret]
  simp only [List.getElem?_cons_zero, List.getElem?_cons_succ, bd_some, V.cells, List.length_cons, List.length_nil, Nat.zero_add, Nat.reduceAdd, Nat.le_refl, if_true]
  rw [hkn, cl_ret, one1_one, bv_bool, if_pos rfl]
  simp only [full_setR, List.drop_zero, full_take, eql_res, full_u8, List.getElem?_cons_zero, bd_some, beq_self_eq_true, Bool.and_self, Bool.and_true, bv_bool, if_true]
  rw [c4, cl_ret, one1_one, bv_bool, if_pos rfl]
  simp only [slc_sl, bd_some, List.map_cons, List.map_nil, List.length_cons, List.length_nil, Nat.zero_add]
  rfl
theorem full_32 (s : List Int) (b : Bool) (v x3 m : Int) (hs : s.length ≤ 100) (hm : (if 0 < (IntKind.i64.wrap ((s.length : Int) - (IntKind.i64.wrap (Int.tmod x3 3)))) then (IntKind.i64.wrap ((s.length : Int) - (IntKind.i64.wrap (Int.tmod x3 3)))) else 0) = m) (hm0 : 0 ≤ m) (hm1 : m ≤ s.length) :
    lawFull_32 119 (s.map (intV .i32)) b v x3 = some (.ret [.bool true], []) := by
  have hkn := known_true2
  have hmost : most m ≤ (s.length : Int) := by unfold most; omega
  have hm5 : ¬ most 5 ≤ (0 : Int) := by unfold most; omega
  have hB : apply 3 5 [] ⟨2, v⟩ = ([], ⟨4, 0⟩) := by simp [apply, do8]
  have c2 : call 119 26 [.int .u8 3, .int .i64 5, .sl 0 [] false, .agg [.int .u8 2, .int .i32 v]] [] = _ := full_app 3 5 0 [] false 2 v [] 4 0 (.inr rfl) (by simp) (by decide) (by decide) hB
  unfold lawFull_32
  rw [full_len, hm]
  by_cases h0 : s.length = 0
  · have hA : apply 3 m s ⟨2, v⟩ = (s, ⟨4, 0⟩) := by simp [apply, do8, h0]
    have c1 := full_app 3 m 1 s b 2 v s 4 0 (.inl rfl) hs (by decide) (by decide) hA
    have hz : ((s.length : Int) == 0) = true := by rw [h0]; rfl
    generalize call 119 = C at c1 c2 hkn ⊢
    rw [c1, cl_ret]
    simp only [List.getElem?_cons_zero, List.getElem?_cons_succ, bd_some, V.cells, List.length_cons, List.length_nil, Nat.zero_add, Nat.reduceAdd, Nat.le_refl, if_true]
    rw [c2, cl_ret]
    simp only [List.getElem?_cons_zero, List.getElem?_cons_succ, bd_some, V.cells, List.length_cons, List.length_nil, Nat.zero_add, Nat.reduceAdd, Nat.le_refl, if_true]
    rw [hkn, cl_ret, one1_one, bv_bool, if_pos rfl]
    simp only [full_setR, List.drop_zero, full_take, eql_res, full_u8, List.getElem?_cons_zero, bd_some, beq_self_eq_true, Bool.and_self, Bool.and_true, bv_bool, if_true]
    simp only [slc_sl, bd_some, List.map_nil, List.length_nil]
    rw [if_pos full_e0, hz, if_pos rfl]
  · have hA : apply 3 m s ⟨2, v⟩ = (s.drop 1, ⟨2, s.getD 0 0⟩) := by simp [apply, do8, h0]
    have c1 := full_app 3 m 1 s b 2 v (s.drop 1) 2 (s.getD 0 0) (.inl rfl) hs (by decide) (by decide) hA
    have hz : ((s.length : Int) == 0) = false := by rw [beq_eq_false_iff_ne]; omega
    have hl : (((((s.drop 1).map (intV .i32)).length : Nat) : Int) == IntKind.i64.wrap ((s.length : Int) - 1)) = true := by
      rw [w64 (by omega) (by omega), beq_iff_eq]
      simp only [List.length_map, List.length_take, List.length_drop]
      omega
    generalize call 119 = C at c1 c2 hkn ⊢
    rw [c1, cl_ret]
    simp only [List.getElem?_cons_zero, List.getElem?_cons_succ, bd_some, V.cells, List.length_cons, List.length_nil, Nat.zero_add, Nat.reduceAdd, Nat.le_refl, if_true]
    rw [c2, cl_ret]
    simp only [List.getElem?_cons_zero, List.getElem?_cons_succ, bd_some, V.cells, List.length_cons, List.length_nil, Nat.zero_add, Nat.reduceAdd, Nat.le_refl, if_true]
    rw [hkn, cl_ret, one1_one, bv_bool, if_pos rfl]
    simp only [full_setR, List.drop_zero, full_take, eql_res, full_u8, List.getElem?_cons_zero, bd_some, beq_self_eq_true, Bool.and_self, Bool.and_true, bv_bool, if_true]
    simp only [slc_sl, bd_some, List.map_nil, List.length_nil]
    rw [if_pos full_e0, hz, if_neg Bool.false_ne_true, hl]
theorem full_33 (s : List Int) (b : Bool) (v x3 m : Int) (hs : s.length ≤ 100) (hm : (if 0 < (IntKind.i64.wrap ((s.length : Int) - (IntKind.i64.wrap (Int.tmod x3 3)))) then (IntKind.i64.wrap ((s.length : Int) - (IntKind.i64.wrap (Int.tmod x3 3)))) else 0) = m) (hm0 : 0 ≤ m) (hm1 : m ≤ s.length) :
    lawFull_33 119 (s.map (intV .i32)) b v x3 = some (.ret [.bool true], []) := by
  have hkn := known_true2
  have hmost : most m ≤ (s.length : Int) := by unfold most; omega
  have hm5 : ¬ most 5 ≤ (0 : Int) := by unfold most; omega
  have hA : apply 3 m s ⟨3, v⟩ = (s, ⟨5, 0⟩) := by simp [apply, do8]
  have hB : apply 3 5 [] ⟨3, v⟩ = ([], ⟨5, 0⟩) := by simp [apply, do8]
  have c1 := full_app 3 m 1 s b 3 v s 5 0 (.inl rfl) hs (by decide) (by decide) hA
  have c2 : call 119 26 [.int .u8 3, .int .i64 5, .sl 0 [] false, .agg [.int .u8 3, .int .i32 v]] [] = _ := full_app 3 5 0 [] false 3 v [] 5 0 (.inr rfl) (by simp) (by decide) (by decide) hB
  have c4 := same_call 119 s s 1 1 false b [] (.inl rfl) (.inl rfl) (by unfold lim; omega) (by omega)
  rw [decide_eq_true (rfl : s = s)] at c4
  unfold lawFull_33
  rw [full_len, hm]
  generalize call 119 = C at c1 c2 c4 hkn ⊢
  rw [c1, cl_ret]
  simp only [List.getElem?_cons_zero, List.getElem?_cons_succ, bd_some, V.cells, List.length_cons, List.length_nil, Nat.zero_add, Nat.reduceAdd, Nat.le_refl, if_true]
  rw [c2, cl_ret]
  simp only [List.getElem?_cons_zero, List.getElem?_cons_succ, bd_some, V.cells, List.length_cons, List.length_nil, Nat.zero_add, Nat.reduceAdd, Nat.le_refl, if_true]
  rw [hkn, cl_ret, one1_one, bv_bool, if_pos rfl]
  simp only [full_setR, List.drop_zero, full_take, eql_res, full_u8, List.getElem?_cons_zero, bd_some, beq_self_eq_true, Bool.and_self, Bool.and_true, bv_bool, if_true]
  rw [c4, cl_ret, one1_one]
theorem full_34 (s : List Int) (b : Bool) (v x3 m : Int) (hs : s.length ≤ 100) (hm : (if 0 < (IntKind.i64.wrap ((s.length : Int) - (IntKind.i64.wrap (Int.tmod x3 3)))) then (IntKind.i64.wrap ((s.length : Int) - (IntKind.i64.wrap (Int.tmod x3 3)))) else 0) = m) (hm0 : 0 ≤ m) (hm1 : m ≤ s.length) :
    lawFull_34 119 (s.map (intV .i32)) b v x3 = some (.ret [.bool true], []) := by
  have hkn := known_true2
  have hmost : most m ≤ (s.length : Int) := by unfold most; omega
  have hm5 : ¬ most 5 ≤ (0 : Int) := by unfold most; omega
  have hA : apply 3 m s ⟨4, v⟩ = (s, ⟨5, 0⟩) := by simp [apply, do8]
  have hB : apply 3 5 [] ⟨4, v⟩ = ([], ⟨5, 0⟩) := by simp [apply, do8]
  have c1 := full_app 3 m 1 s b 4 v s 5 0 (.inl rfl) hs (by decide) (by decide) hA
  have c2 : call 119 26 [.int .u8 3, .int .i64 5, .sl 0 [] false, .agg [.int .u8 4, .int .i32 v]] [] = _ := full_app 3 5 0 [] false 4 v [] 5 0 (.inr rfl) (by simp) (by decide) (by decide) hB
  have c4 := same_call 119 s s 1 1 false b [] (.inl rfl) (.inl rfl) (by unfold lim; omega) (by omega)
  rw [decide_eq_true (rfl : s = s)] at c4
  unfold lawFull_34
  rw [full_len, hm]
  generalize call 119 = C at c1 c2 c4 hkn ⊢
  rw [c1, cl_ret]
  simp only [List.getElem?_cons_zero, List.getElem?_cons_succ, bd_some, V.cells, List.length_cons, List.length_nil, Nat.zero_add, Nat.reduceAdd, Nat.le_refl, if_true]
  rw [c2, cl_ret]
  simp only [List.getElem?_cons_zero, List.getElem?_cons_succ, bd_some, V.cells, List.length_cons, List.length_nil, Nat.zero_add, Nat.reduceAdd, Nat.le_refl, if_true]
  rw [hkn, cl_ret, one1_one, bv_bool, if_pos rfl]
  simp only [full_setR, List.drop_zero, full_take, eql_res, full_u8, List.getElem?_cons_zero, bd_some, beq_self_eq_true, Bool.and_self, Bool.and_true, bv_bool, if_true]
  rw [c4, cl_ret, one1_one]
/-- SpecFull -/
theorem full_law_call (x0 : Int) (s : List Int) (b : Bool) (k v x3 : Int) (h0 : 0 ≤ x0) (h2 : 0 ≤ k) (h3 : 0 ≤ x3) : call 120 8 [.int .u8 x0, .sl 1 (s.map (intV .i32)) b, .agg [.int .u8 k, .int .i32 v], .int .u8 x3] [] = some (.ret [.bool true], []) := by
  refine (lawFull_eq 119 x0 _ b k v x3 []).trans ?_
  have hkn := known_true2
  have e1 : Int.tmod x0 3 = x0 % 3 := Int.tmod_eq_emod_of_nonneg h0
  have e2 : Int.tmod k 4 = k % 4 := Int.tmod_eq_emod_of_nonneg h2
  have e3 : Int.tmod x3 3 = x3 % 3 := Int.tmod_eq_emod_of_nonneg h3
  have w8 : ∀ n : Int, 0 ≤ n → n < 256 → IntKind.u8.wrap n = n := fun n a b => by rw [IntKind.wrap_u8]; omega
  have key : lawFull 119 (seqR 4 (bodyF f8)) x0 (s.map (intV .i32)) b k v x3 = some (.ret [.bool true], []) := by
    unfold lawFull
    simp only [List.length_map]
    by_cases hbig : ((s.length : Int) > 100)
    · rw [if_pos (by simpa using hbig), hkn, cl_ret, one1_one]
    · rw [if_neg (by simpa using hbig)]
      have hs : s.length ≤ 100 := by omega
      have hT : ∀ F h, tailT prog keepS pureS (L.textDraws prog) (call 119) 119 f8 (seqR 4 (bodyF f8)) F h = lawFull_T 119 F h := fun F h => rfl
      rw [hT]
      have hm : ∃ m, (if 0 < (IntKind.i64.wrap ((s.length : Int) - (IntKind.i64.wrap (Int.tmod x3 3)))) then (IntKind.i64.wrap ((s.length : Int) - (IntKind.i64.wrap (Int.tmod x3 3)))) else 0) = m ∧ 0 ≤ m ∧ m ≤ (s.length : Int) := by
        refine ⟨_, rfl, ?_⟩
        rw [e3, w64 (n := x3 % 3) (by omega) (by omega), w64 (by omega) (by omega)]
        split <;> omega
      obtain ⟨m, hm, hm0, hm1⟩ := hm
      have hk1 : IntKind.u8.wrap (1 + Int.tmod x0 3) = 1 ∨ IntKind.u8.wrap (1 + Int.tmod x0 3) = 2 ∨ IntKind.u8.wrap (1 + Int.tmod x0 3) = 3 := by
        rw [e1, w8 _ (by omega) (by omega)]; omega
      have hk2 : IntKind.u8.wrap (1 + Int.tmod k 4) = 1 ∨ IntKind.u8.wrap (1 + Int.tmod k 4) = 2 ∨ IntKind.u8.wrap (1 + Int.tmod k 4) = 3 ∨ IntKind.u8.wrap (1 + Int.tmod k 4) = 4 := by
        rw [e2, w8 _ (by omega) (by omega)]; omega
      rcases hk1 with q | q | q
      · rcases hk2 with r | r | r | r
        · rw [q, r, lawFull_11_eq]; exact full_11 s b v x3 m hs hm hm0 hm1
        · rw [q, r, lawFull_12_eq]; exact full_12 s b v x3 m hs hm hm0 hm1
        · rw [q, r, lawFull_13_eq]; exact full_13 s b v x3 m hs hm hm0 hm1
        · rw [q, r, lawFull_14_eq]; exact full_14 s b v x3 m hs hm hm0 hm1
      · rcases hk2 with r | r | r | r
        · rw [q, r, lawFull_21_eq]; exact full_21 s b v x3 m hs hm hm0 hm1
        · rw [q, r, lawFull_22_eq]; exact full_22 s b v x3 m hs hm hm0 hm1
        · rw [q, r, lawFull_23_eq]; exact full_23 s b v x3 m hs hm hm0 hm1
        · rw [q, r, lawFull_24_eq]; exact full_24 s b v x3 m hs hm hm0 hm1
      · rcases hk2 with r | r | r | r
        · rw [q, r, lawFull_31_eq]; exact full_31 s b v x3 m hs hm hm0 hm1
        · rw [q, r, lawFull_32_eq]; exact full_32 s b v x3 m hs hm hm0 hm1
        · rw [q, r, lawFull_33_eq]; exact full_33 s b v x3 m hs hm hm0 hm1
        · rw [q, r, lawFull_34_eq]; exact full_34 s b v x3 m hs hm hm0 hm1
  rw [key]
  exact gcw_ret (by simp) (by simp)
end Go.Proofs.Try
