import Derived.Test.YtodgpfffnnlbhaaLge
import Derived.Test.YtodgpfffnnlbhaaLap
/-! reaperref08.Apply is apply, too -/
set_option linter.unusedVariables false
set_option linter.unusedSimpArgs false
namespace Go.Proofs.Try
open Go.L Go.Rp
set_option maxRecDepth 100000
theorem most_call (n : Nat) (m : Int) (h : Heap) : call (n + 1) 66 [.int .i64 m] h = some (.ret [.int .i64 (most m)], h) := by
  rw [lMost_eq, lMost]
  congr 5
  unfold most
  split <;> split <;> omega
/-- an answer -/
def AnsV (x : List Int × R) (vs : List V) : Prop := ∃ z b, vs = [.sl z (x.1.map (intV .i32)) b, .agg [.int .u8 x.2.c, .int .i32 x.2.v]] ∧ (z = 1 ∨ x.1 = [])
theorem app_i32 (a b : List Int) (h : a.length + b.length < lim) : app 21 1 (.own 21 1 (a.map (intV .i32))) (b.map (intV .i32)) = some ((a ++ b).map (intV .i32)) := by
  simp [app, h]
theorem app_nil (b : List Int) (h : b.length < lim) : app 21 1 (.own 21 1 []) (b.map (intV .i32)) = some (b.map (intV .i32)) := by
  simp [app, h]
theorem app_one (a : List Int) (x : Int) (h : a.length + 1 < lim) : app 21 1 (.own 21 1 (a.map (intV .i32))) [[.int .i32 x]] = some ((a ++ [x]).map (intV .i32)) := by
  simp [app, h, intV]
theorem app_nil1 (x : Int) : app 21 1 (.own 21 1 []) [[.int .i32 x]] = some ([x].map (intV .i32)) := by
  simp [app, intV, lim]
theorem bsl_i32 (x : Int) : bslV prog 39 1 [(0, .int .i32 x)] = some (1, [[.int .i32 x]]) := by kernel_rfl
theorem slP {sz z a b : Nat} {l : List (List V)} {sb : Bool} (hz : z = sz ∨ l.isEmpty = true) (h1 : a ≤ b) (h2 : b ≤ l.length) : sliceP sz a b (none : Option Nat) true (.sl z l sb) = some (.sl sz ((l.take b).drop a) false) := by
  have hc : a ≤ b ∧ b ≤ l.length ∧ (z = sz ∨ l.isEmpty = true) ∧ ((none : Option Nat) = none ∨ (none : Option Nat) = some b) ∧ true = true := ⟨h1, h2, hz, .inl rfl, rfl⟩
  show (if _ then _ else _) = _
  rw [if_pos hc]
  rfl
theorem last_w {s : List Int} (hs : s.length + 1 < lim) (h0 : s.length ≠ 0) : IntKind.i64.wrap ((s.length : Int) - 1) = ((s.length - 1 : Nat) : Int) := by unfold lim at hs; rw [w64] <;> omega
section
variable (n : Nat) (m : Int) (z : Nat) (s : List Int) (sb : Bool) (k v : Int) (h : Heap)
theorem do4_call (hz : z = 1 ∨ s = []) (hs : s.length + 1 < lim) : ∃ vs, call (n + 2) 72 [.int .i64 m, .sl z (s.map (intV .i32)) sb, .agg [.int .u8 k, .int .i32 v]] h = some (.ret vs, h) ∧ AnsV (do4 m s ⟨k, v⟩) vs := by
  have hcond : (True ∧ (z = 1 ∨ (s.map (intV .i32)).isEmpty = true)) := ⟨trivial, hz.imp id (fun h => by rw [h]; rfl)⟩
  have hs1 : s.length < lim := by omega
  rw [lDo4_eq]
  unfold lDo4 do4
  by_cases h1 : k = 1
  · subst h1
    simp only [beq_self_eq_true, if_true, slcH_sl, idxP_sl, cellsP_iptr, lenP_sl, bd_some, most_call, cl_ret, one1_one, List.length_map, bop_i64_geq, bv_bool]
    by_cases hf : most m ≤ s.length
    · have hf' : (s.length : Int) ≥ most m := hf
      simp only [hf, hf', decide_true, if_true]
      exact ⟨_, rfl, z, sb, rfl, hz⟩
    · have hf' : ¬ (s.length : Int) ≥ most m := hf
      simp only [hf, hf', decide_false, Bool.false_eq_true, if_false, bdS_some]
      rw [if_pos hcond]
      simp only [app_nil s hs1, bd_some, app_one s v hs]
      exact ⟨_, rfl, 1, false, rfl, .inl rfl⟩
  · have e1 : (k == 1) = false := by simpa using h1
    simp only [e1, h1, Bool.false_eq_true, if_false]
    by_cases h2 : k = 2
    · subst h2
      simp only [beq_self_eq_true, if_true, slcH_sl, idxP_sl, cellsP_iptr, lenP_sl, bd_some, List.length_map]
      by_cases h0 : s.length = 0
      · have : ¬ ((s.length : Int) > 0) := by omega
        simp only [h0, this, decide_false, Bool.false_eq_true, if_false, if_true]
        refine ⟨_, ?_, z, sb, rfl, hz⟩
        simp
      · have h3 : ((s.length : Int) > 0) := by omega
        obtain rfl : z = 1 := hz.resolve_right (by rintro rfl; simp at h0)
        obtain ⟨x, hx⟩ : ∃ x, s[s.length - 1]? = some x := ⟨_, List.getElem?_eq_getElem (by omega)⟩
        have hc : (0 ≤ s.length - 1 ∧ s.length - 1 ≤ s.length ∧ (True ∨ (s.map (intV .i32)).isEmpty = true) ∧ (True ∨ (none : Option Nat) = some (s.length - 1)) ∧ True) := ⟨by omega, by omega, .inl trivial, .inl trivial, trivial⟩
        have hgd : s.getD (s.length - 1) 0 = x := by rw [List.getD_eq_getElem?_getD, hx]; rfl
        have hxv : (s.map (intV .i32))[s.length - 1]? = some [.int .i32 x] := by rw [get_ints, hx]; rfl
        simp only [h3, h0, decide_true, if_true, if_false, List.length_map, last_w hs h0, nv_nat, bdS_some]
        rw [slP (.inl rfl) (Nat.zero_le _) (by rw [List.length_map]; omega)]
        simp only [bd_some, slcH_sl, bdS_some, lenP_sl, true_or, and_self, if_true, cellsP_iptr, bd3_some, Nat.zero_add, Nat.le_refl, Nat.reduceLT, idxP_sl hxv, List.drop_zero, ← List.map_take, app_nil _ (show (s.take (s.length - 1)).length < lim by rw [List.length_take]; omega), bd_some, get_ints, hx, Option.map_some, intV, List.getElem?_cons_zero, bld_got, List.length_cons, List.length_nil, Nat.le_refl, if_true, hgd]
        exact ⟨_, rfl, 1, false, rfl, .inl rfl⟩
    · have e2 : (k == 2) = false := by simpa using h2
      simp only [e2, h2, Bool.false_eq_true, if_false]
      exact ⟨_, rfl, z, sb, rfl, hz⟩
theorem do5_call (hz : z = 1 ∨ s = []) (hs : s.length + 1 < lim) : ∃ vs, call (n + 2) 73 [.int .i64 m, .sl z (s.map (intV .i32)) sb, .agg [.int .u8 k, .int .i32 v]] h = some (.ret vs, h) ∧ AnsV (do5 m s ⟨k, v⟩) vs := by
  have hcond : (True ∧ (z = 1 ∨ (s.map (intV .i32)).isEmpty = true)) := ⟨trivial, hz.imp id (fun h => by rw [h]; rfl)⟩
  have hs1 : s.length < lim := by omega
  have ha1 : app 21 1 (.own 21 1 ([v].map (intV .i32))) (s.map (intV .i32)) = some ((v :: s).map (intV .i32)) := app_i32 [v] s (by simp; omega)
  rw [lDo5_eq]
  unfold lDo5 do5
  simp only [slcH_sl, idxP_sl, cellsP_iptr, lenP_sl, bd_some, most_call, cl_ret, one1_one, List.length_map, bop_i64_geq, bv_bool]
  by_cases hk1 : k < 1
  · simp only [hk1, decide_true, if_true, true_or]
    exact ⟨_, rfl, z, sb, rfl, hz⟩
  · by_cases hk4 : 4 < k
    · have hk4' : k > 4 := hk4
      simp only [hk1, hk4, hk4', decide_true, decide_false, Bool.false_eq_true, if_false, if_true, or_true]
      exact ⟨_, rfl, z, sb, rfl, hz⟩
    · have hk4' : ¬ k > 4 := hk4
      simp only [hk1, hk4, hk4', decide_false, Bool.false_eq_true, if_false, or_self]
      by_cases hk2 : k ≤ 2
      · have hk3 : ¬ 3 ≤ k := by omega
        have hk3' : ¬ k ≥ 3 := by omega
        by_cases hf : most m ≤ s.length
        · have hf' : (s.length : Int) ≥ most m := hf
          simp only [hk2, hf, hf', decide_true, if_true, and_self]
          exact ⟨_, rfl, z, sb, rfl, hz⟩
        · have hf' : ¬ (s.length : Int) ≥ most m := hf
          simp only [hk2, hf, hf', hk3, hk3', decide_true, decide_false, if_true, Bool.false_eq_true, if_false, and_false, false_and]
          obtain rfl | rfl : k = 1 ∨ k = 2 := by omega
          · simp only [beq_self_eq_true, if_true, app_nil1, bd_some, bdS_some]
            rw [if_pos hcond]
            simp only [ha1, bd_some]
            exact ⟨_, rfl, 1, false, rfl, .inl rfl⟩
          · simp only [show ((2 : Int) == 1) = false from rfl, show ¬ ((2 : Int) = 1) by decide, beq_self_eq_true, Bool.false_eq_true, if_false, if_true, bdS_some]
            rw [if_pos hcond]
            simp only [app_nil s hs1, bd_some, app_one s v hs]
            exact ⟨_, rfl, 1, false, rfl, .inl rfl⟩
      · have hk3 : 3 ≤ k := by omega
        have hk3' : k ≥ 3 := by omega
        have e1 : (k == 1) = false := by rw [beq_eq_false_iff_ne]; omega
        have e2 : (k == 2) = false := by rw [beq_eq_false_iff_ne]; omega
        have n1 : ¬ k = 1 := by omega
        have n2 : ¬ k = 2 := by omega
        by_cases h0 : s.length = 0
        · have hb : (((s.length : Nat) : Int) == 0) = true := by rw [h0]; rfl
          simp only [hk2, hk3, hk3', hb, h0, decide_true, decide_false, if_true, Bool.false_eq_true, if_false, false_and, and_self]
          refine ⟨_, ?_, z, sb, rfl, hz⟩
          simp
        · have hb : (((s.length : Nat) : Int) == 0) = false := by rw [beq_eq_false_iff_ne]; omega
          obtain rfl : z = 1 := hz.resolve_right (by rintro rfl; simp at h0)
          simp only [hk2, hk3, hk3', hb, h0, e1, e2, n1, n2, decide_true, decide_false, if_true, Bool.false_eq_true, if_false, false_and, and_false]
          by_cases h3 : k = 3
          · subst h3
            obtain ⟨x, hx⟩ : ∃ x, s[0]? = some x := ⟨_, List.getElem?_eq_getElem (by omega)⟩
            have hgd : s.getD 0 0 = x := by rw [List.getD_eq_getElem?_getD, hx]; rfl
            have hc : (1 ≤ s.length ∧ True ∧ (True ∨ (s.map (intV .i32)).isEmpty = true) ∧ (True ∨ (none : Option Nat) = some s.length) ∧ True) := ⟨by omega, trivial, .inl trivial, .inl trivial, trivial⟩
            have htk : List.take s.length (s.map (intV .i32)) = s.map (intV .i32) := List.take_of_length_le (by simp)
            have hxv : (s.map (intV .i32))[0]? = some [.int .i32 x] := by rw [get_ints, hx]; rfl
            simp only [beq_self_eq_true, if_true, lenP_sl, bd_some, List.length_map, Nat.le_refl]
            rw [slP (.inl rfl) (by omega) (by rw [List.length_map]; exact Nat.le_refl _)]
            simp only [bd_some, slcH_sl, bdS_some, lenP_sl, true_or, and_self, if_true, cellsP_iptr, bd3_some, Nat.zero_add, Nat.le_refl, Nat.reduceLT, idxP_sl hxv, htk, ← List.map_drop, app_nil _ (show (s.drop 1).length < lim by rw [List.length_drop]; omega), bd_some, get_ints, hx, Option.map_some, intV, List.getElem?_cons_zero, bld_got, List.length_cons, List.length_nil, Nat.le_refl, if_true, hgd]
            exact ⟨_, rfl, 1, false, rfl, .inl rfl⟩
          · have e3 : (k == 3) = false := by rw [beq_eq_false_iff_ne]; omega
            obtain ⟨x, hx⟩ : ∃ x, s[s.length - 1]? = some x := ⟨_, List.getElem?_eq_getElem (by omega)⟩
            have hc : (0 ≤ s.length - 1 ∧ s.length - 1 ≤ s.length ∧ (True ∨ (s.map (intV .i32)).isEmpty = true) ∧ (True ∨ (none : Option Nat) = some (s.length - 1)) ∧ True) := ⟨by omega, by omega, .inl trivial, .inl trivial, trivial⟩
            have hgd : s.getD (s.length - 1) 0 = x := by rw [List.getD_eq_getElem?_getD, hx]; rfl
            have hxv : (s.map (intV .i32))[s.length - 1]? = some [.int .i32 x] := by rw [get_ints, hx]; rfl
            simp only [e3, h3, Bool.false_eq_true, if_false, List.length_map, last_w hs h0, nv_nat, bdS_some, if_true]
            rw [slP (.inl rfl) (Nat.zero_le _) (by rw [List.length_map]; omega)]
            simp only [bd_some, slcH_sl, bdS_some, lenP_sl, true_or, and_self, if_true, cellsP_iptr, bd3_some, Nat.zero_add, Nat.le_refl, Nat.reduceLT, idxP_sl hxv, List.drop_zero, ← List.map_take, app_nil _ (show (s.take (s.length - 1)).length < lim by rw [List.length_take]; omega), bd_some, get_ints, hx, Option.map_some, intV, List.getElem?_cons_zero, bld_got, List.length_cons, List.length_nil, Nat.le_refl, if_true, hgd]
            exact ⟨_, rfl, 1, false, rfl, .inl rfl⟩
theorem heap_end (N : Nat) (a : Nat) (hz : z = 1 ∨ s = []) (hs : s.length + 1 < lim) (ha : a = upto v s) : ∀ M, ∃ vs, loopx (M + 1) (lHeap8_l7 N (.sl z (s.map (intV .i32)) sb)) [.agg [.int .u8 k, .int .i32 v], .sl 1 [] false, .agg [.int .u8 0, .int .i32 0], .int .i64 (a : Int)] h = some (.ret vs, h) ∧ AnsV (s.take (upto v s) ++ [v] ++ s.drop (upto v s), ⟨1, 0⟩) vs := fun M => by
  subst ha
  have hul := upto_le v s
  have hs1 : s.length < lim := by omega
  have hc1 : (0 ≤ upto v s ∧ upto v s ≤ s.length ∧ (z = 1 ∨ (s.map (intV .i32)).isEmpty = true) ∧ (True ∨ (none : Option Nat) = some (upto v s)) ∧ True) := ⟨by omega, hul, hz.imp id (fun h => by rw [h]; rfl), .inl trivial, trivial⟩
  have hc2 : (upto v s ≤ s.length ∧ True ∧ (z = 1 ∨ (s.map (intV .i32)).isEmpty = true) ∧ (True ∨ (none : Option Nat) = some s.length) ∧ True) := ⟨hul, trivial, hz.imp id (fun h => by rw [h]; rfl), .inl trivial, trivial⟩
  have htk : List.take s.length (s.map (intV .i32)) = s.map (intV .i32) := List.take_of_length_le (by simp)
  have hz' : z = 1 ∨ (s.map (intV .i32)).isEmpty = true := hz.imp id (fun h => by rw [h]; rfl)
  have p1 := slP (sb := sb) hz' (Nat.zero_le (upto v s)) (by rw [List.length_map]; exact hul)
  have p2 := slP (sb := sb) hz' hul (show s.length ≤ (s.map (intV .i32)).length by rw [List.length_map]; exact Nat.le_refl _)
  have b1 := app_nil (s.take (upto v s)) (by rw [List.length_take]; omega)
  have b2 := app_one (s.take (upto v s)) v (by rw [List.length_take]; omega)
  have b3 := app_i32 (s.take (upto v s) ++ [v]) (s.drop (upto v s)) (by rw [List.length_append, List.length_take, List.length_drop, List.length_singleton]; omega)
  have hr : setR [V.int .u8 0, .int .i32 0] 0 [.int .u8 1, .int .i32 0] = [.int .u8 1, .int .i32 0] := rfl
  have ht2 : List.take 2 [V.int .u8 1, .int .i32 0] = [.int .u8 1, .int .i32 0] := rfl
  rw [loopx_succ]
  by_cases hlt : upto v s < s.length
  · obtain ⟨x, hx, hgt⟩ := upto_at hlt
    have hlt' : ((upto v s : Nat) : Int) < (s.length : Int) := by omega
    obtain rfl : z = 1 := hz.resolve_right (by rintro rfl; simp at hlt)
    have hle : ¬ x ≤ v := by omega
    have hxv : (s.map (intV .i32))[upto v s]? = some [.int .i32 x] := by rw [get_ints, hx]; rfl
    simp only [lHeap8_l7, gv, List.getD_cons_succ, List.getD_cons_zero, idxP_sl hxv, slcH_sl, bdS_some, lenP_sl, true_or, and_self, if_true, cellsP_iptr, bd3_some, Nat.zero_add, Nat.le_refl, Nat.reduceLT, bd_some, List.length_map, bop_i64_lss, bv_bool, hlt', decide_true, if_true, nv_nat, bdS_some, get_ints, hx, Option.map_some, intV, List.getElem?_cons_zero, lcs, List.getElem?_cons_succ, bop_i32_leq, hle, decide_false, Bool.false_eq_true, if_false, List.drop_zero, Nat.le_refl]
    simp only [p1, p2, slcH_sl, bdS_some, lenP_sl, true_or, and_self, if_true, cellsP_iptr, bd3_some, Nat.zero_add, Nat.le_refl, Nat.reduceLT, List.drop_zero, true_or, Nat.zero_le, hul, and_self, if_true, htk, ← List.map_take, ← List.map_drop, b1, bd_some, bsl_i32, b2, b3, hr, ht2]
    exact ⟨_, rfl, 1, false, rfl, .inl rfl⟩
  · have hlt' : ¬ ((upto v s : Nat) : Int) < (s.length : Int) := by omega
    simp only [lHeap8_l7, gv, List.getD_cons_succ, List.getD_cons_zero, slcH_sl, bdS_some, lenP_sl, true_or, and_self, if_true, cellsP_iptr, bd3_some, Nat.zero_add, Nat.le_refl, Nat.reduceLT, bd_some, List.length_map, bop_i64_lss, bv_bool, hlt', decide_false, Bool.false_eq_true, if_false, nv_nat, bdS_some, lcs, List.getElem?_cons_succ, List.getElem?_cons_zero, List.drop_zero, Nat.le_refl]
    simp only [p1, p2, slcH_sl, bdS_some, lenP_sl, true_or, and_self, if_true, cellsP_iptr, bd3_some, Nat.zero_add, Nat.le_refl, Nat.reduceLT, List.drop_zero, htk, List.take_length, b3, hr, ht2, true_or, ← List.map_take, ← List.map_drop, b1, bd_some, bsl_i32, b2]
    exact ⟨_, rfl, 1, false, rfl, .inl rfl⟩
theorem heap_loop (z : Nat) (s : List Int) (sb : Bool) (k v : Int) (h : Heap) (N : Nat) (hz : z = 1 ∨ s = []) (hs : s.length + 1 < lim) : ∀ (d a M : Nat), a + d = upto v s → d < M → ∃ vs, loopx M (lHeap8_l7 N (.sl z (s.map (intV .i32)) sb)) [.agg [.int .u8 k, .int .i32 v], .sl 1 [] false, .agg [.int .u8 0, .int .i32 0], .int .i64 (a : Int)] h = some (.ret vs, h) ∧ AnsV (s.take (upto v s) ++ [v] ++ s.drop (upto v s), ⟨1, 0⟩) vs
  | d, a, 0, _, h => by omega
  | 0, a, M + 1, ha, _ => heap_end z s sb k v h N a hz hs (by omega) M
  | d + 1, a, M + 1, ha, hM => by
    have hul := upto_le v s
    obtain ⟨x, hx, hle⟩ := upto_lt (v := v) (s := s) (k := a) (by omega)
    have hlt' : (a : Int) < (s.length : Int) := by omega
    obtain rfl : z = 1 := hz.resolve_right (by rintro rfl; simp at hx)
    have hxv : (s.map (intV .i32))[a]? = some [.int .i32 x] := by rw [get_ints, hx]; rfl
    rw [loopx_succ]
    simp only [lHeap8_l7, gv, List.getD_cons_succ, List.getD_cons_zero, idxP_sl hxv, slcH_sl, bdS_some, lenP_sl, true_or, and_self, if_true, cellsP_iptr, bd3_some, Nat.zero_add, Nat.le_refl, Nat.reduceLT, bd_some, List.length_map, bop_i64_lss, bv_bool, hlt', decide_true, if_true, nv_nat, bdS_some, get_ints, hx, Option.map_some, intV, List.getElem?_cons_zero, lcs, List.getElem?_cons_succ, bop_i32_leq, hle, bop_i64_add, step64 (show a < lim by omega), lsl]
    exact heap_loop 1 s sb k v h N (.inl rfl) hs d (a + 1) M (by omega) (by omega)
theorem heap8_call (hz : z = 1 ∨ s = []) (hs : s.length + 1 < lim) (hn : s.length ≤ n) : ∃ vs, call (n + 2) 74 [.int .i64 m, .sl z (s.map (intV .i32)) sb, .agg [.int .u8 k, .int .i32 v]] h = some (.ret vs, h) ∧ AnsV (do8 m s ⟨k, v⟩) vs := by
  have hs1 : s.length < lim := by omega
  rw [lHeap8_eq]
  unfold lHeap8 do8
  by_cases h1 : k = 1
  · subst h1
    simp only [beq_self_eq_true, if_true, slcH_sl, idxP_sl, cellsP_iptr, lenP_sl, bd_some, most_call, cl_ret, one1_one, List.length_map, bop_i64_geq, bv_bool]
    by_cases hf : most m ≤ s.length
    · have hf' : (s.length : Int) ≥ most m := hf
      simp only [hf, hf', decide_true, if_true]
      exact ⟨_, rfl, z, sb, rfl, hz⟩
    · have hf' : ¬ (s.length : Int) ≥ most m := hf
      simp only [hf, hf', decide_false, Bool.false_eq_true, if_false]
      have hul := upto_le v s
      exact heap_loop z s sb 1 v h (n + 1) hz hs (upto v s) 0 (n + 1) (by omega) (by omega)
  · have e1 : (k == 1) = false := by simpa using h1
    simp only [e1, h1, Bool.false_eq_true, if_false]
    by_cases h2 : k = 2
    · subst h2
      simp only [beq_self_eq_true, if_true, slcH_sl, idxP_sl, cellsP_iptr, lenP_sl, bd_some, List.length_map]
      by_cases h0 : s.length = 0
      · have hb : (((s.length : Nat) : Int) == 0) = true := by rw [h0]; rfl
        simp only [hb, h0, if_true]
        refine ⟨_, ?_, z, sb, rfl, hz⟩
        simp
      · have hb : (((s.length : Nat) : Int) == 0) = false := by rw [beq_eq_false_iff_ne]; omega
        obtain rfl : z = 1 := hz.resolve_right (by rintro rfl; simp at h0)
        obtain ⟨x, hx⟩ : ∃ x, s[0]? = some x := ⟨_, List.getElem?_eq_getElem (by omega)⟩
        have hgd : s.getD 0 0 = x := by rw [List.getD_eq_getElem?_getD, hx]; rfl
        have hc : (1 ≤ s.length ∧ True ∧ (True ∨ (s.map (intV .i32)).isEmpty = true) ∧ (True ∨ (none : Option Nat) = some s.length) ∧ True) := ⟨by omega, trivial, .inl trivial, .inl trivial, trivial⟩
        have htk : List.take s.length (s.map (intV .i32)) = s.map (intV .i32) := List.take_of_length_le (by simp)
        have hxv : (s.map (intV .i32))[0]? = some [.int .i32 x] := by rw [get_ints, hx]; rfl
        simp only [hb, h0, Bool.false_eq_true, if_false, lenP_sl, bd_some, List.length_map, Nat.le_refl]
        rw [slP (.inl rfl) (by omega) (by rw [List.length_map]; exact Nat.le_refl _)]
        simp only [bd_some, slcH_sl, bdS_some, lenP_sl, true_or, and_self, if_true, cellsP_iptr, bd3_some, Nat.zero_add, Nat.le_refl, Nat.reduceLT, idxP_sl hxv, htk, ← List.map_drop, app_nil _ (show (s.drop 1).length < lim by rw [List.length_drop]; omega), bd_some, get_ints, hx, Option.map_some, intV, List.getElem?_cons_zero, bld_got, List.length_cons, List.length_nil, Nat.le_refl, hgd]
        exact ⟨_, rfl, 1, false, rfl, .inl rfl⟩
    · have e2 : (k == 2) = false := by simpa using h2
      simp only [e2, h2, Bool.false_eq_true, if_false]
      exact ⟨_, rfl, z, sb, rfl, hz⟩
/-- reaperref08.Apply -/
theorem apply8_call (o : Int) (hz : z = 1 ∨ s = []) (hs : s.length + 1 < lim) (hn : s.length ≤ n) : ∃ vs, call (n + 3) 52 [.int .u8 o, .int .i64 m, .sl z (s.map (intV .i32)) sb, .agg [.int .u8 k, .int .i32 v]] h = some (.ret vs, h) ∧ AnsV (apply o m s ⟨k, v⟩) vs := by
  have hfr : V.free.freeL [.int .u8 o, .int .i64 m, .sl z (s.map (intV .i32)) sb, .agg [.int .u8 k, .int .i32 v]] = true := by simp
  have hset : ∀ a b : V, setR [V.int .u8 5, .int .i32 0] 0 [a, b] = [a, b] := fun a b => rfl
  have hset2 : ∀ a b : V, setR [V.int .u8 0, .int .i32 0] 0 [a, b] = [a, b] := fun a b => rfl
  have ht2 : ∀ a b : V, List.take 2 [a, b] = [a, b] := fun a b => rfl
  have hfree : ∀ {x : List Int × R} {vs : List V}, AnsV x vs → V.free.freeL vs = true := fun {x vs} ⟨z, b, h, _⟩ => by subst h; simp
  rw [lApply8_eq]
  suffices hk : ∃ vs, lApply8 (n + 2) o m (.sl z (s.map (intV .i32)) sb) k v = some (.ret vs, []) ∧ AnsV (apply o m s ⟨k, v⟩) vs by
    obtain ⟨vs, h1, h2⟩ := hk
    exact ⟨vs, by rw [h1]; exact gcw_ret hfr (hfree h2), h2⟩
  unfold lApply8 apply
  by_cases h1 : o = 1
  · subst h1
    obtain ⟨vs, hc, z', b', rfl, hz'⟩ := do4_call n m z s sb k v [] hz hs
    simp only [beq_self_eq_true, if_true, hc, cl_ret, List.getElem?_cons_zero, List.getElem?_cons_succ, bd_some, V.cells, List.length_cons, List.length_nil, Nat.le_refl, hset, hset2, List.drop_zero, ht2]
    exact ⟨_, rfl, z', b', rfl, hz'⟩
  · have e1 : (o == 1) = false := by simpa using h1
    simp only [e1, h1, Bool.false_eq_true, if_false]
    by_cases h2 : o = 2
    · subst h2
      obtain ⟨vs, hc, z', b', rfl, hz'⟩ := do5_call n m z s sb k v [] hz hs
      simp only [beq_self_eq_true, if_true, hc, cl_ret, List.getElem?_cons_zero, List.getElem?_cons_succ, bd_some, V.cells, List.length_cons, List.length_nil, Nat.le_refl, hset, hset2, List.drop_zero, ht2]
      exact ⟨_, rfl, z', b', rfl, hz'⟩
    · have e2 : (o == 2) = false := by simpa using h2
      simp only [e2, h2, Bool.false_eq_true, if_false]
      by_cases h3 : o = 3
      · subst h3
        obtain ⟨vs, hc, z', b', rfl, hz'⟩ := heap8_call n m z s sb k v [] hz hs hn
        simp only [beq_self_eq_true, if_true, hc, cl_ret, List.getElem?_cons_zero, List.getElem?_cons_succ, bd_some, V.cells, List.length_cons, List.length_nil, Nat.le_refl, hset, hset2, List.drop_zero, ht2]
        exact ⟨_, rfl, z', b', rfl, hz'⟩
      · have e3 : (o == 3) = false := by simpa using h3
        simp only [e3, h3, Bool.false_eq_true, if_false]
        exact ⟨_, rfl, z, sb, rfl, hz⟩
end
end Go.Proofs.Try
