import Derived.Test.YtodgpfffnnlbhaaLga
import Derived.Test.YtodgpfffnnlbhaaLmw
import Derived.Test.YtodgpfffnnlbhaaPlain
/-! spec.Apply does what an operation does by definition -/
set_option linter.unusedVariables false
set_option linter.unusedSimpArgs false
namespace Go.Proofs.Try
open Go.L Go.Rp
set_option maxRecDepth 100000

theorem place1_call (n : Nat) (x v : Int) : call (n + 1) 103 [.int .i32 x, .ptr 0 0] [HB.box 1 [.int .i32 v]] = some (.ret [.bool (decide (x > v))], [HB.box 1 [.int .i32 v]]) := by
  rw [lPlace1_eq]
  simp [lPlace1, cellsP, bd3]
theorem upto_eq {v : Int} {s : List Int} {k : Nat} {x : Int} (h : k ≤ upto v s) (hx : s[k]? = some x) (hv : v < x) : upto v s = k := by
  rcases Nat.lt_or_ge k (upto v s) with hlt | hge
  · obtain ⟨y, hy, hle⟩ := upto_lt hlt
    rw [hx] at hy; cases hy; omega
  · omega
theorem upto_more {v : Int} {s : List Int} {k : Nat} {x : Int} (h : k ≤ upto v s) (hx : s[k]? = some x) (hv : x ≤ v) : k + 1 ≤ upto v s := by
  rcases Nat.lt_or_ge k (upto v s) with hlt | hge
  · omega
  · have hk : upto v s = k := by omega
    have hlt : upto v s < s.length := by rw [hk]; exact (List.getElem?_eq_some_iff.1 hx).1
    obtain ⟨y, hy, hgt⟩ := upto_at hlt
    rw [hk, hx] at hy; cases hy; omega
theorem index_loop (N : Nat) (s : List Int) (b : Bool) (v z : Int) (hs : s.length < lim) : ∀ (d k m : Nat), k + d = s.length → k ≤ upto v s → d < m →
    loopx m (lIndex_l0 (N + 1) (s.map (intV .i32)) b 0) [.int .i64 z, .int .i64 (k : Int)] [HB.box 1 [.int .i32 v]] =
      some (.ret [.int .i64 (if upto v s < s.length then ((upto v s : Nat) : Int) else -1)], [HB.box 1 [.int .i32 v]])
  | d, k, 0, _, _, h => by omega
  | 0, k, m + 1, hk, hu, h => by
    have h0 : upto v s = s.length := by have := upto_le v s; omega
    rw [loopx_succ]
    have : ¬ k < s.length := by omega
    simp [lIndex_l0, gv, h0, this]
  | d + 1, k, m + 1, hk, hu, h => by
    have hlt : k < s.length := by omega
    obtain ⟨x, hx⟩ : ∃ x, s[k]? = some x := ⟨_, List.getElem?_eq_getElem hlt⟩
    have hxv : (s.map (intV .i32))[k]? = some [.int .i32 x] := by rw [get_ints, hx]; rfl
    rw [loopx_succ]
    simp only [lIndex_l0, gv, List.getD_cons_succ, List.getD_cons_zero, bop_i64_lss, bd_some, bv_bool, List.length_map, Int.ofNat_lt, hlt, decide_true, if_true, nv_nat, bdS_some, idxP_sl hxv, cellsP_iptr, bd3_some, Nat.zero_add, Nat.le_refl, Nat.reduceLT, and_self, List.getElem?_cons_zero, place1_call, cl_ret, one1_one]
    by_cases hv : x > v
    · have := upto_eq hu hx hv
      simp [hv, this, hlt]
    · have hm := upto_more hu hx (by omega)
      have hw : IntKind.i64.wrap ((k : Int) + 1) = ((k + 1 : Nat) : Int) := by unfold lim at hs; rw [w64] <;> omega
      simp only [hv, decide_false, Bool.false_eq_true, if_false, bop_i64_add, bd_some, hw]
      exact index_loop N s b v z hs d (k + 1) m (by omega) hm (by omega)
theorem index_call (n : Nat) (s : List Int) (b : Bool) (v : Int) (hs : s.length < lim) (hn : s.length + 2 ≤ n) : call n 102 [.sl 1 (s.map (intV .i32)) b, .fn 103 [.ptr 0 0]] [HB.box 1 [.int .i32 v]] =
    some (.ret [.int .i64 (if upto v s < s.length then ((upto v s : Nat) : Int) else -1)], [HB.box 1 [.int .i32 v]]) := by
  obtain ⟨N, rfl⟩ : ∃ N, n = N + 1 + 1 := ⟨n - 2, by omega⟩
  rw [lIndex_eq]
  exact index_loop N s b v 0 hs s.length 0 (N + 1) (by omega) (by omega) (by omega)
theorem place_call (n : Nat) (s : List Int) (b : Bool) (v : Int) (h : Heap) (hs : s.length < lim) (hn : s.length + 3 ≤ n) : call n 98 [.sl 1 (s.map (intV .i32)) b, .int .i32 v] h = some (.ret [.int .i64 (upto v s : Nat)], h) := by
  obtain ⟨N, rfl⟩ : ∃ N, n = N + 1 := ⟨n - 1, by omega⟩
  rw [lPlace_eq, lPlace, index_call N s b v hs (by omega)]
  by_cases hu : upto v s < s.length
  · simp [hu, gcw]
  · have h0 : upto v s = s.length := by have := upto_le v s; omega
    simp [h0, gcw]
theorem front_call (n : Nat) (s : List Int) (b : Bool) (v : Int) (h : Heap) : call (n + 1) 97 [.sl 1 (s.map (intV .i32)) b, .int .i32 v] h = some (.ret [.int .i64 0], h) := by
  rw [lFront_eq, lFront]; simp [gcw]
theorem back_call (n : Nat) (s : List Int) (b : Bool) (v : Int) (h : Heap) : call (n + 1) 95 [.sl 1 (s.map (intV .i32)) b, .int .i32 v] h = some (.ret [.int .i64 (s.length : Int)], h) := by
  rw [lBack_eq, lBack]; simp [gcw]
theorem last_call (n : Nat) (s : List Int) (b : Bool) (v : Int) (h : Heap) (hs : s.length < lim) (h0 : s.length ≠ 0) : call (n + 1) 96 [.sl 1 (s.map (intV .i32)) b, .int .i32 v] h = some (.ret [.int .i64 ((s.length - 1 : Nat) : Int)], h) := by
  have hw : IntKind.i64.wrap ((s.length : Int) - 1) = ((s.length - 1 : Nat) : Int) := by unfold lim at hs; rw [w64] <;> omega
  rw [lLast_eq, lLast, List.length_map, hw]; simp [gcw]
theorem full_iff (m : Int) (s : List Int) : decide (((s.map (intV .i32)).length : Int) ≥ (if 0 < (if 1000 < m then 1000 else m) then (if 1000 < m then 1000 else m) else 0)) = decide (most m ≤ s.length) := by
  rw [List.length_map]
  unfold most
  congr 1
  rw [eq_iff_iff]
  split <;> split <;> omega
/-- what is answered of an operation -/
def ansA (x : List Int × R) : Res := .ret [.sl 1 (x.1.map (intV .i32)) false, .agg [.int .u8 x.2.c, .int .i32 x.2.v]]
theorem ansA_free (x : List Int × R) : ∃ vs, ansA x = .ret vs ∧ V.free.freeL vs = true := ⟨_, rfl, by simp⟩
theorem gcw_ans {args : List V} {x : List Int × R} {h : Heap} {o : Option (Res × Heap)} (ho : ∃ h', o = some (ansA x, h')) (ha : V.free.freeL args = true) : gcw args o h = some (ansA x, h) := by
  obtain ⟨h', rfl⟩ := ho
  exact gcw_ret ha (by simp)
theorem take_succ_getD {s : List Int} (h : s.length ≠ 0) : s.take (s.length - 1) ++ s.drop (s.length - 1 + 1) = s.take (s.length - 1) := by
  rw [List.drop_eq_nil_of_le (by omega), List.append_nil]
theorem clone_ok {z : Nat} {s : List Int} (hz : z = 1 ∨ s = []) (hs : s.length + 1 < lim) : ((z = 1 ∨ (s.map (intV .i32)).isEmpty = true) ∧ (s.map (intV .i32)).length < lim) := ⟨hz.imp id (fun h => by rw [h]; rfl), by rw [List.length_map]; omega⟩
section
variable (n : Nat) (m : Int) (z : Nat) (s : List Int) (sb : Bool) (v : Int) (h : Heap)
theorem a_spush (hz : z = 1 ∨ s = []) (hs : s.length + 1 < lim) : call (n + 3) 87 [.int .u8 1, .int .i64 m, .sl z (s.map (intV .i32)) sb, .agg [.int .u8 1, .int .i32 v]] h = some (ansA (do4 m s ⟨1, v⟩), h) := by
  rw [apSPush_eq]
  refine gcw_ans ?_ (by simp)
  unfold apSPush
  simp only [slcH_sl, bd_some]
  rw [if_pos (clone_ok hz hs), full_iff, back_call]
  by_cases hf : most m ≤ s.length
  · simp only [hf, decide_true, if_true, do4]
    exact ⟨_, rfl⟩
  · simp [hf, do4, ansA, hs, intV, ← List.map_take, ← List.map_drop]
theorem a_spop (hz : z = 1 ∨ s = []) (hs : s.length + 1 < lim) : call (n + 3) 87 [.int .u8 1, .int .i64 m, .sl z (s.map (intV .i32)) sb, .agg [.int .u8 2, .int .i32 v]] h = some (ansA (do4 m s ⟨2, v⟩), h) := by
  rw [apSPop_eq]
  refine gcw_ans ?_ (by simp)
  unfold apSPop
  simp only [slcH_sl, bd_some]
  rw [if_pos (clone_ok hz hs)]
  by_cases h0 : s.length = 0
  · simp [h0, do4, ansA]
  · rw [last_call _ _ _ _ _ (by omega) h0]
    obtain ⟨x, hx⟩ : ∃ x, s[s.length - 1]? = some x := ⟨_, List.getElem?_eq_getElem (by omega)⟩
    have hw : IntKind.i64.wrap (((s.length - 1 : Nat) : Int) + 1) = ((s.length : Nat) : Int) := by unfold lim at hs; rw [w64] <;> omega
    have h1 : s.length - 1 < s.length := by omega
    have h2 : s.length < lim := by omega
    simp [h0, hx, hw, h1, h2, do4, ansA, intV, V.cells, setR]
theorem a_dpushL (hz : z = 1 ∨ s = []) (hs : s.length + 1 < lim) : call (n + 3) 87 [.int .u8 2, .int .i64 m, .sl z (s.map (intV .i32)) sb, .agg [.int .u8 1, .int .i32 v]] h = some (ansA (do5 m s ⟨1, v⟩), h) := by
  rw [apDPushL_eq]
  refine gcw_ans ?_ (by simp)
  unfold apDPushL
  simp only [slcH_sl, bd_some]
  rw [if_pos (clone_ok hz hs), full_iff, front_call]
  by_cases hf : most m ≤ s.length
  · simp [hf, do5, ansA]
  · have h5 : ni (.int .i64 0) = some 0 := rfl
    simp [hf, h5, do5, ansA, hs, intV, ← List.map_take, ← List.map_drop]
theorem a_dpushR (hz : z = 1 ∨ s = []) (hs : s.length + 1 < lim) : call (n + 3) 87 [.int .u8 2, .int .i64 m, .sl z (s.map (intV .i32)) sb, .agg [.int .u8 2, .int .i32 v]] h = some (ansA (do5 m s ⟨2, v⟩), h) := by
  rw [apDPushR_eq]
  refine gcw_ans ?_ (by simp)
  unfold apDPushR
  simp only [slcH_sl, bd_some]
  rw [if_pos (clone_ok hz hs), full_iff, back_call]
  by_cases hf : most m ≤ s.length
  · simp [hf, do5, ansA]
  · have h5 : ni (.int .i64 0) = some 0 := rfl
    simp [hf, h5, do5, ansA, hs, intV, ← List.map_take, ← List.map_drop]
theorem a_dpopL (hz : z = 1 ∨ s = []) (hs : s.length + 1 < lim) : call (n + 3) 87 [.int .u8 2, .int .i64 m, .sl z (s.map (intV .i32)) sb, .agg [.int .u8 3, .int .i32 v]] h = some (ansA (do5 m s ⟨3, v⟩), h) := by
  rw [apDPopL_eq]
  refine gcw_ans ?_ (by simp)
  unfold apDPopL
  simp only [slcH_sl, bd_some]
  rw [if_pos (clone_ok hz hs)]
  by_cases h0 : s.length = 0
  · simp [h0, do5, ansA]
  · rw [front_call]
    obtain ⟨x, hx⟩ : ∃ x, s[0]? = some x := ⟨_, List.getElem?_eq_getElem (by omega)⟩
    have hw : IntKind.i64.wrap (((0 : Nat) : Int) + 1) = ((1 : Nat) : Int) := by decide
    have h1 : 0 < s.length := by omega
    have h2 : s.length < lim := by omega
    have h3 : 1 ≤ s.length := by omega
    have h4 : nv (.int .i64 0) = some 0 := rfl
    have h5 : ni (.int .i64 0) = some 0 := rfl
    have h6 : ni (.int .i64 (IntKind.i64.wrap 1)) = some 1 := rfl
    have hx2 : s.head? = some x := by rw [List.head?_eq_getElem?]; exact hx
    simp [h0, hx, hx2, h1, h2, h3, h4, h5, h6, do5, ansA, intV, V.cells, setR, ← List.map_drop, ← List.drop_one]
theorem a_dpopR (hz : z = 1 ∨ s = []) (hs : s.length + 1 < lim) : call (n + 3) 87 [.int .u8 2, .int .i64 m, .sl z (s.map (intV .i32)) sb, .agg [.int .u8 4, .int .i32 v]] h = some (ansA (do5 m s ⟨4, v⟩), h) := by
  rw [apDPopR_eq]
  refine gcw_ans ?_ (by simp)
  unfold apDPopR
  simp only [slcH_sl, bd_some]
  rw [if_pos (clone_ok hz hs)]
  by_cases h0 : s.length = 0
  · simp [h0, do5, ansA]
  · rw [last_call _ _ _ _ _ (by omega) h0]
    obtain ⟨x, hx⟩ : ∃ x, s[s.length - 1]? = some x := ⟨_, List.getElem?_eq_getElem (by omega)⟩
    have hw : IntKind.i64.wrap (((s.length - 1 : Nat) : Int) + 1) = ((s.length : Nat) : Int) := by unfold lim at hs; rw [w64] <;> omega
    have h1 : s.length - 1 < s.length := by omega
    have h2 : s.length < lim := by omega
    simp [h0, hx, hw, h1, h2, do5, ansA, intV, V.cells, setR]
theorem a_hmin (hz : z = 1 ∨ s = []) (hs : s.length + 1 < lim) : call (n + 3) 87 [.int .u8 3, .int .i64 m, .sl z (s.map (intV .i32)) sb, .agg [.int .u8 2, .int .i32 v]] h = some (ansA (do8 m s ⟨2, v⟩), h) := by
  rw [apHMin_eq]
  refine gcw_ans ?_ (by simp)
  unfold apHMin
  simp only [slcH_sl, bd_some]
  rw [if_pos (clone_ok hz hs)]
  by_cases h0 : s.length = 0
  · simp [h0, do8, ansA]
  · rw [front_call]
    obtain ⟨x, hx⟩ : ∃ x, s[0]? = some x := ⟨_, List.getElem?_eq_getElem (by omega)⟩
    have hw : IntKind.i64.wrap (((0 : Nat) : Int) + 1) = ((1 : Nat) : Int) := by decide
    have h1 : 0 < s.length := by omega
    have h2 : s.length < lim := by omega
    have h3 : 1 ≤ s.length := by omega
    have h4 : nv (.int .i64 0) = some 0 := rfl
    have h5 : ni (.int .i64 0) = some 0 := rfl
    have h6 : ni (.int .i64 (IntKind.i64.wrap 1)) = some 1 := rfl
    have hx2 : s.head? = some x := by rw [List.head?_eq_getElem?]; exact hx
    simp [h0, hx, hx2, h1, h2, h3, h4, h5, h6, do8, ansA, intV, V.cells, setR, ← List.map_drop, ← List.drop_one]
theorem a_hadd (hz : z = 1 ∨ s = []) (hs : s.length + 1 < lim) (hn : s.length ≤ n) : call (n + 4) 87 [.int .u8 3, .int .i64 m, .sl z (s.map (intV .i32)) sb, .agg [.int .u8 1, .int .i32 v]] h = some (ansA (do8 m s ⟨1, v⟩), h) := by
  rw [apHAdd_eq]
  refine gcw_ans ?_ (by simp)
  unfold apHAdd
  simp only [slcH_sl, bd_some]
  rw [if_pos (clone_ok hz hs), full_iff, place_call _ _ _ _ _ (by omega) (by omega)]
  by_cases hf : most m ≤ s.length
  · simp [hf, do8, ansA]
  · have := upto_le v s
    simp [hf, this, do8, ansA, hs, intV, ← List.map_take, ← List.map_drop]
theorem apB0_call (hz : z = 1 ∨ s = []) (hs : s.length + 1 < lim) (k : Int) : call (n + 3) 87 [.int .u8 0, .int .i64 m, .sl z (s.map (intV .i32)) sb, .agg [.int .u8 k, .int .i32 v]] h = some (ansA (s, ⟨5, 0⟩), h) := by
  rw [apB0_eq]
  refine gcw_ans ?_ (by simp)
  unfold apB0
  simp only [slcH_sl, bd_some]
  rw [if_pos (clone_ok hz hs)]
  simp [ansA]
theorem apB4_call (hz : z = 1 ∨ s = []) (hs : s.length + 1 < lim) (q : Nat) (k : Int) : call (n + 3) 87 [.int .u8 (Int.ofNat (q + 4)), .int .i64 m, .sl z (s.map (intV .i32)) sb, .agg [.int .u8 k, .int .i32 v]] h = some (ansA (s, ⟨5, 0⟩), h) := by
  rw [apB4_eq]
  refine gcw_ans ?_ (by simp)
  unfold apB4
  simp only [slcH_sl, bd_some]
  rw [if_pos (clone_ok hz hs)]
  simp [ansA]
theorem apS0_call (hz : z = 1 ∨ s = []) (hs : s.length + 1 < lim) : call (n + 3) 87 [.int .u8 1, .int .i64 m, .sl z (s.map (intV .i32)) sb, .agg [.int .u8 0, .int .i32 v]] h = some (ansA (s, ⟨5, 0⟩), h) := by
  rw [apS0_eq]
  refine gcw_ans ?_ (by simp)
  unfold apS0
  simp only [slcH_sl, bd_some]
  rw [if_pos (clone_ok hz hs)]
  simp [ansA]
theorem apS3_call (hz : z = 1 ∨ s = []) (hs : s.length + 1 < lim) (q : Nat) : call (n + 3) 87 [.int .u8 1, .int .i64 m, .sl z (s.map (intV .i32)) sb, .agg [.int .u8 (Int.ofNat (q + 3)), .int .i32 v]] h = some (ansA (s, ⟨5, 0⟩), h) := by
  rw [apS3_eq]
  refine gcw_ans ?_ (by simp)
  unfold apS3
  simp only [slcH_sl, bd_some]
  rw [if_pos (clone_ok hz hs)]
  simp [ansA]
theorem apD0_call (hz : z = 1 ∨ s = []) (hs : s.length + 1 < lim) : call (n + 3) 87 [.int .u8 2, .int .i64 m, .sl z (s.map (intV .i32)) sb, .agg [.int .u8 0, .int .i32 v]] h = some (ansA (s, ⟨5, 0⟩), h) := by
  rw [apD0_eq]
  refine gcw_ans ?_ (by simp)
  unfold apD0
  simp only [slcH_sl, bd_some]
  rw [if_pos (clone_ok hz hs)]
  simp [ansA]
theorem apD5_call (hz : z = 1 ∨ s = []) (hs : s.length + 1 < lim) (q : Nat) : call (n + 3) 87 [.int .u8 2, .int .i64 m, .sl z (s.map (intV .i32)) sb, .agg [.int .u8 (Int.ofNat (q + 5)), .int .i32 v]] h = some (ansA (s, ⟨5, 0⟩), h) := by
  rw [apD5_eq]
  refine gcw_ans ?_ (by simp)
  unfold apD5
  simp only [slcH_sl, bd_some]
  rw [if_pos (clone_ok hz hs)]
  simp [ansA]
theorem apH0_call (hz : z = 1 ∨ s = []) (hs : s.length + 1 < lim) : call (n + 3) 87 [.int .u8 3, .int .i64 m, .sl z (s.map (intV .i32)) sb, .agg [.int .u8 0, .int .i32 v]] h = some (ansA (s, ⟨5, 0⟩), h) := by
  rw [apH0_eq]
  refine gcw_ans ?_ (by simp)
  unfold apH0
  simp only [slcH_sl, bd_some]
  rw [if_pos (clone_ok hz hs)]
  simp [ansA]
theorem apH3_call (hz : z = 1 ∨ s = []) (hs : s.length + 1 < lim) (q : Nat) : call (n + 3) 87 [.int .u8 3, .int .i64 m, .sl z (s.map (intV .i32)) sb, .agg [.int .u8 (Int.ofNat (q + 3)), .int .i32 v]] h = some (ansA (s, ⟨5, 0⟩), h) := by
  rw [apH3_eq]
  refine gcw_ans ?_ (by simp)
  unfold apH3
  simp only [slcH_sl, bd_some]
  rw [if_pos (clone_ok hz hs)]
  simp [ansA]
end
/-- spec.Apply -/
theorem apply_call (n : Nat) (o m : Int) (z : Nat) (s : List Int) (sb : Bool) (k v : Int) (h : Heap) (hz : z = 1 ∨ s = []) (ho : 0 ≤ o) (hk : 0 ≤ k) (hs : s.length + 1 < lim) (hn : s.length + 4 ≤ n) :
    call n 87 [.int .u8 o, .int .i64 m, .sl z (s.map (intV .i32)) sb, .agg [.int .u8 k, .int .i32 v]] h = some (ansA (apply o m s ⟨k, v⟩), h) := by
  obtain ⟨N, rfl⟩ : ∃ N, n = N + 4 := ⟨n - 4, by omega⟩
  obtain ⟨a, rfl⟩ := Int.eq_ofNat_of_zero_le ho
  obtain ⟨b, rfl⟩ := Int.eq_ofNat_of_zero_le hk
  unfold apply
  match a, b with
  | 0, b => rw [show ((0 : Nat) : Int) = 0 from rfl, apB0_call (N + 1) m z s sb v h hz hs]; rfl
  | 1, 0 => exact apS0_call (N + 1) m z s sb v h hz hs
  | 1, 1 => exact a_spush (N + 1) m z s sb v h hz hs
  | 1, 2 => exact a_spop (N + 1) m z s sb v h hz hs
  | 1, q + 3 =>
    refine (apS3_call (N + 1) m z s sb v h hz hs q).trans ?_
    rw [if_pos (by decide)]
    unfold do4
    rw [if_neg (by simp only; omega), if_neg (by simp only; omega)]
  | 2, 0 => exact apD0_call (N + 1) m z s sb v h hz hs
  | 2, 1 => exact a_dpushL (N + 1) m z s sb v h hz hs
  | 2, 2 => exact a_dpushR (N + 1) m z s sb v h hz hs
  | 2, 3 => exact a_dpopL (N + 1) m z s sb v h hz hs
  | 2, 4 => exact a_dpopR (N + 1) m z s sb v h hz hs
  | 2, q + 5 =>
    refine (apD5_call (N + 1) m z s sb v h hz hs q).trans ?_
    rw [if_neg (by decide), if_pos (by decide)]
    unfold do5
    rw [if_pos (by simp only; omega)]
  | 3, 0 => exact apH0_call (N + 1) m z s sb v h hz hs
  | 3, 1 => exact a_hadd N m z s sb v h hz hs (by omega)
  | 3, 2 => exact a_hmin (N + 1) m z s sb v h hz hs
  | 3, q + 3 =>
    refine (apH3_call (N + 1) m z s sb v h hz hs q).trans ?_
    rw [if_neg (by decide), if_neg (by decide), if_pos (by decide)]
    unfold do8
    rw [if_neg (by simp only; omega), if_neg (by simp only; omega)]
  | q + 4, b =>
    refine (apB4_call (N + 1) m z s sb v h hz hs q b).trans ?_
    rw [if_neg (by omega), if_neg (by omega), if_neg (by omega)]
end Go.Proofs.Try
