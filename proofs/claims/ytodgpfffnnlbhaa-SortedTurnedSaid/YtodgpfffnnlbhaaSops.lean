import Derived.Test.YtodgpfffnnlbhaaLops
import Derived.Test.YtodgpfffnnlbhaaOw
/-! layer 8: operations of choices -/
set_option linter.unusedVariables false
set_option linter.unusedSimpArgs false
namespace Go.Proofs.Try
open Go.L Go.Rp
set_option maxRecDepth 100000
theorem bop_u8_rem {a b : Int} (h : b ≠ 0) : bop prog .rem 5 (.int .u8 a) (.int .u8 b) = some (.int .u8 (a.tmod b)) := by
  have : bop prog .rem 5 (.int .u8 a) (.int .u8 b) = if b = 0 then none else some (.int .u8 (a.tmod b)) := by kernel_rfl
  rw [this, if_neg h]
theorem bop_u8_quo8 (a : Int) : bop prog .quo 5 (.int .u8 a) (.int .u8 8) = some (.int .u8 (IntKind.u8.wrap (a.tdiv 8))) := by kernel_rfl
theorem cvt_i32 (a : Int) : cvt prog 5 21 (.int .u8 a) = some (.int .i32 (IntKind.i32.wrap a)) := by kernel_rfl
theorem bld_o (k v : Int) : bldV prog 38 [(0, .int .u8 k), (1, .int .i32 v)] = some (O.w ⟨k, v⟩) := by kernel_rfl
theorem w32 {n : Int} (h1 : -2147483648 ≤ n) (h2 : n < 2147483648) : IntKind.i32.wrap n = n := by rw [IntKind.wrap_i32]; omega
theorem ops_loop (c : List Int) (z : Nat) (b : Bool) (kinds : Int) (H : Heap) (N : Nat) (hz : z = 1 ∨ c = []) (hc : small c = true) (hk1 : 1 ≤ kinds) (hk2 : kinds ≤ 100) : ∀ (d k M : Nat), k + d = min c.length 80 → d < M →
    loopx M (lOps_l0 N (.sl z (c.map (intV .u8)) b) kinds) [.sl 2 [] false, .sl 2 (((c.take k).map (opOf kinds)).map O.w) false, .int .i64 (k : Int)] H = some (.ret [.sl 2 ((ops c kinds).map O.w) false], H)
  | d, k, 0, _, h => by omega
  | 0, k, M + 1, hk, _ => by
    have he : (c.take k).map (opOf kinds) = ops c kinds := by
      unfold ops
      rcases Nat.lt_or_ge 80 c.length with h | h
      · rw [show k = 80 by omega]
      · rw [List.take_of_length_le (by omega), List.take_of_length_le (by omega)]
    rw [loopx_succ, he]
    by_cases hl : (k : Int) < (c.length : Int)
    · have h80 : ¬ (k : Int) < 80 := by omega
      simp only [lOps_l0, gv, List.getD_cons_succ, List.getD_cons_zero, slcH_sl, bd_some, List.length_map, bop_i64_lss, bv_bool, hl, decide_true, if_true, h80, decide_false, Bool.false_eq_true, if_false, lsl]
    · simp only [lOps_l0, gv, List.getD_cons_succ, List.getD_cons_zero, slcH_sl, bd_some, List.length_map, bop_i64_lss, bv_bool, hl, decide_false, Bool.false_eq_true, if_false, lsl]
  | d + 1, k, M + 1, hk, hM => by
    have hl : (k : Int) < (c.length : Int) := by omega
    have h80 : (k : Int) < 80 := by omega
    obtain ⟨x, hx⟩ : ∃ x, c[k]? = some x := ⟨_, List.getElem?_eq_getElem (by omega)⟩
    obtain rfl : z = 1 := hz.resolve_right (by rintro rfl; simp at hx)
    have hxv : (c.map (intV .u8))[k]? = some [.int .u8 x] := by rw [get_ints, hx]; rfl
    have hxs := small_len hc x (List.mem_of_getElem? hx)
    have hk0 : kinds ≠ 0 := by omega
    have e1 : Int.tmod x kinds = x % kinds := Int.tmod_eq_emod_of_nonneg hxs.1
    have h1 := Int.emod_nonneg x hk0
    have h2 := Int.emod_lt_of_pos x (show 0 < kinds by omega)
    have e2 : Int.tdiv x 8 = x / 8 := Int.tdiv_eq_ediv_of_nonneg hxs.1
    have w1 : IntKind.u8.wrap (1 + x % kinds) = 1 + x % kinds := w8 (by omega) (by omega)
    have w2 : IntKind.u8.wrap (x / 8) = x / 8 := w8 (by omega) (by omega)
    have w3 : IntKind.i32.wrap (x / 8) = x / 8 := w32 (by omega) (by omega)
    have w4 : IntKind.i32.wrap (x / 8 - 9) = x / 8 - 9 := w32 (by omega) (by omega)
    have hop : (⟨1 + x % kinds, x / 8 - 9⟩ : O) = opOf kinds x := rfl
    have happ := app_os 38 ((c.take k).map (opOf kinds)) (opOf kinds x) (by rw [List.length_map, List.length_take]; unfold lim; omega)
    have htk : (c.take k).map (opOf kinds) ++ [opOf kinds x] = (c.take (k + 1)).map (opOf kinds) := by
      rw [List.take_add_one, hx, List.map_append]; rfl
    rw [htk] at happ
    rw [loopx_succ]
    simp only [lOps_l0, gv, List.getD_cons_succ, List.getD_cons_zero, slcH_sl, idxP_sl hxv, cellsP_iptr, bd3_some, Nat.zero_add, Nat.le_refl, Nat.reduceLT, and_self, bd_some, List.length_map, bop_i64_lss, bv_bool, hl, h80, decide_true, if_true, nv_nat, bdS_some, get_ints, hx, Option.map_some, intV, List.getElem?_cons_zero, bop_u8_rem hk0, e1, bop_u8_add, w1, bop_u8_quo8, e2, w2, cvt_i32, w3, bop_i32_sub, w4, bld_o, hop, bsl_o, lsl, happ, bop_i64_add, step64 (show k < lim by unfold lim; omega)]
    exact ops_loop c 1 b kinds H N (.inl rfl) hc hk1 hk2 d (k + 1) M (by omega) (by omega)
theorem ops_call (n : Nat) (c : List Int) (z : Nat) (b : Bool) (kinds : Int) (H : Heap) (hz : z = 1 ∨ c = []) (hc : small c = true) (hk1 : 1 ≤ kinds) (hk2 : kinds ≤ 100) (hn : 90 ≤ n) :
    call n 14 [.sl z (c.map (intV .u8)) b, .int .u8 kinds] H = some (.ret [.sl 2 ((ops c kinds).map O.w) false], H) := by
  obtain ⟨N, rfl⟩ : ∃ N, n = N + 1 := ⟨n - 1, by omega⟩
  rw [lOps_eq]
  unfold lOps
  exact ops_loop c z b kinds H N hz hc hk1 hk2 (min c.length 80) 0 N (by omega) (by omega)
theorem ops_len (c : List Int) (kinds : Int) : (ops c kinds).length ≤ 80 := by unfold ops; simp; omega
theorem ops_k {c : List Int} {kinds : Int} (hc : small c = true) (hk : 1 ≤ kinds) : ∀ o ∈ ops c kinds, 0 ≤ o.k := by
  intro o ho
  unfold ops at ho
  obtain ⟨x, hx, rfl⟩ := List.mem_map.1 ho
  have := Int.emod_nonneg x (show kinds ≠ 0 by omega)
  unfold Go.Rp.opOf
  simp only
  omega
end Go.Proofs.Try
