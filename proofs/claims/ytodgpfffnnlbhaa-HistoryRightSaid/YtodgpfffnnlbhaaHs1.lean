import Derived.Test.YtodgpfffnnlbhaaHspn
import Derived.Test.YtodgpfffnnlbhaaLref8
import Derived.Test.YtodgpfffnnlbhaaSops
import Derived.Test.YtodgpfffnnlbhaaPlain2
/-! reaperlaw19.Spans by contract: its parts -/
set_option linter.unusedVariables false
set_option linter.unusedSimpArgs false
namespace Go.Proofs.Try
open Go.L Go.Rp
set_option maxRecDepth 100000
theorem spans_same (n : Nat) (o m : Int) (d v : V) : lSpn_l180 n o m d v = lSpn_l7 n o m d v := rfl
theorem bld_span8 (th sq : Int) (o : O) (r : R) (f t : Int) : bldV prog 54 [(0, .int .i64 th), (1, .int .i64 sq), (2, .agg (O.w o)), (3, .agg (R.w r)), (4, .int .i64 f), (5, .int .i64 t)] = some (Sp.v ⟨th, sq, o, r, f, t⟩) := by kernel_rfl
theorem bsl_span8 (s : Sp) : bslV prog 49 1 [(0, .agg s.v)] = some (8, [s.v]) := by kernel_rfl
theorem bsl_ap7 (s : Ap) : bslV prog 50 1 [(0, .agg s.v)] = some (7, [s.v]) := by kernel_rfl
theorem bld_ap7 (th sq : Int) (o : O) (r : R) : bldV prog 60 [(0, .int .i64 th), (1, .int .i64 sq), (2, .agg (O.w o)), (3, .agg (R.w r))] = some (Ap.v ⟨th, sq, o, r, 0⟩) := by kernel_rfl
theorem app_sps (e : Nat) (a : List Sp) (x : Sp) (h : a.length + 1 < lim) : app e 8 (.own e 8 (a.map Sp.v)) [Sp.v x] = some ((a ++ [x]).map Sp.v) := by
  simp [app, h]
theorem app_aps (e : Nat) (a : List Ap) (x : Ap) (h : a.length + 1 < lim) : app e 7 (.own e 7 (a.map Ap.v)) [Ap.v x] = some ((a ++ [x]).map Ap.v) := by
  simp [app, h]
end Go.Proofs.Try
/-! reaperlaw19.Spans by contract: its sums -/
set_option linter.unusedVariables false
set_option linter.unusedSimpArgs false
namespace Go.Proofs.Try
open Go.L Go.Rp
set_option maxRecDepth 100000
theorem bop_i64_rem3 (a : Int) : bop prog .rem 3 (.int .i64 a) (.int .i64 3) = some (.int .i64 (a.tmod 3)) := by kernel_rfl
theorem bop_i64_quo3 (a : Int) : bop prog .quo 3 (.int .i64 a) (.int .i64 3) = some (.int .i64 (IntKind.i64.wrap (a.tdiv 3))) := by kernel_rfl
theorem bop_i64_mul4 (a : Int) : bop prog .mul 3 (.int .i64 4) (.int .i64 a) = some (.int .i64 (IntKind.i64.wrap (4 * a))) := by kernel_rfl
theorem bop_u8_rem9 (a : Int) : bop prog .rem 5 (.int .u8 a) (.int .u8 9) = some (.int .u8 (a.tmod 9)) := by kernel_rfl
theorem bop_u8_quo9 (a : Int) : bop prog .quo 5 (.int .u8 a) (.int .u8 9) = some (.int .u8 (IntKind.u8.wrap (a.tdiv 9))) := by kernel_rfl
theorem cvt_u8_i64 (a : Int) : cvt prog 5 3 (.int .u8 a) = some (.int .i64 (IntKind.i64.wrap a)) := by kernel_rfl
theorem mm_max (a b : Int) : mm true [.int .i64 a, .int .i64 b] = some (.int .i64 (max a b)) := by
  simp only [mm, if_true]
  by_cases h : a < b
  · rw [if_pos h, Int.max_eq_right (by omega)]
  · rw [if_neg h, Int.max_eq_left (by omega)]
/-- the sums at a place below 14 -/
theorem at_k {k : Nat} (h : k < 14) : ((k : Int).tmod 3 = (k : Int) % 3) ∧ IntKind.i64.wrap ((k : Int).tdiv 3) = (k : Int) / 3 ∧ IntKind.i64.wrap ((k : Int) / 3 + 1) = (k : Int) / 3 + 1 ∧ IntKind.i64.wrap (4 * (k : Int)) = 4 * (k : Int) ∧ IntKind.i64.wrap ((k : Int) + 1) = ((k + 1 : Nat) : Int) := by
  have e1 : Int.tmod (k : Int) 3 = (k : Int) % 3 := Int.tmod_eq_emod_of_nonneg (by omega)
  have e2 : Int.tdiv (k : Int) 3 = (k : Int) / 3 := Int.tdiv_eq_ediv_of_nonneg (by omega)
  refine ⟨e1, by rw [e2, w64] <;> omega, by rw [w64] <;> omega, by rw [w64] <;> omega, by rw [w64] <;> omega⟩
/-- the sums of a choice -/
theorem at_d {x : Int} (h0 : 0 ≤ x) (h1 : x < 256) {k : Nat} (h : k < 14) : IntKind.i64.wrap (x.tmod 9) = x % 9 ∧ IntKind.i64.wrap ((IntKind.u8.wrap (x.tdiv 9)).tmod 9) = x / 9 % 9 ∧ IntKind.i64.wrap (4 * (k : Int) - x % 9) = 4 * (k : Int) - x % 9 ∧ IntKind.i64.wrap (4 * (k : Int) + x / 9 % 9) = 4 * (k : Int) + x / 9 % 9 := by
  have e1 : Int.tmod x 9 = x % 9 := Int.tmod_eq_emod_of_nonneg h0
  have e2 : Int.tdiv x 9 = x / 9 := Int.tdiv_eq_ediv_of_nonneg h0
  have e3 : IntKind.u8.wrap (x / 9) = x / 9 := w8 (by omega) (by omega)
  have e4 : Int.tmod (x / 9) 9 = x / 9 % 9 := Int.tmod_eq_emod_of_nonneg (by omega)
  rw [e1, e2, e3, e4]
  refine ⟨by rw [w64] <;> omega, by rw [w64] <;> omega, by rw [w64] <;> omega, by rw [w64] <;> omega⟩
end Go.Proofs.Try
/-! reaperlaw19.Spans by contract: a step -/
set_option linter.unusedVariables false
set_option linter.unusedSimpArgs false
namespace Go.Proofs.Try
open Go.L Go.Rp
set_option maxRecDepth 100000
theorem sp_fold (s : Sp) : List.take 8 (List.drop 0 (setR [V.int .i64 0, V.int .i64 0, V.int .u8 0, V.int .i32 0, V.int .u8 0, V.int .i32 0, V.int .i64 0, V.int .i64 0] 0 (Sp.v s))) = Sp.v s := rfl
theorem sp_late (s : Sp) : List.take 8 (List.drop 0 (setR (setR (setR [V.int .i64 0, V.int .i64 0, V.int .u8 0, V.int .i32 0, V.int .u8 0, V.int .i32 0, V.int .i64 0, V.int .i64 0] 0 (Sp.v s)) 7 [V.int .i64 (-1)]) 4 [V.int .u8 0, V.int .i32 0])) = Sp.v { s with to := -1, res := ⟨0, 0⟩ } := rfl
theorem spv_len' (s : Sp) : (Sp.v s).length = 8 := rfl
theorem spans_step (n : Nat) (h : Heap) (o m : Int) (os : List O) (bo : Bool) (zd : Nat) (d : List Int) (db : Bool) (hzd : zd = 1 ∨ d = []) (k : Nat) (x : O) (hx : os[k]? = some x) (h14 : os.length ≤ 14) (hd : ∀ y ∈ d, 0 ≤ y ∧ y < 256) (sV sV' : V) (r : R) (l : List Sp) (g : List Ap) (hl : l.length + 1 < lim) (hg : g.length + 1 < lim)
    (hap : call n 52 [.int .u8 o, .int .i64 m, sV, .agg (O.w x)] h = some (.ret [sV', .agg (R.w r)], h)) (next : List V → Heap → Option (Res × Heap)) :
    lSpn_l7 n o m (.sl zd (d.map (intV .u8)) db) (.sl 2 (os.map O.w) bo) [.sl 8 [] false, .sl 7 [] false, .sl 8 (l.map Sp.v) false, .sl 7 (g.map Ap.v) false, sV, .int .i64 (k : Int)] h next =
      next [.sl 8 [] false, .sl 7 [] false, .sl 8 ((l ++ [spanAt d k x r]).map Sp.v) false, .sl 7 ((g ++ [logAt k x r]).map Ap.v) false, sV', .int .i64 ((k + 1 : Nat) : Int)] h := by
  have hk : k < os.length := (List.getElem?_eq_some_iff.1 hx).1
  have hlt : decide ((k : Int) < (os.length : Int)) = true := by simp; omega
  have hxv : (os.map O.w)[k]? = some (O.w x) := by rw [get_os, hx]; rfl
  have ho : List.take 2 (List.drop 0 (O.w x)) = O.w x := rfl
  have hr : List.take 2 (List.drop 0 (setR [V.int .u8 0, V.int .i32 0] 0 (V.cells (V.agg (R.w r))))) = R.w r := rfl
  have hrl : (V.cells (V.agg (R.w r))).length = 2 := rfl
  obtain ⟨k1, k2, k3, k4, k5⟩ := at_k (show k < 14 by omega)
  by_cases hdk : k < d.length
  · have hlt2 : decide ((k : Int) < (d.length : Int)) = true := by simp; omega
    obtain rfl : zd = 1 := hzd.resolve_right (by rintro rfl; simp at hdk)
    obtain ⟨y, hy⟩ : ∃ y, d[k]? = some y := ⟨_, List.getElem?_eq_getElem hdk⟩
    have hyv : (d.map (intV .u8))[k]? = some [.int .u8 y] := by rw [get_ints, hy]; rfl
    obtain ⟨y0, y1⟩ := hd y (List.mem_of_getElem? hy)
    obtain ⟨d1, d2, d3, d4⟩ := at_d y0 y1 (show k < 14 by omega)
    by_cases hge : y ≥ 240
    · have hsp : spanAt d k x r = { (⟨(k : Int) % 3, (k : Int) / 3 + 1, x, r, max 0 (4 * (k : Int) - y % 9), 4 * (k : Int) + y / 9 % 9⟩ : Sp) with to := -1, res := ⟨0, 0⟩ } := by
        unfold spanAt; rw [hy]; simp only; rw [if_pos hge]
      simp only [lSpn_l7, gv, List.getD_cons_zero, List.getD_cons_succ, slcH_sl, bd_some, List.length_map, bop_i64_lss, bv_bool, hlt, hlt2, if_true, nv_nat, bdS_some, idxP_sl hxv, idxP_sl hyv, cellsP_iptr, bd3_some, Nat.zero_add, Nat.le_refl, Nat.reduceLT, and_self, ho, hap, cl_ret, List.getElem?_cons_zero, List.getElem?_cons_succ, hrl, hr, bop_u8_rem9, bop_u8_quo9, cvt_u8_i64, bop_i64_rem3, bop_i64_quo3, bop_i64_mul4, bop_i64_add, bop_i64_sub, k1, k2, k3, k4, d1, d2, d3, d4, valB, evBsL, mm_max, bld_span8, spv_len', bop_u8_geq, hge, decide_true, sp_late, sp_fold, bsl_span8, lsl, app_sps _ _ _ hl, bld_ap7, bsl_ap7, app_aps _ _ _ hg, k5, hsp]
      rfl
    · have hsp : spanAt d k x r = (⟨(k : Int) % 3, (k : Int) / 3 + 1, x, r, max 0 (4 * (k : Int) - y % 9), 4 * (k : Int) + y / 9 % 9⟩ : Sp) := by
        unfold spanAt; rw [hy]; simp only; rw [if_neg hge]
      simp only [lSpn_l7, gv, List.getD_cons_zero, List.getD_cons_succ, slcH_sl, bd_some, List.length_map, bop_i64_lss, bv_bool, hlt, hlt2, if_true, nv_nat, bdS_some, idxP_sl hxv, idxP_sl hyv, cellsP_iptr, bd3_some, Nat.zero_add, Nat.le_refl, Nat.reduceLT, and_self, ho, hap, cl_ret, List.getElem?_cons_zero, List.getElem?_cons_succ, hrl, hr, bop_u8_rem9, bop_u8_quo9, cvt_u8_i64, bop_i64_rem3, bop_i64_quo3, bop_i64_mul4, bop_i64_add, bop_i64_sub, k1, k2, k3, k4, d1, d2, d3, d4, valB, evBsL, mm_max, bld_span8, spv_len', bop_u8_geq, hge, decide_false, Bool.false_eq_true, if_false, sp_fold, bsl_span8, lsl, app_sps _ _ _ hl, bld_ap7, bsl_ap7, app_aps _ _ _ hg, k5, hsp]
      rfl
  · have hlt2 : decide ((k : Int) < (d.length : Int)) = false := by simp; omega
    have hdn : d[k]? = none := List.getElem?_eq_none (by omega)
    have w4 : IntKind.i64.wrap (4 * (k : Int) - 0) = 4 * (k : Int) - 0 := by rw [w64] <;> omega
    have w5 : IntKind.i64.wrap (4 * (k : Int) + 1) = 4 * (k : Int) + 1 := by rw [w64] <;> omega
    have hsp : spanAt d k x r = (⟨(k : Int) % 3, (k : Int) / 3 + 1, x, r, max 0 (4 * (k : Int) - 0), 4 * (k : Int) + 1⟩ : Sp) := by
      unfold spanAt; rw [hdn]
    simp only [lSpn_l7, gv, List.getD_cons_zero, List.getD_cons_succ, slcH_sl, bd_some, List.length_map, bop_i64_lss, bv_bool, hlt, hlt2, if_true, Bool.false_eq_true, if_false, nv_nat, bdS_some, idxP_sl hxv, cellsP_iptr, bd3_some, Nat.zero_add, Nat.le_refl, Nat.reduceLT, and_self, ho, hap, cl_ret, List.getElem?_cons_zero, List.getElem?_cons_succ, hrl, hr, bop_i64_rem3, bop_i64_quo3, bop_i64_mul4, bop_i64_add, bop_i64_sub, k1, k2, k3, k4, w4, w5, valB, evBsL, mm_max, bld_span8, spv_len', sp_fold, bsl_span8, lsl, app_sps _ _ _ hl, bld_ap7, bsl_ap7, app_aps _ _ _ hg, k5, hsp]
    rfl
end Go.Proofs.Try
/-! reaperlaw19.Spans by contract -/
set_option linter.unusedVariables false
set_option linter.unusedSimpArgs false
namespace Go.Proofs.Try
open Go.L Go.Rp
set_option maxRecDepth 100000
theorem spans_loop (n : Nat) (h : Heap) (o m : Int) (os : List O) (bo : Bool) (zd : Nat) (d : List Int) (db : Bool) (hzd : zd = 1 ∨ d = []) (h14 : os.length ≤ 14) (hd : ∀ y ∈ d, 0 ≤ y ∧ y < 256) (hn : 20 ≤ n) : ∀ (e k N z : Nat) (b : Bool), k + e = os.length → e < N → (z = 1 ∨ (run o m [] (os.take k)).1 = []) →
    loopx N (lSpn_l7 (n + 3) o m (.sl zd (d.map (intV .u8)) db) (.sl 2 (os.map O.w) bo)) [.sl 8 [] false, .sl 7 [] false, .sl 8 ((spansTo o m os d k).map Sp.v) false, .sl 7 ((logTo o m os k).map Ap.v) false, .sl z ((run o m [] (os.take k)).1.map (intV .i32)) b, .int .i64 (k : Int)] h =
      some (.ret [.row h.length 8 0 os.length, .row (h.length + 1) 7 0 os.length], h ++ [.row 54 8 ((spansTo o m os d os.length).map Sp.v) true, .row 60 7 ((logTo o m os os.length).map Ap.v) true]) := by
  intro e
  induction e with
  | zero =>
    intro k N z b h1 h2 hz
    obtain ⟨N, rfl⟩ : ∃ N', N = N' + 1 := ⟨N - 1, by omega⟩
    obtain rfl : k = os.length := by omega
    have hlt : decide ((os.length : Int) < (os.length : Int)) = false := by simp
    have key : ∀ next s', lSpn_l7 (n + 3) o m (.sl zd (d.map (intV .u8)) db) (.sl 2 (os.map O.w) bo) [.sl 8 [] false, .sl 7 [] false, .sl 8 ((spansTo o m os d os.length).map Sp.v) false, .sl 7 ((logTo o m os os.length).map Ap.v) false, s', .int .i64 (os.length : Int)] h next = some (.ret [.row h.length 8 0 os.length, .row (h.length + 1) 7 0 os.length], h ++ [.row 54 8 ((spansTo o m os d os.length).map Sp.v) true, .row 60 7 ((logTo o m os os.length).map Ap.v) true]) := by
      intro next s'
      simp only [lSpn_l7, gv, List.getD_cons_zero, List.getD_cons_succ, slcH_sl, bd_some, List.length_map, bop_i64_lss, bv_bool, hlt, Bool.false_eq_true, if_false, lsl, List.length_append, List.length_cons, List.length_nil, spansTo_len, logTo_len, List.append_assoc, List.cons_append, List.nil_append, Nat.zero_add]
    rw [loopx_succ, key]
  | succ e ih =>
    intro k N z b h1 h2 hz
    obtain ⟨N, rfl⟩ : ∃ N', N = N' + 1 := ⟨N - 1, by omega⟩
    obtain ⟨x, hx⟩ : ∃ x, os[k]? = some x := ⟨_, List.getElem?_eq_getElem (by omega)⟩
    have hgd : os.getD k ⟨0, 0⟩ = x := by rw [List.getD_eq_getElem?_getD, hx]; rfl
    have hrl := (run_len o m (os.take k) []).1
    have htl : (os.take k).length = k := by rw [List.length_take]; omega
    rw [htl] at hrl
    have hrl' : (run o m [] (os.take k)).1.length ≤ k := by simpa using hrl
    obtain ⟨vs, a1, z', b', a2, a3⟩ := apply8_call (n := n) (m := m) (z := z) (s := (run o m [] (os.take k)).1) (sb := b) (k := x.k) (v := x.v) (h := h) o hz (by unfold lim; omega) (by omega)
    rw [a2] at a1
    have hrt := run_take o m [] os k x hx
    have hst := spans_step (n + 3) h o m os bo zd d db hzd k x hx h14 hd _ _ (apply o m (run o m [] (os.take k)).1 x).2 (spansTo o m os d k) (logTo o m os k) (by rw [spansTo_len]; unfold lim; omega) (by rw [logTo_len]; unfold lim; omega) a1
    rw [loopx_succ, hst]
    have e1 : spansTo o m os d k ++ [spanAt d k x (apply o m (run o m [] (os.take k)).1 x).2] = spansTo o m os d (k + 1) := by simp only [spansTo, hgd]
    have e2 : logTo o m os k ++ [logAt k x (apply o m (run o m [] (os.take k)).1 x).2] = logTo o m os (k + 1) := by simp only [logTo, hgd]
    have e3 : (apply o m (run o m [] (os.take k)).1 x).1 = (run o m [] (os.take (k + 1))).1 := by rw [hrt]
    have IH := ih (k + 1) N z' b' (by omega) (by omega) (by rw [← e3]; exact a3)
    rw [← e1, ← e2, ← e3] at IH
    exact IH
theorem spans_call (n : Nat) (h : Heap) (o m : Int) (zd : Nat) (c d : List Int) (cb db : Bool) (hzd : zd = 1 ∨ d = []) (hc : small c = true) (hd : ∀ y ∈ d, 0 ≤ y ∧ y < 256) (hn : 90 ≤ n) :
    call (n + 4) 27 [.int .u8 o, .int .i64 m, .sl 1 (c.map (intV .u8)) cb, .sl zd (d.map (intV .u8)) db] h = some (.ret [.row h.length 8 0 (done c).length, .row (h.length + 1) 7 0 (done c).length], h ++ [.row 54 8 ((spans o m c d).map Sp.v) true, .row 60 7 ((logs o m c).map Ap.v) true]) := by
  refine (lSpn_eq (n + 3) o m (.sl 1 (c.map (intV .u8)) cb) (.sl zd (d.map (intV .u8)) db) h).trans ?_
  unfold lSpn
  rw [ops_call (n + 3) c 1 cb 4 h (.inl rfl) hc (by omega) (by omega) (by omega), cl_ret, one1_one]
  simp only [slcH_sl, bd_some, List.length_map]
  have hl := spans_loop n h o m (done c) false zd d db hzd (done_len c) hd (by omega) (done c).length 0 (n + 3) 1 false (by omega) (by have := done_len c; omega) (.inl rfl)
  by_cases h14 : (((ops c 4).length : Nat) : Int) > 14
  · have hdn : done c = (ops c 4).take 14 := rfl
    rw [if_pos (by simpa using h14), lenP_sl, bd_some, slP (.inl rfl) (Nat.zero_le _) (by rw [List.length_map]; omega), bd_some]
    rw [List.drop_zero, ← List.map_take, ← hdn]
    exact hl
  · have hdn : done c = ops c 4 := List.take_of_length_le (by omega)
    rw [if_neg (by simpa using h14), spans_same, ← hdn]
    exact hl
end Go.Proofs.Try
