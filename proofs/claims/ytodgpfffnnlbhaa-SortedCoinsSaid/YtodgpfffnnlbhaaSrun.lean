import Derived.Test.YtodgpfffnnlbhaaLrun
import Derived.Test.YtodgpfffnnlbhaaLap
import Derived.Test.YtodgpfffnnlbhaaSplain
/-! spec.Run by contract -/
set_option linter.unusedVariables false
set_option linter.unusedSimpArgs false
namespace Go.Proofs.Try
open Go.L Go.Rp
set_option maxRecDepth 100000
def _root_.Go.Rp.O.w (o : O) : List V := [.int .u8 o.k, .int .i32 o.v]
def _root_.Go.Rp.R.w (r : R) : List V := [.int .u8 r.c, .int .i32 r.v]
theorem app_os (e : Nat) (a : List O) (x : O) (h : a.length + 1 < lim) : app e 2 (.own e 2 (a.map O.w)) [O.w x] = some ((a ++ [x]).map O.w) := by
  simp [app, h]
theorem bsl_o (x : O) : bslV prog 24 1 [(0, .agg (O.w x))] = some (2, [O.w x]) := by kernel_rfl
theorem get_os (l : List O) (n : Nat) : (l.map O.w)[n]? = (l[n]?).map O.w := List.getElem?_map
theorem get_rs (l : List R) (n : Nat) : (l.map R.w)[n]? = (l[n]?).map R.w := List.getElem?_map
theorem ow_take (o : O) : List.take 2 (O.w o) = O.w o := rfl
theorem rw_take (r : R) : List.take 2 (R.w r) = R.w r := rfl
theorem ow_len (o : O) : (O.w o).length = 2 := rfl
theorem set_o (o : O) : setR [V.int .u8 0, .int .i32 0] 0 (O.w o) = O.w o := rfl
theorem bop_res2 (r r' : R) : bop prog .neq 34 (.agg (R.w r)) (.agg (R.w r')) = some (.bool (decide (r ≠ r'))) := bop_res r r'
/-- spec.Run -/
theorem run_take (o m : Int) (s : List Int) (os : List O) (k : Nat) (x : O) (h : os[k]? = some x) : run o m s (os.take (k + 1)) = ((apply o m (run o m s (os.take k)).1 x).1, (run o m s (os.take k)).2 ++ [(apply o m (run o m s (os.take k)).1 x).2]) := by
  rw [List.take_add_one, h]
  exact run_snoc o m (os.take k) s x
theorem set_rw (x r : R) : setR (R.w x) 0 [.int .u8 r.c, .int .i32 r.v] = R.w r := rfl
theorem set_rmap (l : List R) (k : Nat) (r : R) : (l.map R.w).set k (R.w r) = (l.set k r).map R.w := by rw [List.map_set]
theorem run_loop (o m : Int) (s : List Int) (os : List O) (zo : Nat) (bo : Bool) (p : Nat) (H : Heap) (N : Nat) (ho : 0 ≤ o) (hk : ∀ x ∈ os, 0 ≤ x.k) (hzo : zo = 2 ∨ os = []) (hlim : s.length + os.length + 1 < lim) (hN : s.length + os.length + 4 ≤ N) : ∀ (d k M : Nat) (rest : List R), k + d = os.length → d < M → rest.length = d →
    loopx M (lRun_l5 N o m (.sl zo (os.map O.w) bo) (p, os.map O.w)) [.sl 1 ((run o m s (os.take k)).1.map (intV .i32)) false, .sl 1 [] false, .sl 2 [] false, .sl 2 (((run o m s (os.take k)).2 ++ rest).map R.w) false, .bool false, .bool false, .int .i64 (k : Int)] H = some (.ret [.sl 1 ((run o m s os).1.map (intV .i32)) false, .sl 2 ((run o m s os).2.map R.w) false], H)
  | d, k, 0, rest, _, h, _ => by omega
  | 0, k, M + 1, rest, hk', _, hr => by
    obtain rfl : k = os.length := by omega
    obtain rfl : rest = [] := List.eq_nil_of_length_eq_zero hr
    rw [loopx_succ]
    simp only [lRun_l5, gv, List.getD_cons_succ, List.getD_cons_zero, List.length_map, bop_i64_lss, bd_some, bv_bool, Int.lt_irrefl, decide_false, Bool.false_eq_true, if_false, lsl, List.take_length, List.append_nil]
  | d + 1, k, M + 1, rest, hk', hM, hr => by
    have hlt : (k : Int) < (os.length : Int) := by omega
    obtain ⟨x, hx⟩ : ∃ x, os[k]? = some x := ⟨_, List.getElem?_eq_getElem (by omega)⟩
    obtain rfl : zo = 2 := hzo.resolve_right (by rintro rfl; simp at hx)
    obtain ⟨r0, rest', rfl⟩ : ∃ r0 rest', rest = r0 :: rest' := by cases rest with | nil => simp at hr | cons a b => exact ⟨a, b, rfl⟩
    have hrl := run_len o m (os.take k) s
    have htl : (os.take k).length = k := by rw [List.length_take]; omega
    rw [htl] at hrl
    have hA := apply_call N o m 1 (run o m s (os.take k)).1 false x.k x.v H (.inl rfl) ho (hk x (List.mem_of_getElem? hx)) (by omega) (by omega)
    have hget : ((run o m s (os.take k)).2 ++ r0 :: rest')[k]? = some r0 := by rw [List.getElem?_append_right (by omega), hrl.2, Nat.sub_self]; rfl
    have hset : ((run o m s (os.take k)).2 ++ r0 :: rest').set k (apply o m (run o m s (os.take k)).1 x).2 = (run o m s (os.take (k + 1))).2 ++ rest' := by
      rw [run_take o m s os k x hx, List.set_append_right _ _ (by omega), hrl.2, Nat.sub_self]
      simp
    have hitems : (apply o m (run o m s (os.take k)).1 x).1 = (run o m s (os.take (k + 1))).1 := by rw [run_take o m s os k x hx]
    have hlen2 : ((run o m s (os.take k)).2 ++ r0 :: rest').length = os.length := by rw [List.length_append, hrl.2]; simp at hr ⊢; omega
    have hcond : (True ∧ k < os.length ∧ (some 35 : Option Nat) ≠ some 10) := ⟨trivial, by omega, by decide⟩
    have hxv : (os.map O.w)[k]? = some (O.w x) := by rw [get_os, hx]; rfl
    have hop : V.agg (O.w x) = .agg [.int .u8 x.k, .int .i32 x.v] := rfl
    have IH := run_loop o m s os 2 bo p H N ho hk (.inl rfl) hlim hN d (k + 1) M rest' (by omega) (by omega) (by simpa using hr)
    rw [loopx_succ]
    simp only [lRun_l5, gv, List.getD_cons_succ, List.getD_cons_zero, List.length_map, bop_i64_lss, bd_some, bv_bool, hlt, decide_true, if_true, nv_nat, bdS_some, idxP_sl hxv, cellsP_iptr, bd3_some, Nat.zero_add, Nat.reduceLT, and_self, List.drop_zero, ow_take, ow_len, Nat.le_refl, set_o, hop]
    rw [hA]
    simp only [ansA, cl_ret, List.getElem?_cons_zero, List.getElem?_cons_succ, bd_some, lsl, List.length_map, hlen2]
    rw [if_pos hcond]
    simp only [V.cells, List.length_cons, List.length_nil, Nat.zero_add, Nat.reduceAdd, Nat.le_refl, Nat.zero_lt_succ, and_self, if_true, get_rs, hget, Option.map_some, bd_some, set_rw, set_rmap, hset, hitems, bop_i64_add, step64 (show k < lim by omega)]
    exact IH
theorem run_call (n : Nat) (o m : Int) (z : Nat) (s : List Int) (b : Bool) (zo : Nat) (os : List O) (bo : Bool) (H : Heap) (hz : z = 1 ∨ s = []) (hzo : zo = 2 ∨ os = []) (ho : 0 ≤ o) (hk : ∀ x ∈ os, 0 ≤ x.k) (hlim : s.length + os.length + 1 < lim) (hn : s.length + os.length + 5 ≤ n) :
    call n 79 [.int .u8 o, .int .i64 m, .sl z (s.map (intV .i32)) b, .sl zo (os.map O.w) bo] H = some (.ret [.sl 1 ((run o m s os).1.map (intV .i32)) false, .sl 2 ((run o m s os).2.map R.w) false], H) := by
  obtain ⟨N, rfl⟩ : ∃ N, n = N + 1 := ⟨n - 1, by omega⟩
  have hc : ((z = 1 ∨ (s.map (intV .i32)).isEmpty = true) ∧ (s.map (intV .i32)).length < lim) := clone_ok hz (by omega)
  have hc2 : (True ∧ os.length < lim ∧ True) := ⟨trivial, by omega, trivial⟩
  have hrep : List.replicate os.length [V.int .u8 0, .int .i32 0] = (List.replicate os.length (⟨0, 0⟩ : R)).map R.w := by rw [List.map_replicate]; rfl
  rw [lRun_eq]
  unfold lRun
  simp only [slcH_sl, bd_some]
  rw [if_pos hc]
  simp only [List.length_map, nv_nat, bdS_some]
  rw [if_pos hc2, hrep]
  have := run_loop o m s os zo bo zo H N ho hk hzo hlim (by omega) os.length 0 N (List.replicate os.length ⟨0, 0⟩) (by omega) (by omega) (by simp)
  simpa [run] using this
end Go.Proofs.Try
