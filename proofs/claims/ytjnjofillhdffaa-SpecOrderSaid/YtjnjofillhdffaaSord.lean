import Derived.Test.YtjnjofillhdffaaLsb
import Derived.Test.YtjnjofillhdffaaSo6
import Derived.Test.YtjnjofillhdffaaSrun
/-! spec.Order and reaperref08.Order: what they come to -/
set_option linter.unusedVariables false
set_option linter.unusedSimpArgs false
namespace Go.Proofs.Try
open Go.L Go.Rp
set_option maxRecDepth 100000
/-- an operation at a place -/
def oAt (os : List O) (x : Int) : O := os.getD x.toNat ⟨0, 0⟩
/-- by which a heap's operations are sorted -/
def keyO (os : List O) (x : Int) : Int := if (oAt os x).k = 1 then (oAt os x).v else 2147483648
/-- which come one behind the other -/
def ordOf (o : Int) (os : List O) : List Int := if o = 3 then ordL (keyO os) os.length else rng 0 os.length
def Small (os : List O) : Prop := ∀ x ∈ os, -2147483648 ≤ x.v ∧ x.v < 2147483648
theorem oAt_some {os : List O} {k : Nat} {x : O} (h : os[k]? = some x) : oAt os (k : Int) = x := by
  unfold oAt; rw [Int.toNat_natCast, List.getD_eq_getElem?_getD, h]; rfl
theorem late_call (n : Nat) (k v : Int) (h : Heap) : call (n + 1) 66 [.agg [.int .u8 k, .int .i32 v]] h = some (.ret [.int .i64 (if k = 1 then 0 else 1)], h) := by
  rw [lLate_eq]
  refine (congrArg (fun r => gcw _ r h) (?_ : lLate n k v = some (.ret [.int .i64 (if k = 1 then 0 else 1)], []))).trans (gcw_ret (by simp) (by simp))
  unfold lLate
  by_cases hk : k = 1
  · simp [hk]
  · simp [hk]
theorem nan_call (n : Nat) (x : Int) (h : Heap) : call (n + 1) 87 [.int .i32 x] h = some (.ret [.bool false], h) := by
  rw [lNaN_eq]; unfold lNaN; simp
theorem cmp_call (n : Nat) (x y : Int) (h : Heap) : call (n + 2) 69 [.int .i32 x, .int .i32 y] h = some (.ret [.int .i64 (if x < y then -1 else if x > y then 1 else 0)], h) := by
  rw [lCmp_eq]
  unfold lCmp
  rw [nan_call, cl_ret, one1_one, nan_call, cl_ret, one1_one]
  simp only [bv_bool, Bool.false_eq_true, if_false]
  by_cases h1 : x < y
  · simp only [h1, decide_true, if_true]
  · by_cases h2 : x > y
    · simp only [h1, h2, decide_true, decide_false, Bool.false_eq_true, if_true, if_false]
    · simp only [h1, h2, decide_false, Bool.false_eq_true, if_false]
/-- the heap as spec.Order sorts -/
def ordH (z : Nat) (os : List O) (b : Bool) : Heap := [HB.box 1 [.sl z (os.map O.w) b], HB.box 1 [.fn 66 []]]
theorem ord2_call (n : Nat) (os : List O) (z : Nat) (b : Bool) (hz : z = 2 ∨ os = []) (hs : Small os) {i j : Nat} {x y : O} (hx : os[i]? = some x) (hy : os[j]? = some y) :
    ∃ q, call (n + 3) 68 [.int .i64 (i : Int), .int .i64 (j : Int), .ptr 0 0, .ptr 1 0] (ordH z os b) = some (.ret [.int .i64 q], ordH z os b) ∧ (q < 0 ↔ keyO os (i : Int) < keyO os (j : Int)) := by
  obtain rfl : z = 2 := hz.resolve_right (by rintro rfl; simp at hx)
  have hxs := hs x (List.mem_of_getElem? hx)
  have hys := hs y (List.mem_of_getElem? hy)
  have kx : keyO os (i : Int) = if x.k = 1 then x.v else 2147483648 := by unfold keyO; rw [oAt_some hx]
  have ky : keyO os (j : Int) = if y.k = 1 then y.v else 2147483648 := by unfold keyO; rw [oAt_some hy]
  have hox : V.agg (O.w x) = .agg [.int .u8 x.k, .int .i32 x.v] := rfl
  have hoy : V.agg (O.w y) = .agg [.int .u8 y.k, .int .i32 y.v] := rfl
  have g1 : ∀ u : O, (O.w u)[1]? = some (.int .i32 u.v) := fun u => rfl
  have e := lOrd2_eq (n + 2) (i : Int) (j : Int) (.sl 2 (os.map O.w) b)
  unfold ordH
  rw [e]
  unfold lOrd2
  simp only [nv_nat, bdS_some, slk_sl, if_true, get_os, hx, hy, Option.map_some, bd_some, List.drop_zero, ow_take, ow_len, Nat.le_refl, set_o, hox, hoy, g1]
  rw [late_call, clS_ret, one1_one, late_call, clS_ret, one1_one, kx, ky]
  by_cases h1 : x.k = 1 <;> by_cases h2 : y.k = 1
  · have w : IntKind.i64.wrap (0 + 0) = 0 := rfl
    simp only [h1, h2, if_true, bop_i64_add, bd_some, w, bop_i64_eql, beq_self_eq_true, bv_bool]
    rw [cmp_call, cl_ret, one1_one]
    refine ⟨_, rfl, ?_⟩
    by_cases h3 : x.v < y.v
    · simp [h3]
    · by_cases h4 : x.v > y.v
      · simp [h3, h4]
      · simp [h3, h4]
  · have w : IntKind.i64.wrap (0 + 1) = 1 := rfl
    have w2 : IntKind.i64.wrap (0 - 1) = -1 := rfl
    have w3 : ((1 : Int) == 0) = false := rfl
    simp only [h1, h2, if_true, if_false, bop_i64_add, bd_some, w, bop_i64_eql, w3, bv_bool, Bool.false_eq_true]
    rw [clS_ret, one1_one, clS_ret, one1_one]
    simp only [bop_i64_sub, bd_some, w2]
    exact ⟨_, rfl, by constructor <;> intro _ <;> omega⟩
  · have w : IntKind.i64.wrap (1 + 0) = 1 := rfl
    have w2 : IntKind.i64.wrap (1 - 0) = 1 := rfl
    have w3 : ((1 : Int) == 0) = false := rfl
    simp only [h1, h2, if_true, if_false, bop_i64_add, bd_some, w, bop_i64_eql, w3, bv_bool, Bool.false_eq_true]
    rw [clS_ret, one1_one, clS_ret, one1_one]
    simp only [bop_i64_sub, bd_some, w2]
    exact ⟨_, rfl, by constructor <;> intro _ <;> omega⟩
  · have w : IntKind.i64.wrap (1 + 1) = 2 := rfl
    have w2 : IntKind.i64.wrap (1 - 1) = 0 := rfl
    have w3 : ((2 : Int) == 0) = false := rfl
    simp only [h1, h2, if_true, if_false, bop_i64_add, bd_some, w, bop_i64_eql, w3, bv_bool, Bool.false_eq_true]
    rw [clS_ret, one1_one, clS_ret, one1_one]
    simp only [bop_i64_sub, bd_some, w2]
    exact ⟨_, rfl, by constructor <;> intro _ <;> omega⟩
theorem ord2_cmp (os : List O) (z : Nat) (b : Bool) (hz : z = 2 ∨ os = []) (hs : Small os) : CmpOk 3 (.fn 68 [.ptr 0 0, .ptr 1 0]) (ordH z os b) (keyO os) (fun x => 0 ≤ x ∧ x < (os.length : Int)) where
  ex := by
    refine ⟨_, _, rfl, by kernel_rfl, by kernel_rfl, fun n hn x y hx hy => ?_⟩
    obtain ⟨m, rfl⟩ : ∃ m, n = m + 3 := ⟨n - 3, by omega⟩
    obtain ⟨i, rfl⟩ := Int.eq_ofNat_of_zero_le hx.1
    obtain ⟨j, rfl⟩ := Int.eq_ofNat_of_zero_le hy.1
    obtain ⟨u, hu⟩ : ∃ u, os[i]? = some u := ⟨_, List.getElem?_eq_getElem (by omega)⟩
    obtain ⟨v, hv⟩ : ∃ u, os[j]? = some u := ⟨_, List.getElem?_eq_getElem (by omega)⟩
    exact ord2_call m os z b hz hs hu hv
theorem order_fill (n : Nat) (o : Int) (z : Nat) (os : List O) (b : Bool) (hz : z = 2 ∨ os = []) (hs : Small os) (hl : 4 * os.length + 100 < lim) (hn : 2 * os.length + 60 ≤ n) : ∀ (d k M : Nat), k + d = os.length → d < M →
    loopx M (lOrder_l4 n o os.length) [.agg [.sl z (os.map O.w) b], .sl 1 [] false, .sl 1 (iL (rng 0 k ++ List.replicate d 0)) false, .bool false, .int .i64 (k : Int)] [] = some (.ret [.sl 1 (iL (ordOf o os)) false], if o = 3 then ordH z os b else [])
  | d, k, 0, _, h => by omega
  | 0, k, M + 1, hk, _ => by
    obtain rfl : k = os.length := by omega
    have hc : ¬ (os.length : Int) < (((List.replicate os.length [V.int .i64 0]).length : Nat) : Int) := by simp
    rw [loopx_succ]
    simp only [lOrder_l4, gv, List.getD_cons_succ, List.getD_cons_zero, bop_i64_lss, bd_some, bv_bool, hc, decide_false, Bool.false_eq_true, if_false, lsl, lcs, List.replicate_zero, List.append_nil]
    by_cases h3 : o = 3
    · subst h3
      have e := sort_call (ord2_cmp os z b hz hs) n os.length (fun x hx => by rw [rng_mem] at hx; omega) hl (by omega)
      unfold ordH at e
      simp only [bne_self_eq_false, Bool.false_eq_true, if_false, List.nil_append, List.cons_append, List.length_nil, List.length_cons, Nat.zero_add]
      rw [e, clm_ret]
      simp [ordOf, ordH]
    · have h3' : (o != 3) = true := by simpa using h3
      simp [h3, ordOf]
  | d + 1, k, M + 1, hk, hM => by
    have hc : (k : Int) < (((List.replicate os.length [V.int .i64 0]).length : Nat) : Int) := by simp; omega
    have e1 : IntKind.i64.wrap ((k : Int) + 1) = ((k + 1 : Nat) : Int) := wN (by omega) (by omega)
    have s1 : (rng 0 k ++ List.replicate (d + 1) (0 : Int))[k]? = some 0 := by rw [List.replicate_succ]; exact mid_get _ _ _ (by rw [rng_len])
    have l1 := (List.getElem?_eq_some_iff.1 s1).1
    have s2 : (rng 0 k ++ List.replicate (d + 1) (0 : Int)).set k (k : Int) = rng 0 (k + 1) ++ List.replicate d 0 := by
      rw [List.replicate_succ, mid_set _ _ _ _ (by rw [rng_len]), rng_succ]; simp
    rw [loopx_succ]
    simp only [lOrder_l4, gv, List.getD_cons_succ, List.getD_cons_zero, bop_i64_lss, bd_some, bv_bool, hc, decide_true, if_true, nv_nat, bdS_some, lsl, lcs, iL_len, l1, V.cells, List.length_cons, List.length_nil, Nat.zero_add, iL_get s1, setR_11, iL_set, s2, bop_i64_add, e1]
    have hcond : (1 = 1 ∧ k < (rng 0 k ++ List.replicate (d + 1) (0 : Int)).length ∧ (some 19 : Option Nat) ≠ some 5) := ⟨rfl, l1, by decide⟩
    simp only [l1, true_and, some_ne, zlo, ole, and_self, if_true, ne_eq, Option.some.injEq, Nat.reduceEqDiff, not_false_eq_true, Nat.le_refl]
    exact order_fill n o z os b hz hs hl hn d (k + 1) M (by omega) (by omega)
/-- spec.Order -/
theorem order_call (n : Nat) (o : Int) (z : Nat) (os : List O) (b : Bool) (h : Heap) (hz : z = 2 ∨ os = []) (hs : Small os) (hl : 4 * os.length + 100 < lim) (hn : 2 * os.length + 62 ≤ n) :
    call n 46 [.int .u8 o, .sl z (os.map O.w) b] h = some (.ret [.sl 1 (iL (ordOf o os)) false], h) := by
  obtain ⟨N, rfl⟩ : ∃ N, n = N + 1 := ⟨n - 1, by omega⟩
  have hrep : List.replicate os.length [V.int .i64 0] = iL (List.replicate os.length (0 : Int)) := by rw [iL, List.map_replicate]; rfl
  have e := order_fill N o z os b hz hs hl (by omega) os.length 0 N (by omega) (by omega)
  have e0 : (rng 0 0 ++ List.replicate os.length (0 : Int)) = List.replicate os.length (0 : Int) := rfl
  rw [e0, ← hrep] at e
  have hfree : V.free.freeLL (os.map O.w) = true := free_map _ (fun _ => rfl) os
  have hc : (os.length = os.length ∧ os.length < lim ∧ 1 = 1) := ⟨rfl, by omega, rfl⟩
  rw [lOrder_eq]
  have key : ∃ H', lOrder N o (.sl z (os.map O.w) b) = some (.ret [.sl 1 (iL (ordOf o os)) false], H') := by
    unfold lOrder
    simp only [V.cells, List.length_cons, List.length_nil, Nat.zero_add, if_true, List.getElem?_cons_zero, bd_some, slc_sl, List.length_map, nv_nat, bdS_some]
    rw [if_pos (by simpa using hc)]
    exact ⟨_, e⟩
  obtain ⟨H', key⟩ := key
  rw [key]
  exact gcw_ret (by simp [hfree]) (by simp)
end Go.Proofs.Try
