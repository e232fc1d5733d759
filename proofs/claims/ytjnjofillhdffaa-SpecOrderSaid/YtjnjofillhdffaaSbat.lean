import Derived.Test.YtjnjofillhdffaaSord
import Derived.Test.YtjnjofillhdffaaLref8
/-! spec.Batch, and reaperref08.Order, Run, Batch, Ints: what they come to -/
set_option linter.unusedVariables false
set_option linter.unusedSimpArgs false
namespace Go.Proofs.Try
open Go.L Go.Rp
set_option maxRecDepth 100000
/-- operations by an order -/
def batL (o m : Int) (os : List O) : List Int → List Int → List R → List Int × List R
  | [], s, told => (s, told)
  | x :: l, s, told => batL o m os l (apply o m s (oAt os x)).1 (told.set x.toNat (apply o m s (oAt os x)).2)
def batch (o m : Int) (s : List Int) (os : List O) : List Int × List R := batL o m os (ordOf o os) s (List.replicate os.length ⟨0, 0⟩)
theorem ordOf_mem {o : Int} {os : List O} {x : Int} : x ∈ ordOf o os ↔ 0 ≤ x ∧ x < (os.length : Int) := by
  unfold ordOf
  split
  · exact ordL_mem
  · rw [rng_mem]; omega
theorem ordOf_len (o : Int) (os : List O) : (ordOf o os).length = os.length := by
  unfold ordOf
  split
  · exact ordL_len _
  · exact rng_len _ _
theorem apply_len1 (o m : Int) (s : List Int) (x : O) : (apply o m s x).1.length ≤ s.length + 1 := by
  have := (run_len o m [x] s).1
  simpa [run] using this
theorem batch_loop (o m : Int) (os : List O) (zo : Nat) (bo bl : Bool) (p : Nat) (H : Heap) (N : Nat) (L : List Int) (hL : ∀ x ∈ L, 0 ≤ x ∧ x < (os.length : Int)) (ho : 0 ≤ o) (hk : ∀ x ∈ os, 0 ≤ x.k) (hzo : zo = 2 ∨ os = []) : ∀ (l : List Int) (pre : List Int) (s : List Int) (told : List R) (M : Nat), L = pre ++ l → told.length = os.length → s.length + L.length + 1 < lim + pre.length → s.length + L.length + 5 ≤ N + pre.length → L.length + 10 < lim → l.length < M →
    loopx M (lBatch_l9 N o m (.sl zo (os.map O.w) bo) (.sl 1 (iL L) bl) (p, iL L)) [.sl 1 (s.map (intV .i32)) false, .sl 1 [] false, .sl 2 [] false, .sl 2 (told.map R.w) false, .bool false, .bool false, .int .i64 (pre.length : Int)] H =
      some (.ret [.sl 1 ((batL o m os l s told).1.map (intV .i32)) false, .sl 2 ((batL o m os l s told).2.map R.w) false], H)
  | _, _, _, _, 0, _, _, _, _, _, h => by omega
  | [], pre, s, told, M + 1, hLp, ht, hl, hn, hl2, _ => by
    rw [List.append_nil] at hLp
    subst hLp
    rw [loopx_succ]
    simp only [lBatch_l9, gv, List.getD_cons_succ, List.getD_cons_zero, iL_len, bop_i64_lss, bd_some, bv_bool, Int.lt_irrefl, decide_false, Bool.false_eq_true, if_false, lsl, batL]
  | x :: l, pre, s, told, M + 1, hLp, ht, hl, hn, hl2, hM => by
    have hlen : L.length = pre.length + (l.length + 1) := by rw [hLp]; simp
    have hlt : (pre.length : Int) < (L.length : Int) := by omega
    have hgx : L[pre.length]? = some x := by rw [hLp]; exact mid_get _ _ _ rfl
    obtain ⟨hx0, hx1⟩ := hL x (by rw [hLp]; simp)
    obtain ⟨i, rfl⟩ := Int.eq_ofNat_of_zero_le hx0
    obtain ⟨u, hu⟩ : ∃ u, os[i]? = some u := ⟨_, List.getElem?_eq_getElem (by omega)⟩
    obtain rfl : zo = 2 := hzo.resolve_right (by rintro rfl; simp at hu)
    have hA := apply_call N o m 1 s false u.k u.v H (.inl rfl) ho (hk u (List.mem_of_getElem? hu)) (by omega) (by omega)
    have hou : V.agg (O.w u) = .agg [.int .u8 u.k, .int .i32 u.v] := rfl
    have ho2 : oAt os (i : Int) = u := oAt_some hu
    obtain ⟨r0, hr0⟩ : ∃ r0, told[i]? = some r0 := ⟨_, List.getElem?_eq_getElem (by omega)⟩
    have e1 : IntKind.i64.wrap ((pre.length : Int) + 1) = ((pre.length + 1 : Nat) : Int) := wN (by omega) (by omega)
    have hal := apply_len1 o m s u
    have IH := batch_loop o m os 2 bo bl p H N L hL ho hk (.inl rfl) l (pre ++ [(i : Int)]) (apply o m s u).1 (told.set i (apply o m s u).2) M (by rw [hLp]; simp) (by simpa using ht) (by simp; omega) (by simp; omega) hl2 (by simpa using hM)
    simp only [List.length_append, List.length_singleton] at IH
    rw [loopx_succ]
    simp only [lBatch_l9, gv, List.getD_cons_succ, List.getD_cons_zero, iL_len, bop_i64_lss, bd_some, bv_bool, hlt, decide_true, if_true, nv_nat, bdS_some, slk_sl, iL_get hgx, List.getElem?_cons_zero, get_os, hu, Option.map_some, List.drop_zero, ow_take, hou]
    rw [hA]
    simp only [ansA, cl_ret, List.getElem?_cons_zero, List.getElem?_cons_succ, bd_some, lsl, List.length_map, ht]
    have hcond : (True ∧ i < os.length ∧ (some 39 : Option Nat) ≠ some 10) := ⟨trivial, by omega, by decide⟩
    rw [if_pos hcond]
    simp only [V.cells, List.length_cons, List.length_nil, Nat.zero_add, Nat.reduceAdd, Nat.le_refl, Nat.zero_lt_succ, and_self, if_true, get_rs, hr0, Option.map_some, bd_some, set_rw, set_rmap, bop_i64_add, e1]
    simp only [batL, ho2, Int.toNat_natCast]
    exact IH
/-- spec.Batch -/
theorem batch_call (n : Nat) (o m : Int) (z : Nat) (s : List Int) (b : Bool) (zo : Nat) (os : List O) (bo : Bool) (h : Heap) (hz : z = 1 ∨ s = []) (hzo : zo = 2 ∨ os = []) (ho : 0 ≤ o) (hk : ∀ x ∈ os, 0 ≤ x.k) (hs : Small os) (hlim : s.length + 4 * os.length + 100 < lim) (hn : s.length + 2 * os.length + 70 ≤ n) :
    call n 45 [.int .u8 o, .int .i64 m, .sl z (s.map (intV .i32)) b, .sl zo (os.map O.w) bo] h = some (.ret [.sl 1 ((batch o m s os).1.map (intV .i32)) false, .sl 2 ((batch o m s os).2.map R.w) false], h) := by
  obtain ⟨N, rfl⟩ : ∃ N, n = N + 1 := ⟨n - 1, by omega⟩
  have hc : ((z = 1 ∨ (s.map (intV .i32)).isEmpty = true) ∧ (s.map (intV .i32)).length < lim) := clone_ok hz (by omega)
  have hc2 : (os.length = os.length ∧ os.length < lim ∧ 2 = 2) := ⟨rfl, by omega, rfl⟩
  have hrep : List.replicate os.length [V.int .u8 0, .int .i32 0] = (List.replicate os.length (⟨0, 0⟩ : R)).map R.w := by rw [List.map_replicate]; rfl
  have hfree : V.free.freeLL (os.map O.w) = true := free_map _ (fun _ => rfl) os
  have hfree2 : V.free.freeLL ((batch o m s os).2.map R.w) = true := free_map _ (fun _ => rfl) _
  have ho' := order_call N o zo os bo [] hzo hs (by omega) (by omega)
  have e := batch_loop o m os zo bo false 1 [] N (ordOf o os) (fun x hx => ordOf_mem.1 hx) ho hk hzo (ordOf o os) [] s (List.replicate os.length ⟨0, 0⟩) N (by simp) (by simp) (by rw [ordOf_len]; simp; omega) (by rw [ordOf_len]; simp; omega) (by rw [ordOf_len]; omega) (by rw [ordOf_len]; omega)
  rw [lBatch_eq]
  have key : lBatch N o m (.sl z (s.map (intV .i32)) b) (.sl zo (os.map O.w) bo) = some (.ret [.sl 1 ((batch o m s os).1.map (intV .i32)) false, .sl 2 ((batch o m s os).2.map R.w) false], []) := by
    unfold lBatch
    simp only [slc_sl, bd_some]
    rw [if_pos hc]
    simp only [List.length_map, nv_nat, bdS_some]
    rw [if_pos (by simpa using hc2), ho', cl_ret, one1_one]
    simp only [slc_sl, bd_some, hrep]
    exact e
  rw [key]
  exact gcw_ret (by simp [hfree]) (by simp [hfree2])
end Go.Proofs.Try
