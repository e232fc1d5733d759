import Derived.Test.YtjnjofillhdffaaSref
/-! reaperref08.Run, Batch, Ints: what they come to -/
set_option linter.unusedVariables false
set_option linter.unusedSimpArgs false
namespace Go.Proofs.Try
open Go.L Go.Rp
set_option maxRecDepth 100000
theorem bsl_r (r : R) : bslV prog 31 1 [(0, .agg [.int .u8 r.c, .int .i32 r.v])] = some (2, [R.w r]) := by kernel_rfl
theorem app_rr (e : Nat) (a : List R) (x : R) (h : a.length + 1 < lim) : app e 2 (.own e 2 (a.map R.w)) [R.w x] = some ((a ++ [x]).map R.w) := by
  simp [app, h]
theorem set_r0 (r : R) : setR [V.int .u8 0, .int .i32 0] 0 [.int .u8 r.c, .int .i32 r.v] = [.int .u8 r.c, .int .i32 r.v] := rfl
theorem take_r (r : R) : List.take 2 [V.int .u8 r.c, .int .i32 r.v] = [.int .u8 r.c, .int .i32 r.v] := rfl
theorem rrun_loop (o m : Int) (s : List Int) (os : List O) (zo : Nat) (bo : Bool) (H : Heap) (N : Nat) (ho : 0 ≤ o) (hk : ∀ x ∈ os, 0 ≤ x.k) (hzo : zo = 2 ∨ os = []) (hlim : s.length + os.length + 2 < lim) (hN : s.length + os.length + 4 ≤ N) : ∀ (d k M z : Nat) (b : Bool), k + d = os.length → d < M → (z = 1 ∨ (run o m s (os.take k)).1 = []) →
    ∃ z' b', (z' = 1 ∨ (run o m s os).1 = []) ∧ loopx M (rRun_l0 N o m (.sl zo (os.map O.w) bo)) [.sl z ((run o m s (os.take k)).1.map (intV .i32)) b, .sl 1 [] false, .sl 2 [] false, .sl 2 ((run o m s (os.take k)).2.map R.w) false, .int .i64 (k : Int)] H =
      some (.ret [.sl z' ((run o m s os).1.map (intV .i32)) b', .sl 2 ((run o m s os).2.map R.w) false], H)
  | d, k, 0, _, _, _, h, _ => by omega
  | 0, k, M + 1, z, b, hk', _, hz => by
    obtain rfl : k = os.length := by omega
    rw [List.take_length] at hz ⊢
    refine ⟨z, b, hz, ?_⟩
    rw [loopx_succ]
    simp only [rRun_l0, gv, List.getD_cons_succ, List.getD_cons_zero, slc_sl, List.length_map, bop_i64_lss, bd_some, bv_bool, Int.lt_irrefl, decide_false, Bool.false_eq_true, if_false, lsl]
  | d + 1, k, M + 1, z, b, hk', hM, hz => by
    have hlt : (k : Int) < (os.length : Int) := by omega
    obtain ⟨x, hx⟩ : ∃ x, os[k]? = some x := ⟨_, List.getElem?_eq_getElem (by omega)⟩
    obtain rfl : zo = 2 := hzo.resolve_right (by rintro rfl; simp at hx)
    have hrl := run_len o m (os.take k) s
    have htl : (os.take k).length = k := by rw [List.length_take]; omega
    rw [htl] at hrl
    obtain ⟨N', rfl⟩ : ∃ N', N = N' + 3 := ⟨N - 3, by omega⟩
    obtain ⟨vs, hA, z1, b1, rfl, hz1⟩ := apply8_call N' m z (run o m s (os.take k)).1 b x.k x.v H o hz (by omega) (by omega)
    have hop : V.agg (O.w x) = .agg [.int .u8 x.k, .int .i32 x.v] := rfl
    have htk := run_take o m s os k x hx
    have hi : (apply o m (run o m s (os.take k)).1 x).1 = (run o m s (os.take (k + 1))).1 := by rw [htk]
    have hi2 : (run o m s (os.take k)).2 ++ [(apply o m (run o m s (os.take k)).1 x).2] = (run o m s (os.take (k + 1))).2 := by rw [htk]
    have happ := app_rr 34 (run o m s (os.take k)).2 (apply o m (run o m s (os.take k)).1 x).2 (by rw [hrl.2]; omega)
    rw [hi2] at happ
    have e1 : IntKind.i64.wrap ((k : Int) + 1) = ((k + 1 : Nat) : Int) := wN (by omega) (by omega)
    obtain ⟨z2, b2, hz2, IH⟩ := rrun_loop o m s os 2 bo H (N' + 3) ho hk (.inl rfl) hlim hN d (k + 1) M z1 b1 (by omega) (by omega) (by rw [← hi]; exact hz1)
    refine ⟨z2, b2, hz2, ?_⟩
    rw [loopx_succ]
    simp only [rRun_l0, gv, List.getD_cons_succ, List.getD_cons_zero, slc_sl, List.length_map, bop_i64_lss, bd_some, bv_bool, hlt, decide_true, if_true, nv_nat, bdS_some, slk_sl, get_os, hx, Option.map_some, List.drop_zero, ow_take, hop]
    rw [hA]
    simp only [cl_ret, List.getElem?_cons_zero, List.getElem?_cons_succ, bd_some, V.cells, List.length_cons, List.length_nil, Nat.zero_add, Nat.reduceAdd, Nat.le_refl, if_true, set_r0, List.drop_zero, take_r, bsl_r, lsl, happ, bop_i64_add, e1]
    rw [hi]
    exact IH
/-- reaperref08.Run -/
theorem rrun_call (n : Nat) (o m : Int) (z : Nat) (s : List Int) (b : Bool) (zo : Nat) (os : List O) (bo : Bool) (H : Heap) (hz : z = 1 ∨ s = []) (hzo : zo = 2 ∨ os = []) (ho : 0 ≤ o) (hk : ∀ x ∈ os, 0 ≤ x.k) (hlim : s.length + os.length + 2 < lim) (hn : s.length + os.length + 5 ≤ n) :
    ∃ z' b', (z' = 1 ∨ (run o m s os).1 = []) ∧ call n 52 [.int .u8 o, .int .i64 m, .sl z (s.map (intV .i32)) b, .sl zo (os.map O.w) bo] H = some (.ret [.sl z' ((run o m s os).1.map (intV .i32)) b', .sl 2 ((run o m s os).2.map R.w) false], H) := by
  obtain ⟨N, rfl⟩ : ∃ N, n = N + 1 := ⟨n - 1, by omega⟩
  obtain ⟨z', b', h1, h2⟩ := rrun_loop o m s os zo bo H N ho hk hzo hlim (by omega) os.length 0 N z b (by omega) (by omega) (by simpa [run] using hz)
  refine ⟨z', b', h1, ?_⟩
  rw [rRun_eq]
  exact h2
theorem rbatch_loop (o m : Int) (os : List O) (zo : Nat) (bo bl : Bool) (H : Heap) (N : Nat) (L : List Int) (hL : ∀ x ∈ L, 0 ≤ x ∧ x < (os.length : Int)) (ho : 0 ≤ o) (hk : ∀ x ∈ os, 0 ≤ x.k) (hzo : zo = 2 ∨ os = []) : ∀ (l : List Int) (pre : List Int) (s : List Int) (told : List R) (M z : Nat) (b : Bool), L = pre ++ l → told.length = os.length → s.length + L.length + 1 < lim + pre.length → s.length + L.length + 5 ≤ N + pre.length → L.length + 10 < lim → l.length < M → (z = 1 ∨ s = []) →
    ∃ z' b', (z' = 1 ∨ (batL o m os l s told).1 = []) ∧ loopx M (rBatch_l7 N o m (.sl zo (os.map O.w) bo) (.sl 1 (iL L) bl)) [.sl z (s.map (intV .i32)) b, .sl 1 [] false, .sl 2 [] false, .sl 2 (told.map R.w) false, .int .i64 (pre.length : Int), .bool false] H =
      some (.ret [.sl z' ((batL o m os l s told).1.map (intV .i32)) b', .sl 2 ((batL o m os l s told).2.map R.w) false], H)
  | _, _, _, _, 0, _, _, _, _, _, _, _, h, _ => by omega
  | [], pre, s, told, M + 1, z, b, hLp, ht, hl, hn, hl2, _, hz => by
    rw [List.append_nil] at hLp
    subst hLp
    refine ⟨z, b, hz, ?_⟩
    rw [loopx_succ]
    simp only [rBatch_l7, gv, List.getD_cons_succ, List.getD_cons_zero, slc_sl, iL_len, bop_i64_lss, bd_some, bv_bool, Int.lt_irrefl, decide_false, Bool.false_eq_true, if_false, lsl, batL]
  | x :: l, pre, s, told, M + 1, z, b, hLp, ht, hl, hn, hl2, hM, hz => by
    have hlen : L.length = pre.length + (l.length + 1) := by rw [hLp]; simp
    have hlt : (pre.length : Int) < (L.length : Int) := by omega
    have hgx : L[pre.length]? = some x := by rw [hLp]; exact mid_get _ _ _ rfl
    obtain ⟨hx0, hx1⟩ := hL x (by rw [hLp]; simp)
    obtain ⟨i, rfl⟩ := Int.eq_ofNat_of_zero_le hx0
    obtain ⟨u, hu⟩ : ∃ u, os[i]? = some u := ⟨_, List.getElem?_eq_getElem (by omega)⟩
    obtain rfl : zo = 2 := hzo.resolve_right (by rintro rfl; simp at hu)
    obtain ⟨N', rfl⟩ : ∃ N', N = N' + 3 := ⟨N - 3, by omega⟩
    obtain ⟨vs, hA, z1, b1, rfl, hz1⟩ := apply8_call N' m z s b u.k u.v H o hz (by omega) (by omega)
    have hou : V.agg (O.w u) = .agg [.int .u8 u.k, .int .i32 u.v] := rfl
    have ho2 : oAt os (i : Int) = u := oAt_some hu
    obtain ⟨r0, hr0⟩ : ∃ r0, told[i]? = some r0 := ⟨_, List.getElem?_eq_getElem (by omega)⟩
    have e1 : IntKind.i64.wrap ((pre.length : Int) + 1) = ((pre.length + 1 : Nat) : Int) := wN (by omega) (by omega)
    have hal := apply_len1 o m s u
    obtain ⟨z2, b2, hz2, IH⟩ := rbatch_loop o m os 2 bo bl H (N' + 3) L hL ho hk (.inl rfl) l (pre ++ [(i : Int)]) (apply o m s u).1 (told.set i (apply o m s u).2) M z1 b1 (by rw [hLp]; simp) (by simpa using ht) (by simp; omega) (by simp; omega) hl2 (by simpa using hM) hz1
    simp only [List.length_append, List.length_singleton] at IH
    refine ⟨z2, b2, by simpa only [batL, ho2, Int.toNat_natCast] using hz2, ?_⟩
    rw [loopx_succ]
    simp only [rBatch_l7, gv, List.getD_cons_succ, List.getD_cons_zero, slc_sl, iL_len, bop_i64_lss, bd_some, bv_bool, hlt, decide_true, if_true, nv_nat, bdS_some, slk_sl, iL_get hgx, List.getElem?_cons_zero, get_os, hu, Option.map_some, List.drop_zero, ow_take, hou]
    rw [hA]
    simp only [cl_ret, List.getElem?_cons_zero, List.getElem?_cons_succ, bd_some, V.cells, List.length_cons, List.length_nil, Nat.zero_add, Nat.reduceAdd, Nat.le_refl, if_true, nv_nat, bdS_some, slk_sl, iL_get hgx, lsl, List.length_map, ht, set_r0, List.drop_zero, take_r]
    have hcond : (True ∧ i < os.length ∧ (some 48 : Option Nat) ≠ some 10) := ⟨trivial, by omega, by decide⟩
    rw [if_pos hcond]
    simp only [Nat.zero_lt_succ, and_self, if_true, get_rs, hr0, Option.map_some, bd_some, set_rw, set_rmap, bop_i64_add, e1]
    simp only [batL, ho2, Int.toNat_natCast]
    exact IH
/-- reaperref08.Batch -/
theorem rbatch_call (n : Nat) (o m : Int) (z : Nat) (s : List Int) (b : Bool) (zo : Nat) (os : List O) (bo : Bool) (h : Heap) (hz : z = 1 ∨ s = []) (hzo : zo = 2 ∨ os = []) (ho : 0 ≤ o) (hk : ∀ x ∈ os, 0 ≤ x.k) (hs : Small os) (hlim : s.length + 4 * os.length + 100 < lim) (hn : s.length + 2 * os.length + 70 ≤ n) :
    ∃ z' b', (z' = 1 ∨ (batch o m s os).1 = []) ∧ call n 53 [.int .u8 o, .int .i64 m, .sl z (s.map (intV .i32)) b, .sl zo (os.map O.w) bo] h = some (.ret [.sl z' ((batch o m s os).1.map (intV .i32)) b', .sl 2 ((batch o m s os).2.map R.w) false], h) := by
  obtain ⟨N, rfl⟩ : ∃ N, n = N + 1 := ⟨n - 1, by omega⟩
  have hc2 : (os.length = os.length ∧ os.length < lim ∧ 2 = 2) := ⟨rfl, by omega, rfl⟩
  have hrep : List.replicate os.length [V.int .u8 0, .int .i32 0] = (List.replicate os.length (⟨0, 0⟩ : R)).map R.w := by rw [List.map_replicate]; rfl
  have ho' := rorder_call N o zo os bo h hzo hs (by omega) (by omega)
  obtain ⟨z', b', h1, h2⟩ := rbatch_loop o m os zo bo false h N (ordOf o os) (fun x hx => ordOf_mem.1 hx) ho hk hzo (ordOf o os) [] s (List.replicate os.length ⟨0, 0⟩) N z b (by simp) (by simp) (by rw [ordOf_len]; simp; omega) (by rw [ordOf_len]; simp; omega) (by rw [ordOf_len]; omega) (by rw [ordOf_len]; omega) hz
  refine ⟨z', b', h1, ?_⟩
  rw [rBatch_eq]
  unfold rBatch
  simp only [slc_sl, bd_some, List.length_map, nv_nat, bdS_some]
  rw [if_pos (by simpa using hc2), ho', cl_ret, one1_one, hrep]
  exact h2
theorem ints_loop (a : List Int) (ba bb : Bool) (u : V) (H : Heap) (N : Nat) (hlim : a.length < lim) : ∀ (d k M : Nat), k + d = a.length → d < M →
    loopx M (rInts_l2 N (.sl 1 (iL a) ba) (.sl 1 (iL a) bb)) [u, .int .i64 (k : Int)] H = some (.ret [.bool true], H)
  | d, k, 0, _, h => by omega
  | 0, k, M + 1, hk, _ => by
    obtain rfl : k = a.length := by omega
    rw [loopx_succ]
    simp only [rInts_l2, gv, List.getD_cons_succ, List.getD_cons_zero, slc_sl, iL_len, bop_i64_lss, bd_some, bv_bool, Int.lt_irrefl, decide_false, Bool.false_eq_true, if_false]
  | d + 1, k, M + 1, hk, hM => by
    have hlt : (k : Int) < (a.length : Int) := by omega
    obtain ⟨x, hx⟩ : ∃ x, a[k]? = some x := ⟨_, List.getElem?_eq_getElem (by omega)⟩
    have e1 : IntKind.i64.wrap ((k : Int) + 1) = ((k + 1 : Nat) : Int) := wN (by omega) (by omega)
    rw [loopx_succ]
    simp only [rInts_l2, gv, List.getD_cons_succ, List.getD_cons_zero, slc_sl, iL_len, bop_i64_lss, bd_some, bv_bool, hlt, decide_true, if_true, nv_nat, bdS_some, slk_sl, iL_get hx, List.getElem?_cons_zero, bop_i64_neq, bne_self_eq_false, Bool.false_eq_true, if_false, bop_i64_add, e1]
    exact ints_loop a ba bb u H N hlim d (k + 1) M (by omega) (by omega)
theorem ints_call (n : Nat) (a : List Int) (ba bb : Bool) (H : Heap) (hlim : a.length < lim) (hn : a.length + 2 ≤ n) : call n 32 [.sl 1 (iL a) ba, .sl 1 (iL a) bb] H = some (.ret [.bool true], H) := by
  obtain ⟨N, rfl⟩ : ∃ N, n = N + 1 := ⟨n - 1, by omega⟩
  rw [rInts_eq]
  unfold rInts
  simp only [slc_sl, bd_some, bne_self_eq_false, Bool.false_eq_true, if_false]
  exact ints_loop a ba bb _ H N hlim a.length 0 N (by omega) (by omega)
end Go.Proofs.Try
