import Derived.Test.YtjnjofillhdffaaSbat
/-! reaperref08.Order, Run, Batch, Ints: what they come to -/
set_option linter.unusedVariables false
set_option linter.unusedSimpArgs false
namespace Go.Proofs.Try
open Go.L Go.Rp
set_option maxRecDepth 100000
/-- does a come ahead of b, which stands behind it? -/
def lessO (a b : O) : Bool := if a.k = 1 ∧ b.k = 1 then decide (a.v ≤ b.v) else decide (a.k = 1 ∨ b.k ≠ 1)
theorem less_call (n : Nat) (a b : O) (h : Heap) : call (n + 1) 79 [.agg [.int .u8 a.k, .int .i32 a.v], .agg [.int .u8 b.k, .int .i32 b.v]] h = some (.ret [.bool (lessO a b)], h) := by
  rw [rLess_eq]
  unfold rLess lessO
  by_cases h1 : a.k = 1 <;> by_cases h2 : b.k = 1 <;> simp [h1, h2]
theorem less_key {os : List O} {i j : Nat} {x y : O} (hs : Small os) (hx : os[i]? = some x) (hy : os[j]? = some y) : (!lessO y x) = decide (keyO os (i : Int) < keyO os (j : Int)) := by
  have hxs := hs x (List.mem_of_getElem? hx)
  have hys := hs y (List.mem_of_getElem? hy)
  unfold keyO lessO
  rw [oAt_some hx, oAt_some hy]
  by_cases h1 : x.k = 1 <;> by_cases h2 : y.k = 1
  · simp only [h1, h2, and_self, if_true]; by_cases h3 : y.v ≤ x.v <;> simp [h3] <;> omega
  · simp [h1, h2]; omega
  · simp [h1, h2]; omega
  · simp [h1, h2]
theorem app_int (a b : List Int) (h : a.length + b.length < lim) : app 3 1 (.own 3 1 (iL a)) (iL b) = some (iL (a ++ b)) := by
  simp [app, h]
theorem app_int0 (b : List Int) (h : b.length < lim) : app 3 1 (.own 3 1 []) (iL b) = some (iL b) := by
  simp [app, h]
theorem bsl_int (x : Int) : bslV prog 43 1 [(0, .int .i64 x)] = some (1, iL [x]) := by kernel_rfl
theorem iL_take (l : List Int) (n : Nat) : (iL l).take n = iL (l.take n) := by simp [iL, List.map_take]
theorem iL_drop (l : List Int) (n : Nat) : (iL l).drop n = iL (l.drop n) := by simp [iL, List.map_drop]
/-- what the rounds' end does: a number put at a place -/
theorem put_end {l : List Int} {a k : Nat} {N : List (List V) → V → Option (Res × Heap)} {c1 c2 : Nat → Prop} {d1 : ∀ n, Decidable (c1 n)} {d2 : ∀ n, Decidable (c2 n)} (h1 : c1 a) (h2 : c2 a) (ha : a ≤ l.length) (hl : l.length + 2 < lim) (hk : k + 1 < lim) :
    (bdS (nv (V.int .i64 (a : Int))) fun n34 => (if c1 n34 then
      (bd (app 3 1 (S.own 3 1 []) (((iL l).take n34).drop 0)) fun l35 =>
      (bd (bslV prog 43 1 [(0, (V.int .i64 (k : Int)))]) fun p36 =>
      (bd (app 3 1 (S.own 3 1 l35) p36.2) fun l37 =>
      (bdS (nv (V.int .i64 (a : Int))) fun n38 =>
      (if c2 n38 then
      (bd (app 3 1 (S.own 3 1 l37) (((iL l).take (iL l).length).drop n38)) fun l39 =>
      (bd (bop prog .add 3 (V.int .i64 (k : Int)) (V.int .i64 1)) fun v40 => N l39 v40)) else none))))) else none)) = N (iL (l.take a ++ (k : Int) :: l.drop a)) (.int .i64 ((k + 1 : Nat) : Int)) := by
  have e1 : IntKind.i64.wrap ((k : Int) + 1) = ((k + 1 : Nat) : Int) := wN (by omega) hk
  have t1 : (l.take a).length ≤ l.length := by rw [List.length_take]; omega
  rw [nv_nat, bdS_some, if_pos h1, iL_take, List.drop_zero, app_int0 _ (by omega), bd_some, bsl_int, bd_some, app_int _ _ (by simp; omega), bd_some, bdS_some, if_pos h2, iL_len, iL_take, List.take_length, iL_drop, app_int _ _ (by simp; omega), bd_some, bop_i64_add, bd_some, e1]
  simp
theorem put_end2 {l : List Int} {a k : Nat} {N : List (List V) → V → Option (Res × Heap)} {c1 c2 : Prop} {d1 : Decidable c1} {d2 : Decidable c2} (h1 : c1) (h2 : c2) (ha : a ≤ l.length) (hl : l.length + 2 < lim) (hk : k + 1 < lim) :
    (if c1 then
      (bd (app 3 1 (S.own 3 1 []) ((iL l).take a)) fun l35 =>
      (bd (bslV prog 43 1 [(0, (V.int .i64 (k : Int)))]) fun p36 =>
      (bd (app 3 1 (S.own 3 1 l35) p36.2) fun l37 =>
      (if c2 then
      (bd (app 3 1 (S.own 3 1 l37) (((iL l).take l.length).drop a)) fun l39 =>
      (bd (bop prog .add 3 (V.int .i64 (k : Int)) (V.int .i64 1)) fun v40 => N l39 v40)) else none)))) else none) = N (iL (l.take a ++ (k : Int) :: l.drop a)) (.int .i64 ((k + 1 : Nat) : Int)) := by
  have e1 : IntKind.i64.wrap ((k : Int) + 1) = ((k + 1 : Nat) : Int) := wN (by omega) hk
  have t1 : (l.take a).length ≤ l.length := by rw [List.length_take]; omega
  rw [if_pos h1, iL_take, app_int0 _ (by omega), bd_some, bsl_int, bd_some, app_int _ _ (by simp; omega), bd_some, if_pos h2, iL_take, List.take_length, iL_drop, app_int _ _ (by simp; omega), bd_some, bop_i64_add, bd_some, e1]
  simp
theorem rord_inner (N : Nat) (z : Nat) (os : List O) (b : Bool) (hz : z = 2 ∨ os = []) (hs : Small os) (H : Heap) (k : Nat) (x : O) (hx : os[k]? = some x) (st1 : List V) (next3 : List V → Heap → Option (Res × Heap)) (hst : st1.getD 2 (.bool false) = .int .i64 (k : Int)) (hl : os.length + 2 < lim) (hN : 1 ≤ N) : ∀ (r b' : List Int) (M : Nat), r.length + b'.length ≤ os.length → (∀ y ∈ r, 0 ≤ y ∧ y < (os.length : Int)) → r.length < M →
    loopx M (rOrder_l7 N 3 (.sl z (os.map O.w) b) st1 next3) [.sl 1 [] false, .sl 1 (iL (r.reverse ++ b')) false, .int .i64 (r.length : Int)] H = next3 [.sl 1 [] false, .sl 1 (iL (insD (keyO os) r (k : Int) b')) false, .int .i64 ((k + 1 : Nat) : Int)] H
  | _, _, 0, _, _, h => by omega
  | [], b', M + 1, hrl, hr, hM => by
    have hkl : k < os.length := (List.getElem?_eq_some_iff.1 hx).1
    have hc : ¬ ((([] : List Int).length : Nat) : Int) > 0 := by simp
    rw [loopx_succ]
    simp only [rOrder_l7, gv, List.getD_cons_succ, List.getD_cons_zero, hst, beq_self_eq_true, if_true, bop_i64_gtr, bd_some, bv_bool, hc, decide_false, Bool.false_eq_true, if_false, lsl]
    simp only [List.reverse_nil, List.nil_append]
    refine (put_end (l := b') (a := 0) (k := k) (N := fun l v => next3 [.sl 1 [] false, .sl 1 l false, v] H) (by simp) (by simp) (by omega) (by simp at hrl; omega) (by omega)).trans ?_
    simp [insD]
  | y :: r, b', M + 1, hrl, hr, hM => by
    have hkl : k < os.length := (List.getElem?_eq_some_iff.1 hx).1
    obtain ⟨hy0, hy1⟩ := hr y (by simp)
    obtain ⟨j, rfl⟩ := Int.eq_ofNat_of_zero_le hy0
    obtain ⟨v, hv⟩ : ∃ v, os[j]? = some v := ⟨_, List.getElem?_eq_getElem (by omega)⟩
    obtain rfl : z = 2 := hz.resolve_right (by rintro rfl; simp at hx)
    simp only [List.length_cons] at hrl hM
    have hc : (((((j : Nat) : Int) :: r).length : Nat) : Int) > 0 := by simp only [List.length_cons]; omega
    have e1 : IntKind.i64.wrap (((((j : Nat) : Int) :: r).length : Nat) - 1 : Int) = ((r.length : Nat) : Int) := wN (by simp) (by omega)
    have s1 : (((j : Int) :: r).reverse ++ b')[r.length]? = some (j : Int) := by
      have : ((j : Int) :: r).reverse ++ b' = r.reverse ++ (j : Int) :: b' := by simp
      rw [this]; exact mid_get _ _ _ (by simp)
    have l1 := (List.getElem?_eq_some_iff.1 s1).1
    have hou : ∀ u : O, V.agg (O.w u) = .agg [.int .u8 u.k, .int .i32 u.v] := fun _ => rfl
    have hcond : (True ∧ r.length < (((j : Int) :: r).reverse ++ b').length ∧ (some 28 : Option Nat) ≠ some 5) := ⟨trivial, l1, by decide⟩
    obtain ⟨N', rfl⟩ : ∃ N', N = N' + 1 := ⟨N - 1, by omega⟩
    have ih := rord_inner (N' + 1) 2 os b (.inl rfl) hs H k x hx st1 next3 hst hl hN r ((j : Int) :: b') M (by simp; omega) (fun u hu => hr u (List.mem_cons_of_mem _ hu)) (by omega)
    rw [loopx_succ]
    simp only [rOrder_l7, gv, List.getD_cons_succ, List.getD_cons_zero, hst, beq_self_eq_true, if_true, bop_i64_gtr, bd_some, bv_bool, hc, decide_true, lsl, bop_i64_sub, e1, nv_nat, bdS_some, iL_len]
    rw [if_pos hcond]
    simp only [iL_get s1, List.getElem?_cons_zero, bd_some, nv_nat, bdS_some, slk_sl, if_true, get_os, hv, hx, Option.map_some, List.drop_zero, ow_take, hou]
    rw [less_call, cl_ret, one1_one, uop_not, bd_some, bv_bool, less_key hs hx hv]
    by_cases h : keyO os (k : Int) < keyO os (j : Int)
    · rw [decide_eq_true h, if_pos rfl, insD, if_pos h]
      have hL : ((j : Int) :: r).reverse ++ b' = r.reverse ++ ((j : Int) :: b') := by simp
      rw [hL]
      exact ih
    · rw [decide_eq_false h, if_neg (by decide), insD, if_neg h]
      refine (put_end2 (l := ((j : Int) :: r).reverse ++ b') (a := ((j : Int) :: r).length) (k := k) (N := fun l v => next3 [.sl 1 [] false, .sl 1 l false, v] H) ?_ ?_ (by rw [List.length_append, List.length_reverse]; omega) (by rw [List.length_append, List.length_reverse]; simp; omega) (by omega)).trans ?_
      · simp
      · simp
      rw [List.take_left' (by simp), List.drop_left' (by simp)]
      simp
theorem rord_loop (N : Nat) (o : Int) (z : Nat) (os : List O) (b : Bool) (hz : z = 2 ∨ os = []) (hs : Small os) (H : Heap) (hl : os.length + 2 < lim) (hN : os.length + 2 ≤ N) : ∀ (d k M : Nat), k + d = os.length → d < M →
    loopx M (rOrder_l0 N o (.sl z (os.map O.w) b)) [.sl 1 [] false, .sl 1 (iL (if o = 3 then ordL (keyO os) k else rng 0 k)) false, .int .i64 (k : Int)] H = some (.ret [.sl 1 (iL (ordOf o os)) false], H)
  | d, k, 0, _, h => by omega
  | 0, k, M + 1, hk, _ => by
    obtain rfl : k = os.length := by omega
    rw [loopx_succ]
    simp only [rOrder_l0, gv, List.getD_cons_succ, List.getD_cons_zero, slc_sl, List.length_map, bop_i64_lss, bd_some, bv_bool, Int.lt_irrefl, decide_false, Bool.false_eq_true, if_false, lsl]
    rfl
  | d + 1, k, M + 1, hk, hM => by
    have hlt : (k : Int) < (os.length : Int) := by omega
    obtain ⟨x, hx⟩ : ∃ x, os[k]? = some x := ⟨_, List.getElem?_eq_getElem (by omega)⟩
    have ih := rord_loop N o z os b hz hs H hl hN d (k + 1) M (by omega) (by omega)
    rw [loopx_succ]
    simp only [rOrder_l0, gv, List.getD_cons_succ, List.getD_cons_zero, slc_sl, List.length_map, bop_i64_lss, bd_some, bv_bool, hlt, decide_true, if_true, lsl, iL_len]
    by_cases h3 : o = 3
    · subst h3
      simp only [if_true] at ih ⊢
      have inner := rord_inner N z os b hz hs H k x hx [.sl 1 [] false, .sl 1 (iL (ordL (keyO os) k)) false, .int .i64 (k : Int)] (loopx M (rOrder_l0 N 3 (.sl z (os.map O.w) b))) rfl hl (by omega) (ordL (keyO os) k).reverse [] N (by simp [ordL_len]; omega) (fun y hy => by
        have := ordL_mem.1 (List.mem_reverse.1 hy); omega) (by simp [ordL_len]; omega)
      rw [List.reverse_reverse, List.append_nil, List.length_reverse] at inner
      rw [inner]
      exact ih
    · have h3' : (o == 3) = false := by simpa using h3
      simp only [h3, if_false] at ih ⊢
      obtain ⟨N', rfl⟩ : ∃ N', N = N' + 1 := ⟨N - 1, by omega⟩
      rw [loopx_succ]
      simp only [rOrder_l7, gv, List.getD_cons_succ, List.getD_cons_zero, h3', Bool.false_eq_true, if_false, lsl]
      refine (put_end (l := rng 0 k) (a := (rng 0 k).length) (k := k) (N := fun l v => loopx M (rOrder_l0 (N' + 1) o (.sl z (os.map O.w) b)) [.sl 1 [] false, .sl 1 l false, v] H) (by simp) (by simp) (Nat.le_refl _) (by rw [rng_len]; omega) (by omega)).trans ?_
      rw [List.take_length, List.drop_length, ← ih, rng_succ, Nat.zero_add]
/-- reaperref08.Order -/
theorem rorder_call (n : Nat) (o : Int) (z : Nat) (os : List O) (b : Bool) (h : Heap) (hz : z = 2 ∨ os = []) (hs : Small os) (hl : os.length + 2 < lim) (hn : os.length + 4 ≤ n) :
    call n 55 [.int .u8 o, .sl z (os.map O.w) b] h = some (.ret [.sl 1 (iL (ordOf o os)) false], h) := by
  obtain ⟨N, rfl⟩ : ∃ N, n = N + 1 := ⟨n - 1, by omega⟩
  have e := rord_loop N o z os b hz hs h hl (by omega) os.length 0 N (by omega) (by omega)
  have e0 : (if o = 3 then ordL (keyO os) 0 else rng 0 0) = [] := by split <;> rfl
  rw [e0] at e
  rw [rOrder_eq]
  exact e
end Go.Proofs.Try
