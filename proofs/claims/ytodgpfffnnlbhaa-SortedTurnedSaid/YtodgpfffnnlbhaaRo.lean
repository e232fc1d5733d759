import Derived.Test.YtodgpfffnnlbhaaRa
import Derived.Test.YtodgpfffnnlbhaaKo
/-! reaperref08.Order at a heap by contract: those that put, by what they put, then all others -/
set_option linter.unusedVariables false
set_option linter.unusedSimpArgs false
namespace Go.Proofs.Try
open Go.L Go.Rp Go.Sk
set_option maxRecDepth 100000
/-- does a come ahead of b, which stands behind it? -/
def lessO (a b : O) : Bool := if a.k = 1 ∧ b.k = 1 then decide (a.v ≤ b.v) else decide (a.k = 1 ∨ b.k ≠ 1)
/-- by what they come -/
def keyO (os : List O) (x : Int) : Int := if (oAt os x).k = 1 then (oAt os x).v else 2147483648
def Small (os : List O) : Prop := ∀ x ∈ os, -2147483648 ≤ x.v ∧ x.v < 2147483648
theorem rless_call (n : Nat) (a b : O) (h : Heap) : call (n + 1) 69 [.agg [.int .u8 a.k, .int .i32 a.v], .agg [.int .u8 b.k, .int .i32 b.v]] h = some (.ret [.bool (lessO a b)], h) := by
  rw [rLess_eq]
  unfold rLess lessO
  by_cases h1 : a.k = 1 <;> by_cases h2 : b.k = 1 <;> simp [h1, h2]
theorem less_key {os : List O} {i j : Nat} {x y : O} (hs : Small os) (hx : os[i]? = some x) (hy : os[j]? = some y) : (!lessO y x) = decide (keyO os (i : Int) < keyO os (j : Int)) := by
  have hxs := hs x (List.mem_of_getElem? hx)
  have hys := hs y (List.mem_of_getElem? hy)
  unfold keyO lessO
  rw [oAt_some hx, oAt_some hy]
  by_cases h1 : x.k = 1 <;> by_cases h2 : y.k = 1
  · simp only [h1, h2, and_self, if_true]; by_cases h3 : y.v ≤ x.v <;> simp [h3] <;> omega
  · simp [h1, h2]; omega
  · simp [h1, h2]; omega
  · simp [h1, h2]
theorem app_ints (a b : List Int) (h : a.length + b.length < lim) : app 3 1 (.own 3 1 (iL a)) (iL b) = some (iL (a ++ b)) := by
  simp [app, h, iL]
theorem app_ints0 (b : List Int) (h : b.length < lim) : app 3 1 (.own 3 1 []) (iL b) = some (iL b) := by
  simp [app, h, iL]
theorem bsl_ints (x : Int) : bslV prog 43 1 [(0, .int .i64 x)] = some (1, iL [x]) := by kernel_rfl
theorem slP1 {a b : Nat} {l : List (List V)} {sb : Bool} (h1 : a ≤ b) (h2 : b ≤ l.length) : sliceP 1 a b (none : Option Nat) true (.sl 1 l sb) = some (.sl 1 ((l.take b).drop a) false) := by
  simp [sliceP, h1, h2]
theorem iL_take (l : List Int) (n : Nat) : (iL l).take n = iL (l.take n) := by simp [iL, List.map_take]
theorem iL_drop (l : List Int) (n : Nat) : (iL l).drop n = iL (l.drop n) := by simp [iL, List.map_drop]
/-- what the rounds' end does: a number put at a place -/
theorem put_endR {H : Heap} {l : List Int} {a k : Nat} {N : List (List V) → V → Option (Res × Heap)} {c1 c2 : Nat × List (List V) → Prop} {d1 : ∀ p, Decidable (c1 p)} {d2 : ∀ p, Decidable (c2 p)} (h1 : ∀ p, p.1 = 1 → c1 p) (h2 : ∀ p, p.1 = 1 → c2 p) (ha : a ≤ l.length) (hl : l.length + 2 < lim) (hk : k + 1 < lim) :
    (bd (lenP (V.sl 1 (iL l) false)) fun n47 =>
     (bd (sliceP 1 0 a (none : Option Nat) true (V.sl 1 (iL l) false)) fun v49 =>
     (bdS (slcH H v49) fun p50 =>
     (if c1 p50 then
     (bd (app 3 1 (S.own 3 1 []) p50.2) fun l51 =>
     (bd (bslV prog 43 1 [(0, (V.int .i64 (k : Int)))]) fun p52 =>
     (bd (app 3 1 (S.own 3 1 l51) p52.2) fun l53 =>
     (bd (lenP (V.sl 1 (iL l) false)) fun n54 =>
     (bd (sliceP 1 a n54 (none : Option Nat) true (V.sl 1 (iL l) false)) fun v56 =>
     (bdS (slcH H v56) fun p57 =>
     (if c2 p57 then
     (bd (app 3 1 (S.own 3 1 l53) p57.2) fun l58 =>
     (bd (bop prog .add 3 (V.int .i64 (k : Int)) (V.int .i64 1)) fun v59 => N l58 v59)) else none))))))) else none)))) = N (iL (l.take a ++ (k : Int) :: l.drop a)) (.int .i64 ((k + 1 : Nat) : Int)) := by
  have e1 : IntKind.i64.wrap ((k : Int) + 1) = ((k + 1 : Nat) : Int) := step64 (by omega)
  have t1 : (l.take a).length ≤ l.length := by rw [List.length_take]; omega
  rw [lenP_sl, bd_some, slP1 (Nat.zero_le _) (by rw [iL_len]; exact ha), bd_some, slcH_sl, bdS_some, if_pos (h1 _ rfl)]
  simp only [List.drop_zero]
  rw [iL_take, app_ints0 _ (by omega), bd_some, bsl_ints, bd_some]
  simp only
  rw [app_ints _ _ (by simp; omega), bd_some, bd_some, slP1 (by rw [iL_len]; exact ha) (Nat.le_refl _), bd_some, slcH_sl, bdS_some, if_pos (h2 _ rfl)]
  simp only [List.take_length]
  rw [iL_drop, app_ints _ _ (by simp; omega), bd_some, bop_i64_add, bd_some, e1]
  simp
theorem mid_at {a b : List Int} {x : Int} : (a ++ x :: b)[a.length]? = some x := by
  rw [List.getElem?_append_right (Nat.le_refl _), Nat.sub_self]; rfl
theorem rord_inner (N : Nat) (os : List O) (b : Bool) (hs : Small os) (H : Heap) (k : Nat) (x : O) (hx : os[k]? = some x) (v0 v1 : V) (next3 : List V → Heap → Option (Res × Heap)) (hl : os.length + 2 < lim) : ∀ (r b' : List Int) (M : Nat), r.length + b'.length ≤ os.length → (∀ y ∈ r, 0 ≤ y ∧ y < (os.length : Int)) → r.length < M →
    loopx M (rOrder_l7 (N + 1) (.sl 2 (os.map O.w) b) [v0, v1, .int .i64 (k : Int)] next3) [.sl 1 [] false, .sl 1 (iL (r.reverse ++ b')) false, .int .i64 (r.length : Int)] H = next3 [.sl 1 [] false, .sl 1 (iL (insD (keyO os) r (k : Int) b')) false, .int .i64 ((k + 1 : Nat) : Int)] H
  | _, _, 0, _, _, h => by omega
  | [], b', M + 1, hrl, hr, hM => by
    have hkl : k < os.length := (List.getElem?_eq_some_iff.1 hx).1
    rw [loopx_succ]
    unfold rOrder_l7
    simp only [gv, List.getD_cons_succ, List.getD_cons_zero, bop_i64_gtr, bd_some, bv_bool, lsl, nv_nat, bdS_some]
    rw [if_neg (by simp)]
    simp only [List.reverse_nil, List.nil_append]
    refine (put_endR (H := H) (l := b') (a := ([] : List Int).length) (k := k) (N := fun l v => next3 [.sl 1 [] false, .sl 1 l false, v] H) (fun p h => by simp [h]) (fun p h => by simp [h]) (by simp) (by simp at hrl; omega) (by omega)).trans ?_
    simp [insD]
  | y :: r, b', M + 1, hrl, hr, hM => by
    have hkl : k < os.length := (List.getElem?_eq_some_iff.1 hx).1
    obtain ⟨hy0, hy1⟩ := hr y (by simp)
    obtain ⟨j, rfl⟩ := Int.eq_ofNat_of_zero_le hy0
    obtain ⟨v, hv⟩ : ∃ v, os[j]? = some v := ⟨_, List.getElem?_eq_getElem (by omega)⟩
    simp only [List.length_cons] at hrl hM
    have e1 : IntKind.i64.wrap (((((j : Nat) : Int) :: r).length : Nat) - 1 : Int) = ((r.length : Nat) : Int) := wN (by simp) (by omega)
    have hL : ((j : Int) :: r).reverse ++ b' = r.reverse ++ ((j : Int) :: b') := by simp
    have s1 : (r.reverse ++ (j : Int) :: b')[r.length]? = some (j : Int) := by
      have := mid_at (a := r.reverse) (b := b') (x := (j : Int))
      rwa [List.length_reverse] at this
    have s2 : (iL (r.reverse ++ (j : Int) :: b'))[r.length]? = some [.int .i64 (j : Int)] := by unfold iL; rw [List.getElem?_map, s1]; rfl
    have l1 := (List.getElem?_eq_some_iff.1 s1).1
    have hxv : (os.map O.w)[k]? = some (O.w x) := by rw [get_os, hx]; rfl
    have hvv : (os.map O.w)[j]? = some (O.w v) := by rw [get_os, hv]; rfl
    have ih := rord_inner N os b hs H k x hx v0 v1 next3 hl r ((j : Int) :: b') M (by simp; omega) (fun u hu => hr u (List.mem_cons_of_mem _ hu)) (by omega)
    rw [hL]
    have hou : ∀ u : O, V.agg (List.take 2 (List.drop 0 (O.w u))) = .agg [.int .u8 u.k, .int .i32 u.v] := fun _ => rfl
    have key : ∀ next, rOrder_l7 (N + 1) (.sl 2 (os.map O.w) b) [v0, v1, .int .i64 (k : Int)] next3 [.sl 1 [] false, .sl 1 (iL (r.reverse ++ (j : Int) :: b')) false, .int .i64 (((j : Int) :: r).length : Int)] H next = if keyO os (k : Int) < keyO os (j : Int) then next [.sl 1 [] false, .sl 1 (iL (r.reverse ++ (j : Int) :: b')) false, .int .i64 (r.length : Int)] H else next3 [.sl 1 [] false, .sl 1 (iL (r.reverse ++ (j : Int) :: (k : Int) :: b')) false, .int .i64 ((k + 1 : Nat) : Int)] H := by
      intro next
      unfold rOrder_l7
      simp only [gv, List.getD_cons_succ, List.getD_cons_zero, bop_i64_gtr, bd_some, bv_bool, lsl, bop_i64_sub, e1, nv_nat, bdS_some, iL_len]
      rw [if_pos (by simp), if_pos (by first | exact ⟨rfl, l1, by decide⟩ | exact ⟨trivial, l1, by decide⟩), s2, bd_some]
      simp only [List.getElem?_cons_zero, bd_some, nv_nat, bdS_some, idxP_sl hvv, idxP_sl hxv, cellsP_iptr, bd3_some, Nat.zero_add, Nat.le_refl, Nat.reduceLT, and_self, if_true, hou]
      rw [rless_call, cl_ret, one1_one, uop_not, bd_some, bv_bool, less_key hs hx hv]
      by_cases h : keyO os (k : Int) < keyO os (j : Int)
      · rw [if_pos (decide_eq_true h), if_pos h]
      · rw [if_neg (by simpa using h), if_neg h]
        refine (put_endR (H := H) (l := r.reverse ++ (j : Int) :: b') (a := ((j : Int) :: r).length) (k := k) (N := fun l v => next3 [.sl 1 [] false, .sl 1 l false, v] H) (fun p h => by simp [h]) (fun p h => by simp [h]) (by simp) (by simp; omega) (by omega)).trans ?_
        rw [← hL, List.take_left' (by simp), List.drop_left' (by simp)]
        simp
    rw [loopx_succ, key]
    by_cases h : keyO os (k : Int) < keyO os (j : Int)
    · rw [if_pos h, insD, if_pos h]
      exact ih
    · rw [if_neg h, insD, if_neg h]
theorem rord_loop (N : Nat) (os : List O) (b : Bool) (hs : Small os) (H : Heap) (hl : os.length + 2 < lim) (hN : os.length + 2 ≤ N) : ∀ (d k M : Nat), k + d = os.length → d < M →
    loopx M (rOrder_l0 (N + 1) (.sl 2 (os.map O.w) b)) [.sl 1 [] false, .sl 1 (iL (ordL (keyO os) k)) false, .int .i64 (k : Int)] H = some (.ret [.sl 1 (iL (ordL (keyO os) os.length)) false], H)
  | d, k, 0, _, h => by omega
  | 0, k, M + 1, hk, _ => by
    obtain rfl : k = os.length := by omega
    rw [loopx_succ]
    unfold rOrder_l0
    simp only [gv, List.getD_cons_succ, List.getD_cons_zero, slcH_sl, List.length_map, bop_i64_lss, bd_some, bv_bool]
    rw [if_neg (by simp)]
    rfl
  | d + 1, k, M + 1, hk, hM => by
    have hlt : decide ((k : Int) < (os.length : Int)) = true := by simp; omega
    obtain ⟨x, hx⟩ : ∃ x, os[k]? = some x := ⟨_, List.getElem?_eq_getElem (by omega)⟩
    have ih := rord_loop N os b hs H hl hN d (k + 1) M (by omega) (by omega)
    have inner := fun next3 => rord_inner N os b hs H k x hx (.sl 1 [] false) (.sl 1 (iL (ordL (keyO os) k)) false) next3 hl (ordL (keyO os) k).reverse [] (N + 1) (by simp [ordL_len]; omega) (fun y hy => by
        have := ordL_mem.1 (List.mem_reverse.1 hy); omega) (by simp [ordL_len]; omega)
    have key : ∀ next, rOrder_l0 (N + 1) (.sl 2 (os.map O.w) b) [.sl 1 [] false, .sl 1 (iL (ordL (keyO os) k)) false, .int .i64 (k : Int)] H next = next [.sl 1 [] false, .sl 1 (iL (ordL (keyO os) (k + 1))) false, .int .i64 ((k + 1 : Nat) : Int)] H := by
      intro next
      have i := inner next
      rw [List.reverse_reverse, List.append_nil, List.length_reverse] at i
      refine Eq.trans ?_ i
      unfold rOrder_l0
      simp only [gv, List.getD_cons_succ, List.getD_cons_zero, slcH_sl, List.length_map, bop_i64_lss, bd_some, bv_bool, hlt, if_true, lsl, iL_len]
    rw [loopx_succ, key]
    exact ih
/-- the order of a heap's operations: those that put, by what they put, then all others -/
theorem order_eq (os : List O) (hs : Small os) : ordL (keyO os) os.length = sPuts os ++ others os := by
  have hsd : Sd (keyO os) (sPuts os ++ others os) := by
    refine List.pairwise_append.2 ⟨?_, ?_, fun a ha b hb => .inl ?_⟩
    · refine (List.Pairwise.and_mem.1 (sPuts_sd os)).imp fun ⟨ha, hb, h⟩ => ?_
      have h1 := (sPuts_mem os _ ha).2.2
      have h2 := (sPuts_mem os _ hb).2.2
      unfold Ah keyV at h
      unfold Ah keyO
      rw [if_pos h1, if_pos h2]
      exact h
    · have hp : ∀ n : Nat, (restTo os n).Pairwise (· < ·) := fun n => by
        induction n with
        | zero => exact .nil
        | succ n ih =>
          simp only [restTo]
          split
          · exact ih
          · refine List.pairwise_append.2 ⟨ih, List.pairwise_singleton .., fun a ha b hb => ?_⟩
            rw [List.mem_singleton.1 hb]
            exact (restTo_mem os _ a ha).2.1
      refine (List.Pairwise.and_mem.1 (hp os.length)).imp fun ⟨ha, hb, h⟩ => .inr ⟨?_, h⟩
      unfold keyO
      rw [if_neg (restTo_mem os _ _ ha).2.2, if_neg (restTo_mem os _ _ hb).2.2]
    · have h1 := sPuts_mem os a ha
      have h2 := restTo_mem os _ b hb
      unfold keyO
      rw [if_pos h1.2.2, if_neg h2.2.2]
      obtain ⟨k, rfl⟩ : ∃ k : Nat, a = (k : Int) := ⟨a.toNat, (Int.toNat_of_nonneg h1.1).symm⟩
      obtain ⟨o, ho⟩ : ∃ o, os[k]? = some o := ⟨_, List.getElem?_eq_getElem (by omega)⟩
      rw [oAt_some ho]
      exact (hs o (List.mem_of_getElem? ho)).2
  refine sd_unique (K := keyO os) ?_ (ordL_sd _) hsd
  have nd : (sPuts os ++ others os).Nodup := hsd.imp fun h => by rintro rfl; exact h.asymm h
  refine (List.perm_ext_iff_of_nodup (ordL_nodup _) nd).2 fun x => ⟨fun hx => ?_, fun hx => ?_⟩
  · obtain ⟨h1, h2⟩ := ordL_mem.1 hx
    have := order_all os x.toNat (by omega)
    rwa [Int.toNat_of_nonneg h1] at this
  · exact ordL_mem.2 (order_mem os x hx)
/-- reaperref08.Order -/
theorem rorder_call (n : Nat) (os : List O) (b : Bool) (h : Heap) (hs : Small os) (hl : os.length + 2 < lim) (hn : os.length + 4 ≤ n) :
    call n 49 [.int .u8 3, .sl 2 (os.map O.w) b] h = some (.ret [.sl 1 (iL (sPuts os ++ others os)) false], h) := by
  obtain ⟨N, rfl⟩ : ∃ N, n = (N + 1) + 1 := ⟨n - 2, by omega⟩
  refine (rOrder_eq (N + 1) _ h).trans ?_
  unfold rOrder
  have e := rord_loop N os b hs [] hl (by omega) os.length 0 (N + 1) (by omega) (by omega)
  rw [order_eq os hs] at e
  rw [show ordL (keyO os) 0 = [] from rfl] at e
  have e' : loopx (N + 1) (rOrder_l0 (N + 1) (.sl 2 (os.map O.w) b)) [.sl 1 [] false, .sl 1 [] false, .int .i64 0] [] = some (.ret [.sl 1 (iL (sPuts os ++ others os)) false], []) := e
  rw [e']
  generalize sPuts os ++ others os = L
  exact gcw_ret (by simp [free_map O.w (fun _ => rfl)]) (by simp [intV])
end Go.Proofs.Try
