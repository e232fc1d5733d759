import Derived.Test.YtjnjofillhdffaaSask
import Derived.Test.YtjnjofillhdffaaLsc
import Derived.Test.YtjnjofillhdffaaLsd
/-! the law SpecOrder: it returns true -/
set_option linter.unusedVariables false
set_option linter.unusedSimpArgs false
namespace Go.Proofs.Try
open Go.L Go.Rp
set_option maxRecDepth 100000
theorem ordOf_nd (o : Int) (os : List O) : (ordOf o os).Nodup := by
  unfold ordOf
  split
  · exact ordL_nodup _
  · unfold rng
    refine List.Pairwise.map _ (fun a b h => ?_) (List.nodup_range' (s := 0) (n := os.length) (step := 1))
    intro h'
    exact h (Int.ofNat.inj h')
/-- which were seen: the first k of L -/
def seenB (n : Nat) (L : List Int) (k : Nat) : List Bool := (L.take k).foldl (fun s x => s.set x.toNat true) (List.replicate n false)
abbrev bL (l : List Bool) : List (List V) := l.map (fun b => [V.bool b])
theorem bL_get {l : List Bool} {i : Nat} {x : Bool} (h : l[i]? = some x) : (bL l)[i]? = some [V.bool x] := by unfold bL; rw [List.getElem?_map, h]; rfl
theorem bL_set (l : List Bool) (i : Nat) (x : Bool) : (bL l).set i [V.bool x] = bL (l.set i x) := by unfold bL; rw [List.map_set]
theorem bL_len (l : List Bool) : (bL l).length = l.length := by simp
theorem fold_len : ∀ (L : List Int) (s : List Bool), (L.foldl (fun s x => s.set x.toNat true) s).length = s.length
  | [], s => rfl
  | x :: L, s => by rw [List.foldl_cons, fold_len L]; simp
theorem fold_get (j : Nat) : ∀ (L : List Int) (s : List Bool), (∀ x ∈ L, x.toNat ≠ j) → (L.foldl (fun s x => s.set x.toNat true) s)[j]? = s[j]?
  | [], s, _ => rfl
  | x :: L, s, h => by
    rw [List.foldl_cons, fold_get j L _ (fun y hy => h y (List.mem_cons_of_mem _ hy)), List.getElem?_set_ne (h x (by simp))]
theorem seen_len (n : Nat) (L : List Int) (k : Nat) : (seenB n L k).length = n := by unfold seenB; rw [fold_len]; simp
theorem seen_succ {n : Nat} {L : List Int} {k : Nat} {x : Int} (h : L[k]? = some x) : seenB n L (k + 1) = (seenB n L k).set x.toNat true := by
  unfold seenB
  rw [List.take_add_one, h, List.foldl_append]; rfl
theorem seen_get {n : Nat} {L : List Int} {k j : Nat} (hn : L.Nodup) (hL : ∀ x ∈ L, 0 ≤ x ∧ x < (n : Int)) (h : L[k]? = some (j : Int)) : (seenB n L k)[j]? = some false := by
  unfold seenB
  have hj := hL _ (List.mem_of_getElem? h)
  rw [fold_get j, List.getElem?_replicate, if_pos (by omega)]
  intro x hx he
  have hx0 := hL x (List.mem_of_mem_take hx)
  have : x = (j : Int) := by omega
  subst this
  obtain ⟨i, hi⟩ := List.mem_iff_getElem?.1 hx
  have hlt := (List.getElem?_eq_some_iff.1 hi).1
  rw [List.length_take] at hlt
  rw [List.getElem?_take, if_pos (by omega)] at hi
  have h1 := List.getElem?_eq_some_iff.1 hi
  have h2 := List.getElem?_eq_some_iff.1 h
  obtain ⟨q1, e1⟩ := h1
  obtain ⟨q2, e2⟩ := h2
  have := List.pairwise_iff_getElem.1 hn i k q1 q2 (by omega)
  exact this (by rw [e1, e2])
/-- what is no heap's: just as it comes -/
theorem ordp_loop {body : List V → Heap → (List V → Heap → Option (Res × Heap)) → Option (Res × Heap)} (N : Nat) (z : Nat) (os : List O) (b bl : Bool) (hbody : ∀ st hh next, body st hh next = lawOrd1_l9 N (.sl z (os.map O.w) b) (.sl 1 (iL (rng 0 os.length)) bl) st hh next) (u : V) (H : Heap) (hl : os.length < 100000) : ∀ (d k M : Nat) (w : V), k + d = os.length → d < M →
    loopx M body [u, .sl 1 (bL (seenB os.length (rng 0 os.length) k)) false, .int .i64 (k : Int), w] H = some (.ret [.bool true], H)
  | d, k, 0, _, _, h => by omega
  | 0, k, M + 1, w, hk, _ => by
    obtain rfl : k = os.length := by omega
    rw [loopx_succ, hbody]
    simp only [lawOrd1_l9, gv, List.getD_cons_succ, List.getD_cons_zero, slc_sl, iL_len, rng_len, bop_i64_lss, bd_some, bv_bool, Int.lt_irrefl, decide_false, Bool.false_eq_true, if_false]
  | d + 1, k, M + 1, w, hk, hM => by
    have hlt : (k : Int) < (os.length : Int) := by omega
    have hnd : (rng 0 os.length).Nodup := by have := ordOf_nd 0 os; unfold ordOf at this; rwa [if_neg (by decide)] at this
    have hg : (rng 0 os.length)[k]? = some (k : Int) := by
      have e : rng 0 os.length = rng 0 k ++ (k : Int) :: rng (k + 1) d := by
        rw [← hk, rng_add, rng_cons]; simp
      rw [e]; exact mid_get _ _ _ (by rw [rng_len])
    have hsn := seen_get (n := os.length) hnd (fun x hx => by rw [rng_mem] at hx; omega) hg
    have hss := seen_succ (n := os.length) hg
    rw [Int.toNat_natCast] at hss
    have h0 : ¬ (k : Int) < 0 := by omega
    have h1 : ¬ (k : Int) ≥ (os.length : Int) := by omega
    have e1 : IntKind.i64.wrap ((k : Int) + 1) = ((k + 1 : Nat) : Int) := wN (by omega) (by unfold lim; omega)
    have hc1 : (True ∧ k < os.length ∧ (some 50 : Option Nat) ≠ some 6) := ⟨trivial, by omega, by decide⟩
    have hc2 : (True ∧ k < os.length ∧ (some 70 : Option Nat) ≠ some 6) := ⟨trivial, by omega, by decide⟩
    rw [loopx_succ, hbody]
    simp only [lawOrd1_l9, gv, List.getD_cons_succ, List.getD_cons_zero, slc_sl, slk_sl, iL_len, rng_len, bop_i64_lss, bop_i64_geq, bop_i64_neq, bd_some, bv_bool, hlt, decide_true, if_true, nv_nat, bdS_some, iL_get hg, List.getElem?_cons_zero, h0, h1, decide_false, Bool.false_eq_true, if_false, List.length_map, lsl, bL_len, seen_len]
    rw [if_pos hc1]
    simp only [bL_get hsn, bd_some, List.getElem?_cons_zero, bv_bool, Bool.false_eq_true, if_false, bne_self_eq_false]
    rw [if_pos hc2]
    simp only [bL_get hsn, bd_some, bop_i64_add, e1, setR_11, bL_set, ← hss]
    exact ordp_loop N z os b bl hbody u H hl d (k + 1) M (.bool false) (by omega) (by omega)
theorem some_ne6 {k : Nat} : ((some k : Option Nat) ≠ some 6) = ((k == 6) = false) := by simp
theorem og0 (u : O) : (O.w u)[0]? = some (.int .u8 u.k) := rfl
theorem og1 (u : O) : (O.w u)[1]? = some (.int .i32 u.v) := rfl
theorem ord3_loop (N : Nat) (os : List O) (bl : Bool) (hs : Small os) (u : V) (H : Heap) (hl : os.length < 100000) : ∀ (d k M : Nat) (w : V), k + d = os.length → d < M →
    loopx M (lawOrd3_l7 N (os.map O.w) (.sl 1 (iL (ordL (keyO os) os.length)) bl)) [u, .sl 1 (bL (seenB os.length (ordL (keyO os) os.length) k)) false, .int .i64 (k : Int), w] H = some (.ret [.bool true], H)
  | d, k, 0, _, _, h => by omega
  | 0, k, M + 1, w, hk, _ => by
    obtain rfl : k = os.length := by omega
    rw [loopx_succ]
    simp only [lawOrd3_l7, gv, List.getD_cons_succ, List.getD_cons_zero, slc_sl, iL_len, ordL_len, bop_i64_lss, bd_some, bv_bool, Int.lt_irrefl, decide_false, Bool.false_eq_true, if_false]
  | d + 1, k, M + 1, w, hk, hM => by
    have hlt : (k : Int) < (os.length : Int) := by omega
    have hnd := ordL_nodup (K := keyO os) os.length
    have hmem : ∀ x ∈ ordL (keyO os) os.length, 0 ≤ x ∧ x < (os.length : Int) := fun x hx => ordL_mem.1 hx
    obtain ⟨x, hg⟩ : ∃ x, (ordL (keyO os) os.length)[k]? = some x := ⟨_, List.getElem?_eq_getElem (by rw [ordL_len]; omega)⟩
    obtain ⟨hx0, hx1⟩ := hmem x (List.mem_of_getElem? hg)
    obtain ⟨j, rfl⟩ := Int.eq_ofNat_of_zero_le hx0
    have hsn := seen_get (n := os.length) hnd hmem hg
    have hss := seen_succ (n := os.length) hg
    rw [Int.toNat_natCast] at hss
    have hjl : j < os.length := by omega
    have h0 : ¬ (j : Int) < 0 := by omega
    have h1 : ¬ (j : Int) ≥ (os.length : Int) := by omega
    have e1 : IntKind.i64.wrap ((k : Int) + 1) = ((k + 1 : Nat) : Int) := wN (by omega) (by unfold lim; omega)
    have ih := ord3_loop N os bl hs u H hl d (k + 1) M (.bool false) (by omega) (by omega)
    rw [loopx_succ]
    by_cases hk0 : k = 0
    · subst hk0
      have z : (((0 : Nat) : Int) == 0) = true := rfl
      simp only [lawOrd3_l7, gv, List.getD_cons_succ, List.getD_cons_zero, slc_sl, slk_sl, iL_len, ordL_len, bop_i64_lss, bop_i64_geq, bop_i64_eql, bd_some, bv_bool, hlt, decide_true, if_true, nv_nat, bdS_some, iL_get hg, List.getElem?_cons_zero, h0, h1, decide_false, Bool.false_eq_true, if_false, List.length_map, lsl, bL_len, seen_len, hjl, true_and, some_ne6, Nat.reduceBEq, and_true, bL_get hsn, z, bop_i64_add, e1, setR_11, bL_set, ← hss]
      exact ih
    · obtain ⟨y, hg1⟩ : ∃ y, (ordL (keyO os) os.length)[k - 1]? = some y := ⟨_, List.getElem?_eq_getElem (by rw [ordL_len]; omega)⟩
      obtain ⟨hy0, hy1⟩ := hmem y (List.mem_of_getElem? hg1)
      obtain ⟨i, rfl⟩ := Int.eq_ofNat_of_zero_le hy0
      have z : ((k : Int) == 0) = false := by simpa using hk0
      have e2 : IntKind.i64.wrap ((k : Int) - 1) = ((k - 1 : Nat) : Int) := wN (by omega) (by unfold lim; omega)
      obtain ⟨a, ha⟩ : ∃ a, os[i]? = some a := ⟨_, List.getElem?_eq_getElem (by omega)⟩
      obtain ⟨b, hb⟩ : ∃ a, os[j]? = some a := ⟨_, List.getElem?_eq_getElem (by omega)⟩
      have hAh : Ah (keyO os) (i : Int) (j : Int) := by
        obtain ⟨q1, r1⟩ := List.getElem?_eq_some_iff.1 hg1
        obtain ⟨q2, r2⟩ := List.getElem?_eq_some_iff.1 hg
        have := List.pairwise_iff_getElem.1 (ordL_sd (K := keyO os) os.length) (k - 1) k q1 q2 (by omega)
        rwa [r1, r2] at this
      have hav := hs a (List.mem_of_getElem? ha)
      have hbv := hs b (List.mem_of_getElem? hb)
      unfold Ah keyO at hAh
      rw [oAt_some ha, oAt_some hb] at hAh
      have step : ∀ p q : Bool, (a.k == 1) = p → (b.k == 1) = q → (p = true → q = true → decide (a.v < b.v) = true ∨ (decide (a.v < b.v) = false ∧ (a.v == b.v) = true ∧ decide ((i : Int) < (j : Int)) = true)) → (p = false → q = false) → (p = false → decide ((i : Int) < (j : Int)) = true) →
          lawOrd3_l7 N (os.map O.w) (.sl 1 (iL (ordL (keyO os) os.length)) bl) [u, .sl 1 (bL (seenB os.length (ordL (keyO os) os.length) k)) false, .int .i64 (k : Int), w] H (loopx M (lawOrd3_l7 N (os.map O.w) (.sl 1 (iL (ordL (keyO os) os.length)) bl))) = loopx M (lawOrd3_l7 N (os.map O.w) (.sl 1 (iL (ordL (keyO os) os.length)) bl)) [u, .sl 1 (bL (seenB os.length (ordL (keyO os) os.length) (k + 1))) false, .int .i64 ((k + 1 : Nat) : Int), .bool false] H := fun p q hp hq h2 h3 h4 => by
        cases p with
        | true =>
          cases q with
          | true =>
            rcases h2 rfl rfl with c1 | ⟨c1, c2, c3⟩
            · simp only [lawOrd3_l7, gv, List.getD_cons_succ, List.getD_cons_zero, slc_sl, slk_sl, iL_len, ordL_len, bop_i64_lss, bop_i64_geq, bop_i64_eql, bop_u8_eql, bop_i32_lss, bop_i32_eql, bd_some, bv_bool, hlt, decide_true, if_true, nv_nat, bdS_some, iL_get hg, iL_get hg1, List.getElem?_cons_zero, h0, h1, decide_false, Bool.false_eq_true, if_false, List.length_map, lsl, bL_len, seen_len, hjl, true_and, some_ne6, Nat.reduceBEq, and_true, bL_get hsn, z, bop_i64_sub, e2, get_os, ha, hb, Option.map_some, List.drop_zero, ow_take, ow_len, Nat.le_refl, set_o, og0, og1, hp, hq, c1, bop_i64_add, e1, setR_11, bL_set, ← hss]
            · simp only [lawOrd3_l7, gv, List.getD_cons_succ, List.getD_cons_zero, slc_sl, slk_sl, iL_len, ordL_len, bop_i64_lss, bop_i64_geq, bop_i64_eql, bop_u8_eql, bop_i32_lss, bop_i32_eql, bd_some, bv_bool, hlt, decide_true, if_true, nv_nat, bdS_some, iL_get hg, iL_get hg1, List.getElem?_cons_zero, h0, h1, decide_false, Bool.false_eq_true, if_false, List.length_map, lsl, bL_len, seen_len, hjl, true_and, some_ne6, Nat.reduceBEq, and_true, bL_get hsn, z, bop_i64_sub, e2, get_os, ha, hb, Option.map_some, List.drop_zero, ow_take, ow_len, Nat.le_refl, set_o, og0, og1, hp, hq, c1, c2, c3, bop_i64_add, e1, setR_11, bL_set, ← hss]
          | false =>
            simp only [lawOrd3_l7, gv, List.getD_cons_succ, List.getD_cons_zero, slc_sl, slk_sl, iL_len, ordL_len, bop_i64_lss, bop_i64_geq, bop_i64_eql, bop_u8_eql, bop_i32_lss, bop_i32_eql, bd_some, bv_bool, hlt, decide_true, if_true, nv_nat, bdS_some, iL_get hg, iL_get hg1, List.getElem?_cons_zero, h0, h1, decide_false, Bool.false_eq_true, if_false, List.length_map, lsl, bL_len, seen_len, hjl, true_and, some_ne6, Nat.reduceBEq, and_true, bL_get hsn, z, bop_i64_sub, e2, get_os, ha, hb, Option.map_some, List.drop_zero, ow_take, ow_len, Nat.le_refl, set_o, og0, og1, hp, hq, uop_not, Bool.not_true, Bool.not_false, bop_i64_add, e1, setR_11, bL_set, ← hss]
        | false =>
          obtain rfl : q = false := h3 rfl
          have c3 := h4 rfl
          simp only [lawOrd3_l7, gv, List.getD_cons_succ, List.getD_cons_zero, slc_sl, slk_sl, iL_len, ordL_len, bop_i64_lss, bop_i64_geq, bop_i64_eql, bop_u8_eql, bop_i32_lss, bop_i32_eql, bd_some, bv_bool, hlt, decide_true, if_true, nv_nat, bdS_some, iL_get hg, iL_get hg1, List.getElem?_cons_zero, h0, h1, decide_false, Bool.false_eq_true, if_false, List.length_map, lsl, bL_len, seen_len, hjl, true_and, some_ne6, Nat.reduceBEq, and_true, bL_get hsn, z, bop_i64_sub, e2, get_os, ha, hb, Option.map_some, List.drop_zero, ow_take, ow_len, Nat.le_refl, set_o, og0, og1, hp, hq, c3, uop_not, Bool.not_true, Bool.not_false, bop_i64_add, e1, setR_11, bL_set, ← hss]
      rw [step (a.k == 1) (b.k == 1) rfl rfl (fun p q => by
        have p' : a.k = 1 := by simpa using p
        have q' : b.k = 1 := by simpa using q
        rw [if_pos p', if_pos q'] at hAh
        by_cases hlt' : a.v < b.v
        · exact .inl (by simpa using hlt')
        · exact .inr ⟨by simpa using hlt', by simp; omega, by simp; omega⟩) (fun p => by
        have p' : ¬ a.k = 1 := by simpa using p
        rw [if_neg p'] at hAh
        have : ¬ b.k = 1 := fun h => by rw [if_pos h] at hAh; omega
        simpa using this) (fun p => by
        have p' : ¬ a.k = 1 := by simpa using p
        rw [if_neg p'] at hAh
        have : ¬ b.k = 1 := fun h => by rw [if_pos h] at hAh; omega
        rw [if_neg this] at hAh
        have : (i : Int) < (j : Int) := by omega
        exact decide_eq_true this)]
      exact ih
/-- what is no heap's: its front -/
theorem ordp_front (n : Nat) (o : Int) (os : List O) (b : Bool) (H : Heap) (ho : o ≠ 3) (hs : Small os) (hol : os.length ≤ 200) (hn : 800 ≤ n) (body : V → List V → Heap → (List V → Heap → Option (Res × Heap)) → Option (Res × Heap)) (hbody : ∀ v3 st hh next, body v3 st hh next = lawOrd1_l9 n (.sl 2 (os.map O.w) b) v3 st hh next) :
    (cl (call n 46 [(V.int .u8 o), .sl 2 (os.map O.w) b] H) (fun r0 h1 =>
      (one1 r0 fun v3 => (bd (slc (.sl 2 (os.map O.w) b)) fun p4 => (bdS (nv (V.int .i64 ((p4.2).length : Int))) fun n5 => (bdS (nv (V.int .i64 ((p4.2).length : Int))) fun n6 =>
      (if (n5 = n6 ∧ n5 < lim ∧ 1 = 1) then
      (bd (slc v3) fun p7 => (bd (slc (.sl 2 (os.map O.w) b)) fun p8 =>
      (if (((p7.2).length : Int) != ((p8.2).length : Int)) then some (Res.ret [(V.bool false)], h1)
      else (loopx n (body v3) [(V.bool false), (V.sl 1 (List.replicate n5 [(V.bool false)]) false), (V.int .i64 0), (V.bool false)] h1)))) else none)))))) (fun z2 h1 => some (Res.pan z2, h1))) = some (.ret [.bool true], H) := by
  have hl : lim > 100000 := by unfold lim; omega
  have c1 := order_call n o 2 os b H (.inl rfl) hs (by omega) (by omega)
  have e : ordOf o os = rng 0 os.length := by unfold ordOf; rw [if_neg ho]
  have hc : (os.length = os.length ∧ os.length < lim ∧ 1 = 1) := ⟨rfl, by omega, rfl⟩
  have h2 : ((os.length : Int) != (os.length : Int)) = false := by simp
  have lp := ordp_loop n 2 os b false (hbody (.sl 1 (iL (rng 0 os.length)) false)) (.bool false) H (by omega) os.length 0 n (.bool false) (by omega) (by omega)
  have hrep : List.replicate os.length [V.bool false] = bL (seenB os.length (rng 0 os.length) 0) := by unfold seenB bL; simp
  rw [c1, cl_ret, one1_one, slc_sl, bd_some, e]
  simp only [List.length_map, nv_nat, bdS_some]
  rw [if_pos (by simpa using hc)]
  simp only [slc_sl, bd_some, iL_len, rng_len, List.length_map, h2, Bool.false_eq_true, if_false]
  rw [hrep]
  exact lp
theorem olaw_call (n : Nat) (o : Int) (os : List O) (b : Bool) (H : Heap) (ho : 0 ≤ o) (hs : Small os) (hol : os.length ≤ 200) (hn : 801 ≤ n) :
    call n 25 [.int .u8 o, .sl 2 (os.map O.w) b] H = some (.ret [.bool true], H) := by
  obtain ⟨N, rfl⟩ : ∃ N, n = N + 1 := ⟨n - 1, by omega⟩
  have hl : lim > 100000 := by unfold lim; omega
  obtain ⟨q, rfl⟩ := Int.eq_ofNat_of_zero_le ho
  match q with
  | 0 => exact (lawOrd0_eq N _ H).trans (ordp_front N 0 os b H (by decide) hs hol (by omega) (fun v3 => lawOrd0_l9 N (.sl 2 (os.map O.w) b) v3) (fun _ _ _ _ => rfl))
  | 1 => exact (lawOrd1_eq N _ H).trans (ordp_front N 1 os b H (by decide) hs hol (by omega) (fun v3 => lawOrd1_l9 N (.sl 2 (os.map O.w) b) v3) (fun _ _ _ _ => rfl))
  | 2 => exact (lawOrd2_eq N _ H).trans (ordp_front N 2 os b H (by decide) hs hol (by omega) (fun v3 => lawOrd2_l9 N (.sl 2 (os.map O.w) b) v3) (fun _ _ _ _ => rfl))
  | 3 =>
    have c1 := order_call N 3 2 os b H (.inl rfl) hs (by omega) (by omega)
    have e : ordOf 3 os = ordL (keyO os) os.length := rfl
    have hc : (os.length = os.length ∧ os.length < lim ∧ 1 = 1) := ⟨rfl, by omega, rfl⟩
    have h2 : ((os.length : Int) != (os.length : Int)) = false := by simp
    have lp := ord3_loop N os false hs (.bool false) H (by omega) os.length 0 N (.bool false) (by omega) (by omega)
    have hrep : List.replicate os.length [V.bool false] = bL (seenB os.length (ordL (keyO os) os.length) 0) := by unfold seenB bL; simp
    refine (lawOrd3_eq N _ b H).trans ?_
    unfold lawOrd3
    rw [c1, cl_ret, one1_one, e]
    simp only [List.length_map, nv_nat, bdS_some]
    rw [if_pos (by simpa using hc), slc_sl, bd_some]
    simp only [iL_len, ordL_len, List.length_map, h2, Bool.false_eq_true, if_false]
    rw [hrep]
    exact lp
  | q + 4 => exact (lawOrd4_eq N q _ H).trans (ordp_front N (Int.ofNat (q + 4)) os b H (by intro h; have : (q : Int) + 4 = 3 := h; omega) hs hol (by omega) (fun v3 => lawOrd4_l9 N (.sl 2 (os.map O.w) b) v3) (fun _ _ _ _ => rfl))
/-- SpecOrder -/
theorem order_law_call (x0 : Int) (os : List O) (ob : Bool) (c : List Int) (cb : Bool) (h0 : 0 ≤ x0) (hc : small c = true) (hs : Small os) (l2 : os.length ≤ 140737488355328) (l3 : c.length ≤ 140737488355328) :
    call 1000 7 [.int .u8 x0, .sl 2 (os.map O.w) ob, .sl 1 (c.map (intV .u8)) cb] [] = some (.ret [.bool true], []) := by
  refine (lawOrder_eq 999 x0 _ ob _ cb []).trans ?_
  have hkn := known_true3
  have hfree : V.free.freeLL (os.map O.w) = true := free_map _ (fun _ => rfl) os
  have key : lawOrder 999 x0 (os.map O.w) ob (c.map (intV .u8)) cb = some (.ret [.bool true], []) := by
    unfold lawOrder
    simp only [List.length_map]
    rw [w64 (by omega) (by omega)]
    by_cases hbig : ((os.length : Int) + (c.length : Int) > 200)
    · rw [if_pos (by simpa using hbig), hkn, cl_ret, one1_one]
    · rw [if_neg (by simpa using hbig)]
      have ol := ops_len c 3
      have c0 := olaw_call 999 x0 os ob [] h0 hs (by omega) (by omega)
      have o3 := ops_call 999 c 1 cb 3 [] (.inl rfl) hc (by decide) (by decide) (by omega)
      have c2 := olaw_call 999 3 (ops c 3) false [] (by decide) (small_ops hc) (by omega) (by omega)
      have c3 := olaw_call 999 3 os ob [] (by decide) hs (by omega) (by omega)
      rw [hkn, cl_ret, one1_one, bv_bool, if_pos rfl, c0, cl_ret, one1_one, bv_bool, if_pos rfl, o3, cl_ret, one1_one, c2, cl_ret, one1_one, bv_bool, if_pos rfl, c3, cl_ret, one1_one]
  rw [key]
  exact gcw_ret (by simp [hfree]) (by simp)
end Go.Proofs.Try
