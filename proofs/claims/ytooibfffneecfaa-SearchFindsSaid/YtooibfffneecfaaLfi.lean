import Derived.Test.YtooibfffneecfaaLgb
import Derived.Test.YtooibfffneecfaaLap
import Derived.Test.YtooibfffneecfaaPlain4
/-! search.Fits: when an order fits -/
set_option linter.unusedVariables false
set_option linter.unusedSimpArgs false
namespace Go.Proofs.Try
open Go.L Go.Rp
set_option maxRecDepth 100000

theorem spv_all (y : Sp) : List.take 8 (Sp.v y) = Sp.v y := rfl
theorem spv_op (y : Sp) : List.take 2 (List.drop 2 (Sp.v y)) = [.int .u8 y.op.k, .int .i32 y.op.v] := rfl
theorem spv_res (y : Sp) : List.take 2 (List.drop 4 (Sp.v y)) = [.int .u8 y.res.c, .int .i32 y.res.v] := rfl
theorem spv_to (y : Sp) : (Sp.v y)[7]? = some (.int .i64 y.to) := rfl
theorem spv_len (y : Sp) : (Sp.v y).length = 8 := rfl
theorem get_sps (l : List Sp) (n : Nat) : (l.map Sp.v)[n]? = (l[n]?).map Sp.v := List.getElem?_map
theorem before_call (n : Nat) (y x : Sp) (h : Heap) : call (n + 1) 26 [.agg (Sp.v y), .agg (Sp.v x)] h = some (.ret [.bool (before y x)], h) := by
  refine (lBefore_eq n y.th y.sq y.op.k y.op.v y.res.c y.res.v y.fr y.to x.th x.sq x.op.k x.op.v x.res.c x.res.v x.fr x.to h).trans ?_
  unfold lBefore before
  by_cases h0 : 0 ≤ y.to
  · have : y.to ≥ 0 := h0
    simp [this, gcw]
  · have : ¬ y.to ≥ 0 := h0
    simp [h0, gcw]

section
variable (N : Nat) (o m : Int) (l : List Sp) (order : List Int) (z : V)
open Classical in
theorem fits_inner {k : Nat} {n : Int} {y : Sp} {s : List Int} (ho : 0 ≤ o) (hop : 0 ≤ y.op.k) (hlo : order.length < lim) (hs : s.length + 1 < lim) (hN : s.length + 4 ≤ N + 1) (hk : k ≤ order.length) (h0 : 0 ≤ n) (hy : l[n.toNat]? = some y) (hin : ∀ a ∈ order.take k, 0 ≤ a ∧ a < l.length)
    (next3 : List V → Heap → Option (Res × Heap)) (H : Heap) : ∀ (d j M : Nat), j + d = k → d < M →
    loopx M (lFits_l20 (N + 1) o m (l.map Sp.v) (order.map (intV .i64)) [z, .sl 1 (s.map (intV .i32)) false, .int .i64 (k : Int)] next3 (.int .i64 n) k) [z, .agg [], .int .i64 (j : Int)] H =
      if ∃ a ∈ (order.take k).drop j, ∃ x, l[a.toNat]? = some x ∧ before y x = true then some (.ret [.bool false], H)
      else if 0 ≤ y.to ∧ (apply o m s y.op).2 ≠ y.res then some (.ret [.bool false], H)
      else next3 [z, .sl 1 ((apply o m s y.op).1.map (intV .i32)) false, .int .i64 ((k + 1 : Nat) : Int)] H
  | d, j, 0, _, h => by omega
  | 0, j, M + 1, hj, _ => by
    obtain rfl : j = k := by omega
    have e1 : ¬ ((j : Int) < (j : Int)) := by omega
    have e2 : (order.take j).drop j = [] := List.drop_eq_nil_of_le (by rw [List.length_take]; omega)
    have hlen : min j order.length = j := by omega
    have hA := apply_call (N + 1) o m 1 s false y.op.k y.op.v H (.inl rfl) ho hop hs hN
    rw [loopx_succ, e2]
    simp only [lFits_l20, gv, List.getD_cons_succ, List.getD_cons_zero, List.drop_zero, List.length_take, List.length_map, hlen, bop_i64_lss, bd_some, bv_bool, e1, decide_false, Bool.false_eq_true, if_false, nv_int h0, bdS_some, get_sps, hy, Option.map_some, spv_op, hA, ansA, cl_ret, List.getElem?_cons_zero, List.getElem?_cons_succ, V.cells, List.length_cons, List.length_nil, spv_to, bop_i64_geq]
    simp only [List.not_mem_nil, false_and, exists_false, if_false, setR, if_true, Nat.le_refl, spv_res, List.drop_zero, bop_i64_add, bd_some, step64 (show j < lim by omega), List.take_zero, List.nil_append, List.length_cons, List.length_nil, List.drop_succ_cons, List.append_nil, List.take_succ_cons, bop_res, bv_bool, List.take_nil]
    by_cases ht : 0 ≤ y.to
    · have ht' : y.to ≥ 0 := ht
      by_cases hr : (apply o m s y.op).2 = y.res
      · simp [ht', hr]
      · simp [ht', hr, ht]
    · have ht' : ¬ y.to ≥ 0 := ht
      simp [ht', ht]
  | d + 1, j, M + 1, hj, hM => by
    have hlt : (j : Int) < (k : Int) := by omega
    obtain ⟨a, ha⟩ : ∃ a, order[j]? = some a := ⟨_, List.getElem?_eq_getElem (by omega)⟩
    have hak : (order.take k)[j]? = some a := by rw [List.getElem?_take, if_pos (by omega)]; exact ha
    obtain ⟨ha0, ha1⟩ := hin a (List.mem_of_getElem? hak)
    obtain ⟨x, hx⟩ : ∃ x, l[a.toNat]? = some x := ⟨_, List.getElem?_eq_getElem (by omega)⟩
    have e2 : (order.take k).drop j = a :: (order.take k).drop (j + 1) := by
      rw [List.drop_eq_getElem_cons (by rw [List.length_take]; omega)]
      congr 1
      rw [List.getElem?_eq_some_iff] at hak
      exact hak.2
    have hlen : min k order.length = k := by omega
    have hm : (List.take k (order.map (intV .i64)))[j]? = some (intV .i64 a) := by rw [List.getElem?_take, if_pos (by omega), get_ints, ha]; rfl
    have IH := fits_inner ho hop hlo hs hN hk h0 hy hin next3 H d (j + 1) M (by omega) (by omega)
    rw [loopx_succ, e2]
    simp only [lFits_l20, gv, List.getD_cons_succ, List.getD_cons_zero, List.drop_zero, List.length_take, List.length_map, hlen, bop_i64_lss, bd_some, bv_bool, hlt, decide_true, if_true, nv_nat, bdS_some, hm, intV, List.getElem?_cons_zero, nv_int h0, nv_int ha0, get_sps, hy, hx, Option.map_some, spv_all, before_call, cl_ret, one1_one, bop_i64_add, step64 (show j < lim by omega), lcs]
    cases hb : before y x with
    | true =>
      simp only [if_true]
      rw [if_pos ⟨a, List.mem_cons_self, x, hx, hb⟩]
    | false =>
      simp only [Bool.false_eq_true, if_false]
      refine IH.trans ?_
      have : (∃ b ∈ (order.take k).drop (j + 1), ∃ x, l[b.toNat]? = some x ∧ before y x = true) ↔ (∃ b ∈ a :: (order.take k).drop (j + 1), ∃ x, l[b.toNat]? = some x ∧ before y x = true) := by
        constructor
        · rintro ⟨b, hb1, hb2⟩; exact ⟨b, List.mem_cons_of_mem _ hb1, hb2⟩
        · rintro ⟨b, hb1, x', hx', hbx⟩
          rcases List.mem_cons.1 hb1 with rfl | hb1
          · rw [hx] at hx'; cases hx'; rw [hb] at hbx; cases hbx
          · exact ⟨b, hb1, x', hx', hbx⟩
      simp only [this]

theorem mapOf0 (es : List (V × V)) (t : Heap) : mapOf (HB.map es :: t) (V.map 0) = some es := rfl
theorem entry_none (es : List (V × V)) (zv : V) : entryV es zv none = some zv := rfl
theorem entry_set {P : List Int} {zv : V} {j : Nat} {a : V} (h : (setE P)[j]? = some (a, .agg [])) : entryV (setE P) zv (some j) = some (.agg []) := by
  show ((setE P)[j]?).map (·.2) = _
  rw [h]; rfl
theorem fits_whole (P : List Int) (hl : l.length < lim) : ∀ (d k M : Nat), k + d = l.length → d < M →
    ∃ b, loopx M (lFits_l57 N (l.map Sp.v)) [z, .int .i64 (k : Int)] [HB.map (setE P)] = some (.ret [.bool b], [HB.map (setE P)]) ∧ (b = true ↔ ∀ (i : Nat) s, k ≤ i → l[i]? = some s → 0 ≤ s.to → (i : Int) ∈ P)
  | d, k, 0, _, h => by omega
  | 0, k, M + 1, hk, _ => by
    have e1 : ¬ ((k : Int) < (l.length : Int)) := by omega
    refine ⟨true, ?_, ?_⟩
    · rw [loopx_succ]
      simp only [lFits_l57, gv, List.getD_cons_succ, List.getD_cons_zero, List.length_map, bop_i64_lss, bd_some, bv_bool, e1, decide_false, Bool.false_eq_true, if_false]
    · refine ⟨fun _ i s hi hs => ?_, fun _ => rfl⟩
      have := (List.getElem?_eq_some_iff.1 hs).1
      omega
  | d + 1, k, M + 1, hk, hM => by
    have e1 : ((k : Int) < (l.length : Int)) := by omega
    obtain ⟨x, hx⟩ : ∃ x, l[k]? = some x := ⟨_, List.getElem?_eq_getElem (by omega)⟩
    obtain ⟨b, hb, hiff⟩ := fits_whole P hl d (k + 1) M (by omega) (by omega)
    by_cases hm : (k : Int) ∈ P
    · obtain ⟨j, hj, hf, hget⟩ := find_set_some hm
      refine ⟨b, ?_, hiff.trans ⟨fun h i s hi hs => ?_, fun h i s hi hs => h i s (by omega) hs⟩⟩
      · rw [loopx_succ]
        simp only [lFits_l57, gv, List.getD_cons_succ, List.getD_cons_zero, List.length_map, bop_i64_lss, bd_some, bv_bool, e1, decide_true, if_true, nv_nat, bdS_some, get_sps, hx, Option.map_some, List.drop_zero, spv_all, spv_len, Nat.le_refl, mapOf0, kds_int, hf, entry_set hget, V.one, V.cells, List.length_cons, List.length_nil, Bool.not_false, Bool.not_true, Option.isSome_some, Bool.false_eq_true, if_false, bop_i64_add, step64 (show k < lim by omega), and_self]
        exact hb
      · rcases Nat.lt_or_ge k i with h1 | h1
        · exact h i s h1 hs
        · obtain rfl : i = k := by omega
          exact fun _ => hm
    · by_cases ht : 0 ≤ x.to
      · refine ⟨false, ?_, ?_⟩
        · rw [loopx_succ]
          have ht' : x.to ≥ 0 := ht
          simp only [lFits_l57, gv, List.getD_cons_succ, List.getD_cons_zero, List.length_map, bop_i64_lss, bd_some, bv_bool, e1, decide_true, if_true, nv_nat, bdS_some, get_sps, hx, Option.map_some, List.drop_zero, spv_all, spv_len, Nat.le_refl, mapOf0, kds_int, find_set_none hm, entry_none, V.one, V.cells, List.length_cons, List.length_nil, Bool.not_false, Option.isSome_none, and_self]
          simp [setR, Sp.v, ht']
        · exact ⟨fun h => (by cases h), fun h => absurd (h k x (Nat.le_refl _) hx ht) hm⟩
      · refine ⟨b, ?_, hiff.trans ⟨fun h i s hi hs => ?_, fun h i s hi hs => h i s (by omega) hs⟩⟩
        · rw [loopx_succ]
          have ht' : ¬ x.to ≥ 0 := ht
          simp only [lFits_l57, gv, List.getD_cons_succ, List.getD_cons_zero, List.length_map, bop_i64_lss, bd_some, bv_bool, e1, decide_true, if_true, nv_nat, bdS_some, get_sps, hx, Option.map_some, List.drop_zero, spv_all, spv_len, Nat.le_refl, mapOf0, kds_int, find_set_none hm, entry_none, V.one, V.cells, List.length_cons, List.length_nil, Bool.not_false, Option.isSome_none, and_self]
          have hq : (setR [V.int .i64 0, .int .i64 0, .int .u8 0, .int .i32 0, .int .u8 0, .int .i32 0, .int .i64 0, .int .i64 0] 0 (Sp.v x))[7]? = some (.int .i64 x.to) := rfl
          simp only [hq, bd_some, bop_i64_geq, ht', decide_false, bv_bool, Bool.false_eq_true, if_false, bop_i64_add, step64 (show k < lim by omega)]
          exact hb
        · rcases Nat.lt_or_ge k i with h1 | h1
          · exact h i s h1 hs
          · obtain rfl : i = k := by omega
            rw [hx] at hs; cases hs
            exact fun h => absurd h ht

open Classical in
theorem fits_outer (ho : 0 ≤ o) (hop : ∀ y ∈ l, 0 ≤ y.op.k) (hll : l.length < lim) (hlo : order.length + 2 < lim) (hN : order.length + 4 ≤ N + 1) (hN2 : l.length + 1 ≤ N + 1) : ∀ (rest P s : List Int) (M : Nat), order = P ++ rest → s.length ≤ P.length → rest.length < M → (∀ a ∈ P, 0 ≤ a ∧ a < l.length) →
    ∃ b h', loopx M (lFits_l0 (N + 1) o m (l.map Sp.v) (order.map (intV .i64))) [z, .sl 1 (s.map (intV .i32)) false, .int .i64 (P.length : Int)] [HB.map (setE P)] = some (.ret [.bool b], h') ∧ (b = true ↔ FitsFrom o m l P s rest)
  | rest, P, s, 0, _, _, h, _ => by omega
  | [], P, s, M + 1, he, hs, _, hin => by
    rw [List.append_nil] at he
    subst he
    obtain ⟨b, hb, hiff⟩ := fits_whole N l z order hll l.length 0 (N + 1) (by omega) (by omega)
    refine ⟨b, [HB.map (setE order)], ?_, hiff.trans (show _ ↔ All l order from ⟨fun h i s hs => h i s (Nat.zero_le _) hs, fun h i s _ hs => h i s hs⟩)⟩
    rw [loopx_succ]
    simp only [lFits_l0, gv, List.getD_cons_succ, List.getD_cons_zero, List.length_map, bop_i64_lss, bd_some, bv_bool, Int.lt_irrefl, decide_false, Bool.false_eq_true, if_false]
    exact hb
  | n :: rest, P, s, M + 1, he, hs, hM, hin => by
    have hlen : order.length = P.length + (rest.length + 1) := by rw [he]; simp
    have e1 : ((P.length : Int) < (order.length : Int)) := by omega
    have hn : order[P.length]? = some n := by rw [he]; simp
    have htk : order.take P.length = P := by rw [he]; simp
    rw [loopx_succ]
    simp only [lFits_l0, gv, List.getD_cons_succ, List.getD_cons_zero, List.length_map, bop_i64_lss, bd_some, bv_bool, e1, decide_true, if_true, nv_nat, bdS_some, get_ints, hn, Option.map_some, intV, List.getElem?_cons_zero, bop_i64_geq]
    by_cases h0 : n < 0
    · simp only [h0, decide_true, if_true]
      refine ⟨false, _, rfl, fun h => (by cases h), ?_⟩
      rintro ⟨y, hm, _⟩
      have := hm.1
      omega
    · by_cases h1 : n ≥ (l.length : Int)
      · simp only [h0, h1, decide_false, decide_true, Bool.false_eq_true, if_false, if_true]
        refine ⟨false, _, rfl, fun h => (by cases h), ?_⟩
        rintro ⟨y, hm, _⟩
        have := hm.1
        have := (List.getElem?_eq_some_iff.1 hm.2.1).1
        omega
      · obtain ⟨y, hy⟩ : ∃ y, l[n.toNat]? = some y := ⟨_, List.getElem?_eq_getElem (by omega)⟩
        by_cases hm : n ∈ P
        · obtain ⟨j, hj, hf, hget⟩ := find_set_some hm
          simp only [h0, h1, decide_false, Bool.false_eq_true, if_false, mapOf0, bdS_some, kds_int, bd_some, hf, entry_set hget, V.one, V.cells, List.length_cons, List.length_nil, Bool.not_false, Option.isSome_some, and_self, if_true, Nat.le_refl]
          refine ⟨false, _, rfl, fun h => (by cases h), ?_⟩
          rintro ⟨y, hm', _⟩
          exact absurd hm hm'.2.2.1
        · have hP1 : ((P.length : Int) + 1) = ((P.length + 1 : Nat) : Int) := by omega
          have hinner := fits_inner N o m l order z (k := P.length) (n := n) (y := y) (s := s) ho (hop y (List.mem_of_getElem? hy)) (by omega) (by omega) (by omega) (by omega) (by omega) hy (by rw [htk]; exact hin)
            (loopx M (lFits_l0 (N + 1) o m (l.map Sp.v) (order.map (intV .i64)))) [HB.map (setE (P ++ [n]))] P.length 0 (N + 1) (by omega) (by omega)
          have hg0 : ([HB.map (setE P)] : Heap)[0]? = some (.map (setE P)) := rfl
          have hset : ([HB.map (setE P)] : Heap).set 0 (.map (setE (P ++ [n]))) = [HB.map (setE (P ++ [n]))] := rfl
          simp only [h0, h1, decide_false, Bool.false_eq_true, if_false, mapOf0, bdS_some, kds_int, bd_some, find_set_none hm, entry_none, V.one, V.cells, List.length_cons, List.length_nil, Bool.not_false, Option.isSome_none, and_self, if_true, Nat.le_refl, hg0, mapAt_map, upd_set, hset, setR, List.take_zero, List.nil_append, List.append_nil, List.drop_nil, Nat.zero_le, true_and, show P.length ≤ order.length by omega, true_or]
          simp only [List.drop_zero, htk] at hinner
          have hz : (0 : Int) = ((0 : Nat) : Int) := rfl
          rw [hz]
          by_cases hbf : ∃ a ∈ P, ∃ x, l[a.toNat]? = some x ∧ before y x = true
          · rw [if_pos hbf] at hinner
            refine ⟨false, _, hinner, fun h => (by cases h), ?_⟩
            rintro ⟨y', hm', _⟩
            obtain ⟨a, ha, x, hx, hxb⟩ := hbf
            have hyy := hm'.2.1
            rw [hy] at hyy; cases hyy
            rw [hm'.2.2.2.1 a ha x hx] at hxb; cases hxb
          · rw [if_neg hbf] at hinner
            by_cases htold : 0 ≤ y.to ∧ (apply o m s y.op).2 ≠ y.res
            · rw [if_pos htold] at hinner
              refine ⟨false, _, hinner, fun h => (by cases h), ?_⟩
              rintro ⟨y', hm', _⟩
              have hyy := hm'.2.1
              rw [hy] at hyy; cases hyy
              exact absurd (hm'.2.2.2.2 htold.1) htold.2
            · rw [if_neg htold] at hinner
              have hal := apply_len o m s y.op
              obtain ⟨b, h', hb, hiff⟩ := fits_outer ho hop hll hlo hN hN2 rest (P ++ [n]) (apply o m s y.op).1 M (by rw [he]; simp) (by simp; omega) (by simp at hM; omega) (fun a ha => by
                rcases List.mem_append.1 ha with ha | ha
                · exact hin a ha
                · obtain rfl : a = n := by simpa using ha
                  omega)
              rw [List.length_append, List.length_singleton] at hb
              refine ⟨b, h', hinner.trans hb, hiff.trans ⟨fun hf => ⟨y, ⟨by omega, hy, hm, fun a ha x hx => ?_, fun ht => ?_⟩, hf⟩, ?_⟩⟩
              · cases hbb : before y x with
                | false => rfl
                | true => exact absurd ⟨a, ha, x, hx, hbb⟩ hbf
              · exact Classical.byContradiction fun hne => htold ⟨ht, hne⟩
              · rintro ⟨y', hm', hf⟩
                have hyy := hm'.2.1
                rw [hy] at hyy; cases hyy
                exact hf
end

/-- search.Fits -/
theorem fits_call (n : Nat) (o m : Int) (l : List Sp) (order : List Int) (x1 x2 : Bool) (h : Heap) (ho : 0 ≤ o) (hop : ∀ y ∈ l, 0 ≤ y.op.k) (hll : l.length < lim) (hlo : order.length + 2 < lim) (hN : order.length + 5 ≤ n) (hN2 : l.length + 2 ≤ n) :
    ∃ b, call n 23 [.int .u8 o, .int .i64 m, .sl 8 (l.map Sp.v) x1, .sl 1 (order.map (intV .i64)) x2] h = some (.ret [.bool b], h) ∧ (b = true ↔ Fit o m l order) := by
  obtain ⟨N, rfl⟩ : ∃ N, n = N + 1 + 1 := ⟨n - 2, by omega⟩
  obtain ⟨b, h', hb, hiff⟩ := fits_outer N o m l order (.bool false) ho hop hll hlo (by omega) (by omega) order [] [] (N + 1) rfl (Nat.le_refl _) (by omega) (fun a ha => by simp at ha)
  refine ⟨b, ?_, hiff.trans (fits_iff order)⟩
  rw [lFits_eq, lFits]
  refine (congrArg (fun o => gcw _ o h) hb).trans ?_
  exact gcw_ret (by simp) (by simp)
end Go.Proofs.Try
