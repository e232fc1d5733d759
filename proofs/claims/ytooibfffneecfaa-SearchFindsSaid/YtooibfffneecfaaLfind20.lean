import Derived.Test.YtooibfffneecfaaLgd
import Derived.Test.YtooibfffneecfaaLref8
import Derived.Test.YtooibfffneecfaaLfind
import Derived.Test.YtooibfffneecfaaLlawf
/-! reaperref20.Find: whether there is an order that fits -/
set_option linter.unusedVariables false
set_option linter.unusedSimpArgs false
namespace Go.Proofs.Try
open Go.L Go.Rp
set_option maxRecDepth 100000
theorem before19_call (n : Nat) (y x : Sp) (h : Heap) : call (n + 1) 55 [.agg (Sp.v y), .agg (Sp.v x)] h = some (.ret [.bool (before y x)], h) := by
  refine (lBefore19_eq n y.th y.sq y.op.k y.op.v y.res.c y.res.v y.fr y.to x.th x.sq x.op.k x.op.v x.res.c x.res.v x.fr x.to h).trans ?_
  unfold lBefore19 before
  by_cases h0 : 0 ≤ y.to
  · have : y.to ≥ 0 := h0
    simp [this, gcw]
  · have : ¬ y.to ≥ 0 := h0
    simp [h0, gcw]
theorem place_loop (z : Nat) (l : List Int) (b : Bool) (x : Int) (u : V) (N : Nat) (hz : z = 1 ∨ l = []) (hl : l.length < lim) : ∀ (d k M : Nat), k + d = l.length → d < M → (∀ j < k, l[j]? ≠ some x) →
    loopx M (lPlace14_l0 N (.sl z (l.map (intV .i64)) b) x) [u, .int .i64 (k : Int)] [] = some (.ret [.int .i64 (Rp.place l x)], [])
  | d, k, 0, _, h, _ => by omega
  | 0, k, M + 1, hk, _, hno => by
    obtain rfl : k = l.length := by omega
    have hp : Rp.place l x = -1 := by
      unfold Rp.place
      have : l.findIdx? (· == x) = none := by
        rw [List.findIdx?_eq_none_iff]
        intro y hy
        obtain ⟨j, hj⟩ := List.mem_iff_getElem?.1 hy
        have := hno j (List.getElem?_eq_some_iff.1 hj).1
        rw [hj] at this
        simp
        rintro rfl
        exact this rfl
      rw [this]
    rw [loopx_succ, hp]
    simp only [lPlace14_l0, gv, List.getD_cons_succ, List.getD_cons_zero, slc_sl, bd_some, List.length_map, bop_i64_lss, bv_bool, Int.lt_irrefl, decide_false, Bool.false_eq_true, if_false]
  | d + 1, k, M + 1, hk, hM, hno => by
    have hlt : (k : Int) < (l.length : Int) := by omega
    obtain ⟨y, hy⟩ : ∃ y, l[k]? = some y := ⟨_, List.getElem?_eq_getElem (by omega)⟩
    obtain rfl : z = 1 := hz.resolve_right (by rintro rfl; simp at hy)
    rw [loopx_succ]
    by_cases hyx : y = x
    · subst hyx
      have hp : Rp.place l y = k := by
        unfold Rp.place
        cases hf : l.findIdx? (· == y) with
        | none =>
          rw [List.findIdx?_eq_none_iff] at hf
          have := hf y (List.mem_of_getElem? hy)
          simp at this
        | some i =>
          obtain ⟨hlt', hi, hmin⟩ := List.findIdx?_eq_some_iff_getElem.1 hf
          have hi' : l[i]? = some y := by rw [List.getElem?_eq_getElem hlt']; simpa using hi
          rcases Nat.lt_trichotomy i k with h1 | h1 | h1
          · exact absurd hi' (hno i h1)
          · simp [h1]
          · have := hmin k h1
            rw [List.getElem?_eq_getElem (by omega)] at hy
            injection hy with hy
            simp [hy] at this
      rw [hp]
      simp only [lPlace14_l0, gv, List.getD_cons_succ, List.getD_cons_zero, slc_sl, slk_sl, bd_some, List.length_map, bop_i64_lss, bv_bool, hlt, decide_true, if_true, nv_nat, bdS_some, get_ints, hy, Option.map_some, intV, List.getElem?_cons_zero, bop_i64_eql, beq_self_eq_true]
    · have hne : (y == x) = false := by simpa using hyx
      simp only [lPlace14_l0, gv, List.getD_cons_succ, List.getD_cons_zero, slc_sl, slk_sl, bd_some, List.length_map, bop_i64_lss, bv_bool, hlt, decide_true, if_true, nv_nat, bdS_some, get_ints, hy, Option.map_some, intV, List.getElem?_cons_zero, bop_i64_eql, hne, Bool.false_eq_true, if_false, bop_i64_add, step64 (show k < lim by omega)]
      exact place_loop 1 l b x u N (.inl rfl) hl d (k + 1) M (by omega) (by omega) (fun j hj => by
        rcases Nat.lt_or_ge j k with h1 | h1
        · exact hno j h1
        · obtain rfl : j = k := by omega
          rw [hy]
          intro h
          cases h
          exact hyx rfl)
theorem place14_call (n z : Nat) (l : List Int) (b : Bool) (x : Int) (h : Heap) (hz : z = 1 ∨ l = []) (hl : l.length < lim) (hn : l.length + 2 ≤ n) : call n 54 [.sl z (l.map (intV .i64)) b, .int .i64 x] h = some (.ret [.int .i64 (Rp.place l x)], h) := by
  obtain ⟨N, rfl⟩ : ∃ N, n = N + 1 := ⟨n - 1, by omega⟩
  rw [lPlace14_eq]
  unfold lPlace14
  have := place_loop z l b x (.int .i64 0) N hz hl l.length 0 N (by omega) (by omega) (fun j hj => by omega)
  refine (congrArg (fun o => gcw _ o h) this).trans ?_
  exact gcw_ret (by simp) (by simp)
theorem place_geq (l : List Int) (k : Nat) : (Rp.place l (k : Int) ≥ 0) ↔ (k : Int) ∈ l := by
  have := place_neg l (k : Int)
  constructor
  · intro h; exact Classical.byContradiction fun hc => by have := this.2 hc; omega
  · intro h; exact Classical.byContradiction fun hc => this.1 (by omega) h
/-- all that was told ahead of it is done, from somewhere on -/
def FreeP (l : List Sp) (P : List Int) (k j : Nat) (x : Sp) : Prop := ∀ (i : Nat) y, j ≤ i → l[i]? = some y → i ≠ k → (i : Int) ∉ P → before y x = false
/-- the inner loop -/
theorem free20 {o m : Int} {l : List Sp} {z : Nat} {b : Bool} {N : Nat} {P : List Int} {z3 : Nat} {b3 : Bool} {x4 : V} {st6a st6b : V} {k : Nat} {x : Sp} (next8 : List V → Heap → Option (Res × Heap)) (hz : z = 8 ∨ l = []) (hl : l.length ≤ 8) (hz3 : z3 = 1 ∨ P = []) (hP : P.length ≤ 8) (hN : 12 ≤ N) (hx : l[k]? = some x) : ∀ (d j M : Nat) (is : Bool), j + d = l.length → d < M →
    ∃ r, loopx M (lTry20_l17 N o m (.sl z (l.map Sp.v) b) (.sl z3 (P.map (intV .i64)) b3) x4 [st6a, st6b, .int .i64 (k : Int)] next8) [.bool is, .int .i64 (j : Int)] [] =
      lTry20_l17 N o m (.sl z (l.map Sp.v) b) (.sl z3 (P.map (intV .i64)) b3) x4 [st6a, st6b, .int .i64 (k : Int)] next8 [.bool r, .int .i64 (l.length : Int)] [] (fun _ _ => none) ∧ (r = true ↔ is = true ∧ FreeP l P k j x)
  | d, j, 0, is, _, h => by omega
  | 0, j, M + 1, is, hj, _ => by
    obtain rfl : j = l.length := by omega
    refine ⟨is, ?_, ⟨fun h => ⟨h, fun i y hi hy => by have := (List.getElem?_eq_some_iff.1 hy).1; omega⟩, fun h => h.1⟩⟩
    rw [loopx_succ]
    simp only [lTry20_l17, gv, List.getD_cons_succ, List.getD_cons_zero, slc_sl, bd_some, List.length_map, bop_i64_lss, bv_bool, Int.lt_irrefl, decide_false, Bool.false_eq_true, if_false]
  | d + 1, j, M + 1, is, hj, hM => by
    have hlt : (j : Int) < (l.length : Int) := by omega
    obtain ⟨y, hy⟩ : ∃ y, l[j]? = some y := ⟨_, List.getElem?_eq_getElem (by omega)⟩
    obtain rfl : z = 8 := hz.resolve_right (by rintro rfl; simp at hy)
    have hst := step64 (show j < lim by unfold lim; omega)
    have hstep : ∀ (is' : Bool), (is' = true ↔ is = true ∧ (j ≠ k → (j : Int) ∉ P → before y x = false)) → ∀ r, (r = true ↔ is' = true ∧ FreeP l P k (j + 1) x) → (r = true ↔ is = true ∧ FreeP l P k j x) := fun is' h1 r h2 => by
      rw [h2, h1]
      constructor
      · rintro ⟨⟨h3, h4⟩, h5⟩
        refine ⟨h3, fun i y' hi hy' hne hm => ?_⟩
        rcases Nat.lt_or_ge j i with h6 | h6
        · exact h5 i y' h6 hy' hne hm
        · obtain rfl : i = j := by omega
          rw [hy] at hy'; cases hy'
          exact h4 hne hm
      · rintro ⟨h3, h4⟩
        exact ⟨⟨h3, fun hne hm => h4 j y (Nat.le_refl _) hy hne hm⟩, fun i y' hi hy' hne hm => h4 i y' (by omega) hy' hne hm⟩
    rw [loopx_succ]
    cases hisc : is with
    | false =>
      subst hisc
      obtain ⟨r, hr, hri⟩ := free20 (o := o) (m := m) (b := b) (b3 := b3) (x4 := x4) (st6a := st6a) (st6b := st6b) next8 (.inl rfl) hl hz3 hP hN hx d (j + 1) M false (by omega) (by omega)
      refine ⟨r, Eq.trans ?_ hr, hstep false (by simp) r hri⟩
      simp only [lTry20_l17, gv, List.getD_cons_succ, List.getD_cons_zero, slc_sl, bd_some, List.length_map, bop_i64_lss, bv_bool, hlt, decide_true, if_true, Bool.false_eq_true, if_false, bop_i64_add, hst]
    | true =>
      subst hisc
      by_cases hjk : j = k
      · subst hjk
        obtain ⟨r, hr, hri⟩ := free20 (o := o) (m := m) (b := b) (b3 := b3) (x4 := x4) (st6a := st6a) (st6b := st6b) next8 (.inl rfl) hl hz3 hP hN hx d (j + 1) M true (by omega) (by omega)
        refine ⟨r, Eq.trans ?_ hr, hstep true (by simp) r hri⟩
        simp only [lTry20_l17, gv, List.getD_cons_succ, List.getD_cons_zero, slc_sl, bd_some, List.length_map, bop_i64_lss, bv_bool, hlt, decide_true, if_true, bop_i64_eql, beq_self_eq_true, bop_i64_add, hst]
      · have hne : ((j : Int) == (k : Int)) = false := by rw [beq_eq_false_iff_ne]; omega
        have hpl := place14_call N z3 P b3 (j : Int) [] hz3 (by unfold lim; omega) (by omega)
        by_cases hm : (j : Int) ∈ P
        · have hge := (place_geq P j).2 hm
          obtain ⟨r, hr, hri⟩ := free20 (o := o) (m := m) (b := b) (b3 := b3) (x4 := x4) (st6a := st6a) (st6b := st6b) next8 (.inl rfl) hl hz3 hP hN hx d (j + 1) M true (by omega) (by omega)
          refine ⟨r, Eq.trans ?_ hr, hstep true (by simp [hm]) r hri⟩
          simp only [lTry20_l17, gv, List.getD_cons_succ, List.getD_cons_zero, slc_sl, bd_some, List.length_map, bop_i64_lss, bv_bool, hlt, decide_true, if_true, bop_i64_eql, hne, Bool.false_eq_true, if_false, hpl, cl_ret, one1_one, bop_i64_geq, hge, bop_i64_add, hst]
        · have hge : ¬ Rp.place P (j : Int) ≥ 0 := fun h => hm ((place_geq P j).1 h)
          obtain ⟨N', rfl⟩ : ∃ N', N = N' + 1 := ⟨N - 1, by omega⟩
          obtain ⟨r, hr, hri⟩ := free20 (o := o) (m := m) (b := b) (b3 := b3) (x4 := x4) (st6a := st6a) (st6b := st6b) next8 (.inl rfl) hl hz3 hP hN hx d (j + 1) M (!(before y x)) (by omega) (by omega)
          refine ⟨r, Eq.trans ?_ hr, hstep (!(before y x)) (by simp [hm, hjk]) r hri⟩
          simp only [lTry20_l17, gv, List.getD_cons_succ, List.getD_cons_zero, slc_sl, slk_sl, bd_some, List.length_map, bop_i64_lss, bv_bool, hlt, decide_true, if_true, bop_i64_eql, hne, Bool.false_eq_true, if_false, hpl, cl_ret, one1_one, bop_i64_geq, hge, decide_false, nv_nat, bdS_some, get_sps, hy, hx, Option.map_some, List.drop_zero, spv_all, before19_call, uop_not, bop_i64_add, hst]

/-- the document's search answers what it should, where so many are left -/
def T20 (o m : Int) (l : List Sp) (SP : V) (r : Nat) : Prop := ∀ (n : Nat) (P s : List Int) (z3 : Nat) (b3 : Bool) (z4 : Nat) (b4 : Bool), Pre o m l P → s = itemsOf o m l P → remain l.length P = r → P.length + r ≤ 8 → (z3 = 1 ∨ P = []) → (z4 = 1 ∨ s = []) → r + 20 ≤ n →
  ∃ ok res, call n 57 [.int .u8 o, .int .i64 m, SP, .sl z3 (P.map (intV .i64)) b3, .sl z4 (s.map (intV .i32)) b4] [] = some (.ret [res, .bool ok], []) ∧ V.free res = true ∧ (ok = true ↔ ∃ rest, Goes o m l P s rest)
theorem items_len (o m : Int) (l : List Sp) (P : List Int) : (itemsOf o m l P).length ≤ P.length := by
  have := (run_len o m (P.map (opAt l)) []).1
  unfold itemsOf
  simpa using this
theorem loop20 {o m : Int} {l : List Sp} {z : Nat} {b : Bool} {r : Nat} (hz : z = 8 ∨ l = []) (hl : l.length ≤ 8) (IH : ∀ r' < r, T20 o m l (.sl z (l.map Sp.v) b) r') {N : Nat} {P s : List Int} {z3 : Nat} {b3 : Bool} {z4 : Nat} {b4 : Bool} (u w : V)
    (hp : Pre o m l P) (hs : s = itemsOf o m l P) (hr : remain l.length P = r) (hP : P.length + r ≤ 8) (hz3 : z3 = 1 ∨ P = []) (hz4 : z4 = 1 ∨ s = []) (hN : r + 19 ≤ N) (hna : ¬ All l P) : ∀ (d k M : Nat), k + d = l.length → d < M →
    (∀ j < k, ¬ ∃ x rest, Rp.Next o m l P s j x ∧ Goes o m l (P ++ [(j : Int)]) (apply o m s x.op).1 rest) →
    ∃ ok res, loopx M (lTry20_l5 N o m (.sl z (l.map Sp.v) b) (.sl z3 (P.map (intV .i64)) b3) (.sl z4 (s.map (intV .i32)) b4)) [u, w, .int .i64 (k : Int)] [] = some (.ret [res, .bool ok], []) ∧ V.free res = true ∧ (ok = true ↔ ∃ rest, Goes o m l P s rest)
  | d, k, 0, _, h, _ => by omega
  | 0, k, M + 1, hk, _, hno => by
    obtain rfl : k = l.length := by omega
    have hng : ¬ ∃ rest, Goes o m l P s rest := by
      rintro ⟨rest, hg⟩
      cases hg with
      | done h => exact hna h
      | step hn hg => exact hno _ (List.getElem?_eq_some_iff.1 hn.at_).1 ⟨_, _, hn, hg⟩
    refine ⟨false, .sl 1 [] false, ?_, rfl, fun h => (by cases h), fun h => absurd h hng⟩
    rw [loopx_succ]
    simp only [lTry20_l5, gv, List.getD_cons_succ, List.getD_cons_zero, slc_sl, bd_some, List.length_map, bop_i64_lss, bv_bool, Int.lt_irrefl, decide_false, Bool.false_eq_true, if_false]
  | d + 1, k, M + 1, hk, hM, hno => by
    have hlt : (k : Int) < (l.length : Int) := by omega
    have hkl : k < l.length := by omega
    obtain ⟨x, hx⟩ : ∃ x, l[k]? = some x := ⟨_, List.getElem?_eq_getElem hkl⟩
    obtain rfl : z = 8 := hz.resolve_right (by rintro rfl; simp at hx)
    have hsl : s.length ≤ P.length := by rw [hs]; exact items_len o m l P
    have hst := step64 (show k < lim by unfold lim; omega)
    have hnext : (¬ ∃ x rest, Rp.Next o m l P s k x ∧ Goes o m l (P ++ [(k : Int)]) (apply o m s x.op).1 rest) → ∀ j < k + 1, ¬ ∃ x rest, Rp.Next o m l P s j x ∧ Goes o m l (P ++ [(j : Int)]) (apply o m s x.op).1 rest := fun h j hj => by
      rcases Nat.lt_or_ge j k with h' | h'
      · exact hno j h'
      · obtain rfl : j = k := by omega
        exact h
    have hgo := fun h => loop20 (b3 := b3) (b4 := b4) (.inl rfl) hl IH u w hp hs hr hP hz3 hz4 hN hna d (k + 1) M (by omega) (by omega) (hnext h)
    have hpl := place14_call N z3 P b3 (k : Int) [] hz3 (by unfold lim; omega) (by omega)
    have hpd : decide (Rp.place P (k : Int) < 0) = true ↔ (k : Int) ∉ P := by rw [decide_eq_true_eq]; exact place_neg P _
    obtain ⟨fr, hfr, hfri⟩ := free20 (o := o) (m := m) (b := b) (N := N) (b3 := b3) (x4 := .sl z4 (s.map (intV .i32)) b4) (st6a := u) (st6b := w) (loopx M (lTry20_l5 N o m (.sl 8 (l.map Sp.v) b) (.sl z3 (P.map (intV .i64)) b3) (.sl z4 (s.map (intV .i32)) b4))) (.inl rfl) hl hz3 (by omega) (by omega) hx l.length 0 N (decide (Rp.place P (k : Int) < 0)) (by omega) (by omega)
    rw [hpd] at hfri
    rw [loopx_succ]
    have hhead : ∀ nx, lTry20_l5 N o m (.sl 8 (l.map Sp.v) b) (.sl z3 (P.map (intV .i64)) b3) (.sl z4 (s.map (intV .i32)) b4) [u, w, .int .i64 (k : Int)] [] nx =
        loopx N (lTry20_l17 N o m (.sl 8 (l.map Sp.v) b) (.sl z3 (P.map (intV .i64)) b3) (.sl z4 (s.map (intV .i32)) b4) [u, w, .int .i64 (k : Int)] nx) [.bool (decide (Rp.place P (k : Int) < 0)), .int .i64 ((0 : Nat) : Int)] [] := fun nx => by
      simp only [lTry20_l5, gv, List.getD_cons_succ, List.getD_cons_zero, slc_sl, bd_some, List.length_map, bop_i64_lss, bv_bool, hlt, decide_true, if_true, hpl, cl_ret, one1_one]
      rfl
    rw [hhead, hfr]
    have hop2 : (List.take 2 (List.drop 2 (Sp.v x))) = [V.int .u8 x.op.k, .int .i32 x.op.v] := rfl
    obtain ⟨N', rfl⟩ : ∃ N', N = N' + 3 := ⟨N - 3, by omega⟩
    obtain ⟨vs, hA, z5, b5, rfl, hz5⟩ := apply8_call N' m z4 s b4 x.op.k x.op.v [] o hz4 (by unfold lim; omega) (by omega)
    simp only [lTry20_l17, gv, List.getD_cons_succ, List.getD_cons_zero, slc_sl, bd_some, List.length_map, bop_i64_lss, bv_bool, Int.lt_irrefl, decide_false, Bool.false_eq_true, if_false, uop_not, bop_i64_add, hst, nv_nat, bdS_some, slk_sl, if_true, get_sps, hx, Option.map_some, hop2, hA, cl_ret, List.getElem?_cons_zero, List.getElem?_cons_succ, V.cells, List.length_cons, List.length_nil, Nat.le_refl, spv_to, bop_i64_geq, setRes, spv_res, List.drop_zero]
    cases hfr' : fr with
    | false =>
      simp only [Bool.not_false, if_true]
      refine hgo ?_
      rintro ⟨x', rest, hn, _⟩
      have hxx := hn.at_
      rw [hx] at hxx; cases hxx
      have := hfri.2 ⟨hn.new, fun i y _ hy hne hm => hn.free i y hy hne hm⟩
      rw [hfr'] at this; cases this
    | true =>
      have hfr2 := hfri.1 hfr'
      simp only [Bool.not_true, Bool.false_eq_true, if_false]
      by_cases htl : 0 ≤ x.to → (apply o m s x.op).2 = x.res
      · have hn : Rp.Next o m l P s k x := ⟨hx, hfr2.1, fun i y hy hne hm => hfr2.2 i y (Nat.zero_le _) hy hne hm, htl⟩
        have hrem := remain_snoc (n := l.length) hkl hfr2.1
        have hpre : Pre o m l (P ++ [(k : Int)]) := hp.snoc (by rw [← hs]; exact hn)
        obtain ⟨ok, res, hcall, hfree, hiff⟩ := IH (remain l.length (P ++ [(k : Int)])) (by omega) (N' + 3) (P ++ [(k : Int)]) (apply o m s x.op).1 1 false z5 b5 hpre (by rw [items_snoc, opAt_of hx, hs]) rfl (by rw [List.length_append, List.length_singleton]; omega) (.inl rfl) hz5 (by omega)
        have hcond : (True ∧ (z3 = 1 ∨ (P.map (intV .i64)).isEmpty = true)) := ⟨trivial, hz3.imp id (fun h => by rw [h]; rfl)⟩
        have ha1 : app 3 1 (.own 3 1 []) (P.map (intV .i64)) = some (P.map (intV .i64)) := by
          have := app_ints2 3 .i64 [] P (by simp; unfold lim; omega)
          simpa using this
        have ha2 := app_ints 3 .i64 P (k : Int) (by unfold lim; omega)
        have hfin : ∃ ok' res', (if ok = true then some (Res.ret [res, V.bool true], []) else
            loopx M (lTry20_l5 (N' + 3) o m (.sl 8 (l.map Sp.v) b) (.sl z3 (P.map (intV .i64)) b3) (.sl z4 (s.map (intV .i32)) b4)) [u, w, .int .i64 ((k + 1 : Nat) : Int)] []) = some (Res.ret [res', V.bool ok'], ([] : Heap)) ∧ V.free res' = true ∧ (ok' = true ↔ ∃ rest, Goes o m l P s rest) := by
          cases hok : ok with
          | true =>
            rw [if_pos rfl]
            obtain ⟨rest, hg⟩ := hiff.1 hok
            exact ⟨true, res, rfl, hfree, fun _ => ⟨_, .step hn hg⟩, fun _ => rfl⟩
          | false =>
            rw [if_neg (by simp)]
            refine hgo ?_
            rintro ⟨x', rest, hn', hg⟩
            have hxx := hn'.at_
            rw [hx] at hxx; cases hxx
            have := hiff.2 ⟨rest, hg⟩
            rw [hok] at this; cases this
        have e1 : (apply o m s ⟨x.op.k, x.op.v⟩) = apply o m s x.op := rfl
        by_cases ht : 0 ≤ x.to
        · have ht' : x.to ≥ 0 := ht
          have hbn : bop prog .neq 32 (V.agg (List.take 2 [V.int .u8 (apply o m s ⟨x.op.k, x.op.v⟩).2.c, V.int .i32 (apply o m s ⟨x.op.k, x.op.v⟩).2.v])) (V.agg [V.int .u8 x.res.c, V.int .i32 x.res.v]) = some (.bool false) := (bop_res _ _).trans (by rw [show decide ((apply o m s x.op).2 ≠ x.res) = false by simp [htl ht]])
          simp only [ht', decide_true, if_true, hbn, bd_some, bv_bool, Bool.false_eq_true, if_false]
          rw [if_pos hcond]
          simp only [ha1, bd_some, bsl_int, ha2, e1, hcall, cl_ret, List.getElem?_cons_zero, List.getElem?_cons_succ, bv_bool]
          exact hfin
        · have ht' : ¬ x.to ≥ 0 := ht
          simp only [ht', decide_false, Bool.false_eq_true, if_false]
          rw [if_pos hcond]
          simp only [ha1, bd_some, bsl_int, ha2, e1, hcall, cl_ret, List.getElem?_cons_zero, List.getElem?_cons_succ, bv_bool]
          exact hfin
      · have ht : 0 ≤ x.to := Classical.byContradiction fun h => htl fun h' => absurd h' h
        have hne : (apply o m s x.op).2 ≠ x.res := fun h => htl fun _ => h
        have ht' : x.to ≥ 0 := ht
        have hbn : bop prog .neq 32 (V.agg (List.take 2 [V.int .u8 (apply o m s ⟨x.op.k, x.op.v⟩).2.c, V.int .i32 (apply o m s ⟨x.op.k, x.op.v⟩).2.v])) (V.agg [V.int .u8 x.res.c, V.int .i32 x.res.v]) = some (.bool true) := (bop_res _ _).trans (by rw [show decide ((apply o m s x.op).2 ≠ x.res) = true by simp [hne]])
        simp only [ht', decide_true, if_true, hbn, bd_some, bv_bool]
        refine hgo ?_
        rintro ⟨x', rest, hn', _⟩
        have hxx := hn'.at_
        rw [hx] at hxx; cases hxx
        exact hne (hn'.told ht)

theorem pre_done {o m : Int} {l : List Sp} {P : List Int} (hp : Pre o m l P) : Fit o m l P ↔ All l P := ⟨fun h => h.whole, fun h => .of_pre hp h⟩
theorem try20_ok {o m : Int} {l : List Sp} {z : Nat} {b : Bool} (hz : z = 8 ∨ l = []) (hl : l.length ≤ 8) : ∀ r, T20 o m l (.sl z (l.map Sp.v) b) r := fun r => by
  induction r using Nat.strongRecOn with
  | ind r IH =>
    intro n P s z3 b3 z4 b4 hp hs hr hP hz3 hz4 hn
    obtain ⟨N, rfl⟩ : ∃ N, n = N + 1 + 1 := ⟨n - 2, by omega⟩
    have hfr : V.free.freeL [.int .u8 o, .int .i64 m, .sl z (l.map Sp.v) b, .sl z3 (P.map (intV .i64)) b3, .sl z4 (s.map (intV .i32)) b4] = true := by simp
    have hfit := ref_fits_call N o m l P z z3 b b3 [] (by omega) (by omega)
    rw [lTry20_eq]
    suffices hk : ∃ ok res, lTry20 (N + 1) o m (.sl z (l.map Sp.v) b) (.sl z3 (P.map (intV .i64)) b3) (.sl z4 (s.map (intV .i32)) b4) = some (.ret [res, .bool ok], []) ∧ V.free res = true ∧ (ok = true ↔ ∃ rest, Goes o m l P s rest) by
      obtain ⟨ok, res, h1, h2, h3⟩ := hk
      exact ⟨ok, res, by rw [h1]; exact gcw_ret hfr (by simp [h2]), h2, h3⟩
    unfold lTry20
    simp only [hfit, cl_ret, one1_one, bv_bool]
    by_cases ha : All l P
    · have hd := (pre_done hp).2 ha
      simp only [hd, decide_true, if_true]
      exact ⟨true, _, rfl, by simp, fun _ => ⟨[], .done ha⟩, fun _ => rfl⟩
    · have hd : ¬ Fit o m l P := fun h => ha ((pre_done hp).1 h)
      simp only [hd, decide_false, Bool.false_eq_true, if_false]
      exact loop20 (b3 := b3) (b4 := b4) hz hl IH (.sl 1 [] false) (.bool false) hp hs hr hP hz3 hz4 (by omega) ha l.length 0 (N + 1) (by omega) (by omega) (fun j hj => by omega)
/-- reaperref20.Find -/
theorem find20_call (n : Nat) (o m : Int) (z : Nat) (l : List Sp) (b : Bool) (h : Heap) (hz : z = 8 ∨ l = []) (hn : 30 ≤ n) :
    ∃ ok res, call n 31 [.int .u8 o, .int .i64 m, .sl z (l.map Sp.v) b] h = some (.ret [res, .bool ok], h) ∧ (ok = true ↔ l.length ≤ 8 ∧ ∃ order, Fit o m l order) := by
  obtain ⟨N, rfl⟩ : ∃ N, n = N + 1 := ⟨n - 1, by omega⟩
  have hfr : V.free.freeL [.int .u8 o, .int .i64 m, .sl z (l.map Sp.v) b] = true := by simp
  rw [lFind20_eq]
  unfold lFind20
  simp only [slc_sl, bd_some, List.length_map]
  by_cases hl : 8 < l.length
  · have h8 : ((l.length : Int) > 8) := by omega
    simp only [h8, decide_true, if_true]
    exact ⟨false, _, gcw_ret hfr (by simp), fun h => (by cases h), fun h => by omega⟩
  · have h8 : ¬ ((l.length : Int) > 8) := by omega
    obtain ⟨ok, res, hcall, hfree, hiff⟩ := try20_ok (o := o) (m := m) (b := b) hz (by omega) l.length N [] [] 0 false 0 false (Pre.nil o m l) rfl (remain_nil _) (by simp; omega) (.inr rfl) (.inr rfl) (by omega)
    simp only [List.map_nil] at hcall
    simp only [h8, decide_false, Bool.false_eq_true, if_false, hcall, cl_ret, List.getElem?_cons_zero, List.getElem?_cons_succ, bd_some]
    refine ⟨ok, res, gcw_ret hfr (by simp [hfree]), ?_⟩
    rw [hiff, fit_goes]
    exact ⟨fun h => ⟨by omega, h⟩, fun h => h.2⟩
/-- search.Fits, of no order -/
theorem fits0_eq (n : Nat) (o m : Int) (l : List (List V)) (b : Bool) (h : Heap) : call (n + 2) 23 [.int .u8 o, .int .i64 m, .sl 8 l b, .sl 0 [] false] h = gcw [.int .u8 o, .int .i64 m, .sl 8 l b, .sl 0 [] false] (loopx (n + 1) (lFits_l57 (n + 1) l) [.bool false, .int .i64 ((0 : Nat) : Int)] [HB.map []]) h := by kernel_rfl
theorem fits0_call (n : Nat) (o m : Int) (l : List Sp) (x1 : Bool) (h : Heap) (hll : l.length < lim) (hN2 : l.length + 2 ≤ n) :
    ∃ b, call n 23 [.int .u8 o, .int .i64 m, .sl 8 (l.map Sp.v) x1, .sl 0 [] false] h = some (.ret [.bool b], h) ∧ (b = true ↔ Fit o m l []) := by
  obtain ⟨N, rfl⟩ : ∃ N, n = N + 2 := ⟨n - 2, by omega⟩
  obtain ⟨b, hb, hiff⟩ := fits_whole (N + 1) l (.bool false) [] hll l.length 0 (N + 1) (by omega) (by omega)
  refine ⟨b, ?_, hiff.trans (Iff.trans (show _ ↔ FitsFrom o m l [] [] [] from ⟨fun h i s hs => h i s (Nat.zero_le _) hs, fun h i s _ hs => h i s hs⟩) (fits_iff []))⟩
  rw [fits0_eq]
  refine (congrArg (fun o => gcw _ o h) hb).trans ?_
  exact gcw_ret (by simp) (by simp)
end Go.Proofs.Try
