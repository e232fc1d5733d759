import Derived.Test.YtooibfffneecfaaLnone
import Derived.Test.YtooibfffneecfaaPlain8
/-! the law SearchShift: it returns true -/
set_option linter.unusedVariables false
set_option linter.unusedSimpArgs false
namespace Go.Proofs.Try
open Go.L Go.Rp
set_option maxRecDepth 100000
theorem app_sps (e : Nat) (a b : List Sp) (h : a.length + b.length < lim) : app e 8 (.own e 8 (a.map Sp.v)) (b.map Sp.v) = some ((a ++ b).map Sp.v) := by
  simp [app, h]
theorem app_sp1 (e : Nat) (a : List Sp) (x : Sp) (h : a.length + 1 < lim) : app e 8 (.own e 8 (a.map Sp.v)) [Sp.v x] = some ((a ++ [x]).map Sp.v) := app_sps e a [x] h
theorem spv_fr (y : Sp) : (Sp.v y)[6]? = some (.int .i64 y.fr) := rfl
theorem set_fr (y : Sp) (a : Int) : setR (Sp.v y) 6 [.int .i64 a] = Sp.v { y with fr := a } := rfl
theorem set_to (y : Sp) (a : Int) : setR (Sp.v y) 7 [.int .i64 a] = Sp.v { y with to := a } := rfl
theorem bld_pend (k v : Int) : bldV prog 36 [(0, .int .i64 9), (2, .agg [.int .u8 k, .int .i32 v]), (5, .int .i64 (-1))] = some (Sp.v ⟨9, 0, ⟨k, v⟩, ⟨0, 0⟩, 0, -1⟩) := by kernel_rfl
section
variable (o m x0 x1 by_ : Int) (op : O) (L : List Sp)
theorem shift_loop (ho : IntKind.u8.wrap (1 + Int.tmod x0 3) = o) (hm : IntKind.i64.wrap (1 + IntKind.i64.wrap (Int.tmod x1 5)) = m) (ho1 : 0 ≤ o) (hb : -32768 ≤ by_ ∧ by_ ≤ 32767) (hk : 0 ≤ op.k) (hv : -2147483648 ≤ op.v ∧ op.v ≤ 2147483647)
    (hLk : ∀ y ∈ L, 0 ≤ y.op.k) (hLv : ∀ y ∈ L, -2147483648 ≤ y.op.v ∧ y.op.v ≤ 2147483647) (hLs : ∀ y ∈ L, 0 ≤ y.fr ∧ y.fr ≤ 100 ∧ -1 ≤ y.to ∧ y.to ≤ 100) (n9 : Nat) (hn9 : n9 ≤ L.length) (hn5 : n9 ≤ 5) : ∀ (dd k M : Nat), k + dd = n9 → dd < M →
    loopx M (lawShift_l10 40 x0 x1 by_ (L.map Sp.v) n9) [.agg [.int .u8 op.k, .int .i32 op.v], .sl 8 (((L.take k).map (shift (40000 + by_))).map Sp.v) false, .sl 8 [] false, .int .i64 (k : Int)] [] = some (.ret [.bool true], [])
  | dd, k, 0, _, h => by omega
  | dd + 1, k, M + 1, hkk, hM => by
    have e1 : (k : Int) < (n9 : Int) := by omega
    obtain ⟨x, hx⟩ : ∃ x, L[k]? = some x := ⟨_, List.getElem?_eq_getElem (by omega)⟩
    have hxm := List.mem_of_getElem? hx
    have hxs := hLs x hxm
    have hgl : (List.take n9 (L.map Sp.v))[k]? = some (Sp.v x) := by rw [List.getElem?_take, if_pos (by omega), get_sps, hx]; rfl
    have hlen : min n9 L.length = n9 := by omega
    have w1 : IntKind.i64.wrap by_ = by_ := by rw [w64] <;> omega
    have w2 : IntKind.i64.wrap (40000 + by_) = 40000 + by_ := by rw [w64] <;> omega
    have w3 : IntKind.i64.wrap (x.fr + (40000 + by_)) = x.fr + (40000 + by_) := by rw [w64] <;> omega
    have w4 : IntKind.i64.wrap (x.to + (40000 + by_)) = x.to + (40000 + by_) := by rw [w64] <;> omega
    have htk : L.take (k + 1) = L.take k ++ [x] := by rw [List.take_add_one, hx]; rfl
    have hst := step64 (show k < lim by unfold lim; omega)
    have IH := shift_loop ho hm ho1 hb hk hv hLk hLv hLs n9 hn9 hn5 dd (k + 1) M (by omega) (by omega)
    rw [htk, List.map_append, List.map_cons, List.map_nil] at IH
    have happ : ∀ y : Sp, app 36 8 (.own 36 8 (((L.take k).map (shift (40000 + by_))).map Sp.v)) [Sp.v y] = some ((((L.take k).map (shift (40000 + by_))) ++ [y]).map Sp.v) := fun y => app_sp1 _ _ _ (by rw [List.length_map, List.length_take]; unfold lim; omega)
    rw [loopx_succ]
    by_cases ht : 0 ≤ x.to
    · have ht' : x.to ≥ 0 := ht
      have hsh : shift (40000 + by_) x = { x with fr := x.fr + (40000 + by_), to := x.to + (40000 + by_) } := by unfold shift; rw [if_pos ht]
      rw [hsh] at IH
      simp only [lawShift_l10, gv, List.getD_cons_succ, List.getD_cons_zero, List.drop_zero, List.length_take, List.length_map, hlen, bop_i64_lss, bd_some, bv_bool, e1, decide_true, if_true, nv_nat, bdS_some, hgl, spv_all, spv_len, Nat.le_refl, setSp, spv_fr, bop_i64_add, w1, w2, w3, V.cells, List.length_cons, List.length_nil, Nat.zero_add, set_fr, spv_to, bop_i64_geq, ht', w4, set_to, bsl_sp1, lsl, lcs, hst, happ, Nat.reduceAdd, Nat.reduceLeDiff, and_self]
      exact IH
    · have ht' : ¬ x.to ≥ 0 := ht
      have hsh : shift (40000 + by_) x = { x with fr := x.fr + (40000 + by_) } := by unfold shift; rw [if_neg ht]
      rw [hsh] at IH
      simp only [lawShift_l10, gv, List.getD_cons_succ, List.getD_cons_zero, List.drop_zero, List.length_take, List.length_map, hlen, bop_i64_lss, bd_some, bv_bool, e1, decide_true, if_true, nv_nat, bdS_some, hgl, spv_all, spv_len, Nat.le_refl, setSp, spv_fr, bop_i64_add, w1, w2, w3, V.cells, List.length_cons, List.length_nil, Nat.zero_add, set_fr, spv_to, bop_i64_geq, ht', decide_false, Bool.false_eq_true, if_false, bsl_sp1, lsl, lcs, hst, happ, Nat.reduceAdd, Nat.reduceLeDiff, and_self]
      exact IH
  | 0, k, M + 1, hkk, hM => by
    obtain rfl : k = n9 := by omega
    have hlen : min k L.length = k := by omega
    have hT : 0 ≤ 40000 + by_ := by omega
    have hlt : (L.take k).length = k := by rw [List.length_take]; omega
    have hk1 : ∀ y ∈ L.take k, 0 ≤ y.op.k := fun y hy => hLk y (List.mem_of_mem_take hy)
    have hv1 : ∀ y ∈ L.take k, -2147483648 ≤ y.op.v ∧ y.op.v ≤ 2147483647 := fun y hy => hLv y (List.mem_of_mem_take hy)
    have hk2 : ∀ y ∈ (L.take k).map (shift (40000 + by_)), 0 ≤ y.op.k := fun y hy => by obtain ⟨z, hz, rfl⟩ := List.mem_map.1 hy; exact hk1 z hz
    have hv2 : ∀ y ∈ (L.take k).map (shift (40000 + by_)), -2147483648 ≤ y.op.v ∧ y.op.v ≤ 2147483647 := fun y hy => by obtain ⟨z, hz, rfl⟩ := List.mem_map.1 hy; exact hv1 z hz
    have hk3 : ∀ y ∈ L.take k ++ [⟨9, 0, op, ⟨0, 0⟩, 0, -1⟩], 0 ≤ y.op.k := fun y hy => by
      rcases List.mem_append.1 hy with hy | hy
      · exact hk1 y hy
      · obtain rfl := List.mem_singleton.1 hy; exact hk
    have hv3 : ∀ y ∈ L.take k ++ [⟨9, 0, op, ⟨0, 0⟩, 0, -1⟩], -2147483648 ≤ y.op.v ∧ y.op.v ≤ 2147483647 := fun y hy => by
      rcases List.mem_append.1 hy with hy | hy
      · exact hv1 y hy
      · obtain rfl := List.mem_singleton.1 hy; exact hv
    obtain ⟨b1, r1, c1, -, y1, n1, -⟩ := find_call 40 o m 8 (L.take k) false [] (.inl rfl) ho1 hk1 hv1 (by omega)
    obtain ⟨b2, r2, c2, -, y2, n2, -⟩ := find_call 40 o m 8 ((L.take k).map (shift (40000 + by_))) false [] (.inl rfl) ho1 hk2 hv2 (by omega)
    obtain ⟨b3, r3, c3, -, y3, n3, -⟩ := find_call 40 o m 8 (L.take k ++ [⟨9, 0, op, ⟨0, 0⟩, 0, -1⟩]) false [] (.inl rfl) ho1 hk3 hv3 (by omega)
    have i1 : b1 = true ↔ ∃ order, Fit o m (L.take k) order := ⟨fun h => by obtain ⟨q, _, _, _, _, hf⟩ := y1 h; exact ⟨q, hf⟩, fun h => by cases b1 with | true => rfl | false => exact absurd h ((n1 rfl).2 (by omega))⟩
    have i2 : b2 = true ↔ ∃ order, Fit o m ((L.take k).map (shift (40000 + by_))) order := ⟨fun h => by obtain ⟨q, _, _, _, _, hf⟩ := y2 h; exact ⟨q, hf⟩, fun h => by cases b2 with | true => rfl | false => exact absurd h ((n2 rfl).2 (by rw [List.length_map]; omega))⟩
    have i3 : b3 = true ↔ ∃ order, Fit o m (L.take k ++ [⟨9, 0, op, ⟨0, 0⟩, 0, -1⟩]) order := ⟨fun h => by obtain ⟨q, _, _, _, _, hf⟩ := y3 h; exact ⟨q, hf⟩, fun h => by cases b3 with | true => rfl | false => exact absurd h ((n3 rfl).2 (by rw [List.length_append, List.length_singleton]; omega))⟩
    have h12 : b1 = b2 := by
      rw [Bool.eq_iff_iff, i1, i2]
      exact ⟨fun ⟨q, h⟩ => ⟨q, (fit_shift hT).2 h⟩, fun ⟨q, h⟩ => ⟨q, (fit_shift hT).1 h⟩⟩
    have h13 : b1 = true → b3 = true := fun h => by
      obtain ⟨q, hq⟩ := i1.1 h
      exact i3.2 ⟨q, fit_more (by simp) hq⟩
    have a1 : app 36 8 (.own 36 8 []) ((L.take k).map Sp.v) = some ((L.take k).map Sp.v) := by
      have := app_sps 36 [] (L.take k) (by rw [hlt]; unfold lim; simp; omega)
      simpa using this
    have a2 := app_sp1 36 (L.take k) ⟨9, 0, op, ⟨0, 0⟩, 0, -1⟩ (by rw [hlt]; unfold lim; omega)
    have htk2 : List.take 2 [V.int .u8 op.k, .int .i32 op.v] = [V.int .u8 op.k, .int .i32 op.v] := rfl
    subst h12
    rw [loopx_succ]
    simp only [lawShift_l10, gv, List.getD_cons_succ, List.getD_cons_zero, List.drop_zero, List.length_take, List.length_map, hlen, bop_i64_lss, bd_some, bv_bool, Int.lt_irrefl, decide_false, Bool.false_eq_true, if_false, lsl, lcs, ← List.map_take, a1, htk2, bld_pend, bsl_sp1, a2, ho, hm, c1, c2, c3, cl_ret, List.getElem?_cons_zero, List.getElem?_cons_succ, known_call, one1_one, if_true, bop_bool_eql, uop_not]
    cases hb1 : b1 with
    | false => simp
    | true => rw [h13 hb1]; simp
end
/-- SearchShift -/
theorem shift_law_call (x0 x1 a4 : Int) (op : O) (c d : List Int) (b2 b3 : Bool) (h0 : 0 ≤ x0) (hc : small c = true) (hd : small d = true) (hb : -32768 ≤ a4 ∧ a4 ≤ 32767) (hk : 0 ≤ op.k) (hv : -2147483648 ≤ op.v ∧ op.v ≤ 2147483647) :
    call 41 8 [.int .u8 x0, .int .u8 x1, .sl 1 (c.map (intV .u8)) b2, .sl 1 (d.map (intV .u8)) b3, .int .i16 a4, .agg [.int .u8 op.k, .int .i32 op.v]] [] = some (.ret [.bool true], []) := by
  obtain ⟨o, ho, ho1, ho2⟩ := obj_of x0 h0
  rw [lawShift_eq]
  have hs := spans_call 39 o (IntKind.i64.wrap (1 + IntKind.i64.wrap (Int.tmod x1 5))) c d 1 1 b2 b3 [] hc hd
  generalize hm : IntKind.i64.wrap (1 + IntKind.i64.wrap (Int.tmod x1 5)) = m at *
  have hsk := spans_k (object := o) (m := m) (c := c) (d := d) (fun x hx => (small_len hc x hx).1)
  have hsv := spans_v (object := o) (m := m) (c := c) (d := d) (small_len hc)
  have hss := spans_small (object := o) (m := m) (c := c) (d := d) (fun x hx => (small_len hd x hx).1)
  have hnv : nv (.int .i64 (if 5 < ((spans o m c d).length : Int) then 5 else ((spans o m c d).length : Int))) = some (min (spans o m c d).length 5) := by
    split
    · rw [show min (spans o m c d).length 5 = 5 by omega]; rfl
    · rw [show min (spans o m c d).length 5 = (spans o m c d).length by omega]; exact nv_nat _ _
  have hcond : (0 ≤ min (spans o m c d).length 5 ∧ min (spans o m c d).length 5 ≤ (spans o m c d).length ∧ (True ∨ ((spans o m c d).map Sp.v).isEmpty = true) ∧ (True ∨ none = some (min (spans o m c d).length 5)) ∧ True) := ⟨by omega, by omega, .inl trivial, .inl trivial, trivial⟩
  have key : lawShift 40 x0 x1 (c.map (intV .u8)) b2 (d.map (intV .u8)) b3 a4 op.k op.v = some (.ret [.bool true], []) := by
    unfold lawShift
    simp only [ho, hm, hs, cl_ret, List.getElem?_cons_zero, List.getElem?_cons_succ, bd_some, slc_sl, slk_sl, List.length_map, hnv, bdS_some]
    rw [if_pos hcond]
    have := shift_loop o m x0 x1 a4 op (spans o m c d) ho hm (by omega) hb hk hv hsk (fun y hy => by have := hsv y hy; omega) hss (min (spans o m c d).length 5) (by omega) (by omega) (min (spans o m c d).length 5) 0 40 (by omega) (by omega)
    simpa using this
  rw [key]
  exact gcw_ret (by simp) (by simp)
end Go.Proofs.Try
