import Derived.Test.YtooibfffneecfaaLfind20
import Derived.Test.YtooibfffneecfaaLshift
/-! the law SearchFinds: it returns true -/
set_option linter.unusedVariables false
set_option linter.unusedSimpArgs false
namespace Go.Proofs.Try
open Go.L Go.Rp
set_option maxRecDepth 100000
theorem fit_len {o m : Int} {l : List Sp} {order : List Int} (h : Fit o m l order) : order.length ≤ l.length := by
  have key : ∀ i, i ≤ order.length → i + remain l.length (order.take i) = l.length := fun i => by
    induction i with
    | zero => intro _; rw [List.take_zero, remain_nil]; omega
    | succ i ih =>
      intro hi
      obtain ⟨a, ha⟩ : ∃ a, order[i]? = some a := ⟨_, List.getElem?_eq_getElem (by omega)⟩
      obtain ⟨h0, h1⟩ := h.inr i a ha
      obtain ⟨k, rfl⟩ := Int.eq_ofNat_of_zero_le h0
      have hnew : (k : Int) ∉ order.take i := fun hm => by
        obtain ⟨j, hj⟩ := List.mem_iff_getElem?.1 hm
        rw [List.getElem?_take] at hj
        split at hj
        · exact h.once j i k (by assumption) hj ha
        · cases hj
      have htk : order.take (i + 1) = order.take i ++ [(k : Int)] := by rw [List.take_add_one, ha]; rfl
      have := remain_snoc (n := l.length) (k := k) (by omega) hnew
      rw [htk]
      have := ih (by omega)
      omega
  have := key order.length (Nat.le_refl _)
  omega
/-- finds -/
theorem finds_call (o m : Int) (l : List Sp) (b : Bool) (h : Heap) (ho : 0 ≤ o) (hop : ∀ y ∈ l, 0 ≤ y.op.k) (hv : ∀ y ∈ l, -2147483648 ≤ y.op.v ∧ y.op.v ≤ 2147483647) (hl : l.length ≤ 20) :
    call 40 16 [.int .u8 o, .int .i64 m, .sl 8 (l.map Sp.v) b] h = some (.ret [.bool true], h) := by
  obtain ⟨b1, r1, c1, -, y1, n1, g1⟩ := find_call 39 o m 8 l b h (.inl rfl) ho hop hv (by omega)
  obtain ⟨b2, r2, c2, i2⟩ := find20_call 39 o m 8 l b h (.inl rfl) (by omega)
  have i1 : b1 = true ↔ l.length ≤ 8 ∧ ∃ order, Fit o m l order := by
    constructor
    · intro hb
      obtain ⟨q, _, _, _, _, hf⟩ := y1 hb
      refine ⟨?_, q, hf⟩
      rcases Nat.lt_or_ge 8 l.length with h8 | h8
      · rw [g1 h8] at hb; cases hb
      · exact h8
    · rintro ⟨h8, he⟩
      cases b1 with
      | true => rfl
      | false => exact absurd he ((n1 rfl).2 h8)
  have hbb : b1 = b2 := by rw [Bool.eq_iff_iff, i1, i2]
  subst hbb
  have heq : (b1 == b1) = true := by simp
  have hR : ∀ order : List Int, ∀ (zr : Nat) (br : Bool), Fit o m l order → order.length ≤ 20 → call 39 30 [.int .u8 o, .int .i64 m, .sl 8 (l.map Sp.v) b, .sl zr (order.map (intV .i64)) br] h = some (.ret [.bool true], h) := fun order zr br hf hol => by
    refine (ref_fits_call 38 o m l order 8 zr b br h (by omega) (by omega)).trans ?_
    simp [hf]
  have hS : ∀ order : List Int, ∀ (zr : Nat) (br : Bool), Fit o m l order → order.length ≤ 20 → (zr = 1 ∨ order = [] ∧ zr = 0 ∧ br = false) → call 39 23 [.int .u8 o, .int .i64 m, .sl 8 (l.map Sp.v) b, .sl zr (order.map (intV .i64)) br] h = some (.ret [.bool true], h) := fun order zr br hf hol hzr => by
    rcases hzr with rfl | ⟨rfl, rfl, rfl⟩
    · obtain ⟨q, hq, hi⟩ := fits_call 39 o m l order b br h ho hop (by unfold lim; omega) (by unfold lim; omega) (by omega) (by omega)
      obtain rfl := hi.2 hf
      exact hq
    · obtain ⟨q, hq, hi⟩ := fits0_call 39 o m l b h (by unfold lim; omega) (by omega)
      obtain rfl := hi.2 hf
      exact hq
  refine (lawFind_eq 39 o m (l.map Sp.v) b h).trans ?_
  unfold lawFind
  generalize call 39 = C at c1 c2 hR hS ⊢
  rw [c1, cl_ret]
  simp only [List.getElem?_cons_zero, List.getElem?_cons_succ, bd_some]
  rw [c2, cl_ret]
  simp only [List.getElem?_cons_zero, List.getElem?_cons_succ, bd_some, bop_bool_eql, heq, bv_bool, if_true, uop_not]
  cases hb1 : b1 with
  | false =>
    obtain ⟨rfl, -⟩ := n1 hb1
    have e0 : (((0 : Nat) : Int) == 0) = true := rfl
    simp only [Bool.not_false, if_true, slc_sl, bd_some, List.length_nil, e0]
  | true =>
    obtain ⟨order, zr, br, rfl, hzr, hf⟩ := y1 hb1
    have h8 := (i1.1 hb1).1
    have hol := fit_len hf
    simp only [Bool.not_true, Bool.false_eq_true, if_false, if_true]
    rw [hR order zr br hf (by omega), cl_ret, one1_one, bv_bool, if_pos rfl, hS order zr br hf (by omega) hzr, cl_ret, one1_one]
theorem set_rv (y : Sp) (a : Int) : setR (Sp.v y) 5 [.int .i32 a] = Sp.v { y with res := ⟨y.res.c, a⟩ } := rfl
theorem set_spv (l : List Sp) (i : Nat) (y : Sp) : (l.map Sp.v).set i (Sp.v y) = (l.set i y).map Sp.v := by rw [List.map_set]
theorem set_all {p : Sp → Prop} {l : List Sp} {i : Nat} {y : Sp} (h : ∀ x ∈ l, p x) (hy : p y) : ∀ x ∈ l.set i y, p x := fun x hx => by
  rcases List.mem_or_eq_of_mem_set hx with hx | rfl
  · exact h x hx
  · exact hy
theorem min_nv (a : Nat) (c : Nat) : nv (.int .i64 (if (c : Int) < (a : Int) then (c : Int) else (a : Int))) = some (min a c) := by
  split
  · rw [show min a c = c by omega]; exact nv_nat _ _
  · rw [show min a c = a by omega]; exact nv_nat _ _
/-- SearchFinds -/
theorem finds_law_call (x0 x1 a3 a6 v : Int) (l : List Sp) (c d : List Int) (b1 b2 b3 : Bool) (h0 : 0 ≤ x0) (hop : ∀ y ∈ l, 0 ≤ y.op.k) (hv : ∀ y ∈ l, -2147483648 ≤ y.op.v ∧ y.op.v ≤ 2147483647) (h6 : 0 ≤ a6) (h6b : a6 ≤ 255) (hvv : -2147483648 ≤ v ∧ v ≤ 2147483647) (hc : small c = true) (hd : small d = true) :
    call 41 4 [.int .u8 x0, .int .i64 x1, .sl 8 (l.map Sp.v) b1, .int .u8 a3, .sl 1 (c.map (intV .u8)) b2, .sl 1 (d.map (intV .u8)) b3, .int .u8 a6, .int .i32 v] [] = some (.ret [.bool true], []) := by
  obtain ⟨o, ho, ho1, ho2⟩ := obj_of x0 h0
  rw [lawFinds_eq]
  generalize hm : IntKind.i64.wrap (1 + IntKind.i64.wrap (Int.tmod a3 5)) = m at *
  have key : lawFinds 40 x0 x1 (l.map Sp.v) b1 a3 (c.map (intV .u8)) b2 (d.map (intV .u8)) b3 a6 v = some (.ret [.bool true], []) := by
    have hkn := known_call
    have hsp : call 40 14 [.int .u8 o, .int .i64 m, .sl 1 (c.map (intV .u8)) b2, .sl 1 (d.map (intV .u8)) b3] [] = some (.ret [.sl 8 ((spans o m c d).map Sp.v) false, .sl 7 ((logs o m c).map Ap.v) false], []) := spans_call 39 o m c d 1 1 b2 b3 [] hc hd
    have hfi := fun (o m : Int) (l : List Sp) (ho : 0 ≤ o) (hop : ∀ y ∈ l, 0 ≤ y.op.k) (hv : ∀ y ∈ l, -2147483648 ≤ y.op.v ∧ y.op.v ≤ 2147483647) (hl : l.length ≤ 20) => finds_call o m l false [] ho hop hv hl
    unfold lawFinds
    generalize call 40 = C at hkn hsp hfi ⊢
    by_cases hcd : IntKind.i64.wrap (((c.map (intV .u8)).length : Int) + ((d.map (intV .u8)).length : Int)) > 100
    · simp only [hcd, decide_true, if_true]
      rw [hkn, cl_ret, one1_one]
    · by_cases hl : ((l.map Sp.v).length : Int) > 20
      · simp only [hcd, hl, decide_true, decide_false, Bool.false_eq_true, if_false, if_true]
        rw [hkn, cl_ret, one1_one]
      · have hs := spans_call 39 o m c d 1 1 b2 b3 [] hc hd
        have hsk := spans_k (object := o) (m := m) (c := c) (d := d) (fun x hx => (small_len hc x hx).1)
        have hsv := spans_v (object := o) (m := m) (c := c) (d := d) (small_len hc)
        have hsv' : ∀ y ∈ spans o m c d, -2147483648 ≤ y.op.v ∧ y.op.v ≤ 2147483647 := fun y hy => by have := hsv y hy; omega
        have hL14 : (spans o m c d).length ≤ 14 := by rw [spans_len]; exact done_len c
        simp only [hcd, hl, decide_false, Bool.false_eq_true, if_false, ho, hm]
        rw [hsp, cl_ret]
        simp only [List.getElem?_cons_zero, List.getElem?_cons_succ, bd_some, slc_sl, slk_sl, List.length_map]
        generalize spans o m c d = L at *
        rw [List.length_map] at hl
        have e6 : nv (.int .i64 (if 6 < (L.length : Int) then 6 else (L.length : Int))) = some (min L.length 6) := min_nv L.length 6
        have e4 : nv (.int .i64 (if 4 < (l.length : Int) then 4 else (l.length : Int))) = some (min l.length 4) := min_nv l.length 4
        have c6 : (0 ≤ min L.length 6 ∧ min L.length 6 ≤ L.length ∧ (True ∨ (L.map Sp.v).isEmpty = true) ∧ (True ∨ (none : Option Nat) = some (min L.length 6)) ∧ True) := ⟨by omega, by omega, .inl trivial, .inl trivial, trivial⟩
        have c4 : (0 ≤ min l.length 4 ∧ min l.length 4 ≤ l.length ∧ (True ∨ (l.map Sp.v).isEmpty = true) ∧ (True ∨ (none : Option Nat) = some (min l.length 4)) ∧ True) := ⟨by omega, by omega, .inl trivial, .inl trivial, trivial⟩
        have a1 : app 36 8 (.own 36 8 []) ((L.take (min L.length 6)).map Sp.v) = some ((L.take (min L.length 6)).map Sp.v) := by
          have := app_sps 36 [] (L.take (min L.length 6)) (by rw [List.length_take]; unfold lim; simp; omega)
          simpa using this
        have f1 := hfi x0 x1 (l.take (min l.length 4)) h0 (fun y hy => hop y (List.mem_of_mem_take hy)) (fun y hy => hv y (List.mem_of_mem_take hy)) (by rw [List.length_take]; omega)
        have tk : ∀ y ∈ L.take (min L.length 6), 0 ≤ y.op.k := fun y hy => hsk y (List.mem_of_mem_take hy)
        have tv : ∀ y ∈ L.take (min L.length 6), -2147483648 ≤ y.op.v ∧ y.op.v ≤ 2147483647 := fun y hy => hsv' y (List.mem_of_mem_take hy)
        have tl : (L.take (min L.length 6)).length = min L.length 6 := by rw [List.length_take]; omega
        have f2 := hfi o m (L.take (min L.length 6)) (by omega) tk tv (by omega)
        simp only [e6, bdS_some]
        rw [if_pos c6]
        simp only [List.drop_zero, ← List.map_take, a1, bd_some, List.length_map, tl]
        by_cases hpos : 0 < min L.length 6
        · have hp' : ((min L.length 6 : Nat) : Int) > 0 := by omega
          generalize hK : min L.length 6 = K at *
          have hK0 : (K : Int) ≠ 0 := by omega
          generalize hT : L.take K = T at *
          have w6 : IntKind.i64.wrap a6 = a6 := by rw [w64] <;> omega
          obtain ⟨i, hi⟩ := Int.eq_ofNat_of_zero_le (show 0 ≤ Int.tmod a6 (K : Int) by rw [Int.tmod_eq_emod_of_nonneg h6]; exact Int.emod_nonneg _ hK0)
          have hiK : i < K := by
            have := Int.emod_lt_of_pos a6 (show (0 : Int) < K by omega)
            rw [Int.tmod_eq_emod_of_nonneg h6] at hi
            omega
          have h7 : 0 ≤ Int.tdiv a6 7 ∧ Int.tdiv a6 7 ≤ 255 := by rw [Int.tdiv_eq_ediv_of_nonneg h6]; omega
          have w7 : IntKind.u8.wrap (Int.tdiv a6 7) = Int.tdiv a6 7 := w8 h7.1 (by omega)
          have w7' : IntKind.i64.wrap (Int.tdiv a6 7) = Int.tdiv a6 7 := by rw [w64] <;> omega
          obtain ⟨j, hj⟩ := Int.eq_ofNat_of_zero_le (show 0 ≤ Int.tmod (Int.tdiv a6 7) (K : Int) by rw [Int.tmod_eq_emod_of_nonneg h7.1]; exact Int.emod_nonneg _ hK0)
          have hjK : j < K := by
            have := Int.emod_lt_of_pos (Int.tdiv a6 7) (show (0 : Int) < K by omega)
            rw [Int.tmod_eq_emod_of_nonneg h7.1] at hj
            omega
          obtain ⟨y, hy⟩ : ∃ y, T[i]? = some y := ⟨_, List.getElem?_eq_getElem (by omega)⟩
          have c1 : (True ∧ i < K ∧ (some 66 : Option Nat) ≠ some 20) := ⟨trivial, hiK, by decide⟩
          have c2 : (True ∧ j < K ∧ (some 79 : Option Nat) ≠ some 20) := ⟨trivial, hjK, by decide⟩
          obtain ⟨y2, hy2⟩ : ∃ y2, (T.set i { y with res := ⟨y.res.c, Int.tmod v 40⟩ })[j]? = some y2 := ⟨_, List.getElem?_eq_getElem (by rw [List.length_set]; omega)⟩
          have tk2 := set_all (p := fun y => 0 ≤ y.op.k) (i := i) (y := { y with res := ⟨y.res.c, Int.tmod v 40⟩ }) tk (tk y (List.mem_of_getElem? hy))
          have tv2 := set_all (p := fun y => -2147483648 ≤ y.op.v ∧ y.op.v ≤ 2147483647) (i := i) (y := { y with res := ⟨y.res.c, Int.tmod v 40⟩ }) tv (tv y (List.mem_of_getElem? hy))
          have tk3 := set_all (p := fun y => 0 ≤ y.op.k) (i := j) (y := { y2 with to := IntKind.i64.wrap (Int.tmod v 30) }) tk2 (tk2 y2 (List.mem_of_getElem? hy2))
          have tv3 := set_all (p := fun y => -2147483648 ≤ y.op.v ∧ y.op.v ≤ 2147483647) (i := j) (y := { y2 with to := IntKind.i64.wrap (Int.tmod v 30) }) tv2 (tv2 y2 (List.mem_of_getElem? hy2))
          have f3 := hfi o m ((T.set i { y with res := ⟨y.res.c, Int.tmod v 40⟩ }).set j { y2 with to := IntKind.i64.wrap (Int.tmod v 30) }) (by omega) tk3 tv3 (by rw [List.length_set, List.length_set]; omega)
          simp only [hp', decide_true, if_true, w6, bop_rem hK0, bd_some, hi, nv_nat, bdS_some]
          rw [if_pos c1]
          simp only [get_sps, hy, Option.map_some, bd_some, set_rv, set_spv, List.length_map, List.length_set, tl, w7, w7', bop_rem hK0, hj, nv_nat, bdS_some]
          rw [if_pos c2]
          simp only [hy2, Option.map_some, bd_some, e4, bdS_some]
          rw [if_pos c4]
          simp only [List.drop_zero, set_to, set_spv]
          rw [hkn, cl_ret, one1_one, bv_bool, if_pos rfl, f1, cl_ret, one1_one, bv_bool, if_pos rfl, f2, cl_ret, one1_one, bv_bool, if_pos rfl, f3, cl_ret, one1_one]
        · have hp' : ¬ ((min L.length 6 : Nat) : Int) > 0 := by omega
          simp only [hp', decide_false, Bool.false_eq_true, if_false, e4, bdS_some]
          rw [if_pos c4]
          rw [hkn, cl_ret, one1_one, bv_bool, if_pos rfl, f1, cl_ret, one1_one, bv_bool, if_pos rfl, f2, cl_ret, one1_one, bv_bool, if_pos rfl, f2, cl_ret, one1_one]
  rw [key]
  exact gcw_ret (by simp) (by simp)
end Go.Proofs.Try
