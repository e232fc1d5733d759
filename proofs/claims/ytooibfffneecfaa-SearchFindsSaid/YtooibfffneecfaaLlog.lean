import Derived.Test.YtooibfffneecfaaLfi
import Derived.Test.YtooibfffneecfaaPlain4
/-! the law SearchLog: it returns true -/
set_option linter.unusedVariables false
set_option linter.unusedSimpArgs false
namespace Go.Proofs.Try
open Go.L Go.Rp
set_option maxRecDepth 100000

theorem ext_call {f : Nat} {e : List V → Option (List V)} (he : extS f = some e) (n : Nat) (args : List V) (h : Heap) : call (n + 1) f args h = match e args with | some vs => some (Res.ret vs, h) | none => none := by
  show L.callF prog keepS pureS (L.textDraws prog) extS (n + 1) f args h = _
  unfold L.callF
  rw [he]
  cases he' : e args <;> simp only [he']
/-- reaperlaw19.Spans -/
theorem spans_call (n : Nat) (o m : Int) (c d : List Int) (s1 s2 : Nat) (x1 x2 : Bool) (h : Heap) (hc : small c = true) (hd : small d = true) : call (n + 1) 14 [.int .u8 o, .int .i64 m, .sl s1 (c.map (intV .u8)) x1, .sl s2 (d.map (intV .u8)) x2] h =
    some (.ret [.sl 8 ((spans o m c d).map Sp.v) false, .sl 7 ((logs o m c).map Ap.v) false], h) := by
  have he : extS 14 = some extSpans := rfl
  have h1 : extSpans [.int .u8 o, .int .i64 m, .sl s1 (c.map (intV .u8)) x1, .sl s2 (d.map (intV .u8)) x2] = some [.sl 8 ((spans o m c d).map Sp.v) false, .sl 7 ((logs o m c).map Ap.v) false] := by
    simp only [extSpans, decAll_map (decI_v .u8), hc, hd, and_self, if_true]
  rw [ext_call he]
  simp only [h1]
theorem known_call : call 40 13 [] [] = some (.ret [.bool true], []) := known_true
theorem fits_nil (o m : Int) : call 40 23 [.int .u8 o, .int .i64 m, .sl 8 [] false, .sl 0 [] false] [] = some (.ret [.bool true], []) := by kernel_rfl
theorem bsl_int (x : Int) : bslV prog 23 1 [(0, .int .i64 x)] = some (1, [[.int .i64 x]]) := by kernel_rfl
theorem bop_rem {a b : Int} (h : b ≠ 0) : bop prog .rem 3 (.int .i64 a) (.int .i64 b) = some (.int .i64 (a.tmod b)) := by
  have : bop prog .rem 3 (.int .i64 a) (.int .i64 b) = if b = 0 then none else some (.int .i64 (a.tmod b)) := by kernel_rfl
  rw [this, if_neg h]
theorem bop_and (a b : Int) : ∃ c, bop prog .and 3 (.int .i64 a) (.int .i64 b) = some (.int .i64 c) ∧ -9223372036854775808 ≤ c ∧ c < 9223372036854775808 := by
  have : bop prog .and 3 (.int .i64 a) (.int .i64 b) = some (.int .i64 (IntKind.i64.wrap (BitVec.ofInt 64 a &&& BitVec.ofInt 64 b).toNat)) := by kernel_rfl
  refine ⟨_, this, ?_⟩
  rw [IntKind.wrap_i64]
  omega
theorem app_ints (e : Nat) (k : IntKind) (a : List Int) (x : Int) (h : a.length + 1 < lim) : app e 1 (.own e 1 (a.map (intV k))) [[.int k x]] = some ((a ++ [x]).map (intV k)) := by
  simp [app, h, intV]
theorem app_ints2 (e : Nat) (k : IntKind) (a b : List Int) (h : a.length + b.length < lim) : app e 1 (.own e 1 (a.map (intV k))) (b.map (intV k)) = some ((a ++ b).map (intV k)) := by
  simp [app, h]
/-- of an object of choices -/
theorem obj_of (a : Int) (h0 : 0 ≤ a) : ∃ o, IntKind.u8.wrap (1 + Int.tmod a 3) = o ∧ 1 ≤ o ∧ o ≤ 3 := by
  rw [Int.tmod_eq_emod_of_nonneg h0]
  have := Int.emod_nonneg a (show (3 : Int) ≠ 0 by decide)
  have := Int.emod_lt_of_pos a (show (0 : Int) < 3 by decide)
  refine ⟨_, rfl, ?_, ?_⟩ <;> rw [w8 (by omega) (by omega)] <;> omega

/-! what does not fit -/
theorem no_pending {o m : Int} {c : List Int} {i : Nat} {s : Sp} (h : (spans o m c [])[i]? = some s) : 0 ≤ s.to := by
  have hlt := (List.getElem?_eq_some_iff.1 h).1
  rw [spans_len] at hlt
  rw [spans_get hlt] at h
  cases h
  simp [spanAt]
  omega
theorem less_not {o m : Int} {c : List Int} {i : Nat} (hi : i < (spans o m c []).length) : ¬ Fit o m (spans o m c []) ((ordTo (spans o m c []).length).take i ++ (ordTo (spans o m c []).length).drop (i + 1)) := fun hf => by
  obtain ⟨s, hs⟩ : ∃ s, (spans o m c [])[i]? = some s := ⟨_, List.getElem?_eq_getElem hi⟩
  have hm := hf.whole i s hs (no_pending hs)
  rcases List.mem_append.1 hm with hm | hm
  · obtain ⟨k, hk⟩ := List.mem_iff_getElem?.1 hm
    rw [List.getElem?_take] at hk
    split at hk
    · obtain ⟨_, e⟩ := ordTo_get_some hk
      omega
    · cases hk
  · obtain ⟨k, hk⟩ := List.mem_iff_getElem?.1 hm
    rw [List.getElem?_drop] at hk
    obtain ⟨_, e⟩ := ordTo_get_some hk
    omega
theorem twice_not {o m : Int} {l : List Sp} {i : Nat} (hi : i < l.length) : ¬ Fit o m l (ordTo l.length ++ [(i : Int)]) := fun hf =>
  hf.once i l.length i hi (by rw [List.getElem?_append_left (by rw [ordTo_len]; exact hi)]; exact ordTo_get hi) (by rw [List.getElem?_append_right (by rw [ordTo_len]; omega), ordTo_len, Nat.sub_self]; rfl)
theorem far_not {o m : Int} {l : List Sp} {x : Int} (hx : x < 0 ∨ (l.length : Int) ≤ x) : ¬ Fit o m l (ordTo l.length ++ [x]) := fun hf => by
  have := hf.inr l.length x (by rw [List.getElem?_append_right (by rw [ordTo_len]; omega), ordTo_len, Nat.sub_self]; rfl)
  omega

section
variable (o m a3 a4 : Int) (c : List Int)
theorem log_loop (x0 x1 : Int) (ho : IntKind.u8.wrap (1 + Int.tmod x0 3) = o) (hm : IntKind.i64.wrap (1 + IntKind.i64.wrap (Int.tmod x1 5)) = m) (ho1 : 1 ≤ o) (hc : small c = true) (h3 : 0 ≤ a3) (h3b : a3 ≤ 255) : ∀ (d k M : Nat), k + d = (spans o m c []).length → d < M →
    loopx M (lawLog_l5 40 x0 x1 a3 a4 (.sl 8 ((spans o m c []).map Sp.v) false) (.sl 7 ((logs o m c).map Ap.v) false)) [.sl 1 ((ordTo k).map (intV .i64)) false, .int .i64 (k : Int)] [] = some (.ret [.bool true], [])
  | d, k, 0, _, h => by omega
  | d + 1, k, M + 1, hk, hM => by
    have hl : (spans o m c []).length ≤ 14 := by rw [spans_len]; exact done_len c
    have hll : (logs o m c).length = (spans o m c []).length := by rw [spans_len, logs_len]
    have e1 : (k : Int) < ((spans o m c []).length : Int) := by omega
    rw [loopx_succ]
    simp only [lawLog_l5, gv, List.getD_cons_succ, List.getD_cons_zero, slc_sl, bd_some, List.length_map, hll, bop_i64_lss, bv_bool, e1, decide_true, if_true, bsl_int, lsl, app_ints _ _ _ _ (show (ordTo k).length + 1 < lim by rw [ordTo_len]; unfold lim; omega), bop_i64_add, step64 (show k < lim by unfold lim; omega), ← ordTo_succ]
    exact log_loop x0 x1 ho hm ho1 hc h3 h3b d (k + 1) M (by omega) (by omega)
  | 0, k, M + 1, hk, hM => by
    have hl : (spans o m c []).length ≤ 14 := by rw [spans_len]; exact done_len c
    have hll : (logs o m c).length = (spans o m c []).length := by rw [spans_len, logs_len]
    have e1 : ¬ (k : Int) < ((spans o m c []).length : Int) := by omega
    obtain rfl : k = (spans o m c []).length := by omega
    have hop := spans_k (object := o) (m := m) (c := c) (d := []) (fun x hx => (small_len hc x hx).1)
    have hfit : ∀ (r : List Int) (x1 x2 : Bool), r.length ≤ 15 → ∃ b, call 40 23 [.int .u8 o, .int .i64 m, .sl 8 ((spans o m c []).map Sp.v) x1, .sl 1 (r.map (intV .i64)) x2] [] = some (.ret [.bool b], []) ∧ (b = true ↔ Fit o m (spans o m c []) r) := fun r x1 x2 hr =>
      fits_call 40 o m _ r x1 x2 [] (by omega) hop (by unfold lim; omega) (by unfold lim; omega) (by omega) (by omega)
    rw [loopx_succ]
    simp only [lawLog_l5, gv, List.getD_cons_succ, List.getD_cons_zero, slc_sl, bd_some, List.length_map, hll, bop_i64_lss, bv_bool, e1, decide_false, Bool.false_eq_true, if_false, lsl, ho, hm, known_call, cl_ret, one1_one, if_true]
    by_cases h0 : (spans o m c []).length = 0
    · have hnil : spans o m c [] = [] := List.eq_nil_of_length_eq_zero h0
      have hb : (((spans o m c []).length : Int) == 0) = true := by rw [h0]; rfl
      simp only [hb, if_true]
      simp only [hnil, List.map_nil, fits_nil, cl_ret, one1_one]
    · have hb : (((spans o m c []).length : Int) == 0) = false := by rw [beq_eq_false_iff_ne]; omega
      generalize hL : (spans o m c []).length = L at *
      have hw : IntKind.i64.wrap a3 = a3 := by rw [w64] <;> omega
      have hL0 : (L : Int) ≠ 0 := by omega
      obtain ⟨i, hi⟩ := Int.eq_ofNat_of_zero_le (show 0 ≤ Int.tmod a3 (L : Int) by rw [Int.tmod_eq_emod_of_nonneg h3]; exact Int.emod_nonneg _ hL0)
      have hiL : i < L := by
        have := Int.emod_lt_of_pos a3 (show (0 : Int) < L by omega)
        rw [Int.tmod_eq_emod_of_nonneg h3] at hi
        omega
      have hlen : (ordTo L).length = L := ordTo_len L
      have ht : L + 1 < lim := by unfold lim; omega
      have ht2 : L < lim := by omega
      have hiT : i < lim := by omega
      obtain ⟨v, hv, hv1, hv2⟩ := bop_and a4 1023
      have hfar : ∃ x, IntKind.i64.wrap ((L : Int) + (if 0 < v then v else 0)) = x ∧ (x < 0 ∨ (L : Int) ≤ x) := by
        refine ⟨_, rfl, ?_⟩
        rw [IntKind.wrap_i64]
        split <;> omega
      obtain ⟨x, hx, hxx⟩ := hfar
      have a1 := app_ints2 3 .i64 [] ((ordTo L).take i) (by rw [List.length_take]; simp; omega)
      have a2 := app_ints2 3 .i64 ((ordTo L).take i) ((ordTo L).drop (i + 1)) (by rw [List.length_take, List.length_drop]; omega)
      have a3' := app_ints2 3 .i64 [] (ordTo L) (by simp; omega)
      have a4' := app_ints 3 .i64 (ordTo L) (i : Int) (by omega)
      have a5 := app_ints 3 .i64 (ordTo L) x (by omega)
      simp only [List.map_nil, List.nil_append] at a1 a3'
      have l1 := less_not (o := o) (m := m) (c := c) (i := i) (by rw [hL]; exact hiL)
      have l2 := twice_not (o := o) (m := m) (l := spans o m c []) (i := i) (by rw [hL]; exact hiL)
      have l3 := far_not (o := o) (m := m) (l := spans o m c []) (x := x) (by rw [hL]; exact hxx)
      have l0 := own_fit (object := o) (m := m) (c := c) (d := []) (fun x hx => by cases hx)
      rw [hL] at l0 l1 l2 l3
      obtain ⟨b0, f0, g0⟩ := hfit (ordTo L) false false (by omega)
      obtain ⟨b1, f1, g1⟩ := hfit ((ordTo L).take i ++ (ordTo L).drop (i + 1)) false false (by rw [List.length_append, List.length_take, List.length_drop]; omega)
      obtain ⟨b2, f2, g2⟩ := hfit (ordTo L ++ [(i : Int)]) false false (by rw [List.length_append, hlen]; simp; omega)
      obtain ⟨b3, f3, g3⟩ := hfit (ordTo L ++ [x]) false false (by rw [List.length_append, hlen]; simp; omega)
      obtain rfl : b0 = true := g0.2 l0
      obtain rfl : b1 = false := by cases b1 with | false => rfl | true => exact absurd (g1.1 rfl) l1
      obtain rfl : b2 = false := by cases b2 with | false => rfl | true => exact absurd (g2.1 rfl) l2
      obtain rfl : b3 = false := by cases b3 with | false => rfl | true => exact absurd (g3.1 rfl) l3
      have hc1 : 0 ≤ i ∧ i ≤ L ∧ (1 = 1 ∨ ((ordTo L).map (intV .i64)).isEmpty = true) ∧ ((none : Option Nat) = none ∨ (none : Option Nat) = some i) ∧ true = true := ⟨by omega, by omega, .inl rfl, .inl rfl, rfl⟩
      have hc2 : i + 1 ≤ L ∧ L ≤ L ∧ (1 = 1 ∨ ((ordTo L).map (intV .i64)).isEmpty = true) ∧ ((none : Option Nat) = none ∨ (none : Option Nat) = some L) ∧ true = true := ⟨by omega, by omega, .inl rfl, .inl rfl, rfl⟩
      have hmm : mm true [.int .i64 0, .int .i64 v] = some (.int .i64 (if 0 < v then v else 0)) := by simp [mm]
      have htk : (ordTo L).take L = ordTo L := by rw [List.take_of_length_le (by omega)]
      simp only [hb, Bool.false_eq_true, if_false, hw, bop_rem hL0, bd_some, hi, nv_nat, bdS_some, List.length_map, hlen, hc1, if_true, List.drop_zero, ← List.map_take, ← List.map_drop, a1, bop_i64_add, step64 hiT, hc2, htk, a2, a3', bsl_int, a4', hv, hmm, hx, a5, f0, f1, f2, f3, cl_ret, one1_one, bv_bool, uop_not, Bool.not_false, known_call, true_and, true_or, and_true, and_self]
end

/-- SearchLog -/
theorem log_call (a0 a1 a3 a4 : Int) (c : List Int) (x : Bool) (h0 : 0 ≤ a0) (h1 : 0 ≤ a1) (hc : small c = true) (h3 : 0 ≤ a3) (h3b : a3 ≤ 255) :
    call 41 7 [.int .u8 a0, .int .u8 a1, .sl 1 (c.map (intV .u8)) x, .int .u8 a3, .int .i64 a4] [] = some (.ret [.bool true], []) := by
  obtain ⟨o, ho, ho1, ho2⟩ := obj_of a0 h0
  rw [lawLog_eq, lawLog, ho]
  have hs := spans_call 39 o (IntKind.i64.wrap (1 + IntKind.i64.wrap (Int.tmod a1 5))) c [] 1 0 x false [] hc rfl
  simp only [List.map_nil] at hs
  rw [hs]
  simp only [cl_ret, List.getElem?_cons_zero, List.getElem?_cons_succ, bd_some]
  have := log_loop o (IntKind.i64.wrap (1 + IntKind.i64.wrap (Int.tmod a1 5))) a3 a4 c a0 a1 ho rfl ho1 hc h3 h3b (spans o (IntKind.i64.wrap (1 + IntKind.i64.wrap (Int.tmod a1 5))) c []).length 0 40 (by omega) (by rw [spans_len]; have := done_len c; omega)
  refine (congrArg (fun o => gcw _ o []) this).trans ?_
  exact gcw_ret (by simp) (by simp)
end Go.Proofs.Try
