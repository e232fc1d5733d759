import Derived.Test.YtooibfffneecfaaLlog
/-! the law SearchFits: it returns true -/
set_option linter.unusedVariables false
set_option linter.unusedSimpArgs false
namespace Go.Proofs.Try
open Go.L Go.Rp
set_option maxRecDepth 100000
open Classical in
/-- reaperref20.Fits -/
theorem ref_fits_call (n : Nat) (o m : Int) (l : List Sp) (r : List Int) (s1 s2 : Nat) (x1 x2 : Bool) (h : Heap) (hl : l.length ≤ 100000) (hr : r.length ≤ 100000) : call (n + 1) 30 [.int .u8 o, .int .i64 m, .sl s1 (l.map Sp.v) x1, .sl s2 (r.map (intV .i64)) x2] h = some (.ret [.bool (decide (Fit o m l r))], h) := by
  have he : extS 30 = some extFits := rfl
  rw [ext_call he]
  simp only [extFits, decAll_map decSp_v, decAll_map (decI_v .i64), hl, hr, and_self, if_true]
/-- fits: both answer the same -/
theorem lawfit_call (o m : Int) (l : List Sp) (r : List Int) (x1 x2 : Bool) (h : Heap) (ho : 0 ≤ o) (hop : ∀ y ∈ l, 0 ≤ y.op.k) (hl : l.length ≤ 30) (hr : r.length ≤ 30) : call 40 15 [.int .u8 o, .int .i64 m, .sl 8 (l.map Sp.v) x1, .sl 1 (r.map (intV .i64)) x2] h = some (.ret [.bool true], h) := by
  obtain ⟨b, hb, hiff⟩ := fits_call 39 o m l r x1 x2 h ho hop (by unfold lim; omega) (by unfold lim; omega) (by omega) (by omega)
  rw [lawFit_eq]
  simp only [lawFit, hb, cl_ret, one1_one, ref_fits_call 38 o m l r 8 1 x1 x2 h (by omega) (by omega), bop_bool_eql, bd_some]
  have : (b == @decide (Fit o m l r) (Classical.propDecidable _)) = true := by
    by_cases hf : Fit o m l r
    · rw [hiff.2 hf]; simp [hf]
    · cases hbb : b with
      | true => exact absurd (hiff.1 hbb) hf
      | false => simp [hf]
  rw [this]
theorem set_map (l : List Int) (i : Nat) (x : Int) : (l.map (intV .i64)).set i [.int .i64 x] = (l.set i x).map (intV .i64) := by
  rw [List.map_set]; rfl
section
variable (o m x0 x1 a4 : Int) (l : List Sp) (r : List Int) (lb rb : Bool) (c d : List Int)
theorem fits_law_loop (ho : IntKind.u8.wrap (1 + Int.tmod x0 3) = o) (hm : IntKind.i64.wrap (1 + IntKind.i64.wrap (Int.tmod a4 5)) = m) (ho1 : 1 ≤ o) (hx0 : 0 ≤ x0) (hop : ∀ y ∈ l, 0 ≤ y.op.k) (hl : l.length ≤ 30) (hr : r.length ≤ 30) (hc : small c = true) (h4 : 0 ≤ a4) (h4b : a4 ≤ 255) : ∀ (dd k M : Nat), k + dd = (spans o m c d).length → dd < M →
    loopx M (lawFits_l27 40 x0 x1 (l.map Sp.v) lb (r.map (intV .i64)) rb a4 (.sl 8 ((spans o m c d).map Sp.v) false)) [.sl 1 ((ordTo k).map (intV .i64)) false, .sl 1 ((ordTo k).map (intV .i64)) false, .int .i64 (k : Int)] [] = some (.ret [.bool true], [])
  | dd, k, 0, _, h => by omega
  | dd + 1, k, M + 1, hk, hM => by
    have hL : (spans o m c d).length ≤ 14 := by rw [spans_len]; exact done_len c
    have e1 : (k : Int) < ((spans o m c d).length : Int) := by omega
    rw [loopx_succ]
    simp only [lawFits_l27, gv, List.getD_cons_succ, List.getD_cons_zero, slc_sl, bd_some, List.length_map, bop_i64_lss, bv_bool, e1, decide_true, if_true, bsl_int, lsl, app_ints _ _ _ _ (show (ordTo k).length + 1 < lim by rw [ordTo_len]; unfold lim; omega), bop_i64_add, step64 (show k < lim by unfold lim; omega), ← ordTo_succ]
    exact fits_law_loop ho hm ho1 hx0 hop hl hr hc h4 h4b dd (k + 1) M (by omega) (by omega)
  | 0, k, M + 1, hk, hM => by
    have hL : (spans o m c d).length ≤ 14 := by rw [spans_len]; exact done_len c
    have e1 : ¬ (k : Int) < ((spans o m c d).length : Int) := by omega
    obtain rfl : k = (spans o m c d).length := by omega
    have hop2 := spans_k (object := o) (m := m) (c := c) (d := d) (fun x hx => (small_len hc x hx).1)
    have f1 := lawfit_call x0 x1 l r lb rb [] hx0 hop hl hr
    have f2 := fun (q : List Int) (hq : q.length ≤ 30) (b : Bool) => lawfit_call o m (spans o m c d) q false b [] (by omega) hop2 (by omega) hq
    have hw : IntKind.i64.wrap a4 = a4 := by rw [w64] <;> omega
    rw [loopx_succ]
    simp only [lawFits_l27, gv, List.getD_cons_succ, List.getD_cons_zero, slc_sl, bd_some, List.length_map, bop_i64_lss, bv_bool, Int.lt_irrefl, decide_false, Bool.false_eq_true, if_false, lsl, ho, hm, hw, f1, cl_ret, one1_one, if_true, ordTo_len]
    generalize hLL : (spans o m c d).length = L at *
    have hwL : IntKind.i64.wrap ((L : Int) + 1) = ((L + 1 : Nat) : Int) := step64 (show L < lim by unfold lim; omega)
    have hL1 : ((L + 1 : Nat) : Int) ≠ 0 := by omega
    obtain ⟨q, hq⟩ := Int.eq_ofNat_of_zero_le (show 0 ≤ Int.tmod a4 ((L + 1 : Nat) : Int) by rw [Int.tmod_eq_emod_of_nonneg h4]; exact Int.emod_nonneg _ hL1)
    have hqL : q ≤ L := by
      have := Int.emod_lt_of_pos a4 (show (0 : Int) < ((L + 1 : Nat) : Int) by omega)
      rw [Int.tmod_eq_emod_of_nonneg h4] at hq
      omega
    have hlo : (ordTo L).length = L := ordTo_len L
    have g1 := f2 (ordTo L) (by omega) false
    have g2 := f2 r hr rb
    have g3 := f2 ((ordTo L).take q) (by rw [List.length_take]; omega) false
    have hcq : 0 ≤ q ∧ q ≤ L ∧ (True ∨ ((ordTo L).map (intV .i64)).isEmpty = true) ∧ (True ∨ none = some q) ∧ True := ⟨by omega, hqL, .inl trivial, .inl trivial, trivial⟩
    by_cases h1 : 1 < L
    · have hd1 : decide ((L : Int) > 1) = true := by simp; omega
      have hw1 : IntKind.i64.wrap ((L : Int) - 1) = ((L - 1 : Nat) : Int) := by rw [w64] <;> omega
      have hL2 : ((L - 1 : Nat) : Int) ≠ 0 := by omega
      obtain ⟨i, hi⟩ := Int.eq_ofNat_of_zero_le (show 0 ≤ Int.tmod a4 ((L - 1 : Nat) : Int) by rw [Int.tmod_eq_emod_of_nonneg h4]; exact Int.emod_nonneg _ hL2)
      have hiL : i + 1 < L := by
        have := Int.emod_lt_of_pos a4 (show (0 : Int) < ((L - 1 : Nat) : Int) by omega)
        rw [Int.tmod_eq_emod_of_nonneg h4] at hi
        omega
      have hst := step64 (show i < lim by unfold lim; omega)
      have hset : ∀ a b : Int, setR (intV .i64 a) 0 [V.int .i64 b] = [.int .i64 b] := fun a b => rfl
      have hc1 : (True ∧ i < L ∧ (some 82 : Option Nat) ≠ some 18) := ⟨trivial, by omega, by decide⟩
      have hc2 : (True ∧ i + 1 < L ∧ (some 87 : Option Nat) ≠ some 18) := ⟨trivial, by omega, by decide⟩
      have he1 : (ordTo L)[i]? = some (i : Int) := ordTo_get (by omega)
      have he2 : ((ordTo L).set i ((i + 1 : Nat) : Int))[i + 1]? = some ((i + 1 : Nat) : Int) := by rw [List.getElem?_set_ne (by omega)]; exact ordTo_get hiL
      have g4 := f2 (((ordTo L).set i ((i + 1 : Nat) : Int)).set (i + 1) (i : Int)) (by simp; omega) false
      have h01 : (True ∧ 0 < 1 ∧ 0 + 1 ≤ 1) := ⟨trivial, by decide, by decide⟩
      simp only [hd1, if_true, hw1, bop_rem hL2, bd_some, hi, bop_i64_add, hst, nv_nat, bdS_some]
      rw [if_pos hc1]
      simp only [V.cells, List.length_cons, List.length_nil, Nat.zero_add, if_true, get_ints, he1, Option.map_some, bd_some, hset, set_map, nv_nat, bdS_some, List.length_map, List.length_set, hlo]
      simp only [Nat.le_refl, Nat.lt_add_one, and_self, if_true]
      rw [if_pos hc2]
      simp only [if_true, he2, Option.map_some, bd_some, hset, set_map, g1, g4, g2, cl_ret, one1_one, bv_bool, hwL, bop_rem hL1, hq, nv_nat, bdS_some, if_pos hcq, List.drop_zero, ← List.map_take, g3, hlo]
    · have hd1 : decide ((L : Int) > 1) = false := by simp; omega
      simp only [hd1, Bool.false_eq_true, if_false, if_true, g1, g2, cl_ret, one1_one, bv_bool, hwL, bop_rem hL1, bd_some, hq, nv_nat, bdS_some, if_pos hcq, List.drop_zero, ← List.map_take, g3, hlo]
end
/-- SearchFits -/
theorem fits_law_call (x0 x1 a4 : Int) (l : List Sp) (r c d : List Int) (b1 b2 b3 b4 : Bool) (h0 : 0 ≤ x0) (hop : ∀ y ∈ l, 0 ≤ y.op.k) (h4 : 0 ≤ a4) (h4b : a4 ≤ 255) (hc : small c = true) (hd : small d = true) :
    call 41 3 [.int .u8 x0, .int .i64 x1, .sl 8 (l.map Sp.v) b1, .sl 1 (r.map (intV .i64)) b2, .int .u8 a4, .sl 1 (c.map (intV .u8)) b3, .sl 1 (d.map (intV .u8)) b4] [] = some (.ret [.bool true], []) := by
  obtain ⟨o, ho, ho1, ho2⟩ := obj_of x0 h0
  rw [lawFits_eq]
  have key : lawFits 40 x0 x1 (l.map Sp.v) b1 (r.map (intV .i64)) b2 a4 (c.map (intV .u8)) b3 (d.map (intV .u8)) b4 = some (.ret [.bool true], []) := by
    unfold lawFits
    by_cases hl : ((l.map Sp.v).length : Int) > 30
    · simp only [hl, decide_true, if_true, known_call, cl_ret, one1_one]
    · by_cases hr : ((r.map (intV .i64)).length : Int) > 30
      · simp only [hl, hr, decide_false, decide_true, Bool.false_eq_true, if_false, if_true, known_call, cl_ret, one1_one]
      · by_cases hcd : IntKind.i64.wrap (((c.map (intV .u8)).length : Int) + ((d.map (intV .u8)).length : Int)) > 100
        · simp only [hl, hr, hcd, decide_false, decide_true, Bool.false_eq_true, if_false, if_true, known_call, cl_ret, one1_one]
        · have hs := spans_call 39 o (IntKind.i64.wrap (1 + IntKind.i64.wrap (Int.tmod a4 5))) c d 1 1 b3 b4 [] hc hd
          simp only [hl, hr, hcd, decide_false, Bool.false_eq_true, if_false, known_call, cl_ret, one1_one, uop_not, bd_some, bv_bool, Bool.not_true, ho, hs, List.getElem?_cons_zero, List.getElem?_cons_succ]
          rw [List.length_map] at hl hr
          exact fits_law_loop o (IntKind.i64.wrap (1 + IntKind.i64.wrap (Int.tmod a4 5))) x0 x1 a4 l r b1 b2 c d ho rfl ho1 h0 hop (by omega) (by omega) hc h4 h4b _ 0 40 (Nat.zero_add _) (by rw [spans_len]; have := done_len c; omega)
  rw [key]
  exact gcw_ret (by simp) (by simp)
end Go.Proofs.Try
