import Derived.Test.YtodgpfffnnlbhaaHlf
/-! the law HistoryFront: it returns true -/
set_option linter.unusedVariables false
set_option linter.unusedSimpArgs false
namespace Go.Proofs.Try
open Go.L Go.Rp
set_option maxRecDepth 100000

theorem front_law_call (x0 x1 x3 : Int) (c : List Int) (cb : Bool) (h0 : 0 ≤ x0 ∧ x0 < 256) (h1 : 0 ≤ x1 ∧ x1 < 256) (h3 : 0 ≤ x3 ∧ x3 < 256) (hc : small c = true) :
    call 101 12 [.int .u8 x0, .int .u8 x1, .sl 1 (c.map (intV .u8)) cb, .int .u8 x3] [] = some (.ret [.bool true], []) := by
  refine (lwFront_eq 100 x0 x1 (c.map (intV .u8)) cb x3 []).trans ?_
  obtain ⟨o, ho⟩ : ∃ o, o = 1 + x0 % 3 := ⟨_, rfl⟩
  obtain ⟨m, hm⟩ : ∃ m, m = 1 + x1 % 5 := ⟨_, rfl⟩
  obtain ⟨n, hn⟩ : ∃ n, n = (done c).length := ⟨_, rfl⟩
  have hn14 : n ≤ 14 := hn ▸ done_len c
  have hA : (spans o m c []).length = n := by rw [hn]; exact spansTo_len _ _ _ _ _
  have hB : (logs o m c).length = n := by rw [hn]; exact logTo_len _ _ _ _
  obtain ⟨k, hk⟩ : ∃ k : Nat, (k : Int) = x3 % ((n : Int) + 1) := ⟨(x3 % ((n : Int) + 1)).toNat, Int.toNat_of_nonneg (Int.emod_nonneg _ (by omega))⟩
  have hkn : k ≤ n := by have := Int.emod_lt_of_pos x3 (show (0 : Int) < (n : Int) + 1 by omega); omega
  have hF : Fine o m (done c) (spans o m c []) := spans_fine o m (done c) [] (by simp)
  have hv1 : verdict o m ((logs o m c).take k) (frontS (spans o m c []) k) = 0 := by
    have e : (logs o m c).take k = logTo o m (done c) k := log_take o m (done c) _ k (by omega)
    rw [e]
    refine (hF.front k).verdict (by omega) fun j s hj hs => ?_
    rw [frontS_get, if_neg (by omega)] at hs
    obtain ⟨t, _, rfl⟩ := Option.map_eq_some_iff.1 hs
    show (-1 : Int) < 0
    omega
  have hv2 : verdict o m (logs o m c) (frontS (spans o m c []) k) = 0 := by
    refine (hF.front k).verdict (Nat.le_refl _) fun j s hj hs => ?_
    have := (List.getElem?_eq_some_iff.1 hs).1
    rw [(hF.front k).len] at this
    omega
  have hpn : pendN (frontS (spans o m c []) k) = n - k := by
    have e : spans o m c [] = spansTo o m (done c) [] (done c).length := rfl
    rw [pend_front (e ▸ spans_nil_to o m (done c)) (by rw [hA]; exact hkn), hA]
  have hfl : (frontS (spans o m c []) k).length = n := by rw [(hF.front k).len, hn]
  have hop := log_kinds o m c hc
  have key : lwFront 100 x0 x1 (c.map (intV .u8)) cb x3 = some (.ret [.bool true], spH (spans o m c []) (logs o m c)) := by
    unfold lwFront
    rw [obj_ok h0.1 h0.2, most_ok h1.1 h1.2, ← ho, ← hm]
    have hs := spans_call 96 [] o m 0 c [] cb true (.inr rfl) hc (by simp) (by omega)
    rw [show (List.map (intV .u8) ([] : List Int)) = [] from rfl, ← hn] at hs
    have hs' : call 100 27 [.int .u8 o, .int .i64 m, .sl 1 (c.map (intV .u8)) cb, .sl 0 [] true] [] = some (.ret [.row 0 8 0 n, .row 1 7 0 n], spH (spans o m c []) (logs o m c)) := hs
    rw [hs', cl_ret]
    simp only [List.getElem?_cons_zero, List.getElem?_cons_succ, bd_some]
    rw [spH_b hB, bd_some]
    simp only [List.length_map, hB]
    have w1 : IntKind.i64.wrap x3 = x3 := w64 (by omega) (by omega)
    have w2 : IntKind.i64.wrap ((n : Int) + 1) = (n : Int) + 1 := w64 (by omega) (by omega)
    have e1 : x3.tmod ((n : Int) + 1) = (k : Int) := by rw [Int.tmod_eq_emod_of_nonneg h3.1, hk]
    rw [w1, w2, bop_i64_rem_any (by omega), e1, bd_some, spH_a hA, bdS_some]
    rw [if_pos (by exact ⟨trivial, .inl rfl⟩), app_span (by unfold lim; omega), bd_some]
    refine (congrArg (fun l => loopx 100 (lwFront_l9 100 x0 x1 (.row 1 7 0 n) (.int .i64 (k : Int))) [.sl 8 (List.map Sp.v l) false, .int .i64 (k : Int), .bool false] (spH (spans o m c []) (logs o m c))) (midS_none (spans o m c []) k).symm).trans ?_
    refine front_loop 100 (spH (spans o m c []) (logs o m c)) x0 x1 (.row 1 7 0 n) (.int .i64 (k : Int)) (spans o m c []) k (by unfold lim; omega) _ ?_ (n - k) k 100 false (by omega) (Nat.le_refl _) (by omega)
    intro next b
    have hlt : decide ((n : Int) < (n : Int)) = false := by simp
    have c1 := check_call 96 (spH (spans o m c []) (logs o m c)) o m ((logs o m c).take k) false (frontS (spans o m c []) k) false (by omega) (fun x hx => hop x (List.mem_of_mem_take hx)) (by rw [List.length_take]; unfold lim; omega) (by unfold lim; omega) (by rw [List.length_take]; omega) (by omega)
    have c2 := check_call 96 (spH (spans o m c []) (logs o m c)) o m (logs o m c) false (frontS (spans o m c []) k) false (by omega) hop (by unfold lim; omega) (by unfold lim; omega) (by omega) (by omega)
    have c3 := pending_call 99 (spH (spans o m c []) (logs o m c)) (frontS (spans o m c []) k) false (by unfold lim; omega) (by omega)
    rw [hv1] at c1
    rw [hv2] at c2
    rw [hpn] at c3
    have hvb := spH_vb (A := spans o m c []) (B := logs o m c) hB (Nat.le_refl n)
    rw [List.take_of_length_le (by omega)] at hvb
    unfold lwFront_l9
    rw [obj_ok h0.1 h0.2, most_ok h1.1 h1.2, ← ho, ← hm]
    simp only [gv, List.getD_cons_zero, List.getD_cons_succ, lsl, List.length_map, hA, hfl, bop_i64_lss, bd_some, bv_bool, hlt, Bool.false_eq_true, if_false]
    rw [known19_h, cl_ret, one1_one, bv_bool, if_pos rfl, lenP_row, bd_some]
    rw [show nv (V.int IntKind.i64 (k : Int)) = some k from nv_nat _ _, bdS_some, sliceP_row (Nat.zero_le _) (by omega), bd_some]
    simp only [Nat.zero_add, Nat.add_zero]
    rw [spH_vb hB hkn]
    simp only [evBsL, bd_some, List.append_nil]
    rw [c1, cl_ret, if_pos (simple_one_int _ _), one1_one, bop_errno_eql, bd_some, bv_bool, if_pos (by rfl)]
    rw [hvb]
    simp only [evBsL, bd_some, List.append_nil]
    rw [c2, cl_ret, if_pos (simple_one_int _ _), one1_one, bop_errno_eql, bd_some, bv_bool, if_pos (by rfl)]
    rw [c3, cl_ret, one1_one, spH_b hB, bd_some]
    simp only [List.length_map, hB, bop_i64_sub, bd_some, bop_i64_eql]
    have w3 : IntKind.i64.wrap ((n : Int) - (k : Int)) = ((n - k : Nat) : Int) := by rw [w64] <;> omega
    rw [w3]
    simp
  rw [key]
  exact gcw_ret (by simp) (by simp)
end Go.Proofs.Try
