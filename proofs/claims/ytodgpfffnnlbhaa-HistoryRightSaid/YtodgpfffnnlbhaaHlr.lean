import Derived.Test.YtodgpfffnnlbhaaHlf
import Derived.Test.YtodgpfffnnlbhaaHwp
/-! the law HistoryRight: it returns true -/
set_option linter.unusedVariables false
set_option linter.unusedSimpArgs false
namespace Go.Proofs.Try
open Go.L Go.Rp
set_option maxRecDepth 100000
theorem cells_i64 (a : Int) : V.cells (.int .i64 a) = [.int .i64 a] := rfl
theorem sp_to (s : Sp) : (s.v)[7]? = some (.int .i64 s.to) := rfl
theorem sp_fr (s : Sp) : (s.v)[6]? = some (.int .i64 s.fr) := rfl
theorem sp_set_to (s : Sp) (t : Int) : setR s.v 7 [.int .i64 t] = ({ s with to := t } : Sp).v := rfl
theorem right_loop' (x0 x1 o m : Int) (os : List O) (B : List Ap) (n : Nat) (hn : n = os.length) (hn14 : n ≤ 14) (hB : B.length = n)
    (hend : ∀ L, Fine o m os L → ∀ next, lRight_l9 100 x0 x1 (.row 0 8 0 n) (.row 1 7 0 n) [.int .i64 (n : Int)] (spH L B) next = some (.ret [.bool true], spH L B)) : ∀ (d j N : Nat) (L : List Sp), Fine o m os L → j + d = n → d < N →
    ∃ L', loopx N (lRight_l9 100 x0 x1 (.row 0 8 0 n) (.row 1 7 0 n)) [.int .i64 (j : Int)] (spH L B) = some (.ret [.bool true], spH L' B) := by
  intro d
  induction d with
  | zero =>
    intro j N L hF h1 h2
    obtain ⟨N, rfl⟩ : ∃ N', N = N' + 1 := ⟨N - 1, by omega⟩
    obtain rfl : j = n := by omega
    exact ⟨L, by rw [loopx_succ]; exact hend L hF _⟩
  | succ d ih =>
    intro j N L hF h1 h2
    obtain ⟨N, rfl⟩ : ∃ N', N = N' + 1 := ⟨N - 1, by omega⟩
    have hL : L.length = n := by rw [hF.len, hn]
    obtain ⟨s, hs⟩ : ∃ s, L[j]? = some s := ⟨_, List.getElem?_eq_getElem (by omega)⟩
    have hsv : (L.map Sp.v)[j]? = some s.v := by rw [List.getElem?_map, hs]; rfl
    have hrow : (spH L B)[0]? = some (.row 54 8 (L.map Sp.v) true) := rfl
    have hlt : decide ((j : Int) < (n : Int)) = true := by simp; omega
    have fN : nv (V.int .i64 (j : Int)) = some j := nv_nat _ _
    have fI : idxP 8 j (.row 0 8 0 n) = some (.rptr 0 8 j 0) := by simpa using idxP_row (b := 0) (sz := 8) (lo := 0) (hi := n) (show j < n - 0 by omega)
    have fP : cellsP (spH L B) (.rptr 0 8 j 7) = some (s.v, 8, 7) := cellsP_rptr hrow (by omega) hsv
    have fL : ((8, List.map Sp.v L).snd.length) = n := by rw [← hL, ← List.length_map (f := Sp.v)]
    have fA : IntKind.i64.wrap ((j : Int) + 1) = ((j + 1 : Nat) : Int) := step64 (by unfold lim; omega)
    have fM : IntKind.i64.wrap (4 * (j : Int)) = 4 * (j : Int) := w64 (by omega) (by omega)
    have fM4 : IntKind.i64.wrap (4 * (j : Int) + 4) = 4 * (j : Int) + 4 := w64 (by omega) (by omega)
    have fS := spH_a (B := B) hL
    have fW : writeB (spH L B) [.int .i64 (4 * (j : Int))] (.rptr 0 8 j 7) = some (0, .row 54 8 ((L.set j { s with to := 4 * (j : Int) }).map Sp.v) true) := by
      rw [writeB_rptr hrow (by omega) (by simp) hsv, sp_set_to, List.map_set]
    have fH : (spH L B).set 0 (.row 54 8 ((L.set j { s with to := 4 * (j : Int) }).map Sp.v) true) = spH (L.set j { s with to := 4 * (j : Int) }) B := rfl
    have key : ∃ L', Fine o m os L' ∧ ∀ next, lRight_l9 100 x0 x1 (.row 0 8 0 n) (.row 1 7 0 n) [.int .i64 (j : Int)] (spH L B) next = next [.int .i64 ((j + 1 : Nat) : Int)] (spH L' B) := by
      by_cases h0 : s.to ≥ 0
      · by_cases hj : j + 1 < n
        · have hlt2 : decide (((j + 1 : Nat) : Int) < (n : Int)) = true := by simp; omega
          by_cases h4 : s.to ≥ 4 * (j : Int) + 4
          · obtain ⟨t, ht⟩ : ∃ t, L[j + 1]? = some t := ⟨_, List.getElem?_eq_getElem (by omega)⟩
            have htv : (L.map Sp.v)[j + 1]? = some t.v := by rw [List.getElem?_map, ht]; rfl
            have fN' : nv (V.int .i64 ((j + 1 : Nat) : Int)) = some (j + 1) := nv_nat _ _
            have fI' : idxP 8 (j + 1) (.row 0 8 0 n) = some (.rptr 0 8 (j + 1) 0) := by simpa using idxP_row (b := 0) (sz := 8) (lo := 0) (hi := n) (show j + 1 < n - 0 by omega)
            have fP' : cellsP (spH L B) (.rptr 0 8 (j + 1) 6) = some (t.v, 8, 6) := cellsP_rptr hrow (by omega) htv
            by_cases h5 : t.fr > 4 * (j : Int)
            · refine ⟨L.set j { s with to := 4 * (j : Int) }, hF.turn hs h0, fun next => ?_⟩
              unfold lRight_l9
              simp only [gv, List.getD_cons_zero, fS, bd_some, fL, bop_i64_lss, hlt, hlt2, bv_bool, if_true, fN, fN', bdS_some, fI, fI', addP_rptr, Nat.zero_add, fP, fP', bd3_some, Nat.reduceAdd, Nat.le_refl, Nat.reduceLT, Nat.reduceLeDiff, and_self, sp_to, sp_fr, bop_i64_geq, bop_i64_gtr, h0, h4, h5, decide_true, bop_i64_add, bop_i64_mul4, fA, fM, fM4, cells_i64, List.length_cons, List.length_nil, fW, bd2_some, fH]
            · refine ⟨L, hF, fun next => ?_⟩
              unfold lRight_l9
              simp only [gv, List.getD_cons_zero, fS, bd_some, fL, bop_i64_lss, hlt, hlt2, bv_bool, if_true, fN, fN', bdS_some, fI, fI', addP_rptr, Nat.zero_add, fP, fP', bd3_some, Nat.reduceAdd, Nat.le_refl, Nat.reduceLT, Nat.reduceLeDiff, and_self, sp_to, sp_fr, bop_i64_geq, bop_i64_gtr, h0, h4, h5, decide_true, decide_false, Bool.false_eq_true, if_false, bop_i64_add, bop_i64_mul4, fA, fM, fM4]
          · refine ⟨L, hF, fun next => ?_⟩
            unfold lRight_l9
            simp only [gv, List.getD_cons_zero, fS, bd_some, fL, bop_i64_lss, hlt, hlt2, bv_bool, if_true, fN, bdS_some, fI, addP_rptr, Nat.zero_add, fP, bd3_some, Nat.reduceAdd, Nat.le_refl, Nat.reduceLT, Nat.reduceLeDiff, and_self, sp_to, bop_i64_geq, h0, h4, decide_true, decide_false, Bool.false_eq_true, if_false, bop_i64_add, bop_i64_mul4, fA, fM, fM4]
        · have hlt2 : decide (((j + 1 : Nat) : Int) < (n : Int)) = false := by simp; omega
          refine ⟨L, hF, fun next => ?_⟩
          unfold lRight_l9
          simp only [gv, List.getD_cons_zero, fS, bd_some, fL, bop_i64_lss, hlt, hlt2, bv_bool, if_true, fN, bdS_some, fI, addP_rptr, Nat.zero_add, fP, bd3_some, Nat.reduceAdd, Nat.le_refl, Nat.reduceLT, Nat.reduceLeDiff, and_self, sp_to, bop_i64_geq, h0, decide_true, Bool.false_eq_true, if_false, bop_i64_add, fA]
      · refine ⟨L, hF, fun next => ?_⟩
        unfold lRight_l9
        simp only [gv, List.getD_cons_zero, fS, bd_some, fL, bop_i64_lss, hlt, bv_bool, if_true, fN, bdS_some, fI, addP_rptr, Nat.zero_add, fP, bd3_some, Nat.reduceAdd, Nat.le_refl, Nat.reduceLT, Nat.reduceLeDiff, and_self, sp_to, bop_i64_geq, h0, decide_false, Bool.false_eq_true, if_false, bop_i64_add, fA]
    obtain ⟨L', hF', hk⟩ := key
    obtain ⟨L'', e⟩ := ih (j + 1) N L' hF' (by omega) (by omega)
    exact ⟨L'', by rw [loopx_succ, hk]; exact e⟩
theorem right_law_call (x0 x1 : Int) (c d : List Int) (cb db : Bool) (h0 : 0 ≤ x0 ∧ x0 < 256) (h1 : 0 ≤ x1 ∧ x1 < 256) (hc : small c = true) (hd : small d = true) (hcl : c.length ≤ 140737488355328) (hdl : d.length ≤ 140737488355328) :
    call 101 9 [.int .u8 x0, .int .u8 x1, .sl 1 (c.map (intV .u8)) cb, .sl 1 (d.map (intV .u8)) db] [] = some (.ret [.bool true], []) := by
  refine (lRight_eq 100 x0 x1 (c.map (intV .u8)) cb (d.map (intV .u8)) db []).trans ?_
  have key : ∃ H, lRight 100 x0 x1 (c.map (intV .u8)) cb (d.map (intV .u8)) db = some (.ret [.bool true], H) := by
    unfold lRight
    simp only [List.length_map]
    have w0 : IntKind.i64.wrap ((c.length : Int) + (d.length : Int)) = (c.length : Int) + (d.length : Int) := w64 (by omega) (by omega)
    rw [w0]
    by_cases h200 : (c.length : Int) + (d.length : Int) > 200
    · rw [if_pos (by simpa using h200), known19_h, cl_ret, one1_one]
      exact ⟨_, rfl⟩
    rw [if_neg (by simpa using h200)]
    obtain ⟨o, ho⟩ : ∃ o, o = 1 + x0 % 3 := ⟨_, rfl⟩
    obtain ⟨m, hm⟩ : ∃ m, m = 1 + x1 % 5 := ⟨_, rfl⟩
    obtain ⟨n, hn⟩ : ∃ n, n = (done c).length := ⟨_, rfl⟩
    have hn14 : n ≤ 14 := hn ▸ done_len c
    have hd' : ∀ y ∈ d, 0 ≤ y ∧ y < 256 := fun y hy => by
      unfold small at hd
      have := List.all_eq_true.1 hd y hy
      simp at this
      omega
    obtain ⟨A, hAe⟩ : ∃ A, A = spans o m c d := ⟨_, rfl⟩
    obtain ⟨B, hBe⟩ : ∃ B, B = logs o m c := ⟨_, rfl⟩
    have hA : A.length = n := by rw [hn, hAe]; exact spansTo_len _ _ _ _ _
    have hB : B.length = n := by rw [hn, hBe]; exact logTo_len _ _ _ _
    have hF : Fine o m (done c) A := hAe ▸ spans_fine o m (done c) d hd'
    have hop : ∀ x ∈ B, 0 ≤ x.op.k := hBe ▸ log_kinds o m c hc
    have hBl : B = logTo o m (done c) (done c).length := hBe
    rw [obj_ok h0.1 h0.2, most_ok h1.1 h1.2, ← ho, ← hm]
    have hs := spans_call 96 [] o m 1 c d cb db (.inl rfl) hc hd' (by omega)
    rw [← hn, ← hAe, ← hBe] at hs
    have hs' : call 100 27 [.int .u8 o, .int .i64 m, .sl 1 (c.map (intV .u8)) cb, .sl 1 (d.map (intV .u8)) db] [] = some (.ret [.row 0 8 0 n, .row 1 7 0 n], spH A B) := hs
    rw [hs', cl_ret]
    simp only [List.getElem?_cons_zero, List.getElem?_cons_succ, bd_some]
    suffices hend : ∀ L, Fine o m (done c) L → ∀ next, lRight_l9 100 x0 x1 (.row 0 8 0 n) (.row 1 7 0 n) [.int .i64 (n : Int)] (spH L B) next = some (.ret [.bool true], spH L B) by
      obtain ⟨L', e⟩ := right_loop' x0 x1 o m (done c) B n hn hn14 hB hend n 0 100 A hF (by omega) (by omega)
      exact ⟨_, e⟩
    intro L hF next
    have hL : L.length = n := by rw [hF.len, hn]
    have hlt : decide ((n : Int) < (n : Int)) = false := by simp
    have fL : ((8, List.map Sp.v L).snd.length) = n := by rw [← hL, ← List.length_map (f := Sp.v)]
    have fL' : ((7, List.map Ap.v B).snd.length) = n := by rw [← hB, ← List.length_map (f := Ap.v)]
    have fS := spH_a (B := B) hL
    have fC := spH_b (A := L) hB
    have hva := spH_va (B := B) hL
    have hvb := spH_vb (A := L) hB (Nat.le_refl n)
    rw [List.take_of_length_le (by omega)] at hvb
    have ck : ∀ (g : List Ap), (∀ z ∈ g, 0 ≤ z.op.k) → g.length ≤ n + 1 → call 100 28 [.int .u8 o, .int .i64 m, .sl 8 (L.map Sp.v) false, .sl 7 (g.map Ap.v) false] (spH L B) = some (.ret [.int .u16 (verdict o m g L)], spH L B) := fun g hg hgl =>
      check_call 96 (spH L B) o m g false L false (by omega) hg (by unfold lim; omega) (by unfold lim; omega) (by omega) (by omega)
    have k1 := ck B hop (by omega)
    have v1 : verdict o m B L = 0 := by
      rw [hBl]
      refine hF.verdict (Nat.le_refl _) fun j s hj hs => ?_
      have := (List.getElem?_eq_some_iff.1 hs).1
      omega
    rw [v1] at k1
    unfold lRight_l9
    rw [obj_ok h0.1 h0.2, most_ok h1.1 h1.2, ← ho, ← hm]
    simp only [gv, List.getD_cons_zero, fS, bd_some, fL, bop_i64_lss, hlt, bv_bool, Bool.false_eq_true, if_false]
    rw [hva, hvb]
    simp only [evBsL, bd_some, List.append_nil]
    rw [k1, cl_ret, if_pos (simple_one_int _ _), one1_one, fC, bd_some, fL']
    by_cases hn0 : n = 0
    · rw [if_pos (by simp [hn0]), known19_h, cl_ret, one1_one, bv_bool, if_pos rfl, bop_errno_eql, bd_some]
      rfl
    rw [if_neg (by simp; omega)]
    have w1 : IntKind.i64.wrap ((n : Int) - 1) = ((n - 1 : Nat) : Int) := by rw [w64] <;> omega
    obtain ⟨s, hs⟩ : ∃ s, L[n - 1]? = some s := ⟨_, List.getElem?_eq_getElem (by omega)⟩
    have hsv : (L.map Sp.v)[n - 1]? = some s.v := by rw [List.getElem?_map, hs]; rfl
    have hrow : (spH L B)[0]? = some (.row 54 8 (L.map Sp.v) true) := rfl
    have fN : nv (V.int .i64 ((n - 1 : Nat) : Int)) = some (n - 1) := nv_nat _ _
    have fI : idxP 8 (n - 1) (.row 0 8 0 n) = some (.rptr 0 8 (n - 1) 0) := by simpa using idxP_row (b := 0) (sz := 8) (lo := 0) (hi := n) (show n - 1 < n - 0 by omega)
    have fP : cellsP (spH L B) (.rptr 0 8 (n - 1) 7) = some (s.v, 8, 7) := cellsP_rptr hrow (by omega) hsv
    rw [w1, fN, bdS_some, fI, bd_some, addP_rptr, bd_some, Nat.zero_add, fP, bd3_some, if_pos (by omega), sp_to, bd_some, bop_i64_geq, bd_some, bv_bool]
    by_cases ht : s.to ≥ 0
    · rw [if_pos (by simpa using ht), known19_h, cl_ret, one1_one, bv_bool, if_pos rfl, bop_errno_eql, bd_some]
      rfl
    rw [if_neg (by simpa using ht), known19_h, cl_ret, one1_one, bv_bool, if_pos rfl, bop_errno_eql, bd_some, bv_bool, if_pos (by rfl), lenP_row, bd_some, bdS_some, sliceP_row (Nat.zero_le _) (by omega), bd_some]
    simp only [Nat.zero_add]
    have k2 := ck (B.take (n - 1)) (fun z hz => hop z (List.mem_of_mem_take hz)) (by rw [List.length_take]; omega)
    have v2 : verdict o m (B.take (n - 1)) L = 0 := by
      have e : B.take (n - 1) = logTo o m (done c) (n - 1) := by rw [hBl]; exact log_take o m (done c) _ _ (by omega)
      rw [e]
      refine hF.verdict (by omega) fun j t hj hjs => ?_
      have := (List.getElem?_eq_some_iff.1 hjs).1
      obtain rfl : j = n - 1 := by omega
      rw [hs] at hjs
      cases hjs
      omega
    rw [v2] at k2
    rw [hva, spH_vb hB (by omega)]
    simp only [evBsL, bd_some, List.append_nil]
    rw [k2, cl_ret, if_pos (simple_one_int _ _), one1_one, bop_errno_eql, bd_some]
    rfl
  obtain ⟨H, key⟩ := key
  rw [key]
  exact gcw_ret (by simp) (by simp)
end Go.Proofs.Try
