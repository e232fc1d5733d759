import Derived.Test.YtodgpfffnnlbhaaHlf
import Derived.Test.YtodgpfffnnlbhaaHwp
/-! the law HistoryWrong: it returns true -/
set_option linter.unusedVariables false
set_option linter.unusedSimpArgs false
namespace Go.Proofs.Try
open Go.L Go.Rp
set_option maxRecDepth 100000
theorem ap_put (x y : Ap) : setR x.v 0 (List.take 7 (List.drop 0 y.v)) = y.v := rfl
theorem ap_put' (x y : Ap) : setR x.v 0 y.v = y.v := rfl
theorem ap_code'  (x : Ap) (c : Int) : setR x.v 4 [.int .u8 c] = ({ x with res := ⟨c, x.res.v⟩ } : Ap).v := rfl
theorem ap_code (x : Ap) (c : Int) : setR x.v 4 (V.cells (.int .u8 c)) = ({ x with res := ⟨c, x.res.v⟩ } : Ap).v := rfl
theorem ap_4 (x : Ap) : (x.v)[4]? = some (.int .u8 x.res.c) := rfl
theorem ap_fold7 (x : Ap) : List.take 7 (List.drop 0 x.v) = x.v := rfl
theorem ap_len7 (x : Ap) : (x.v).length = 7 := rfl
theorem spans_nil_at (o m : Int) (os : List O) {j : Nat} {s : Sp} (hj : (spansTo o m os [] os.length)[j]? = some s) : s.fr = max 0 (4 * (j : Int) - 0) ∧ s.to = 4 * (j : Int) + 1 := by
  have hjl : j < os.length := by have := (List.getElem?_eq_some_iff.1 hj).1; rwa [spansTo_len] at this
  rw [spansTo_get o m os [] os.length j hjl] at hj
  obtain rfl := Option.some.inj hj
  exact ⟨rfl, rfl⟩
theorem wrap_ne (c : Int) : IntKind.u8.wrap (c + 1) ≠ c := by rw [IntKind.wrap_u8]; omega
theorem wrong_law_call (x0 x1 x3 : Int) (c : List Int) (cb : Bool) (h0 : 0 ≤ x0 ∧ x0 < 256) (h1 : 0 ≤ x1 ∧ x1 < 256) (h3 : 0 ≤ x3 ∧ x3 < 256) (hc : small c = true) :
    call 101 10 [.int .u8 x0, .int .u8 x1, .sl 1 (c.map (intV .u8)) cb, .int .u8 x3] [] = some (.ret [.bool true], []) := by
  refine (lWrong_eq 100 x0 x1 (c.map (intV .u8)) cb x3 []).trans ?_
  obtain ⟨o, ho⟩ : ∃ o, o = 1 + x0 % 3 := ⟨_, rfl⟩
  obtain ⟨m, hm⟩ : ∃ m, m = 1 + x1 % 5 := ⟨_, rfl⟩
  obtain ⟨n, hn⟩ : ∃ n, n = (done c).length := ⟨_, rfl⟩
  have hn14 : n ≤ 14 := hn ▸ done_len c
  obtain ⟨A, hAe⟩ : ∃ A, A = spans o m c [] := ⟨_, rfl⟩
  obtain ⟨B, hBe⟩ : ∃ B, B = logs o m c := ⟨_, rfl⟩
  have hA : A.length = n := by rw [hn, hAe]; exact spansTo_len _ _ _ _ _
  have hB : B.length = n := by rw [hn, hBe]; exact logTo_len _ _ _ _
  have hF : Fine o m (done c) A := hAe ▸ spans_fine o m (done c) [] (by simp)
  have hop : ∀ x ∈ B, 0 ≤ x.op.k := hBe ▸ log_kinds o m c hc
  have hBl : B = logTo o m (done c) (done c).length := hBe
  have hAl : A = spansTo o m (done c) [] (done c).length := hAe
  have key : lWrong 100 x0 x1 (c.map (intV .u8)) cb x3 = some (.ret [.bool true], spH A B) := by
    unfold lWrong
    rw [obj_ok h0.1 h0.2, most_ok h1.1 h1.2, ← ho, ← hm]
    have hs := spans_call 96 [] o m 0 c [] cb true (.inr rfl) hc (by simp) (by omega)
    rw [show (List.map (intV .u8) ([] : List Int)) = [] from rfl, ← hn, ← hAe, ← hBe] at hs
    have hs' : call 100 27 [.int .u8 o, .int .i64 m, .sl 1 (c.map (intV .u8)) cb, .sl 0 [] true] [] = some (.ret [.row 0 8 0 n, .row 1 7 0 n], spH A B) := hs
    rw [hs', cl_ret]
    simp only [List.getElem?_cons_zero, List.getElem?_cons_succ, bd_some]
    rw [spH_b hB, bd_some]
    simp only [List.length_map, hB]
    by_cases h2 : n < 2
    · rw [if_pos (by simp; omega), known19_h, cl_ret, one1_one]
    rw [if_neg (by simp; omega), bd_some]
    have hl' : (7, List.map Ap.v B).snd.length = n := by rw [← hB, ← List.length_map (f := Ap.v)]
    have w1 : IntKind.i64.wrap x3 = x3 := w64 (by omega) (by omega)
    have w2 : IntKind.i64.wrap ((n : Int) - 1) = (n : Int) - 1 := w64 (by omega) (by omega)
    obtain ⟨i, hi⟩ : ∃ i : Nat, (i : Int) = x3 % ((n : Int) - 1) := ⟨(x3 % ((n : Int) - 1)).toNat, Int.toNat_of_nonneg (Int.emod_nonneg _ (by omega))⟩
    have hin : i + 1 < n := by have := Int.emod_lt_of_pos x3 (show (0 : Int) < (n : Int) - 1 by omega); omega
    have e1 : x3.tmod ((n : Int) - 1) = (i : Int) := by rw [Int.tmod_eq_emod_of_nonneg h3.1, hi]
    rw [hl', w1, w2, bop_i64_rem_any (by omega), e1, bd_some]
    obtain ⟨x, hx⟩ : ∃ x, B[i]? = some x := ⟨_, List.getElem?_eq_getElem (by omega)⟩
    obtain ⟨y, hy⟩ : ∃ y, B[i + 1]? = some y := ⟨_, List.getElem?_eq_getElem (by omega)⟩
    have hxv : (B.map Ap.v)[i]? = some x.v := by rw [List.getElem?_map, hx]; rfl
    have hyv : (B.map Ap.v)[i + 1]? = some y.v := by rw [List.getElem?_map, hy]; rfl
    have hrow : (spH A B)[1]? = some (.row 60 7 (B.map Ap.v) true) := rfl
    have hl : (B.map Ap.v).length = n := by rw [List.length_map, hB]
    have fN : nv (V.int .i64 (i : Int)) = some i := nv_nat _ _
    have fN' : nv (V.int .i64 ((i + 1 : Nat) : Int)) = some (i + 1) := nv_nat _ _
    have fA : IntKind.i64.wrap ((i : Int) + 1) = ((i + 1 : Nat) : Int) := step64 (by unfold lim; omega)
    have fS1 : sliceP 7 0 i none true (.row 1 7 0 n) = some (.row 1 7 0 i) := by simpa using sliceP_row (r := 1) (sz := 7) (u := 0) (v := n) (Nat.zero_le i) (by omega) true
    have fC1 : slcH (spH A B) (.row 1 7 0 i) = some (7, (B.take i).map Ap.v) := by
      rw [slcH_row hrow (Nat.zero_le _) (by omega), List.drop_zero, List.map_take]
    have fS2 : sliceP 7 (i + 1) n none true (.row 1 7 0 n) = some (.row 1 7 (i + 1) n) := by simpa using sliceP_row (r := 1) (sz := 7) (u := 0) (v := n) (show i + 1 ≤ n by omega) (by omega) true
    have fC2 : slcH (spH A B) (.row 1 7 (i + 1) n) = some (7, (B.drop (i + 1)).map Ap.v) := by
      rw [slcH_row hrow (by omega) (by omega), ← hl, List.take_length, List.map_drop]
    have fI : idxP 7 i (.row 1 7 0 n) = some (.rptr 1 7 i 0) := by simpa using idxP_row (b := 1) (sz := 7) (lo := 0) (hi := n) (show i < n - 0 by omega)
    have fI' : idxP 7 (i + 1) (.row 1 7 0 n) = some (.rptr 1 7 (i + 1) 0) := by simpa using idxP_row (b := 1) (sz := 7) (lo := 0) (hi := n) (show i + 1 < n - 0 by omega)
    have fP : cellsP (spH A B) (.rptr 1 7 i 0) = some (x.v, 7, 0) := cellsP_rptr hrow (by omega) hxv
    have fP' : cellsP (spH A B) (.rptr 1 7 (i + 1) 0) = some (y.v, 7, 0) := cellsP_rptr hrow (by omega) hyv
    have fC := spH_b (A := A) hB
    have fa1 := app_ap' (g := []) (l := B.take i) (by simp [List.length_take, lim]; omega)
    have fa2 := app_ap' (g := B.take i) (l := B.drop (i + 1)) (by simp [List.length_take, List.length_drop, lim]; omega)
    have fa3 := app_ap' (g := []) (l := B) (by simp [lim]; omega)
    have fa4 := app_ap' (g := B) (l := [x]) (by simp [lim]; omega)
    rw [show (List.map Ap.v ([] : List Ap)) = [] from rfl, List.nil_append] at fa1 fa3
    rw [show (List.map Ap.v [x]) = [x.v] from rfl] at fa4
    have fL : ((7, List.map Ap.v B).snd.length) = n := hl
    have c1 : i < (List.map Ap.v B).length := by rw [hl]; omega
    have c2 : ∀ z, i + 1 < ((List.map Ap.v B).set i z).length := fun z => by rw [List.length_set, hl]; omega
    have g2 : ∀ z, ((List.map Ap.v B).set i z)[i + 1]? = some y.v := fun z => by rw [List.getElem?_set_ne (by omega)]; exact hyv
    simp only [lenP_row, Nat.sub_zero, bd_some, bdS_some, bd3_some, fN, fN', fS1, fC1, fS2, fC2, fI, fI', fP, fP', fC, fa1, fa2, fa3, fa4, fA, bop_i64_add, ap_fold7, ap_len7, bsl_ap7, hxv, hyv, g2, c1, c2, ap_put, ap_4, bop_u8_add, true_or, and_self, true_and, if_true, Nat.zero_add, Nat.le_refl, Nat.reduceLT, Nat.reduceLeDiff, Nat.reduceAdd, V.cells, List.length_cons, List.length_nil]
    rw [if_pos (by decide), if_pos (by decide), if_pos (by decide), if_pos (by decide)]
    have hx' : (logTo o m (done c) (done c).length)[i]? = some x := hBl ▸ hx
    have hy' : (logTo o m (done c) (done c).length)[i + 1]? = some y := hBl ▸ hy
    obtain ⟨s, hs⟩ : ∃ s, A[i]? = some s := ⟨_, List.getElem?_eq_getElem (by omega)⟩
    obtain ⟨t, ht⟩ : ∃ t, A[i + 1]? = some t := ⟨_, List.getElem?_eq_getElem (by omega)⟩
    have sp1 := spans_nil_at o m (done c) (hAl ▸ hs)
    have sp2 := spans_nil_at o m (done c) (hAl ▸ ht)
    have hAh : Ahead s t := by unfold Ahead; rw [sp1.2, sp2.1]; omega
    have v1 := verdict_lack hF hs (by rw [sp1.2]; omega)
    have v2 := verdict_twice (o := o) (m := m) (l := A) hx'
    have v3 := verdict_turned hF hx' hy' hs ht hAh
    have v4 := verdict_other hF hx' ⟨IntKind.u8.wrap (x.res.c + 1), x.res.v⟩ (fun e => wrap_ne x.res.c (congrArg R.c e))
    have v5 : verdict o m B A = 0 := by
      rw [hBl]
      refine hF.verdict (Nat.le_refl _) fun j s hj hs => ?_
      have := (List.getElem?_eq_some_iff.1 hs).1
      omega
    rw [← hBl] at v1 v2 v3 v4
    rw [List.eraseIdx_eq_take_drop_succ] at v1
    have mb : ∀ z ∈ B.set i y, 0 ≤ z.op.k := fun z hz => (List.mem_or_eq_of_mem_set hz).elim (hop z) (fun e => e ▸ hop y (List.mem_of_getElem? hy))
    have ck : ∀ (g : List Ap), (∀ z ∈ g, 0 ≤ z.op.k) → g.length ≤ n + 1 → call 100 28 [.int .u8 o, .int .i64 m, .sl 8 (A.map Sp.v) false, .sl 7 (g.map Ap.v) false] (spH A B) = some (.ret [.int .u16 (verdict o m g A)], spH A B) := fun g hg hgl =>
      check_call 96 (spH A B) o m g false A false (by omega) hg (by unfold lim; omega) (by unfold lim; omega) (by omega) (by omega)
    have k1 := ck (B.take i ++ B.drop (i + 1)) (fun z hz => (List.mem_append.1 hz).elim (fun h => hop z (List.mem_of_mem_take h)) (fun h => hop z (List.mem_of_mem_drop h))) (by rw [List.length_append, List.length_take, List.length_drop]; omega)
    have k2 := ck (B ++ [x]) (fun z hz => (List.mem_append.1 hz).elim (hop z) (fun h => by rw [List.mem_singleton] at h; exact h ▸ hop x (List.mem_of_getElem? hx))) (by rw [List.length_append, hB]; exact Nat.le_refl _)
    have k3 := ck ((B.set i y).set (i + 1) x) (fun z hz => (List.mem_or_eq_of_mem_set hz).elim (mb z) (fun e => e ▸ hop x (List.mem_of_getElem? hx))) (by rw [List.length_set, List.length_set, hB]; omega)
    have k4 := ck (B.set i { x with res := ⟨IntKind.u8.wrap (x.res.c + 1), x.res.v⟩ }) (fun z hz => (List.mem_or_eq_of_mem_set hz).elim (hop z) (fun e => e ▸ hop x (List.mem_of_getElem? hx))) (by rw [List.length_set, hB]; omega)
    have k5 := ck B hop (by omega)
    rw [v1] at k1
    rw [v2] at k2
    rw [v3] at k3
    rw [v4] at k4
    rw [v5] at k5
    have hva := spH_va (B := B) hA
    have hvb := spH_vb (A := A) hB (Nat.le_refl n)
    rw [List.take_of_length_le (by omega)] at hvb
    rw [known19_h, cl_ret, one1_one, bv_bool, if_pos rfl]
    rw [hva]
    simp only [evBsL, bd_some, List.append_nil]
    rw [k1, cl_ret, if_pos (simple_one_int _ _), one1_one, bop_errno_eql, bd_some, bv_bool, if_pos (by rfl)]
    rw [hva]
    simp only [evBsL, bd_some, List.append_nil]
    rw [k2, cl_ret, if_pos (simple_one_int _ _), one1_one, bop_errno_eql, bd_some, bv_bool, if_pos (by rfl)]
    rw [hva, ap_put', ap_put', ← List.map_set, ← List.map_set]
    simp only [evBsL, bd_some, List.append_nil]
    rw [k3, cl_ret, if_pos (simple_one_int _ _), one1_one, bop_errno_eql, bd_some, bv_bool, if_pos (by rfl)]
    rw [hva, ap_code', ← List.map_set]
    simp only [evBsL, bd_some, List.append_nil]
    rw [k4, cl_ret, if_pos (simple_one_int _ _), one1_one, bop_errno_eql, bd_some, bv_bool, if_pos (by rfl)]
    rw [hva, hvb]
    simp only [evBsL, bd_some, List.append_nil]
    rw [k5, cl_ret, if_pos (simple_one_int _ _), one1_one, bop_errno_eql, bd_some]
    rfl
  rw [key]
  exact gcw_ret (by simp) (by simp)
end Go.Proofs.Try
