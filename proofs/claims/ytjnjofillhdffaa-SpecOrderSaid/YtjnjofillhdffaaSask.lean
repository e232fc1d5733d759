import Derived.Test.YtjnjofillhdffaaSref2
import Derived.Test.YtjnjofillhdffaaLsd
import Derived.Test.YtjnjofillhdffaaSback
/-! the law SpecAsks: it returns true -/
set_option linter.unusedVariables false
set_option linter.unusedSimpArgs false
namespace Go.Proofs.Try
open Go.L Go.Rp
set_option maxRecDepth 100000
theorem app_len2 (o m : Int) (s : List Int) (os : List O) : (run o m s os).1.length ≤ s.length + os.length := (run_len o m os s).1
theorem batL_len (o m : Int) (os : List O) : ∀ (l : List Int) (s : List Int) (told : List R), (batL o m os l s told).1.length ≤ s.length + l.length ∧ (batL o m os l s told).2.length = told.length
  | [], s, told => ⟨by simp [batL], rfl⟩
  | x :: l, s, told => by
    have h1 := apply_len1 o m s (oAt os x)
    obtain ⟨h2, h3⟩ := batL_len o m os l (apply o m s (oAt os x)).1 (told.set x.toNat (apply o m s (oAt os x)).2)
    exact ⟨by simp only [batL, List.length_cons]; omega, by simp only [batL]; rw [h3]; simp⟩
theorem ask_loop (o m : Int) (z : Nat) (s : List Int) (b : Bool) (zo : Nat) (os : List O) (bo : Bool) (H : Heap) (N : Nat) (u : V) (z1 z2 : Nat) (b1 b2 : Bool) (hz : z = 1 ∨ s = []) (hzo : zo = 2 ∨ os = []) (ho : 0 ≤ o) (hk : ∀ x ∈ os, 0 ≤ x.k) (hs : Small os) (hsl : s.length ≤ 200) (hol : os.length ≤ 200) (hN : 800 ≤ N)
    (hz1 : z1 = 1 ∨ (run o m s os).1 = []) (hz2 : z2 = 1 ∨ (batch o m s os).1 = []) : ∀ (d k M : Nat), k + d = os.length → d < M →
    loopx M (lawAsk_l20 N o m (.sl z (s.map (intV .i32)) b) (.sl zo (os.map O.w) bo) (.sl 1 ((run o m s os).1.map (intV .i32)) false) (.sl 2 ((run o m s os).2.map R.w) false) (.sl z1 ((run o m s os).1.map (intV .i32)) b1) (.sl 2 ((run o m s os).2.map R.w) false)
      (.sl 1 ((batch o m s os).1.map (intV .i32)) false) (.sl 2 ((batch o m s os).2.map R.w) false) (.sl z2 ((batch o m s os).1.map (intV .i32)) b2) (.sl 2 ((batch o m s os).2.map R.w) false)) [u, .int .i64 (k : Int)] H = some (.ret [.bool true], H) := by
  have hl : lim > 100000 := by unfold lim; omega
  have r1 := run_len o m os s
  have r2 := batL_len o m os (ordOf o os) s (List.replicate os.length ⟨0, 0⟩)
  rw [ordOf_len, List.length_replicate] at r2
  have d1 : (batch o m s os).1.length ≤ s.length + os.length := r2.1
  have d2 : (batch o m s os).2.length = os.length := r2.2
  have c1 := same_call N (run o m s os).1 (run o m s os).1 1 z1 false b1 H (.inl rfl) hz1 (by omega) (by omega)
  have c2 := told_call N (run o m s os).2 (run o m s os).2 2 2 false false H (.inl rfl) (.inl rfl) (by omega) (by omega)
  have c3 := same_call N (batch o m s os).1 (batch o m s os).1 1 z2 false b2 H (.inl rfl) hz2 (by omega) (by omega)
  have c4 := told_call N (batch o m s os).2 (batch o m s os).2 2 2 false false H (.inl rfl) (.inl rfl) (by omega) (by omega)
  have c5 := order_call N o zo os bo H hzo hs (by omega) (by omega)
  have c6 := rorder_call N o zo os bo H hzo hs (by omega) (by omega)
  have c7 := ints_call N (ordOf o os) false false H (by rw [ordOf_len]; omega) (by rw [ordOf_len]; omega)
  rw [decide_eq_true rfl] at c1 c2 c3 c4
  intro d
  induction d with
  | zero =>
    intro k M hk' hM
    obtain ⟨M, rfl⟩ : ∃ M', M = M' + 1 := ⟨M - 1, by omega⟩
    obtain rfl : k = os.length := by omega
    rw [loopx_succ]
    simp only [lawAsk_l20, gv, List.getD_cons_succ, List.getD_cons_zero, slc_sl, List.length_map, bop_i64_lss, bd_some, bv_bool, Int.lt_irrefl, decide_false, Bool.false_eq_true, if_false]
    rw [c1, cl_ret, one1_one, bv_bool, if_pos rfl, c2, cl_ret, one1_one, bv_bool, if_pos rfl, c3, cl_ret, one1_one, bv_bool, if_pos rfl, c4, cl_ret, one1_one, bv_bool, if_pos rfl, c5, cl_ret, one1_one, c6, cl_ret, one1_one, c7, cl_ret, one1_one]
  | succ d ih =>
    intro k M hk' hM
    obtain ⟨M, rfl⟩ : ∃ M', M = M' + 1 := ⟨M - 1, by omega⟩
    have hlt : (k : Int) < (os.length : Int) := by omega
    rw [loopx_succ]
    by_cases h5 : (k : Int) < 5
    · obtain ⟨x, hx⟩ : ∃ x, os[k]? = some x := ⟨_, List.getElem?_eq_getElem (by omega)⟩
      obtain rfl : zo = 2 := hzo.resolve_right (by rintro rfl; simp at hx)
      obtain ⟨N', rfl⟩ : ∃ N', N = N' + 3 := ⟨N - 3, by omega⟩
      have hA := apply_call (N' + 3) o m z s b x.k x.v H hz ho (hk x (List.mem_of_getElem? hx)) (by omega) (by omega)
      obtain ⟨vs, hB, z3, b3, rfl, hz3⟩ := apply8_call N' m z s b x.k x.v H o hz (by omega) (by omega)
      have hop : V.agg (O.w x) = .agg [.int .u8 x.k, .int .i32 x.v] := rfl
      have hal := apply_len1 o m s ⟨x.k, x.v⟩
      have cs := same_call (N' + 3) (apply o m s ⟨x.k, x.v⟩).1 (apply o m s ⟨x.k, x.v⟩).1 1 z3 false b3 H (.inl rfl) hz3 (by omega) (by omega)
      rw [decide_eq_true rfl] at cs
      have e1 : IntKind.i64.wrap ((k : Int) + 1) = ((k + 1 : Nat) : Int) := wN (by omega) (by omega)
      simp only [lawAsk_l20, gv, List.getD_cons_succ, List.getD_cons_zero, slc_sl, List.length_map, bop_i64_lss, bd_some, bv_bool, hlt, h5, decide_true, if_true, nv_nat, bdS_some, slk_sl, get_os, hx, Option.map_some, List.drop_zero, ow_take, hop]
      rw [hA]
      simp only [ansA, cl_ret, List.getElem?_cons_zero, List.getElem?_cons_succ, bd_some, V.cells, List.length_cons, List.length_nil, Nat.zero_add, Nat.reduceAdd, Nat.le_refl, if_true]
      rw [hB]
      simp only [cl_ret, List.getElem?_cons_zero, List.getElem?_cons_succ, bd_some, V.cells, List.length_cons, List.length_nil, Nat.zero_add, Nat.reduceAdd, Nat.le_refl, if_true, set_r0, List.drop_zero, take_r, bop_res, ne_eq, not_true_eq_false, decide_false, bv_bool, Bool.false_eq_true, if_false]
      rw [cs, cl_ret, one1_one, uop_not, bd_some, bv_bool, if_neg (by decide), bop_i64_add, bd_some, e1]
      exact ih (k + 1) M (by omega) (by omega)
    · simp only [lawAsk_l20, gv, List.getD_cons_succ, List.getD_cons_zero, slc_sl, List.length_map, bop_i64_lss, bd_some, bv_bool, hlt, h5, decide_true, decide_false, Bool.false_eq_true, if_true, if_false]
      rw [c1, cl_ret, one1_one, bv_bool, if_pos rfl, c2, cl_ret, one1_one, bv_bool, if_pos rfl, c3, cl_ret, one1_one, bv_bool, if_pos rfl, c4, cl_ret, one1_one, bv_bool, if_pos rfl, c5, cl_ret, one1_one, c6, cl_ret, one1_one, c7, cl_ret, one1_one]
theorem asks_call (n : Nat) (o m : Int) (z : Nat) (s : List Int) (b : Bool) (zo : Nat) (os : List O) (bo : Bool) (H : Heap) (hz : z = 1 ∨ s = []) (hzo : zo = 2 ∨ os = []) (ho : 0 ≤ o) (hk : ∀ x ∈ os, 0 ≤ x.k) (hs : Small os) (hsl : s.length ≤ 200) (hol : os.length ≤ 200) (hn : 801 ≤ n) :
    call n 27 [.int .u8 o, .int .i64 m, .sl z (s.map (intV .i32)) b, .sl zo (os.map O.w) bo] H = some (.ret [.bool true], H) := by
  obtain ⟨N, rfl⟩ : ∃ N, n = N + 1 := ⟨n - 1, by omega⟩
  have hl : lim > 100000 := by unfold lim; omega
  have c1 := run_call N o m z s b zo os bo H hz hzo ho hk (by omega) (by omega)
  obtain ⟨z1, b1, hz1, c2⟩ := rrun_call N o m z s b zo os bo H hz hzo ho hk (by omega) (by omega)
  have c3 := batch_call N o m z s b zo os bo H hz hzo ho hk hs (by omega) (by omega)
  obtain ⟨z2, b2, hz2, c4⟩ := rbatch_call N o m z s b zo os bo H hz hzo ho hk hs (by omega) (by omega)
  rw [lawAsk_eq]
  unfold lawAsk
  rw [c1, cl_ret]
  simp only [List.getElem?_cons_zero, List.getElem?_cons_succ, bd_some]
  rw [c2, cl_ret]
  simp only [List.getElem?_cons_zero, List.getElem?_cons_succ, bd_some]
  rw [c3, cl_ret]
  simp only [List.getElem?_cons_zero, List.getElem?_cons_succ, bd_some]
  rw [c4, cl_ret]
  simp only [List.getElem?_cons_zero, List.getElem?_cons_succ, bd_some]
  exact ask_loop o m z s b zo os bo H N _ z1 z2 b1 b2 hz hzo ho hk hs hsl hol (by omega) hz1 hz2 os.length 0 N (by omega) (by omega)
theorem small_ops {c : List Int} {kinds : Int} (hc : small c = true) : Small (ops c kinds) := by
  intro o ho
  unfold ops at ho
  obtain ⟨x, hx, rfl⟩ := List.mem_map.1 ho
  have := small_len hc x (List.mem_of_mem_take hx)
  unfold Go.Rp.opOf
  simp only
  omega
/-- SpecAsks -/
theorem asks_law_call (x0 x1 : Int) (s : List Int) (sb : Bool) (os : List O) (ob : Bool) (x4 : Int) (c : List Int) (cb : Bool) (h0 : 0 ≤ x0) (h4 : 0 ≤ x4 ∧ x4 < 256) (hc : small c = true) (hk : ∀ x ∈ os, 0 ≤ x.k) (hs : Small os) (l1 : s.length ≤ 140737488355328) (l2 : os.length ≤ 140737488355328) (l3 : c.length ≤ 140737488355328) :
    call 1000 9 [.int .u8 x0, .int .i64 x1, .sl 1 (s.map (intV .i32)) sb, .sl 2 (os.map O.w) ob, .int .u8 x4, .sl 1 (c.map (intV .u8)) cb] [] = some (.ret [.bool true], []) := by
  refine (lawAsks_eq 999 x0 x1 _ sb _ ob x4 _ cb []).trans ?_
  have hkn := known_true3
  have hfree : V.free.freeLL (os.map O.w) = true := free_map _ (fun _ => rfl) os
  have key : lawAsks 999 x0 x1 (s.map (intV .i32)) sb (os.map O.w) ob x4 (c.map (intV .u8)) cb = some (.ret [.bool true], []) := by
    unfold lawAsks
    simp only [List.length_map]
    rw [w64 (n := (s.length : Int) + (os.length : Int)) (by omega) (by omega), w64 (by omega) (by omega)]
    by_cases hbig : ((s.length : Int) + (os.length : Int) + (c.length : Int) > 200)
    · rw [if_pos (by simpa using hbig), hkn, cl_ret, one1_one]
    · rw [if_neg (by simpa using hbig)]
      have e5 : Int.tmod x4 5 = x4 % 5 := Int.tmod_eq_emod_of_nonneg h4.1
      have e3 : Int.tmod x4 3 = x4 % 3 := Int.tmod_eq_emod_of_nonneg h4.1
      have e7 : Int.tmod x4 7 = x4 % 7 := Int.tmod_eq_emod_of_nonneg h4.1
      have e9 : Int.tmod x4 9 = x4 % 9 := Int.tmod_eq_emod_of_nonneg h4.1
      have e4 : Int.tmod x0 4 = x0 % 4 := Int.tmod_eq_emod_of_nonneg h0
      have w5 : IntKind.i64.wrap (x4 % 5) = x4 % 5 := w64 (by omega) (by omega)
      have w3 : IntKind.u8.wrap (1 + x4 % 3) = 1 + x4 % 3 := w8 (by omega) (by omega)
      have ol : ∀ k : Int, (ops c k).length ≤ 80 := fun k => ops_len c k
      obtain ⟨j, hj⟩ : ∃ j : Nat, (if x4 % 5 < (s.length : Int) then x4 % 5 else (s.length : Int)) = (j : Int) ∧ j ≤ s.length := by
        split
        · exact ⟨(x4 % 5).toNat, by omega, by omega⟩
        · exact ⟨s.length, rfl, Nat.le_refl _⟩
      have c0 := asks_call 999 x0 x1 1 s sb 2 os ob [] (.inl rfl) (.inl rfl) h0 hk hs (by omega) (by omega) (by omega)
      have o5 := ops_call 999 c 1 cb 5 [] (.inl rfl) hc (by decide) (by decide) (by omega)
      have o2 := ops_call 999 c 1 cb 2 [] (.inl rfl) hc (by decide) (by decide) (by omega)
      have o3 := ops_call 999 c 1 cb 3 [] (.inl rfl) hc (by decide) (by decide) (by omega)
      have c1 := asks_call 999 (1 + x4 % 3) (IntKind.i64.wrap (x4 % 7)) 1 (s.take j) false 2 (ops c 5) false [] (.inl rfl) (.inl rfl) (by omega) (ops_k hc (by decide)) (small_ops hc) (by rw [List.length_take]; omega) (by have := ol 5; omega) (by omega)
      have c2 := asks_call 999 (1 + x4 % 3) (IntKind.i64.wrap (x4 % 9)) 0 [] false 2 (ops c 2) false [] (.inr rfl) (.inl rfl) (by omega) (ops_k hc (by decide)) (small_ops hc) (by simp) (by have := ol 2; omega) (by omega)
      have c3 := asks_call 999 (x0 % 4) x1 1 s sb 2 (ops c 3) false [] (.inl rfl) (.inl rfl) (by omega) (ops_k hc (by decide)) (small_ops hc) (by omega) (by have := ol 3; omega) (by omega)
      have hcond : (0 ≤ j ∧ j ≤ s.length ∧ (True ∨ (s.map (intV .i32)).isEmpty = true) ∧ (True ∨ (none : Option Nat) = some j) ∧ True) := ⟨by omega, hj.2, .inl trivial, .inl trivial, trivial⟩
      rw [e5, e3, e7, e9, e4, w5, w3, hj.1]
      rw [hkn, cl_ret, one1_one, uop_not, bd_some, bv_bool, if_neg (by decide), c0, cl_ret, one1_one, bv_bool, if_pos rfl, nv_nat, bdS_some, if_pos hcond, o5, cl_ret, one1_one, List.drop_zero, ← List.map_take, c1, cl_ret, one1_one, bv_bool, if_pos rfl, o2, cl_ret, one1_one]
      rw [show ([] : List (List V)) = ([] : List Int).map (intV .i32) from rfl, c2, cl_ret, one1_one, bv_bool, if_pos rfl, o3, cl_ret, one1_one, c3, cl_ret, one1_one]
  rw [key]
  exact gcw_ret (by simp [hfree]) (by simp)
end Go.Proofs.Try
