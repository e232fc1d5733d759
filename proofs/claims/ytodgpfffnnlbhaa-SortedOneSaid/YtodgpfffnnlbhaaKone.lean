import Derived.Test.YtodgpfffnnlbhaaKn
import Derived.Test.YtodgpfffnnlbhaaKo
/-! the law SortedOne: it returns true -/
set_option linter.unusedVariables false
set_option linter.unusedSimpArgs false
namespace Go.Proofs.Try
open Go.L Go.Rp Go.Sk
set_option maxRecDepth 100000
theorem bop_u8_add' (a b : Int) : bop prog .add 5 (.int .u8 a) (.int .u8 b) = some (.int .u8 (IntKind.u8.wrap (a + b))) := by kernel_rfl
theorem bld_res1 (a b : Int) : bldV prog 34 [(0, .int .u8 a), (1, .int .i32 b)] = some [.int .u8 a, .int .i32 b] := by kernel_rfl
theorem eql_res1 (a b c d : Int) : bop prog .eql 34 (.agg [.int .u8 a, .int .i32 b]) (.agg [.int .u8 c, .int .i32 d]) = some (.bool (a == c && (b == d && true))) := by kernel_rfl
/-- the list is filled -/
theorem one_fill (x0 x3 : Int) (aa : List Int) (ab : Bool) (most : Int) (hm : most ≤ 1000) (haa : aa.length ≤ 60) : ∀ (d k M : Nat) (h : Heap) (ts : List Tw) (w : V), k + d = aa.length → d < M → (∃ N, SkAt h 0 ts most N) → BitsAt h 1 none [] → 1 ∉ skB 0 ts → ts.length ≤ k → (ts.length : Int) ≤ most → V.agg (lcs w) = w →
    ∃ h' ts' M', loopx M (lwOne_l36 300 x0 (aa.map (intV .u8)) ab x3 (.ptr 0 0) (.ptr 1 0)) [w, .int .i64 (k : Int)] h = lwOne_l36 300 x0 (aa.map (intV .u8)) ab x3 (.ptr 0 0) (.ptr 1 0) [w, .int .i64 (aa.length : Int)] h' (loopx M' (lwOne_l36 300 x0 (aa.map (intV .u8)) ab x3 (.ptr 0 0) (.ptr 1 0))) ∧ (∃ N, SkAt h' 0 ts' most N) ∧ BitsAt h' 1 none [] ∧ 1 ∉ skB 0 ts' ∧ ts'.length ≤ aa.length ∧ (ts'.length : Int) ≤ most := by
  intro d
  induction d with
  | zero =>
    intro k M h ts w h1 h2 S B n1 hk hr hw
    obtain ⟨M, rfl⟩ : ∃ M', M = M' + 1 := ⟨M - 1, by omega⟩
    obtain rfl : k = aa.length := by omega
    exact ⟨h, ts, M, loopx_succ .., S, B, n1, hk, hr⟩
  | succ d ih =>
    intro k M h ts w h1 h2 S B n1 hk hr hw
    obtain ⟨M, rfl⟩ : ∃ M', M = M' + 1 := ⟨M - 1, by omega⟩
    obtain ⟨x, hx⟩ : ∃ x, aa[k]? = some x := ⟨_, List.getElem?_eq_getElem (by omega)⟩
    have hxv : (aa.map (intV .u8))[k]? = some [.int .u8 x] := by rw [List.getElem?_map, hx]; rfl
    have hlt : decide ((k : Int) < (aa.length : Int)) = true := by simp; omega
    obtain ⟨N, S0⟩ := S
    have hB := B.lt.1
    obtain ⟨kk, hkk⟩ : ∃ kk, kk = IntKind.i64.wrap (1 + IntKind.i64.wrap (Int.tmod x3 8)) := ⟨_, rfl⟩
    obtain ⟨v, hv⟩ : ∃ v, v = IntKind.i32.wrap x := ⟨_, rfl⟩
    have key : ∃ b h2 ts2, call 300 22 [.ptr 0 0, .int .i32 v, .int .i64 kk] h = some (.ret [.bool b], h2) ∧ (∃ N, SkAt h2 0 ts2 most N) ∧ BitsAt h2 1 none [] ∧ 1 ∉ skB 0 ts2 ∧ ts2.length ≤ k + 1 ∧ (ts2.length : Int) ≤ most := by
      by_cases hf : (ts.length : Int) < most
      · obtain ⟨h2, ts2, e, P⟩ := insert_call 297 S0 v kk (by omega) (by unfold lim; omega) hf
        have G := P.grew
        have hl2 : ts2.length = ts.length + 1 := by
          have := congrArg List.length P.items
          rwa [itT_len, insI_len, itT_len] at this
        exact ⟨true, h2, ts2, e, G.sk, B.keep (G.old 1 hB n1) (fun b e => by cases e), fun hm => by rcases G.new 1 hm with h | h; exact n1 h; omega, by omega, by omega⟩
      · exact ⟨false, h, ts, insert_full 299 S0 v kk (by omega), ⟨N, S0⟩, B, n1, by omega, hr⟩
    obtain ⟨b, h2', ts2, e, S2, B2, n2, k2, r2⟩ := key
    have key2 : ∀ next, lwOne_l36 300 x0 (aa.map (intV .u8)) ab x3 (.ptr 0 0) (.ptr 1 0) [w, .int .i64 (k : Int)] h next = next [w, .int .i64 ((k + 1 : Nat) : Int)] h2' := by
      intro next
      unfold lwOne_l36
      simp only [gv, List.getD_cons_zero, List.getD_cons_succ, List.length_map, bop_i64_lss, bd_some, bv_bool, hlt, if_true, nv_nat, bdS_some, idxP_sl hxv, cellsP_iptr, bd3_some, Nat.zero_add, Nat.le_refl, Nat.reduceLT, and_self, List.getElem?_cons_zero, cvt_i32]
      rw [← hkk, ← hv, e, cl_ret, one1_one, bop_i64_add, bd_some, step64 (show k < lim by unfold lim; omega), hw]
    obtain ⟨h', ts', M', e', r⟩ := ih (k + 1) M h2' ts2 w (by omega) (by omega) S2 B2 n2 k2 r2 hw
    exact ⟨h', ts', M', by rw [loopx_succ, key2]; exact e', r⟩
theorem cells_i (k : IntKind) (a : Int) : V.cells (.int k a) = [.int k a] := rfl
theorem set_ow (k v K : Int) : setR [V.int .u8 k, V.int .i32 v] 0 [V.int .u8 K] = O.w ⟨K, v⟩ := rfl
theorem one_end (x0 x3 : Int) (aa : List Int) (ab : Bool) {h : Heap} {ts : List Tw} (k v : Int) (hk : 0 ≤ k ∧ k < 256) (most : Int) (hw : IntKind.i64.wrap (Int.tmod x0 15) = most) (hm : 0 ≤ most ∧ most ≤ 14) (S : ∃ N, SkAt h 0 ts most N) (B : BitsAt h 1 none []) (n1 : 1 ∉ skB 0 ts) (hr : (ts.length : Int) ≤ most) :
    ∃ H, ∀ next, lwOne_l36 300 x0 (aa.map (intV .u8)) ab x3 (.ptr 0 0) (.ptr 1 0) [.agg [.int .u8 k, .int .i32 v], .int .i64 (aa.length : Int)] h next = some (.ret [.bool true], H) := by
  obtain ⟨N, S0⟩ := S
  obtain ⟨K, hK⟩ : ∃ K, K = 1 + k % 3 := ⟨_, rfl⟩
  have hK0 : IntKind.u8.wrap (1 + k.tmod 3) = K := by
    rw [Int.tmod_eq_emod_of_nonneg hk.1, hK]
    unfold IntKind.wrap
    simp [IntKind.bits, IntKind.signed]
    omega
  obtain ⟨h1, r1, e1, sl1, l1, k1⟩ := items_call 297 S0 (by unfold lim; omega) (by omega)
  rw [lvV0 fun t ht => (S0.ht t ht).1] at sl1
  have S1 : SkAt h1 0 ts most N := S0.keep fun b hb => k1 b (S0.lt b hb)
  have B1 : BitsAt h1 1 none [] := B.keep (k1 1 B.lt.1) fun b e => by cases e
  obtain ⟨h2, ts2, tb2, e2, D2, I2⟩ := applyN_call 296 ⟨N, S1⟩ B1 n1 (fun b e => by cases e) hr (by omega) (by unfold lim; omega) (by omega)
  have n2 : 1 ∉ skB 0 ts2 := fun hmm => by
    rcases D2.new 1 hmm with h | h
    · exact n1 h
    · have := B1.lt.1; omega
  have hl2 : ts2.length = ts.length := by have := congrArg List.length I2; rwa [itT_len, itT_len] at this
  obtain ⟨h3, ts3, bits3, tb3, told, e3, D3, r⟩ := srtApply_call 296 [⟨K, v⟩] false D2.sk D2.bt n2 (fun b e => by cases e) (by rw [hl2]; exact hr) (by omega) (by rw [hl2]; simp [lim]; omega) (by rw [hl2]; simp; omega)
  rw [I2, doneO_one] at r
  have r1' : (stp most (itT ts, []) ⟨K, v⟩).1.1 = itT ts3 := congrArg (fun p => p.1.1) r
  have r2' : [(stp most (itT ts, []) ⟨K, v⟩).2] = told := congrArg (fun p => p.2) r
  subst r2'
  obtain ⟨N3, S3⟩ := D3.sk
  have hroom3 := D3.room
  obtain ⟨h4, r4, e4, sl4, l4, k4⟩ := items_call 297 S3 (by unfold lim; omega) (by omega)
  rw [lvV0 fun t ht => (S3.ht t ht).1, ← r1'] at sl4
  have kr : ∀ {b e sz : Nat} {l : List (List V)} {z : Bool}, h3[b]? = some (.row e sz l z) → h4[b]? = some (.row e sz l z) := fun hb => (k4 _ (lt_of_at hb)).trans hb
  have sl1' : SlI h4 h.length r1 ((itT ts).map (·.1)) := sl1.keep fun b l z hb => kr (D3.keepRow D2.sk D2.bt (D2.keepRow ⟨N, S1⟩ B1 hb))
  have t2 : RowR h3 tb2 [] := D2.tl.keep' fun l z hb => D3.keepRow D2.sk D2.bt hb
  have t3 : RowR h4 tb3 [(stp most (itT ts, []) ⟨K, v⟩).2] := D3.tl.keep' fun l z hb => kr hb
  have g2 : slcH h3 (.row tb2 2 0 0) = some (2, []) := t2.slc
  have g3 : slcH h3 (.row tb3 2 0 1) = some (2, [R.w (stp most (itT ts, []) ⟨K, v⟩).2]) := D3.tl.slc
  obtain ⟨c1, c2⟩ := t3.get (i := 0) rfl 0
  have c1' : idxP 2 0 (.row tb3 2 0 1) = some (.rptr tb3 2 0 0) := c1
  obtain ⟨s1, q1⟩ := sl1'.slc
  obtain ⟨s4, q4⟩ := sl4.slc
  have e1' : call 300 21 [.ptr 0 0] h = some (.ret [r1], h1) := e1
  have e2' : call 300 18 [.ptr 0 0, .ptr 1 0, .sl 0 [] true] h1 = some (.ret [.row tb2 2 0 0], h2) := e2
  have e3' : call 300 18 [.ptr 0 0, .ptr 1 0, .sl 2 [O.w ⟨K, v⟩] false] h2 = some (.ret [.row tb3 2 0 1], h3) := e3
  have e4' : call 300 21 [.ptr 0 0] h3 = some (.ret [r4], h4) := e4
  refine ⟨h4, fun next => ?_⟩
  unfold lwOne_l36
  simp only [gv, List.getD_cons_zero, List.getD_cons_succ, List.length_map, bop_i64_lss, bd_some, bv_bool]
  rw [if_neg (by simp), e1', cl_ret, one1_one, e2', cl_ret, one1_one]
  rw [show lcs (V.agg [.int .u8 k, .int .i32 v]) = [.int .u8 k, .int .i32 v] from rfl]
  simp only [List.getElem?_cons_zero, bd_some, bop_u8_rem (show (3 : Int) ≠ 0 by decide), bop_u8_add', hK0, cells_i, set_ow, List.length_cons, List.length_nil, Nat.zero_add, Nat.reduceLeDiff, and_self, if_true]
  rw [show V.agg ((O.w ⟨K, v⟩).drop 0 |>.take 2) = V.agg (O.w ⟨K, v⟩) from rfl, bsl_o, bd_some, e3', cl_ret, one1_one, g3, bd_some]
  rw [if_neg (by simp), g2, bd_some, if_neg (by simp), e4', cl_ret, one1_one]
  rw [show (O.w ⟨K, v⟩)[0]? = some (.int .u8 K) from rfl]
  have f13 : ((1 : Int) == 3) = false := rfl
  have f23 : ((2 : Int) == 3) = false := rfl
  have f21 : ((2 : Int) == 1) = false := rfl
  have f11 : ((1 : Int) == 1) = true := rfl
  have f33 : ((3 : Int) == 3) = true := rfl
  have f44 : ((4 : Int) == 4) = true := rfl
  have f55 : ((5 : Int) == 5) = true := rfl
  have hlI : ((itT ts).map (·.1)).length = ts.length := by rw [List.length_map, itT_len]
  rcases (show K = 1 ∨ K = 2 ∨ K = 3 by omega) with e | e | e
  · subst e
    by_cases hf : most ≤ (ts.length : Int)
    · have hst : stp most (itT ts, []) ⟨1, v⟩ = ((itT ts, []), ⟨3, 0⟩) := by
        unfold stp
        rw [if_pos rfl, if_pos (by simpa [itT_len] using hf)]
      rw [hst] at sl4 c2
      have hS := rSame_call 299 sl4.sees sl1'.sees (by rw [hlI]; unfold lim; omega) (by rw [hlI]; omega)
      have hme : ((ts.length : Int) == most) = true := by simp; omega
      simp only [bd_some, bop_u8_eql', bv_bool, q1, q4, known11_h, cl_ret, one1_one, c1', addP_rptr, c2, bd3_some, List.length_map, hw, Nat.zero_add, Nat.add_zero, Nat.reduceAdd, Nat.le_refl, Nat.reduceLeDiff, Nat.reduceLT, and_self, if_true, rw_0, Bool.false_eq_true, if_false, f13, f11, itT_len, hme, f33]
      rw [show call 300 23 [r4, r1] h4 = _ from hS, cl_ret, one1_one]
    · have hst : stp most (itT ts, []) ⟨1, v⟩ = ((insI (itT ts) v (hgt 1 []).1, (hgt 1 []).2), ⟨1, 0⟩) := by
        unfold stp
        rw [if_pos rfl, if_neg (by simpa [itT_len] using hf)]
      rw [hst] at sl4 c2 q4
      have hme : ((ts.length : Int) == most) = false := by simp; omega
      simp only [bd_some, bop_u8_eql', bv_bool, q1, q4, known11_h, cl_ret, one1_one, c1', addP_rptr, c2, bd3_some, List.length_map, hw, Nat.zero_add, Nat.add_zero, Nat.reduceAdd, Nat.le_refl, Nat.reduceLeDiff, Nat.reduceLT, and_self, if_true, rw_0, Bool.false_eq_true, if_false, f13, f11, itT_len, hme, insI_len]
      rw [w64 (by omega) (by omega)]
      simp
  · subst e
    cases hI : itT ts with
    | nil =>
      have hst : stp most (itT ts, []) ⟨2, v⟩ = (([], []), ⟨4, 0⟩) := by
        unfold stp
        rw [if_neg (by simp), if_pos rfl, hI]
      rw [hst] at sl4 c2 q4
      rw [hI] at q1
      simp only [bd_some, bop_u8_eql', bv_bool, q1, q4, known11_h, cl_ret, one1_one, c1', addP_rptr, c2, bd3_some, List.length_map, hw, Nat.zero_add, Nat.add_zero, Nat.reduceAdd, Nat.le_refl, Nat.reduceLeDiff, Nat.reduceLT, and_self, if_true, rw_0, Bool.false_eq_true, if_false, f23, f21, f44, List.map_nil, List.length_nil]
      simp
    | cons p I =>
      have hst : stp most (itT ts, []) ⟨2, v⟩ = ((I, []), ⟨2, p.1⟩) := by
        unfold stp
        rw [if_neg (by simp), if_pos rfl, hI]
      rw [hst] at sl4 c2 q4
      rw [hI] at q1 sl1' hlI
      obtain ⟨pp, g1, g4⟩ := SlI.get0 sl1'
      obtain ⟨r', w1, w2, w3⟩ := SlI.tail sl1'
      have hS := rSame_call 299 sl4.sees w3 (by simp at hlI ⊢; unfold lim; omega) (by simp at hlI ⊢; omega)
      have hz : ((((p :: I).map (·.1)).length : Int) == 0) = false := by simp; omega
      simp only [bd_some, bop_u8_eql', bv_bool, q1, q4, known11_h, cl_ret, one1_one, c1', addP_rptr, c2, bd3_some, List.length_map, hw, Nat.zero_add, Nat.add_zero, Nat.reduceAdd, Nat.le_refl, Nat.reduceLeDiff, Nat.reduceLT, and_self, if_true, rw_0, Bool.false_eq_true, if_false, f23, f21, f44, List.map_cons, List.length_cons]
      have w1' : lenP r1 = some (I.length + 1) := by rw [w1, List.length_map]
      have w2' : sliceP 1 1 (I.length + 1) none true r1 = some r' := by rw [← w2, List.length_map]
      rw [if_neg (by simp; omega), g1, bd_some, g4, bd3_some, if_pos ⟨by decide, trivial⟩]
      simp only [List.getElem?_cons_zero, bd_some, bld_res1]
      rw [show V.agg (List.take 2 (List.drop 0 (R.w ⟨2, p.1⟩))) = V.agg [.int .u8 2, .int .i32 p.1] from rfl, eql_res1, bd_some, bv_bool, if_pos (by simp), w1', bd_some, w2', bd_some]
      rw [show call 300 23 [r4, r'] h4 = _ from hS, cl_ret, one1_one]
  · subst e
    have hst : stp most (itT ts, []) ⟨3, v⟩ = ((itT ts, []), ⟨5, 0⟩) := by
      unfold stp
      rw [if_neg (by simp), if_neg (by simp)]
    rw [hst] at sl4 c2
    have hS := rSame_call 299 sl4.sees sl1'.sees (by rw [hlI]; unfold lim; omega) (by rw [hlI]; omega)
    simp only [bd_some, bop_u8_eql', bv_bool, q1, q4, known11_h, cl_ret, one1_one, c1', addP_rptr, c2, bd3_some, List.length_map, hw, Nat.zero_add, Nat.add_zero, Nat.reduceAdd, Nat.le_refl, Nat.reduceLeDiff, Nat.reduceLT, and_self, if_true, rw_0, Bool.false_eq_true, if_false, f33, f55]
    rw [show call 300 23 [r4, r1] h4 = _ from hS, cl_ret, one1_one]
theorem one_law_call (x0 : Int) (aa : List Int) (ab : Bool) (k v x3 : Int) (h0 : 0 ≤ x0 ∧ x0 < 256) (hk : 0 ≤ k ∧ k < 256) :
    call 301 6 [.int .u8 x0, .sl 1 (aa.map (intV .u8)) ab, .agg [.int .u8 k, .int .i32 v], .int .u8 x3] [] = some (.ret [.bool true], []) := by
  refine (lwOne_eq 300 x0 (aa.map (intV .u8)) ab k v x3 []).trans ?_
  obtain ⟨m, hm⟩ : ∃ m, m = x0 % 15 := ⟨_, rfl⟩
  have hw : IntKind.i64.wrap (Int.tmod x0 15) = m := by rw [Int.tmod_eq_emod_of_nonneg h0.1, w64, hm] <;> omega
  have hmm : max 0 (min m 1000) = m := by omega
  have key : ∃ H, lwOne 300 x0 (aa.map (intV .u8)) ab k v x3 = some (.ret [.bool true], H) := by
    have sn : bopH prog (newH m) .neq 26 (V.ptr 0 0) (V.val (.pointer none)) = some (.bool true) := by kernel_rfl
    have cn : bopH prog (newH m) .neq 28 (V.ptr 1 0) (V.val (.pointer none)) = some (.bool true) := by kernel_rfl
    have front : lwOne 300 x0 (aa.map (intV .u8)) ab k v x3 = if (decide (((aa.length : Nat) : Int) > 60)) then some (.ret [.bool true], newH m) else loopx 300 (lwOne_l36 300 x0 (aa.map (intV .u8)) ab x3 (.ptr 0 0) (.ptr 1 0)) [.agg [.int .u8 k, .int .i32 v], .int .i64 0] (newH m) := by
      unfold lwOne
      rw [hw, new_call0 299 m, cl_ret, one1_one, coin_new_call1 299 m, cl_ret, one1_one, bop_sk_nil, bd_some, bv_bool, if_neg (by decide), bop_coin_nil, bd_some, bv_bool, if_neg (by decide), List.length_map]
      by_cases hl : decide (((aa.length : Nat) : Int) > 60) = true
      · rw [if_pos hl, if_pos hl, sn, bd_some, bv_bool, if_pos rfl, cn, bd_some, bv_bool, if_pos rfl, known11_h, cl_ret, one1_one]
      · rw [if_neg hl, if_neg hl]
    by_cases hl : decide (((aa.length : Nat) : Int) > 60) = true
    · exact ⟨newH m, by rw [front, if_pos hl]⟩
    · have hl' : aa.length ≤ 60 := by simp at hl; omega
      have Sn : ∃ N, SkAt (newH m) 0 [] m N := by have := newH_sk m; rwa [hmm] at this
      obtain ⟨h', ts', M', e, S, B, n1, _, hr⟩ := one_fill x0 x3 aa ab m (by omega) hl' aa.length 0 300 (newH m) [] (.agg [.int .u8 k, .int .i32 v]) (by omega) (by omega) Sn (newH_bits m) (by simp [skB]) (by simp) (by simp; omega) rfl
      obtain ⟨H, eH⟩ := one_end x0 x3 aa ab k v hk m hw (by omega) S B n1 hr
      exact ⟨H, by rw [front, if_neg hl]; exact e.trans (eH _)⟩
  obtain ⟨H, key⟩ := key
  rw [key]
  exact gcw_ret (by simp [intV]) (by simp)
end Go.Proofs.Try
