import Derived.Test.YtodgpfffnnlbhaaKw
import Derived.Test.YtodgpfffnnlbhaaKx
import Derived.Test.YtodgpfffnnlbhaaSops
/-! the law SortedLeast: it returns true -/
set_option linter.unusedVariables false
set_option linter.unusedSimpArgs false
namespace Go.Proofs.Try
open Go.L Go.Rp Go.Sk
set_option maxRecDepth 100000
theorem known11_h (h : Heap) : call 300 13 [] h = some (.ret [.bool true], h) := by kernel_rfl
theorem RowR.get {h : Heap} {b : Nat} {l : List R} (r : RowR h b l) {i : Nat} {x : R} (hx : l[i]? = some x) (o : Nat) : idxP 2 i (.row b 2 0 l.length) = some (.rptr b 2 i 0) ∧ cellsP h (.rptr b 2 i o) = some (R.w x, 2, o) := by
  obtain ⟨z, hz⟩ := r
  have hi := (List.getElem?_eq_some_iff.1 hx).1
  exact ⟨idx_told hi, cellsP_rptr hz (by decide) (by rw [get_rs, hx]; rfl)⟩
theorem RowR.slc {h : Heap} {b : Nat} {l : List R} (r : RowR h b l) : slcH h (.row b 2 0 l.length) = some (2, l.map R.w) := by
  obtain ⟨z, hz⟩ := r
  have := slcH_all hz
  rwa [List.length_map] at this
theorem rw_0 (x : R) : (R.w x)[0]? = some (.int .u8 x.c) := rfl
theorem rw_1 (x : R) : (R.w x)[1]? = some (.int .i32 x.v) := rfl
theorem least_in1 (n : Nat) {h : Heap} {tb : Nat} (os : List O) (ob : Bool) (told : List R) (rt : RowR h tb told) (hlt : told.length = os.length) (hlim : os.length < lim) (k : Nat) (v0' v1' : V) (next23 : List V → Heap → Option (Res × Heap)) (v51 : V) (a : R) (ha : told[k]? = some a) (hp : ∀ (j : Nat) (b : R), told[j]? = some b → a.c = 1 → b.c = 3 → (oAt os (k : Int)).v ≤ (oAt os (j : Int)).v) : ∀ (d j M : Nat) (v0 : V), j + d = os.length → d < M →
    loopx M (lwLeast_l52 n (.sl 2 (os.map O.w) ob) (.row tb 2 0 os.length) [v0', v1', .int .i64 (k : Int)] next23 v51) [v0, .int .i64 (j : Int)] h = next23 [v0, v51, .int .i64 ((k + 1 : Nat) : Int)] h ∧
    loopx M (lwLeast_l97 n (.sl 2 (os.map O.w) ob) (.row tb 2 0 os.length) [v0', v1', .int .i64 (k : Int)] next23) [v0, .int .i64 (j : Int)] h = next23 [v0, v1', .int .i64 ((k + 1 : Nat) : Int)] h := by
  have hk : k < os.length := by have := (List.getElem?_eq_some_iff.1 ha).1; omega
  have hsk : IntKind.i64.wrap ((k : Int) + 1) = ((k + 1 : Nat) : Int) := step64 (by omega)
  intro d
  induction d with
  | zero =>
    intro j M v0 h1 h2
    obtain ⟨M, rfl⟩ : ∃ M', M = M' + 1 := ⟨M - 1, by omega⟩
    obtain rfl : j = os.length := by omega
    constructor
    · rw [loopx_succ]
      unfold lwLeast_l52
      simp only [gv, List.getD_cons_zero, List.getD_cons_succ, slcH_sl, bd_some, List.length_map, bop_i64_lss, bv_bool]
      rw [if_neg (by simp), bop_i64_add, bd_some, hsk]
    · rw [loopx_succ]
      unfold lwLeast_l97
      simp only [gv, List.getD_cons_zero, List.getD_cons_succ, slcH_sl, bd_some, List.length_map, bop_i64_lss, bv_bool]
      rw [if_neg (by simp), bop_i64_add, bd_some, hsk]
  | succ d ih =>
    intro j M v0 h1 h2
    obtain ⟨M, rfl⟩ : ∃ M', M = M' + 1 := ⟨M - 1, by omega⟩
    obtain ⟨i1, i2⟩ := ih (j + 1) M v0 (by omega) (by omega)
    obtain ⟨b, hb⟩ : ∃ b, told[j]? = some b := ⟨_, List.getElem?_eq_getElem (by omega)⟩
    obtain ⟨x, hx⟩ : ∃ x, os[j]? = some x := ⟨_, List.getElem?_eq_getElem (by omega)⟩
    obtain ⟨y, hy⟩ : ∃ y, os[k]? = some y := ⟨_, List.getElem?_eq_getElem hk⟩
    have hxv : (os.map O.w)[j]? = some (O.w x) := by rw [get_os, hx]; rfl
    have hyv : (os.map O.w)[k]? = some (O.w y) := by rw [get_os, hy]; rfl
    have hpv := hp j b hb
    rw [oAt_some hx, oAt_some hy] at hpv
    obtain ⟨a1, a2⟩ := rt.get ha 0
    obtain ⟨b1, b2⟩ := rt.get hb 0
    rw [hlt] at a1 b1
    have hlj : decide ((j : Int) < (os.length : Int)) = true := by simp; omega
    have hsj : IntKind.i64.wrap ((j : Int) + 1) = ((j + 1 : Nat) : Int) := step64 (by omega)
    constructor
    · have key : ∀ next, lwLeast_l52 n (.sl 2 (os.map O.w) ob) (.row tb 2 0 os.length) [v0', v1', .int .i64 (k : Int)] next23 v51 [v0, .int .i64 (j : Int)] h next = next [v0, .int .i64 ((j + 1 : Nat) : Int)] h := by
        intro next
        unfold lwLeast_l52
        simp only [gv, List.getD_cons_zero, List.getD_cons_succ, slcH_sl, bd_some, List.length_map, bop_i64_lss, bv_bool, hlj, if_true, nv_nat, bdS_some, a1, a2, b1, b2, addP_rptr, Nat.add_zero, bd3_some, Nat.zero_add, Nat.reduceLeDiff, Nat.reduceLT, and_self, rw_0, bop_u8_eql', idxP_sl hxv, idxP_sl hyv, addP_iptr, cellsP_iptr, Nat.reduceAdd, Nat.le_refl, ow_get1, bop_i32_lss, bop_i64_add, hsj]
        by_cases hc1 : a.c = 1
        · rw [if_pos (by simp [hc1])]
          by_cases hc3 : b.c = 3
          · rw [if_pos (by simp [hc3]), if_neg (by intro e; have := of_decide_eq_true e; have := hpv hc1 hc3; omega)]
          · rw [if_neg (by simpa using hc3)]
        · rw [if_neg (by simpa using hc1)]
      rw [loopx_succ, key]
      exact i1
    · have key : ∀ next, lwLeast_l97 n (.sl 2 (os.map O.w) ob) (.row tb 2 0 os.length) [v0', v1', .int .i64 (k : Int)] next23 [v0, .int .i64 (j : Int)] h next = next [v0, .int .i64 ((j + 1 : Nat) : Int)] h := by
        intro next
        unfold lwLeast_l97
        simp only [gv, List.getD_cons_zero, List.getD_cons_succ, slcH_sl, bd_some, List.length_map, bop_i64_lss, bv_bool, hlj, if_true, nv_nat, bdS_some, a1, a2, b1, b2, addP_rptr, Nat.add_zero, bd3_some, Nat.zero_add, Nat.reduceLeDiff, Nat.reduceLT, and_self, rw_0, bop_u8_eql', idxP_sl hxv, idxP_sl hyv, addP_iptr, cellsP_iptr, Nat.reduceAdd, Nat.le_refl, ow_get1, bop_i32_lss, bop_i64_add, hsj]
        by_cases hc1 : a.c = 1
        · rw [if_pos (by simp [hc1])]
          by_cases hc3 : b.c = 3
          · rw [if_pos (by simp [hc3]), if_neg (by intro e; have := of_decide_eq_true e; have := hpv hc1 hc3; omega)]
          · rw [if_neg (by simpa using hc3)]
        · rw [if_neg (by simpa using hc1)]
      rw [loopx_succ, key]
      exact i2
/-- the last that was taken -/
def LastOk (told : List R) (k : Nat) (last : Int) : Prop := last = -2147483648 ∨ ∃ (j : Nat) (a : R), j < k ∧ told[j]? = some a ∧ a.c = 2 ∧ a.v = last
theorem LastOk.up {told : List R} {k : Nat} {last : Int} (h : LastOk told k last) : LastOk told (k + 1) last := by
  rcases h with h | ⟨j, a, h1, h2⟩
  · exact .inl h
  · exact .inr ⟨j, a, by omega, h2⟩
theorem least_loop (n : Nat) {h : Heap} {tb : Nat} (os : List O) (ob : Bool) (told : List R) (I' : List (Int × Nat)) (rt : RowR h tb told) (hlt : told.length = os.length) (hlim : os.length < lim) (hn : os.length < n) (v7 : V) (Lp : Least os told I') (hv : ∀ x ∈ os, -2147483648 ≤ x.v) (Q : Option (Res × Heap))
    (hend : ∀ v0 last next, LastOk told os.length last → lwLeast_l20 n (.sl 2 (os.map O.w) ob) v7 (.row tb 2 0 os.length) [v0, .int .i32 last, .int .i64 (os.length : Int)] h next = Q) : ∀ (d k M : Nat) (v0 : V) (last : Int), k + d = os.length → d < M → LastOk told k last →
    loopx M (lwLeast_l20 n (.sl 2 (os.map O.w) ob) v7 (.row tb 2 0 os.length)) [v0, .int .i32 last, .int .i64 (k : Int)] h = Q := by
  intro d
  induction d with
  | zero =>
    intro k M v0 last h1 h2 hl
    obtain ⟨M, rfl⟩ : ∃ M', M = M' + 1 := ⟨M - 1, by omega⟩
    obtain rfl : k = os.length := by omega
    rw [loopx_succ]
    exact hend _ _ _ hl
  | succ d ih =>
    intro k M v0 last h1 h2 hl
    obtain ⟨M, rfl⟩ : ∃ M', M = M' + 1 := ⟨M - 1, by omega⟩
    obtain ⟨a, ha⟩ : ∃ a, told[k]? = some a := ⟨_, List.getElem?_eq_getElem (by omega)⟩
    obtain ⟨a1, a2⟩ := rt.get ha 0
    obtain ⟨_, a3⟩ := rt.get ha 1
    rw [hlt] at a1
    have hlk : decide ((k : Int) < (os.length : Int)) = true := by simp; omega
    have inner := fun next v51 v0' => least_in1 n os ob told rt hlt hlim k v0' (.int .i32 last) next v51 a ha (fun j b hb h1 h3 => Lp.put j k a b ha hb h1 h3) os.length 0 n v0' (by omega) hn
    by_cases hc : a.c = 2
    · have hle : ¬ a.v < last := by
        rcases hl with rfl | ⟨j, b, hj, hb, hbc, rfl⟩
        · obtain ⟨x, hx, e⟩ := Lp.vals k a ha hc
          have := hv x hx
          omega
        · have := Lp.rise j k b a hj hb ha hbc hc
          omega
      have key : ∀ next, lwLeast_l20 n (.sl 2 (os.map O.w) ob) v7 (.row tb 2 0 os.length) [v0, .int .i32 last, .int .i64 (k : Int)] h next = next [v0, .int .i32 a.v, .int .i64 ((k + 1 : Nat) : Int)] h := by
        intro next
        rw [← (inner next (.int .i32 a.v) v0).1]
        unfold lwLeast_l20
        simp only [gv, List.getD_cons_zero, List.getD_cons_succ, slcH_sl, bd_some, List.length_map, bop_i64_lss, bv_bool, hlk, if_true, nv_nat, bdS_some, a1, a2, a3, addP_rptr, Nat.add_zero, Nat.zero_add, bd3_some, Nat.reduceLeDiff, Nat.reduceLT, and_self, rw_0, rw_1, bop_u8_eql', bop_i32_lss, Nat.reduceAdd, Nat.le_refl]
        rw [if_pos (by simp [hc]), if_neg (by intro e; exact hle (of_decide_eq_true e))]
        rfl
      rw [loopx_succ, key]
      exact ih (k + 1) M v0 a.v (by omega) (by omega) (.inr ⟨k, a, by omega, ha, hc, rfl⟩)
    · have key : ∀ next, lwLeast_l20 n (.sl 2 (os.map O.w) ob) v7 (.row tb 2 0 os.length) [v0, .int .i32 last, .int .i64 (k : Int)] h next = next [v0, .int .i32 last, .int .i64 ((k + 1 : Nat) : Int)] h := by
        intro next
        rw [← (inner next (.int .i32 a.v) v0).2]
        unfold lwLeast_l20
        simp only [gv, List.getD_cons_zero, List.getD_cons_succ, slcH_sl, bd_some, List.length_map, bop_i64_lss, bv_bool, hlk, if_true, nv_nat, bdS_some, a1, a2, a3, addP_rptr, Nat.add_zero, Nat.zero_add, bd3_some, Nat.reduceLeDiff, Nat.reduceLT, and_self, rw_0, rw_1, bop_u8_eql', bop_i32_lss, Nat.reduceAdd, Nat.le_refl]
        rw [if_neg (by simpa using hc)]
        rfl
      rw [loopx_succ, key]
      exact ih (k + 1) M v0 last (by omega) (by omega) hl.up
theorem ops_v {c : List Int} {kinds : Int} (hc : small c = true) : ∀ o ∈ ops c kinds, -2147483648 ≤ o.v ∧ o.v < 2147483648 := by
  intro o ho
  unfold ops at ho
  obtain ⟨x, hx, rfl⟩ := List.mem_map.1 ho
  unfold small at hc
  have := List.all_eq_true.1 hc x (List.mem_of_mem_take hx)
  simp at this
  unfold Go.Rp.opOf
  simp only
  omega
/-- a list and a coin, new -/
theorem fresh_env (most : Int) : ∃ N, SkAt ([.box 12 ((ndH 0 0 (max 0 (min most 1000))).cells (fun _ _ => nilP))] ++ [.box 1 [.sl 0 [] true]]) 0 [] (max 0 (min most 1000)) N := by
  obtain ⟨N, _, S⟩ := new_call 0 [] most
  have S' : SkAt [.box 12 ((ndH 0 0 (max 0 (min most 1000))).cells (fun _ _ => nilP))] 0 [] (max 0 (min most 1000)) N := S
  exact ⟨N, S'.keep fun b hb => List.getElem?_append_left (S'.lt b hb)⟩
def newH (most : Int) : Heap := [.box 12 ((ndH 0 0 (max 0 (min most 1000))).cells (fun _ _ => nilP)), .box 1 [.sl 0 [] true]]
theorem newH_sk (most : Int) : ∃ N, SkAt (newH most) 0 [] (max 0 (min most 1000)) N := fresh_env most
theorem newH_bits (most : Int) : BitsAt (newH most) 1 none [] := ⟨rfl, rfl⟩
theorem new_call0 (n : Nat) (m : Int) : call (n + 1) 15 [.int .i64 m] [] = some (.ret [.ptr 0 0], [.box 12 ((ndH 0 0 (max 0 (min m 1000))).cells (fun _ _ => nilP))]) := by
  obtain ⟨N, e, _⟩ := new_call n [] m
  exact e
theorem coin_new_call1 (n : Nat) (m : Int) : call (n + 1) 16 [] [.box 12 ((ndH 0 0 (max 0 (min m 1000))).cells (fun _ _ => nilP))] = some (.ret [.ptr 1 0], newH m) := coin_new_call n _
theorem SlI.slc {h : Heap} {lo : Nat} {r : V} {l : List Int} (s : SlI h lo r l) : ∃ sz, slcH h r = some (sz, l.map (intV .i32)) := by
  rcases s with ⟨rfl, rfl⟩ | ⟨b, z, _, rfl, hz⟩
  · exact ⟨0, rfl⟩
  · have := slcH_all hz
    rw [List.length_map] at this
    exact ⟨1, this⟩
theorem SlI.get0 {h : Heap} {lo : Nat} {r : V} {x : Int} {l : List Int} (s : SlI h lo r (x :: l)) : ∃ p, idxP 1 0 r = some p ∧ cellsP h p = some ([.int .i32 x], 1, 0) := by
  rcases s with ⟨_, e⟩ | ⟨b, z, _, rfl, hz⟩
  · cases e
  · exact ⟨_, by simpa using idxP_row (b := b) (sz := 1) (lo := 0) (hi := (x :: l).length) (n := 0) (by simp), cellsP_rptr hz (by decide) rfl⟩
theorem lvV0 {ts : List Tw} (h : ∀ t ∈ ts, 1 ≤ t.ht) : lvV 0 ts = (itT ts).map (·.1) := by
  unfold lvV itT
  rw [List.filter_eq_self.2 (fun t ht => by have := h t ht; simp; omega), List.map_map]
  rfl
theorem least_law_call (x0 : Int) (c : List Int) (cb : Bool) (h0 : 0 ≤ x0 ∧ x0 < 256) (hc : small c = true) :
    call 301 4 [.int .u8 x0, .sl 1 (c.map (intV .u8)) cb] [] = some (.ret [.bool true], []) := by
  refine (lwLeast_eq 300 x0 (c.map (intV .u8)) cb []).trans ?_
  obtain ⟨os, hos⟩ : ∃ os, os = ops c 2 := ⟨_, rfl⟩
  have hol : os.length ≤ 80 := hos ▸ ops_len c 2
  have hov : ∀ x ∈ os, -2147483648 ≤ x.v := fun x hx => (ops_v hc x (hos ▸ hx)).1
  have hops := ops_call 300 c 1 cb 2 [] (.inl rfl) hc (by omega) (by omega) (by omega)
  rw [← hos] at hops
  obtain ⟨m, hm⟩ : ∃ m, m = x0 % 12 := ⟨_, rfl⟩
  have hw : IntKind.i64.wrap (Int.tmod x0 12) = m := by rw [Int.tmod_eq_emod_of_nonneg h0.1, w64, hm] <;> omega
  have hmm : max 0 (min m 1000) = m := by omega
  obtain ⟨h', ts', bits', tb, told, e1, D, r⟩ := srtApply_call 296 (bits := []) (cb := none) (c := 1) os false (newH_sk m) (newH_bits m) (by simp [skB]) (fun b e => by cases e) (by simp; omega) (by omega) (by simp [lim]; omega) (by simp; omega)
  have hlt : told.length = os.length := by
    have := runO_len os (max 0 (min m 1000)) (sPuts os ++ others os) (itT [], []) (List.replicate os.length ⟨0, 0⟩)
    unfold doneO at r
    rw [r, List.length_replicate] at this
    exact this
  have Lp := doneO_least os (max 0 (min m 1000)) [] (by omega)
  have r' : doneO os (max 0 (min m 1000)) ([], []) = ((itT ts', bits'), told) := r
  rw [r'] at Lp
  obtain ⟨N, S⟩ := D.sk
  have hts : ts'.length ≤ 12 := by have := D.room; omega
  obtain ⟨h2, ri, e2, sl, _, _⟩ := items_call 297 S (by unfold lim; omega) (by omega)
  rw [lvV0 fun t ht => (S.ht t ht).1] at sl
  have key : ∃ H, lwLeast 300 x0 (c.map (intV .u8)) cb = some (.ret [.bool true], H) := by
    refine ⟨h2, ?_⟩
    unfold lwLeast
    have hsl := D.tl.slc
    rw [hlt] at hsl
    rw [hops, cl_ret, one1_one, hw, new_call0 299 m, cl_ret, one1_one, bop_sk_nil, bd_some, bv_bool, if_neg (by decide), coin_new_call1 299 m, cl_ret, one1_one, e1, cl_ret, one1_one, hsl, bd_some, slcH_sl, bd_some]
    rw [if_neg (by simp [hlt])]
    refine least_loop 300 os false told (itT ts') D.tl hlt (by unfold lim; omega) (by omega) (.ptr 0 0) Lp hov _ (fun v0 last next hlast => ?_) os.length 0 300 (.bool false) (-2147483648) (by omega) (by omega) (.inl rfl)
    unfold lwLeast_l20
    simp only [gv, List.getD_cons_zero, List.getD_cons_succ, slcH_sl, bd_some, List.length_map, bop_i64_lss, bv_bool]
    rw [if_neg (by simp), e2, cl_ret, one1_one, known11_h, cl_ret, one1_one, bv_bool, if_pos rfl]
    obtain ⟨sz, hsc⟩ := sl.slc
    rw [hsc, bd_some]
    simp only [List.length_map]
    cases hI : itT ts' with
    | nil =>
      rw [if_pos (by simp)]
    | cons p I =>
      rw [if_neg (by simp; omega)]
      rw [hI] at sl
      obtain ⟨pp, g1, g2⟩ := sl.get0
      rw [g1, bd_some, g2, bd3_some, if_pos (by decide)]
      simp only [List.getElem?_cons_zero, bd_some, bop_i32_geq]
      have hge : p.1 ≥ last := by
        rcases hlast with rfl | ⟨j, a, hj, ha, hac, rfl⟩
        · have hmem : p ∈ itT ts' := by rw [hI]; exact List.mem_cons_self ..
          obtain ⟨rr, _, _, _, e5⟩ := doneO_eq os (max 0 (min m 1000)) [] [] (by simp; omega)
          have hsuf : ∃ d, itT ts' = (insAll [] ((((sPuts os).take rr).map (keyV os)).zip (hsOf rr []).1)).drop d := by
            have M := mins_run os (max 0 (min m 1000)) (others os) (insAll [] ((((sPuts os).take rr).map (keyV os)).zip (hsOf rr []).1)) (hsOf rr []).2 (setAll ⟨3, 0⟩ ((sPuts os).drop rr) (setAll ⟨1, 0⟩ ((sPuts os).take rr) (List.replicate os.length ⟨0, 0⟩))) (insAll_up _ .nil) (fun x hx => by
              have := restTo_mem os _ x hx
              exact ⟨this.1, this.2.2, by rw [setAll_len, setAll_len, List.length_replicate]; omega⟩) (others_up os)
            rw [← e5, r'] at M
            exact M.suf
          obtain ⟨d, hd⟩ := hsuf
          rw [hd] at hmem
          rcases insAll_mem _ (List.mem_of_mem_drop hmem) with h | ⟨q, hq, e⟩
          · cases h
          · have hq1 := (List.of_mem_zip (show (q.1, q.2) ∈ _ from hq)).1
            obtain ⟨x, hx, e3⟩ := List.mem_map.1 hq1
            have hx0 := sPuts_mem os x (List.mem_of_mem_take hx)
            have : -2147483648 ≤ (oAt os x).v := by
              refine hov _ ?_
              unfold oAt
              rw [List.getD_eq_getElem?_getD, List.getElem?_eq_getElem (by omega)]
              exact List.getElem_mem _
            have e4 : (oAt os x).v = p.1 := e3.trans e
            omega
        · exact Lp.left j a ha hac p (by rw [hI]; exact List.mem_cons_self ..)
      rw [decide_eq_true hge]
  obtain ⟨H, key⟩ := key
  rw [key]
  exact gcw_ret (by simp) (by simp)
end Go.Proofs.Try
