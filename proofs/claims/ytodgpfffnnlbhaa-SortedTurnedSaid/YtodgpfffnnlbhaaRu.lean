import Derived.Test.YtodgpfffnnlbhaaRt
/-! the law SortedTurned: it returns true -/
set_option linter.unusedVariables false
set_option linter.unusedSimpArgs false
namespace Go.Proofs.Try
open Go.L Go.Rp Go.Sk
set_option maxRecDepth 100000
theorem known11_n (n : Nat) (h : Heap) : call (n + 300) 13 [] h = some (.ret [.bool true], h) := by kernel_rfl
theorem known11_1000 (h : Heap) : call 1000 13 [] h = some (.ret [.bool true], h) := known11_n 700 h
theorem bop_sk_neq (h : Heap) (b : Nat) : bopH prog h .neq 26 (V.ptr b 0) (V.val (.pointer none)) = some (.bool true) := by kernel_rfl
/-- how often a code is told -/
def cnt (k : Nat) (l : List R) : Int := (l.countP fun r => r.c % 6 == (k : Int) : Nat)
def Cs (l m : List R) : List (List V) := (List.range 6).map fun k => [.int .i64 (cnt k l - cnt k m)]
theorem map_range_set {α : Type} (n k : Nat) (f : Nat → α) (y : α) : ((List.range n).map f).set k y = (List.range n).map fun j => if j = k then y else f j := by
  refine List.ext_getElem? fun j => ?_
  rw [List.getElem?_map, List.getElem?_set]
  by_cases h : k = j
  · subst h
    rw [if_pos rfl]
    by_cases hk : k < n
    · rw [if_pos (by simpa using hk)]; simp [List.getElem?_range, hk]
    · rw [if_neg (by simpa using hk)]; simp [List.getElem?_range, hk]
  · have h' : ¬ j = k := fun e => h e.symm
    rw [if_neg h, List.getElem?_map]
    by_cases hk : j < n
    · simp [List.getElem?_range, hk, h']
    · simp [List.getElem?_range, hk]
theorem cs_get (l m : List R) {k : Nat} (h : k < 6) : (Cs l m)[k]? = some [.int .i64 (cnt k l - cnt k m)] := by
  unfold Cs; simp [List.getElem?_range, h]
theorem cs_len (l m : List R) : (Cs l m).length = 6 := by simp [Cs]
theorem cnt_le (k : Nat) (l : List R) : 0 ≤ cnt k l ∧ cnt k l ≤ l.length := ⟨Int.natCast_nonneg _, Int.ofNat_le.2 List.countP_le_length⟩
theorem cnt_snoc (k : Nat) (l : List R) (a : R) : cnt k (l ++ [a]) = cnt k l + if a.c % 6 == (k : Int) then 1 else 0 := by
  unfold cnt
  rw [List.countP_append, List.countP_cons]
  split <;> simp [*]
theorem cs_step (l m : List R) (a b : R) {ka kb : Nat} (ha : a.c % 6 = (ka : Int)) (hb : b.c % 6 = (kb : Int)) (h1 : ka < 6) (h2 : kb < 6) :
    ∃ y, ((Cs l m).set ka [.int .i64 (cnt ka l - cnt ka m + 1)])[kb]? = some [.int .i64 y] ∧ -(m.length : Int) ≤ y ∧ y ≤ l.length + 1 ∧ ((Cs l m).set ka [.int .i64 (cnt ka l - cnt ka m + 1)]).set kb [.int .i64 (y - 1)] = Cs (l ++ [a]) (m ++ [b]) := by
  refine ⟨if kb = ka then cnt ka l - cnt ka m + 1 else cnt kb l - cnt kb m, ?_, ?_, ?_, ?_⟩
  · unfold Cs
    rw [map_range_set]
    simp [List.getElem?_range, h2]
    split <;> rfl
  · have := cnt_le ka l; have := cnt_le ka m; have := cnt_le kb l; have := cnt_le kb m
    split <;> omega
  · have := cnt_le ka l; have := cnt_le ka m; have := cnt_le kb l; have := cnt_le kb m
    split <;> omega
  · unfold Cs
    rw [map_range_set, map_range_set]
    refine List.map_congr_left fun j hj => ?_
    rw [cnt_snoc, cnt_snoc, ha, hb]
    by_cases e1 : j = kb
    · subst e1
      by_cases e2 : j = ka
      · subst e2
        simp
        omega
      · have e3 : ¬ (ka : Int) = (j : Int) := by omega
        simp [e2, e3]
        omega
    · have e4 : ¬ (kb : Int) = (j : Int) := by omega
      by_cases e2 : j = ka
      · subst e2
        simp [e1, e4]
        omega
      · have e3 : ¬ (ka : Int) = (j : Int) := by omega
        simp [e1, e2, e3, e4]
/-- what is told is one of six -/
theorem stpV_c (most : Int) (s : List Int) (o : O) : 0 ≤ (stpV most s o).2.c ∧ (stpV most s o).2.c < 6 := by
  unfold stpV
  split
  · split
    · show (0 : Int) ≤ 3 ∧ (3 : Int) < 6; decide
    · show (0 : Int) ≤ 1 ∧ (1 : Int) < 6; decide
  · split
    · cases s <;> simp
    · show (0 : Int) ≤ 5 ∧ (5 : Int) < 6; decide
theorem runV_c (os : List O) (most : Int) : ∀ (L : List Int) (s : List Int) (told : List R), (∀ r ∈ told, 0 ≤ r.c ∧ r.c < 6) → ∀ r ∈ (runV os most L s told).2, 0 ≤ r.c ∧ r.c < 6
  | [], s, told, h => h
  | k :: L, s, told, h => runV_c os most L _ _ fun r hr => by
    rcases List.mem_or_eq_of_mem_set hr with h' | rfl
    · exact h r h'
    · exact stpV_c ..
theorem batV_c (os : List O) (most : Int) (s : List Int) : ∀ r ∈ (batV os most s).2, 0 ≤ r.c ∧ r.c < 6 := runV_c os most _ s _ fun r hr => by
  rw [(List.mem_replicate.1 hr).2]; decide
/-- codes are counted, up and down -/
theorem codes_loop (n : Nat) {h : Heap} {b1 b2 : Nat} {l m : List R} (r1 : RowR h b1 l) (r2 : RowR h b2 m) (hlm : m.length = l.length) (h1 : ∀ r ∈ l, 0 ≤ r.c ∧ r.c < 6) (h2 : ∀ r ∈ m, 0 ≤ r.c ∧ r.c < 6) (hl : l.length ≤ 1000) (v22 v26 : V) : ∀ (d i M : Nat), i + d = l.length → d < M →
    ∃ M', loopx M (lwTurned_l104 n v22 v26 (.row b1 2 0 l.length) (.row b2 2 0 m.length)) [.sl 1 (Cs (l.take i) (m.take i)) false, .int .i64 (i : Int), .bool false] h = loopx n (lwTurned_l140 n v22 v26) [.bool false, .sl 1 (Cs l m) false, .int .i64 0, .bool false] h ∧ 0 ≤ M' := by
  intro d
  induction d with
  | zero =>
    intro i M e1 e2
    obtain ⟨M, rfl⟩ : ∃ M', M = M' + 1 := ⟨M - 1, by omega⟩
    obtain rfl : i = l.length := by omega
    refine ⟨0, ?_, Nat.le_refl _⟩
    rw [loopx_succ]
    unfold lwTurned_l104
    rw [r1.slc, bd_some]
    simp only [gv, List.getD_cons_zero, List.getD_cons_succ, List.length_map, bop_i64_lss, bd_some, bv_bool]
    rw [if_neg (by simp), List.take_length, ← hlm, List.take_length]
    rfl
  | succ d ih =>
    intro i M e1 e2
    obtain ⟨M, rfl⟩ : ∃ M', M = M' + 1 := ⟨M - 1, by omega⟩
    obtain ⟨a, ha⟩ : ∃ a, l[i]? = some a := ⟨_, List.getElem?_eq_getElem (by omega)⟩
    obtain ⟨b, hb⟩ : ∃ b, m[i]? = some b := ⟨_, List.getElem?_eq_getElem (by omega)⟩
    have ca := h1 a (List.mem_of_getElem? ha)
    have cb := h2 b (List.mem_of_getElem? hb)
    obtain ⟨ka, hka⟩ : ∃ k : Nat, a.c = (k : Int) := ⟨a.c.toNat, (Int.toNat_of_nonneg ca.1).symm⟩
    obtain ⟨kb, hkb⟩ : ∃ k : Nat, b.c = (k : Int) := ⟨b.c.toNat, (Int.toNat_of_nonneg cb.1).symm⟩
    have ma : a.c % 6 = (ka : Int) := by omega
    have mb : b.c % 6 = (kb : Int) := by omega
    have ta : Int.tmod a.c 6 = (ka : Int) := by rw [Int.tmod_eq_emod_of_nonneg ca.1, ma]
    have tb : Int.tmod b.c 6 = (kb : Int) := by rw [Int.tmod_eq_emod_of_nonneg cb.1, mb]
    obtain ⟨g1, g2⟩ := r1.get ha 0
    obtain ⟨g3, g4⟩ := r2.get hb 0
    obtain ⟨y, y1, y2, y3, y4⟩ := cs_step (l.take i) (m.take i) a b ma mb (by omega) (by omega)
    have ht1 : l.take i ++ [a] = l.take (i + 1) := by rw [List.take_add_one, ha]; rfl
    have ht2 : m.take i ++ [b] = m.take (i + 1) := by rw [List.take_add_one, hb]; rfl
    rw [ht1, ht2] at y4
    have q1 := cnt_le ka (l.take i)
    have q2 := cnt_le ka (m.take i)
    rw [List.length_take] at q1 q2 y2 y3
    have wa : IntKind.i64.wrap (cnt ka (l.take i) - cnt ka (m.take i) + 1) = cnt ka (l.take i) - cnt ka (m.take i) + 1 := w64 (by omega) (by omega)
    have wb : IntKind.i64.wrap (y - 1) = y - 1 := w64 (by omega) (by omega)
    have hlt : decide ((i : Int) < (l.length : Int)) = true := by simp; omega
    have key : ∀ next, lwTurned_l104 n v22 v26 (.row b1 2 0 l.length) (.row b2 2 0 m.length) [.sl 1 (Cs (l.take i) (m.take i)) false, .int .i64 (i : Int), .bool false] h next = next [.sl 1 (Cs (l.take (i + 1)) (m.take (i + 1))) false, .int .i64 ((i + 1 : Nat) : Int), .bool false] h := by
      intro next
      unfold lwTurned_l104
      rw [r1.slc, bd_some]
      simp only [gv, List.getD_cons_zero, List.getD_cons_succ, List.length_map, bop_i64_lss, bd_some, bv_bool, hlt, if_true, nv_nat, bdS_some, g1, addP_rptr, Nat.add_zero, g2, g3, g4, bd3_some, rw_0, Nat.zero_add, Nat.reduceLeDiff, Nat.reduceLT, and_self, bop_u8_rem (show (6 : Int) ≠ 0 by decide), ta, tb, lsl]
      rw [if_pos (by refine ⟨?_, ?_, by decide⟩ <;> first | trivial | rfl | (rw [cs_len]; omega)), cs_get _ _ (by omega), bd_some]
      simp only [List.getElem?_cons_zero, bd_some, bop_i64_add, wa]
      rw [if_pos (by refine ⟨?_, ?_, by decide⟩ <;> first | trivial | rfl | (rw [cs_len]; omega)), if_pos (by rfl), if_pos (by refine ⟨?_, ?_, ?_⟩ <;> first | trivial | rfl | decide | exact Nat.le_refl 1)]
      rw [show setR [V.int .i64 (cnt ka (l.take i) - cnt ka (m.take i))] 0 (V.cells (.int .i64 (cnt ka (l.take i) - cnt ka (m.take i) + 1))) = [.int .i64 (cnt ka (l.take i) - cnt ka (m.take i) + 1)] from rfl]
      rw [if_pos (by refine ⟨?_, ?_, by decide⟩ <;> first | trivial | rfl | (rw [List.length_set, cs_len]; omega)), y1, bd_some]
      simp only [List.getElem?_cons_zero, bd_some, bop_i64_sub, wb]
      rw [if_pos (by refine ⟨?_, ?_, by decide⟩ <;> first | trivial | rfl | (rw [List.length_set, cs_len]; omega)), if_pos (by rfl), if_pos (by refine ⟨?_, ?_, ?_⟩ <;> first | trivial | rfl | decide | exact Nat.le_refl 1)]
      rw [show setR [V.int .i64 y] 0 (V.cells (.int .i64 (y - 1))) = [.int .i64 (y - 1)] from rfl, y4, step64 (show i < lim by unfold lim; omega)]
    obtain ⟨M', e', _⟩ := ih (i + 1) M (by omega) (by omega)
    exact ⟨M', by rw [loopx_succ, key]; exact e', Nat.zero_le _⟩
/-- all are none -/
theorem zero_loop (n : Nat) {h : Heap} {l m : List R} (hz : ∀ k : Nat, k < 6 → cnt k l = cnt k m) (v22 v26 : V) : ∀ (d k M : Nat) (v0 : V), k + d = 6 → d < M →
    ∃ M' v0', loopx M (lwTurned_l140 n v22 v26) [v0, .sl 1 (Cs l m) false, .int .i64 (k : Int), .bool false] h = lwTurned_l140 n v22 v26 [v0', .sl 1 (Cs l m) false, .int .i64 6, .bool false] h (loopx M' (lwTurned_l140 n v22 v26)) := by
  intro d
  induction d with
  | zero =>
    intro k M v0 h1 h2
    obtain ⟨M, rfl⟩ : ∃ M', M = M' + 1 := ⟨M - 1, by omega⟩
    obtain rfl : k = 6 := by omega
    exact ⟨M, v0, loopx_succ ..⟩
  | succ d ih =>
    intro k M v0 h1 h2
    obtain ⟨M, rfl⟩ : ∃ M', M = M' + 1 := ⟨M - 1, by omega⟩
    have hlt : decide ((k : Int) < 6) = true := by simp; omega
    have key : ∀ next, lwTurned_l140 n v22 v26 [v0, .sl 1 (Cs l m) false, .int .i64 (k : Int), .bool false] h next = next [v0, .sl 1 (Cs l m) false, .int .i64 ((k + 1 : Nat) : Int), .bool false] h := by
      intro next
      unfold lwTurned_l140
      simp only [gv, List.getD_cons_zero, List.getD_cons_succ, bop_i64_lss, bd_some, bv_bool, hlt, if_true, nv_nat, bdS_some, lsl]
      rw [if_pos (by refine ⟨?_, ?_, by decide⟩ <;> first | trivial | rfl | (rw [cs_len]; omega)), cs_get _ _ (by omega), bd_some]
      simp only [List.getElem?_cons_zero, bd_some, bop_i64_neq, bv_bool]
      rw [if_neg (by have := hz k (by omega); simp; omega), bop_i64_add, bd_some, step64 (show k < lim by unfold lim; omega)]
    obtain ⟨M', v0', e⟩ := ih (k + 1) M v0 (by omega) (by omega)
    exact ⟨M', v0', by rw [loopx_succ, key]; exact e⟩
/-- an item put into one of two lists -/
theorem one_put {h : Heap} {s : Nat} {ts : List Tw} {most : Int} (S : ∃ N, SkAt h s ts most N) (v : Int) (hts : ts.length ≤ 100) (hr : (ts.length : Int) ≤ most) :
    ∃ b h2 ts2, call 1000 22 [.ptr s 0, .int .i32 v, .int .i64 1] h = some (.ret [.bool b], h2) ∧ Grew h h2 s ts ts2 most ∧ itT ts2 = (if (ts.length : Int) < most then insI (itT ts) v 1 else itT ts) ∧ ts2.length ≤ ts.length + 1 ∧ (ts2.length : Int) ≤ most := by
  obtain ⟨N, S0⟩ := S
  by_cases hf : (ts.length : Int) < most
  · obtain ⟨h2, ts2, e, P⟩ := insert_call 997 S0 v 1 (by omega) (by unfold lim; omega) hf
    have hl2 : ts2.length = ts.length + 1 := by
      have := congrArg List.length P.items
      rwa [itT_len, insI_len, itT_len] at this
    exact ⟨true, h2, ts2, e, P.grew, by rw [if_pos hf, P.items]; rfl, by omega, by omega⟩
  · exact ⟨false, h, ts, insert_full 999 S0 v 1 (by omega), .refl ⟨N, S0⟩, by rw [if_neg hf], by omega, hr⟩
theorem turned_fill (x2 : List Int) (x2b : Bool) (v3 : V) (back : List O) (most : Int) (hx : x2.length ≤ 60) : ∀ (d k M : Nat) (h : Heap) (ts us : List Tw), k + d = x2.length → d < M → (∃ N, SkAt h 0 ts most N) → (∃ N, SkAt h 1 us most N) → itT us = itT ts → (∀ b ∈ skB 1 us, b ∉ skB 0 ts) → ts.length ≤ k → (ts.length : Int) ≤ most →
    ∃ M' h' ts' us', loopx M (lwTurned_l55 1000 (x2.map (intV .u8)) x2b v3 (.ptr 0 0) (.ptr 1 0)) [.sl 2 (back.map O.w) false, .int .i64 (k : Int)] h = lwTurned_l55 1000 (x2.map (intV .u8)) x2b v3 (.ptr 0 0) (.ptr 1 0) [.sl 2 (back.map O.w) false, .int .i64 (x2.length : Int)] h' (loopx M' (lwTurned_l55 1000 (x2.map (intV .u8)) x2b v3 (.ptr 0 0) (.ptr 1 0))) ∧
      (∃ N, SkAt h' 0 ts' most N) ∧ (∃ N, SkAt h' 1 us' most N) ∧ itT us' = itT ts' ∧ (∀ b ∈ skB 1 us', b ∉ skB 0 ts') ∧ ts'.length ≤ x2.length ∧ (ts'.length : Int) ≤ most := by
  intro d
  induction d with
  | zero =>
    intro k M h ts us h1 h2 A B hit dis hk hr
    obtain ⟨M, rfl⟩ : ∃ M', M = M' + 1 := ⟨M - 1, by omega⟩
    obtain rfl : k = x2.length := by omega
    exact ⟨M, h, ts, us, loopx_succ .., A, B, hit, dis, hk, hr⟩
  | succ d ih =>
    intro k M h ts us h1 h2 A B hit dis hk hr
    obtain ⟨M, rfl⟩ : ∃ M', M = M' + 1 := ⟨M - 1, by omega⟩
    obtain ⟨x, hxx⟩ : ∃ x, x2[k]? = some x := ⟨_, List.getElem?_eq_getElem (by omega)⟩
    have hxv : (x2.map (intV .u8))[k]? = some [.int .u8 x] := by rw [List.getElem?_map, hxx]; rfl
    have hlt : decide ((k : Int) < (x2.length : Int)) = true := by simp; omega
    have hul : us.length = ts.length := by have := congrArg List.length hit; rwa [itT_len, itT_len] at this
    obtain ⟨v, hv⟩ : ∃ v, v = IntKind.i32.wrap x := ⟨_, rfl⟩
    obtain ⟨b1, ha, ts2, ea, Ga, Ia, la, ra⟩ := one_put A v (by omega) hr
    have B1 : ∃ N, SkAt ha 1 us most N := by
      obtain ⟨N, SB⟩ := B
      exact ⟨N, SB.keep fun b hb => Ga.old b (SB.lt b hb) (dis b hb)⟩
    have ltB : ∀ b ∈ skB 1 us, b < h.length := fun b hb => by obtain ⟨N, SB⟩ := B; exact SB.lt b hb
    obtain ⟨b2, hb, us2, eb, Gb, Ib, lb, rb⟩ := one_put B1 v (by omega) (by rw [hul]; exact hr)
    have dis1 : ∀ b ∈ skB 0 ts2, b ∉ skB 1 us := fun b hb hc => by
      rcases Ga.new b hb with h | h
      · exact dis b hc h
      · have := ltB b hc; omega
    have ltA : ∀ b ∈ skB 0 ts2, b < ha.length := fun b hb => by obtain ⟨N, SA⟩ := Ga.sk; exact SA.lt b hb
    have A2 : ∃ N, SkAt hb 0 ts2 most N := by
      obtain ⟨N, SA⟩ := Ga.sk
      exact ⟨N, SA.keep fun b hb => Gb.old b (ltA b hb) (dis1 b hb)⟩
    have dis2 : ∀ b ∈ skB 1 us2, b ∉ skB 0 ts2 := fun b hb hc => by
      rcases Gb.new b hb with h | h
      · exact dis1 b hc h
      · have := ltA b hc; omega
    have hit2 : itT us2 = itT ts2 := by rw [Ib, Ia, hit, hul]
    obtain ⟨M', h', ts', us', e, r⟩ := ih (k + 1) M hb ts2 us2 (by omega) (by omega) A2 Gb.sk hit2 dis2 (by omega) ra
    have key : ∀ next, lwTurned_l55 1000 (x2.map (intV .u8)) x2b v3 (.ptr 0 0) (.ptr 1 0) [.sl 2 (back.map O.w) false, .int .i64 (k : Int)] h next = next [.sl 2 (back.map O.w) false, .int .i64 ((k + 1 : Nat) : Int)] hb := by
      intro next
      unfold lwTurned_l55
      simp only [gv, List.getD_cons_zero, List.getD_cons_succ, List.length_map, bop_i64_lss, bd_some, bv_bool, hlt, if_true, nv_nat, bdS_some, idxP_sl hxv, cellsP_iptr, bd3_some, Nat.zero_add, Nat.le_refl, Nat.reduceLT, and_self, List.getElem?_cons_zero, cvt_i32, lsl]
      rw [← hv, ea, cl_ret, one1_one, eb, cl_ret, one1_one, bop_i64_add, bd_some, step64 (show k < lim by unfold lim; omega)]
    exact ⟨M', h', ts', us', by rw [loopx_succ, key]; exact e, r⟩
/-- the law's end -/
theorem turned_end (x2 : List Int) (x2b : Bool) (os : List O) (most : Int) (hos : os.length ≤ 80) (hm : 0 ≤ most ∧ most ≤ 1000) {h : Heap} {ts us : List Tw} (A : ∃ N, SkAt h 0 ts most N) (B : ∃ N, SkAt h 1 us most N) (hit : itT us = itT ts) (dis : ∀ b ∈ skB 1 us, b ∉ skB 0 ts) (ht : ts.length ≤ 60) (hr : (ts.length : Int) ≤ most) :
    ∃ H, ∀ next, lwTurned_l55 1000 (x2.map (intV .u8)) x2b (.sl 2 (os.map O.w) false) (.ptr 0 0) (.ptr 1 0) [.sl 2 (os.reverse.map O.w) false, .int .i64 (x2.length : Int)] h next = some (.ret [.bool true], H) := by
  have hul : us.length = ts.length := by have := congrArg List.length hit; rwa [itT_len, itT_len] at this
  have ltA : ∀ b ∈ skB 0 ts, b < h.length := fun b hb => by obtain ⟨N, S⟩ := A; exact S.lt b hb
  have ltB : ∀ b ∈ skB 1 us, b < h.length := fun b hb => by obtain ⟨N, S⟩ := B; exact S.lt b hb
  have e1 := coin_new_call 999 h
  generalize hh1 : h ++ [HB.box 1 [.sl 0 [] true]] = h1 at e1
  have l1 : h1.length = h.length + 1 := by rw [← hh1]; simp
  have k1 : ∀ i, i < h.length → h1[i]? = h[i]? := fun i hi => by rw [← hh1, List.getElem?_append_left hi]
  have c1 : BitsAt h1 h.length none [] := ⟨rfl, by rw [← hh1, List.getElem?_append_right (Nat.le_refl _), Nat.sub_self]; rfl⟩
  have A1 : ∃ N, SkAt h1 0 ts most N := by obtain ⟨N, S⟩ := A; exact ⟨N, S.keep fun b hb => k1 b (S.lt b hb)⟩
  have B1 : ∃ N, SkAt h1 1 us most N := by obtain ⟨N, S⟩ := B; exact ⟨N, S.keep fun b hb => k1 b (S.lt b hb)⟩
  obtain ⟨h2, ts2, bits2, tb1, told1, e2, D1, r1⟩ := srtApply_call 996 os false A1 c1 (fun hm => by have := ltA _ hm; omega) (fun b e => by cases e) hr hm.2 (by unfold lim; omega) (by omega)
  have B2 : ∃ N, SkAt h2 1 us most N := by
    obtain ⟨N, S⟩ := B1
    exact ⟨N, S.keep fun b hb => D1.frm.old b (S.lt b hb) fun hm => by
      rcases List.mem_cons.1 hm with e | hm
      · have := ltB b hb; omega
      · exact dis b hb hm⟩
  have l2 := D1.frm.len
  have e3 := coin_new_call 999 h2
  generalize hh3 : h2 ++ [HB.box 1 [.sl 0 [] true]] = h3 at e3
  have l3 : h3.length = h2.length + 1 := by rw [← hh3]; simp
  have k3 : ∀ i, i < h2.length → h3[i]? = h2[i]? := fun i hi => by rw [← hh3, List.getElem?_append_left hi]
  have c3 : BitsAt h3 h2.length none [] := ⟨rfl, by rw [← hh3, List.getElem?_append_right (Nat.le_refl _), Nat.sub_self]; rfl⟩
  have B3 : ∃ N, SkAt h3 1 us most N := by obtain ⟨N, S⟩ := B2; exact ⟨N, S.keep fun b hb => k3 b (S.lt b hb)⟩
  obtain ⟨h4, us4, bits4, tb2, told2, e4, D2, r2⟩ := srtApply_call 996 os.reverse false B3 c3 (fun hm => by have := ltB _ hm; omega) (fun b e => by cases e) (by rw [hul]; exact hr) hm.2 (by rw [List.length_reverse]; unfold lim; omega) (by rw [List.length_reverse]; omega)
  have A4 : ∃ N, SkAt h4 0 ts2 most N := by
    obtain ⟨N, S⟩ := D1.sk
    refine ⟨N, S.keep fun b hb => ?_⟩
    have hlt := S.lt b hb
    refine (D2.frm.old b (by omega) fun hm => ?_).trans (k3 b hlt)
    rcases List.mem_cons.1 hm with e | hm
    · omega
    · rcases D1.new b hb with h | h
      · exact dis b hm h
      · have := ltB b hm; omega
  -- what is told, and what is left
  have v1 := done_vals os most (itT ts, [])
  rw [r1] at v1
  have v1' : ((itT ts2).map (·.1), told1) = batV os most ((itT ts).map (·.1)) := v1
  have v2 := done_vals os.reverse most (itT us, [])
  rw [r2] at v2
  have v2' : ((itT us4).map (·.1), told2) = batV os.reverse most ((itT ts).map (·.1)) := by rw [← hit]; exact v2
  obtain ⟨q1, q2⟩ := turned os most ((itT ts).map (·.1))
  have f1 := congrArg Prod.fst v1'
  have f2 := congrArg Prod.snd v1'
  have f3 := congrArg Prod.fst v2'
  have f4 := congrArg Prod.snd v2'
  simp only at f1 f2 f3 f4
  have len1 : told1.length = os.length := by have := done_len os most (itT ts, []); rwa [r1] at this
  have len2 : told2.length = os.length := by have := done_len os.reverse most (itT us, []); rwa [r2, List.length_reverse] at this
  have row1 : RowR h4 tb1 told1 := by
    obtain ⟨z, hz⟩ := D1.tl
    exact ⟨z, D2.keepRow B3 c3 ((k3 tb1 (lt_of_at hz)).trans hz)⟩
  have hc1 : ∀ r ∈ told1, 0 ≤ r.c ∧ r.c < 6 := fun r hr => batV_c os most _ r (by rw [← f2]; exact hr)
  have hc2 : ∀ r ∈ told2, 0 ≤ r.c ∧ r.c < 6 := fun r hr => batV_c os.reverse most _ r (by rw [← f4]; exact hr)
  have hz : ∀ k : Nat, k < 6 → cnt k told1 = cnt k told2 := fun k _ => by
    have := q2 fun c => c % 6 == (k : Int)
    rw [← f2, ← f4] at this
    unfold cnt
    rw [this]
  obtain ⟨_, e5, _⟩ := codes_loop 1000 row1 D2.tl (by omega) hc1 hc2 (by omega) (.ptr 0 0) (.ptr 1 0) told1.length 0 1000 (by omega) (by omega)
  obtain ⟨M6, v6, e6⟩ := zero_loop 1000 (h := h4) hz (.ptr 0 0) (.ptr 1 0) 6 0 1000 (.bool false) (by omega) (by omega)
  obtain ⟨NA, SA⟩ := A4
  have g1 : ts2.length ≤ 200 := by
    have := done_grow os most (itT ts, [])
    rw [r1] at this
    simp [itT] at this
    omega
  have g2 : us4.length ≤ 200 := by
    have := done_grow os.reverse most (itT us, [])
    rw [r2] at this
    simp [itT] at this
    omega
  obtain ⟨h5, ra, e7, sa, la, ka⟩ := items_call 997 SA (by unfold lim; omega) (by omega)
  rw [lvV0 fun t ht => (SA.ht t ht).1] at sa
  obtain ⟨NB, SB⟩ := D2.sk
  have SB5 : SkAt h5 1 us4 most NB := SB.keep fun b hb => ka b (SB.lt b hb)
  obtain ⟨h6, rb, e8, sb, lb, kb⟩ := items_call 997 SB5 (by unfold lim; omega) (by omega)
  rw [lvV0 fun t ht => (SB5.ht t ht).1] at sb
  have sa' := sa.keep (h' := h6) fun b l z hb => (kb b (lt_of_at hb)).trans hb
  have heq : (itT us4).map (·.1) = (itT ts2).map (·.1) := by rw [f1, f3, q1]
  rw [heq] at sb
  have hS := rSame_call 999 sa'.sees sb.sees (by simp [itT]; unfold lim; omega) (by simp [itT]; omega)
  have s1 := row1.slc
  have s2 := D2.tl.slc
  rw [len1] at s1 e5
  rw [len2] at s2 e5
  refine ⟨h6, fun next => ?_⟩
  unfold lwTurned_l55
  simp only [gv, List.getD_cons_zero, List.getD_cons_succ, List.length_map, bop_i64_lss, bd_some, bv_bool, lsl]
  rw [if_neg (by simp), e1, cl_ret, one1_one, e2, cl_ret, one1_one, e3, cl_ret, one1_one, e4, cl_ret, one1_one, List.length_reverse]
  rw [if_pos (by refine ⟨?_, ?_, ?_⟩ <;> first | trivial | rfl | (unfold lim; omega)), s1, bd_some, slcH_sl, bd_some]
  simp only [List.length_map, len1]
  rw [if_neg (by simp), s2, bd_some, bd_some]
  simp only [List.length_map, len2]
  rw [if_neg (by simp)]
  have e5' : loopx 1000 (lwTurned_l104 1000 (.ptr 0 0) (.ptr 1 0) (.row tb1 2 0 os.length) (.row tb2 2 0 os.length)) [.sl 1 (List.replicate 6 [.int .i64 0]) false, .int .i64 0, .bool false] h4 = _ := e5
  rw [e5']
  refine e6.trans ?_
  unfold lwTurned_l140
  simp only [gv, List.getD_cons_zero, List.getD_cons_succ, bop_i64_lss, bd_some, bv_bool]
  rw [if_neg (by decide), known11_1000, cl_ret, one1_one, bv_bool, if_pos rfl, e7, cl_ret, one1_one, e8, cl_ret, one1_one, hS, cl_ret, one1_one]
theorem back_loop (x0 : Int) (x2 : List (List V)) (x2b : Bool) (os : List O) (hos : os.length ≤ 80) (h : Heap) : ∀ (d M : Nat), d ≤ os.length → d < M →
    ∃ M', loopx M (lwTurned_l5 1000 x0 x2 x2b (.sl 2 (os.map O.w) false)) [.sl 2 ((os.drop d).reverse.map O.w) false, .int .i64 ((d : Int) - 1)] h = lwTurned_l5 1000 x0 x2 x2b (.sl 2 (os.map O.w) false) [.sl 2 (os.reverse.map O.w) false, .int .i64 (-1)] h (loopx M' (lwTurned_l5 1000 x0 x2 x2b (.sl 2 (os.map O.w) false))) := by
  intro d
  induction d with
  | zero =>
    intro M h1 h2
    obtain ⟨M, rfl⟩ : ∃ M', M = M' + 1 := ⟨M - 1, by omega⟩
    exact ⟨M, by rw [loopx_succ, List.drop_zero]; rfl⟩
  | succ d ih =>
    intro M h1 h2
    obtain ⟨M, rfl⟩ : ∃ M', M = M' + 1 := ⟨M - 1, by omega⟩
    obtain ⟨o, ho⟩ : ∃ o, os[d]? = some o := ⟨_, List.getElem?_eq_getElem (by omega)⟩
    have hov : (os.map O.w)[d]? = some (O.w o) := by rw [get_os, ho]; rfl
    have hge : decide (((d : Int)) ≥ 0) = true := by simp
    have e0 : ((d + 1 : Nat) : Int) - 1 = (d : Int) := by omega
    have e1 : IntKind.i64.wrap ((d : Int) - 1) = (d : Int) - 1 := w64 (by omega) (by omega)
    have hdr : (os.drop d).reverse = (os.drop (d + 1)).reverse ++ [o] := by
      rw [List.drop_eq_getElem_cons (by omega), List.reverse_cons]
      rw [List.getElem?_eq_getElem (by omega)] at ho
      rw [Option.some.inj ho]
    have hcut : V.agg (List.take 2 (List.drop 0 (O.w o))) = .agg (O.w o) := rfl
    have key : ∀ next, lwTurned_l5 1000 x0 x2 x2b (.sl 2 (os.map O.w) false) [.sl 2 ((os.drop (d + 1)).reverse.map O.w) false, .int .i64 ((d + 1 : Nat) - 1 : Int)] h next = next [.sl 2 ((os.drop d).reverse.map O.w) false, .int .i64 ((d : Int) - 1)] h := by
      intro next
      rw [e0]
      unfold lwTurned_l5
      simp only [gv, List.getD_cons_zero, List.getD_cons_succ, bop_i64_geq, bd_some, bv_bool, hge, if_true, nv_nat, bdS_some, idxP_sl hov, cellsP_iptr, bd3_some, Nat.zero_add, Nat.le_refl, Nat.reduceLT, and_self, hcut, bsl_o, lsl]
      rw [app_os _ _ _ (by simp; unfold lim; omega), bd_some, bop_i64_sub, bd_some, e1, hdr]
    obtain ⟨M', e⟩ := ih M (by omega) (by omega)
    exact ⟨M', by rw [loopx_succ, key]; exact e⟩
end Go.Proofs.Try
