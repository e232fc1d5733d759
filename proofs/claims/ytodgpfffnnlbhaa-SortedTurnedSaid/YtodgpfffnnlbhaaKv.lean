import Derived.Test.YtodgpfffnnlbhaaKr
/-! sorted by contract: Apply -/
set_option linter.unusedVariables false
set_option linter.unusedSimpArgs false
namespace Go.Proofs.Try
open Go.L Go.Rp Go.Sk
set_option maxRecDepth 100000
/-- heights that are drawn -/
def hsOf : Nat → List Bool → List Int × List Bool
  | 0, bits => ([], bits)
  | k + 1, bits => (((hgt 1 bits).1 : Int) :: (hsOf k (hgt 1 bits).2).1, (hsOf k (hgt 1 bits).2).2)
theorem hsOf_len : ∀ (k : Nat) (bits : List Bool), (hsOf k bits).1.length = k
  | 0, _ => rfl
  | k + 1, bits => by simp [hsOf, hsOf_len k]
/-- the same is told at some places -/
def setAll (r : R) : List Int → List R → List R
  | [], told => told
  | k :: l, told => setAll r l (told.set k.toNat r)
theorem setAll_len (r : R) : ∀ (l : List Int) (told : List R), (setAll r l told).length = told.length
  | [], _ => rfl
  | k :: l, told => by show (setAll r l _).length = _; rw [setAll_len r l, List.length_set]
theorem setAll_ne (r : R) : ∀ (l : List Int) (told : List R) (y : Nat), (∀ x ∈ l, x.toNat ≠ y) → (setAll r l told)[y]? = told[y]?
  | [], _, _, _ => rfl
  | k :: l, told, y, h => by
    show (setAll r l _)[y]? = _
    rw [setAll_ne r l _ y fun x hx => h x (List.mem_cons_of_mem _ hx), List.getElem?_set_ne (h k (List.mem_cons_self ..))]
theorem run_put (os : List O) (most : Int) : ∀ (P : List Int) (st : St) (told : List R), (∀ x ∈ P, (oAt os x).k = 1) → (st.1.length : Int) + P.length ≤ most →
    runO os most P st told = ((insAll st.1 ((P.map (keyV os)).zip (hsOf P.length st.2).1), (hsOf P.length st.2).2), setAll ⟨1, 0⟩ P told)
  | [], st, told, _, _ => rfl
  | k :: P, st, told, hk, hm => by
    have hst : stp most st (oAt os k) = ((insI st.1 (oAt os k).v (hgt 1 st.2).1, (hgt 1 st.2).2), ⟨1, 0⟩) := by
      unfold stp
      rw [if_pos (hk k (List.mem_cons_self ..)), if_neg (by simp at hm; omega)]
    show runO os most P (stp most st (oAt os k)).1 (told.set k.toNat (stp most st (oAt os k)).2) = _
    rw [hst, run_put os most P _ _ (fun x hx => hk x (List.mem_cons_of_mem _ hx)) (by rw [insI_len]; simp at hm ⊢; omega)]
    simp only [List.map_cons, List.length_cons, hsOf, List.zip_cons_cons, insAll, setAll, hOf_hgt]
    rfl
theorem run_full (os : List O) (most : Int) : ∀ (P : List Int) (st : St) (told : List R), (∀ x ∈ P, (oAt os x).k = 1) → most ≤ (st.1.length : Int) → runO os most P st told = (st, setAll ⟨3, 0⟩ P told)
  | [], st, told, _, _ => rfl
  | k :: P, st, told, hk, hm => by
    have hst : stp most st (oAt os k) = (st, ⟨3, 0⟩) := by
      unfold stp
      rw [if_pos (hk k (List.mem_cons_self ..)), if_pos hm]
    show runO os most P (stp most st (oAt os k)).1 (told.set k.toNat (stp most st (oAt os k)).2) = _
    rw [hst]
    exact run_full os most P st _ (fun x hx => hk x (List.mem_cons_of_mem _ hx)) hm
theorem RowI.getP {h : Heap} {b : Nat} {k : IntKind} {e : Nat} {l : List Int} (r : RowI h b k e l) {lo hi i : Nat} {x : Int} (hi' : lo + i < hi) (hx : l[lo + i]? = some x) : idxP 1 i (.row b 1 lo hi) = some (.rptr b 1 (lo + i) 0) ∧ cellsP h (.rptr b 1 (lo + i) 0) = some ([.int k x], 1, 0) := by
  obtain ⟨z, hz⟩ := r
  refine ⟨idxP_row (by omega), cellsP_rptr hz (by decide) ?_⟩
  rw [List.getElem?_map, hx]
  rfl
theorem RowI.slcP {h : Heap} {b : Nat} {k : IntKind} {e : Nat} {l : List Int} (r : RowI h b k e l) {lo hi : Nat} (h1 : lo ≤ hi) (h2 : hi ≤ l.length) : slcH h (.row b 1 lo hi) = some (1, ((l.take hi).drop lo).map (intV k)) := by
  obtain ⟨z, hz⟩ := r
  rw [slcH_row hz h1 (by rw [List.length_map]; exact h2), List.map_drop, List.map_take]
theorem app_i32 (l : List Int) (x : Int) (h : l.length + 1 < lim) : app 21 1 (S.own 21 1 (l.map (intV .i32))) [[.int .i32 x]] = some ((l ++ [x]).map (intV .i32)) := by
  simp only [app]
  rw [if_pos (by refine ⟨?_, ?_, by simpa using h⟩ <;> first | trivial | rfl)]
  simp [intV]
theorem lsl_i32 (l : List Int) : lsl (V.sl 1 (l.map (intV .i32)) false) = l.map (intV .i32) := rfl
theorem lsl_iL (l : List Int) : lsl (V.sl 1 (iL l) false) = iL l := rfl
theorem draw_loop (n : Nat) {s c : Nat} {cb : Option Nat} {most : Int} {ts : List Tw} (os : List O) (lb : Bool) (P0 : List Int) (hP : ∀ x ∈ P0, 0 ≤ x ∧ x < (os.length : Int)) (hnd : P0.Nodup) (p1 p2 : Nat) (Q0 : List Int) (v5 v6 v18 : V) (r : Nat) (hr : r ≤ P0.length) (hlim : P0.length < lim) (hn : 8 ≤ n) : ∀ (d i M : Nat) (h : Heap) (bits : List Bool) (told : List R) (vs hs : List Int) (v0 v4 : V), i + d = r → d < M →
    Env h s ts most c cb bits p1 P0 p2 Q0 → told.length = os.length → vs.length = i → hs.length = i → (∀ x ∈ P0.drop i, told[x.toNat]? = some ⟨0, 0⟩) →
    ∃ h' v0' v4' M', loopx M (srtApply_l23 (n + 3) s c (os.map O.w) lb v5 v6 v18 (.row p1 1 0 r) (1, iL (P0.take r))) [v0, .sl 2 (told.map R.w) false, .sl 1 (vs.map (intV .i32)) false, .sl 1 (iL hs) false, v4, .int .i64 (i : Int)] h =
      srtApply_l23 (n + 3) s c (os.map O.w) lb v5 v6 v18 (.row p1 1 0 r) (1, iL (P0.take r)) [v0', .sl 2 ((setAll ⟨1, 0⟩ ((P0.take r).drop i) told).map R.w) false, .sl 1 ((vs ++ ((P0.take r).drop i).map (keyV os)).map (intV .i32)) false, .sl 1 (iL (hs ++ (hsOf d bits).1)) false, v4', .int .i64 (r : Int)] h' (loopx M' (srtApply_l23 (n + 3) s c (os.map O.w) lb v5 v6 v18 (.row p1 1 0 r) (1, iL (P0.take r)))) ∧
      Env h' s ts most c cb (hsOf d bits).2 p1 P0 p2 Q0 ∧ h'.length = h.length ∧ ∀ i, i ≠ c → h'[i]? = h[i]? := by
  intro d
  induction d with
  | zero =>
    intro i M h bits told vs hs v0 v4 h1 h2 E hlt hvl hhl h0
    obtain ⟨M, rfl⟩ : ∃ M', M = M' + 1 := ⟨M - 1, by omega⟩
    obtain rfl : i = r := by omega
    have hd : (P0.take i).drop i = [] := List.drop_of_length_le (by rw [List.length_take]; omega)
    refine ⟨h, v0, v4, M, ?_, E, rfl, fun _ _ => rfl⟩
    rw [hd]
    simp only [setAll, List.map_nil, List.append_nil, hsOf]
    exact loopx_succ ..
  | succ d ih =>
    intro i M h bits told vs hs v0 v4 h1 h2 E hlt hvl hhl h0
    obtain ⟨M, rfl⟩ : ∃ M', M = M' + 1 := ⟨M - 1, by omega⟩
    have hiP : i < P0.length := by omega
    obtain ⟨x, hx⟩ : ∃ x, P0[i]? = some x := ⟨_, List.getElem?_eq_getElem hiP⟩
    have hdr : P0.drop i = x :: P0.drop (i + 1) := by
      rw [List.drop_eq_getElem_cons hiP]
      rw [List.getElem?_eq_getElem hiP] at hx
      rw [Option.some.inj hx]
    have hdt : (P0.take r).drop i = x :: (P0.take r).drop (i + 1) := by
      have hil : i < (P0.take r).length := by rw [List.length_take]; omega
      rw [List.drop_eq_getElem_cons hil]
      rw [List.getElem?_eq_getElem hiP] at hx
      rw [← Option.some.inj hx, List.getElem_take]
    obtain ⟨x0, x1⟩ := hP x (List.mem_of_getElem? hx)
    obtain ⟨k, rfl⟩ : ∃ k : Nat, x = (k : Int) := ⟨x.toNat, (Int.toNat_of_nonneg x0).symm⟩
    have hk : k < os.length := by omega
    obtain ⟨o, ho⟩ : ∃ o, os[k]? = some o := ⟨_, List.getElem?_eq_getElem hk⟩
    have hov : (os.map O.w)[k]? = some (O.w o) := by rw [get_os, ho]; rfl
    have hoo := oAt_some ho
    have hkv : keyV os (k : Int) = o.v := by unfold keyV; rw [hoo]
    have ht0 : told[k]? = some ⟨0, 0⟩ := by
      have := h0 (k : Int) (by rw [hdr]; exact List.mem_cons_self ..)
      simpa using this
    have htk : k < told.length := by omega
    have htv : (told.map R.w)[k]? = some (R.w ⟨0, 0⟩) := by rw [get_rs, ht0]; rfl
    have hl1 : decide ((i : Int) < ((P0.take r).length : Int)) = true := by rw [List.length_take]; simp; omega
    obtain ⟨g1, g2⟩ := E.r1.getP (lo := 0) (hi := r) (i := i) (by omega) (by rw [Nat.zero_add]; exact hx)
    rw [Nat.zero_add] at g1 g2
    have hnd2 : (P0.drop i).Nodup := hnd.sublist (List.drop_sublist _ _)
    rw [hdr] at hnd2
    obtain ⟨h2', e2, B2, l2, f2⟩ := height_call n E.bt hn
    have E2 := E.coin B2 f2
    have hset1 : (told.map R.w).set k (setR (R.w ⟨0, 0⟩) 0 [.int .u8 1]) = (told.set k ⟨1, 0⟩).map R.w := by rw [rw_set, List.map_set]
    have key : ∀ next, srtApply_l23 (n + 3) s c (os.map O.w) lb v5 v6 v18 (.row p1 1 0 r) (1, iL (P0.take r)) [v0, .sl 2 (told.map R.w) false, .sl 1 (vs.map (intV .i32)) false, .sl 1 (iL hs) false, v4, .int .i64 (i : Int)] h next = next [.sl 2 (lsl v0) false, .sl 2 ((told.set k ⟨1, 0⟩).map R.w) false, .sl 1 ((vs ++ [o.v]).map (intV .i32)) false, .sl 1 (iL (hs ++ [((hgt 1 bits).1 : Int)])) false, .bool false, .int .i64 ((i + 1 : Nat) : Int)] h2' := by
      intro next
      unfold srtApply_l23
      simp only [gv, List.getD_cons_zero, List.getD_cons_succ, iL_len, bop_i64_lss, bd_some, bv_bool, hl1, if_true, nv_nat, bdS_some, g1, g2, bd3_some, Nat.zero_add, Nat.le_refl, Nat.reduceLT, and_self, List.getElem?_cons_zero, idxP_sl hov, addP_iptr, cellsP_iptr, Nat.reduceAdd, Nat.reduceLeDiff, ow_get1, bsl_i32, lsl_i32, lsl_iL, app_r0]
      rw [app_i32 _ _ (by omega), bd_some, e2, cl_ret, one1_one, bsl_int, bd_some, app_int _ _ (by omega), bd_some]
      rw [if_pos (by exact ⟨trivial, by rw [List.length_map]; exact htk, by decide⟩), htv, bd_some, bop_i64_add, bd_some, hset1, step64 (show i < lim by omega)]
    obtain ⟨h', v0', v4', M', e, b1, b2, b3⟩ := ih (i + 1) M h2' (hgt 1 bits).2 (told.set k ⟨1, 0⟩) (vs ++ [o.v]) (hs ++ [((hgt 1 bits).1 : Int)]) (.sl 2 (lsl v0) false) (.bool false) (by omega) (by omega) E2 (by rw [List.length_set]; exact hlt) (by simp; omega) (by simp; omega) (fun y hy => by
      rw [List.getElem?_set_ne]
      · exact h0 y (by rw [hdr]; exact List.mem_cons_of_mem _ hy)
      · intro e2
        have hy0 := hP y (List.mem_of_mem_drop hy)
        have hyk : y = (k : Int) := by omega
        exact (List.nodup_cons.1 hnd2).1 (hyk ▸ hy))
    refine ⟨h', v0', v4', M', ?_, b1, by rw [b2, l2], fun j hj => by rw [b3 j hj, f2 j hj]⟩
    rw [loopx_succ, key, e, hdt]
    simp only [setAll, Int.toNat_natCast, List.map_cons, hkv, hsOf, List.append_assoc, List.cons_append, List.nil_append]
theorem full_loop (n : Nat) {s c : Nat} {cb : Option Nat} {most : Int} {ts : List Tw} {bits : List Bool} {h : Heap} (os : List O) (lb : Bool) (P0 : List Int) (hP : ∀ x ∈ P0, 0 ≤ x ∧ x < (os.length : Int)) (hnd : P0.Nodup) (p1 p2 : Nat) (Q0 : List Int) (v6 : V) (r : Nat) (hr : r ≤ P0.length) (hlim : P0.length < lim) (E : Env h s ts most c cb bits p1 P0 p2 Q0) : ∀ (d i M : Nat) (told : List R) (v0 v2 : V), r + i + d = P0.length → d < M →
    told.length = os.length → (∀ x ∈ P0.drop (r + i), told[x.toNat]? = some ⟨0, 0⟩) →
    ∃ v0' v2' M', loopx M (srtApply_l61 (n + 3) s (os.map O.w) lb v6 (.row p1 1 r P0.length) (1, iL (P0.drop r))) [v0, .sl 2 (told.map R.w) false, v2, .int .i64 (i : Int)] h =
      srtApply_l61 (n + 3) s (os.map O.w) lb v6 (.row p1 1 r P0.length) (1, iL (P0.drop r)) [v0', .sl 2 ((setAll ⟨3, 0⟩ (P0.drop (r + i)) told).map R.w) false, v2', .int .i64 ((P0.drop r).length : Int)] h (loopx M' (srtApply_l61 (n + 3) s (os.map O.w) lb v6 (.row p1 1 r P0.length) (1, iL (P0.drop r)))) := by
  intro d
  induction d with
  | zero =>
    intro i M told v0 v2 h1 h2 hlt h0
    obtain ⟨M, rfl⟩ : ∃ M', M = M' + 1 := ⟨M - 1, by omega⟩
    have hi : i = (P0.drop r).length := by rw [List.length_drop]; omega
    refine ⟨v0, v2, M, ?_⟩
    rw [List.drop_of_length_le (i := r + i) (by omega), ← hi]
    exact loopx_succ ..
  | succ d ih =>
    intro i M told v0 v2 h1 h2 hlt h0
    obtain ⟨M, rfl⟩ : ∃ M', M = M' + 1 := ⟨M - 1, by omega⟩
    obtain ⟨x, hx⟩ : ∃ x, P0[r + i]? = some x := ⟨_, List.getElem?_eq_getElem (by omega)⟩
    have hdr : P0.drop (r + i) = x :: P0.drop (r + (i + 1)) := by
      rw [List.drop_eq_getElem_cons (show r + i < P0.length by omega)]
      rw [List.getElem?_eq_getElem (by omega)] at hx
      rw [Option.some.inj hx, Nat.add_assoc]
    obtain ⟨x0, x1⟩ := hP x (List.mem_of_getElem? hx)
    obtain ⟨k, rfl⟩ : ∃ k : Nat, x = (k : Int) := ⟨x.toNat, (Int.toNat_of_nonneg x0).symm⟩
    have ht0 : told[k]? = some ⟨0, 0⟩ := by
      have := h0 (k : Int) (by rw [hdr]; exact List.mem_cons_self ..)
      simpa using this
    have htk : k < told.length := by omega
    have htv : (told.map R.w)[k]? = some (R.w ⟨0, 0⟩) := by rw [get_rs, ht0]; rfl
    have hl1 : decide ((i : Int) < ((P0.drop r).length : Int)) = true := by rw [List.length_drop]; simp; omega
    obtain ⟨g1, g2⟩ := E.r1.getP (lo := r) (hi := P0.length) (i := i) (by omega) hx
    have hnd2 : (P0.drop (r + i)).Nodup := hnd.sublist (List.drop_sublist _ _)
    rw [hdr] at hnd2
    have hset1 : (told.map R.w).set k (setR (R.w ⟨0, 0⟩) 0 [.int .u8 3]) = (told.set k ⟨3, 0⟩).map R.w := by rw [rw_set, List.map_set]
    have key : ∀ next, srtApply_l61 (n + 3) s (os.map O.w) lb v6 (.row p1 1 r P0.length) (1, iL (P0.drop r)) [v0, .sl 2 (told.map R.w) false, v2, .int .i64 (i : Int)] h next = next [.sl 2 (lsl v0) false, .sl 2 ((told.set k ⟨3, 0⟩).map R.w) false, .bool false, .int .i64 ((i + 1 : Nat) : Int)] h := by
      intro next
      unfold srtApply_l61
      simp only [gv, List.getD_cons_zero, List.getD_cons_succ, iL_len, bop_i64_lss, bd_some, bv_bool, hl1, if_true, nv_nat, bdS_some, g1, g2, bd3_some, Nat.zero_add, Nat.le_refl, Nat.reduceLT, and_self, List.getElem?_cons_zero, app_r0]
      rw [if_pos (by exact ⟨trivial, by rw [List.length_map]; exact htk, by decide⟩), htv, bd_some, bop_i64_add, bd_some, hset1, step64 (show i < lim by omega)]
    obtain ⟨v0', v2', M', e⟩ := ih (i + 1) M (told.set k ⟨3, 0⟩) (.sl 2 (lsl v0) false) (.bool false) (by omega) (by omega) (by rw [List.length_set]; exact hlt) (fun y hy => by
      rw [List.getElem?_set_ne]
      · exact h0 y (by rw [hdr]; exact List.mem_cons_of_mem _ hy)
      · intro e2
        have hy0 := hP y (List.mem_of_mem_drop hy)
        have hyk : y = (k : Int) := by omega
        exact (List.nodup_cons.1 hnd2).1 (hyk ▸ hy))
    refine ⟨v0', v2', M', ?_⟩
    rw [loopx_succ, key, e, hdr]
    simp only [setAll, Int.toNat_natCast]
theorem mm_min (a b : Int) : mm false [.int .i64 a, .int .i64 b] = some (.int .i64 (if b < a then b else a)) := rfl
theorem sPuts_rise (os : List O) (r : Nat) : (((sPuts os).take r).map (keyV os)).Pairwise (· ≤ ·) := by
  rw [List.pairwise_map]
  exact ((sPuts_sd os).sublist (List.take_sublist _ _)).imp fun h => h.of
/-- Apply -/
theorem srtApply_call (n : Nat) {h : Heap} {s : Nat} {ts : List Tw} {most : Int} {c : Nat} {cb : Option Nat} {bits : List Bool} (os : List O) (lb : Bool) (S : ∃ N, SkAt h s ts most N) (B : BitsAt h c cb bits) (nc : c ∉ skB s ts) (ncb : ∀ b, cb = some b → b ∉ skB s ts) (hroom : (ts.length : Int) ≤ most) (hmost : most ≤ 1000) (hl : ts.length + 4 * os.length + 100 < lim) (hn : ts.length + 2 * os.length + 50 ≤ n) :
    ∃ h' ts' bits' tb told', call (n + 4) 18 [.ptr s 0, .ptr c 0, .sl 2 (os.map O.w) lb] h = some (.ret [.row tb 2 0 os.length], h') ∧ Did h h' s ts ts' most c cb bits' tb told' ∧ doneO os most (itT ts, bits) = ((itT ts', bits'), told') := by
  have hpl := puts_len os os.length
  have hsl := sPuts_len os
  have hpo : (puts os).length ≤ os.length := by unfold puts; omega
  have E0 := part_env os S B nc ncb
  have hlf : (partH h os).length = h.length + 2 := by simp [partH]
  have hkp := fun x hx => (sPuts_mem os x hx).2.2
  obtain ⟨r, hr⟩ : ∃ r : Nat, (r : Int) = if most - (ts.length : Int) < ((sPuts os).length : Int) then most - (ts.length : Int) else ((sPuts os).length : Int) := ⟨(if most - (ts.length : Int) < ((sPuts os).length : Int) then most - (ts.length : Int) else ((sPuts os).length : Int)).toNat, Int.toNat_of_nonneg (by split <;> omega)⟩
  have hr1 : r ≤ (sPuts os).length := by split at hr <;> omega
  have hr2 : (ts.length : Int) + r ≤ most := by split at hr <;> omega
  have hr3 : r = (sPuts os).length ∨ most ≤ (ts.length : Int) + r := by split at hr <;> omega
  have hlt1 : ((sPuts os).take r).length = r := by rw [List.length_take]; omega
  -- the heights
  obtain ⟨h1, v0', v4', M', e1, E1, l1, f1⟩ := draw_loop n os lb (sPuts os) (fun x hx => ⟨(sPuts_mem os x hx).1, (sPuts_mem os x hx).2.1⟩) (sPuts_nodup os) h.length (h.length + 1) (others os) (.row h.length 1 0 (sPuts os).length) (.row (h.length + 1) 1 0 (others os).length) (.int .i64 (r : Int)) r hr1 (by omega) (by omega) r 0 (n + 3) (partH h os) bits (List.replicate os.length ⟨0, 0⟩) [] [] (.sl 2 [] false) (.bool false) (by omega) (by omega) E0 (by simp) rfl rfl (fun x hx => by
    have := sPuts_mem os x (List.mem_of_mem_drop hx)
    rw [List.getElem?_replicate, if_pos (by omega)])
  rw [List.drop_zero, List.nil_append, List.nil_append] at e1
  -- the batch
  obtain ⟨vs, hvs⟩ : ∃ vs, vs = ((sPuts os).take r).map (keyV os) := ⟨_, rfl⟩
  obtain ⟨hs, hhs⟩ : ∃ hs, hs = (hsOf r bits).1 := ⟨_, rfl⟩
  have hvl : vs.length = r := by rw [hvs, List.length_map, hlt1]
  have hhl : hs.length = r := by rw [hhs, hsOf_len]
  rw [← hvs, ← hhs] at e1
  have E2 := E1.push [.row 21 1 (vs.map (intV .i32)) true, .row 3 1 (iL hs) true]
  have hrow1 : RowI (h1 ++ [HB.row 21 1 (vs.map (intV .i32)) true, HB.row 3 1 (iL hs) true]) h1.length .i32 21 vs := ⟨true, by rw [List.getElem?_append_right (Nat.le_refl _), Nat.sub_self]; rfl⟩
  have hrow2 : RowI (h1 ++ [HB.row 21 1 (vs.map (intV .i32)) true, HB.row 3 1 (iL hs) true]) (h1.length + 1) .i64 3 hs := ⟨true, by rw [List.getElem?_append_right (by omega), Nat.add_sub_cancel_left]; rfl⟩
  obtain ⟨N1, S1⟩ := E1.sk
  obtain ⟨h2, ts2, tb2, e2, G2, I2⟩ := batch_call n E2.sk h1.length (h1.length + 1) vs hs (by omega) (hvs ▸ sPuts_rise os r) hrow1 hrow2 (fun hm => by have := S1.lt _ hm; omega) (fun hm => by have := S1.lt _ hm; omega) (by rw [hvl]; exact hr2) (by rw [hvl]; omega) (by rw [hvl]; omega)
  have E3 := E2.grew G2
  -- those that find no room
  have told1 := setAll_len ⟨1, 0⟩ ((sPuts os).take r) (List.replicate os.length (⟨0, 0⟩ : R))
  rw [List.length_replicate] at told1
  have hnd := sPuts_nodup os
  have hdis : ∀ x ∈ (sPuts os).drop r, ∀ y ∈ (sPuts os).take r, y.toNat ≠ x.toNat := fun x hx y hy e => by
    have a := sPuts_mem os x (List.mem_of_mem_drop hx)
    have b := sPuts_mem os y (List.mem_of_mem_take hy)
    have hxy : x = y := by omega
    have hnd' : ((sPuts os).take r ++ (sPuts os).drop r).Nodup := by rw [List.take_append_drop]; exact hnd
    exact (List.nodup_append.1 hnd').2.2 y hy x hx hxy.symm
  obtain ⟨v0'', v2'', M'', e3⟩ := full_loop n os lb (sPuts os) (fun x hx => ⟨(sPuts_mem os x hx).1, (sPuts_mem os x hx).2.1⟩) hnd h.length (h.length + 1) (others os) (.row (h.length + 1) 1 0 (others os).length) r hr1 (by omega) E3 ((sPuts os).length - r) 0 (n + 3) (setAll ⟨1, 0⟩ ((sPuts os).take r) (List.replicate os.length ⟨0, 0⟩)) (.sl 2 (lsl v0') false) (.bool false) (by omega) (by omega) told1 (fun x hx => by
    rw [Nat.add_zero] at hx
    rw [setAll_ne _ _ _ _ (hdis x hx)]
    have := sPuts_mem os x (List.mem_of_mem_drop hx)
    rw [List.getElem?_replicate, if_pos (by omega)])
  simp only [Nat.add_zero] at e3
  obtain ⟨told2, htold2⟩ : ∃ told2, told2 = setAll (⟨3, 0⟩ : R) ((sPuts os).drop r) (setAll ⟨1, 0⟩ ((sPuts os).take r) (List.replicate os.length ⟨0, 0⟩)) := ⟨_, rfl⟩
  rw [← htold2] at e3
  have told2l : told2.length = os.length := by rw [htold2, setAll_len, told1]
  have hlen2 : ts2.length = ts.length + r := by
    have hz : ∀ (q : List (Int × Int)) (l : List (Int × Nat)), (insAll l q).length = l.length + q.length := fun q => by
      induction q with
      | nil => intro l; rfl
      | cons p q ih => intro l; show (insAll (insI l p.1 (hOf p.2)) q).length = _; rw [ih, insI_len, List.length_cons]; omega
    have := congrArg List.length I2
    rw [hz, itT_len, itT_len, List.length_zip, hvl, hhl, Nat.min_self] at this
    exact this
  have hF : Frm h h2 (c :: skB s ts) := by
    have a : Frm h (partH h os) (c :: skB s ts) := Frm.push h _ _
    have b : Frm (partH h os) h1 [c] := ⟨Nat.le_of_eq l1.symm, fun j _ hj => f1 j fun e => hj (e ▸ List.mem_cons_self ..)⟩
    have c' : Frm h1 (h1 ++ [HB.row 21 1 (vs.map (intV .i32)) true, HB.row 3 1 (iL hs) true]) [] := Frm.push h1 _ _
    exact (((a.trans b fun y hy => .inl (by rw [List.mem_singleton] at hy; exact hy ▸ List.mem_cons_self ..)).trans c' fun y hy => by cases hy).trans G2.frm fun y hy => .inl (List.mem_cons_of_mem _ hy))
  have hN : ∀ b ∈ skB s ts2, b ∈ skB s ts ∨ h.length ≤ b := fun b hb => (G2.new b hb).imp id fun hh => by rw [List.length_append, l1, hlf] at hh; omega
  have h0 : ∀ x ∈ others os, told2[x.toNat]? = some ⟨0, 0⟩ := fun x hx => by
    have hm := restTo_mem os _ x hx
    have hne : ∀ y ∈ sPuts os, y.toNat ≠ x.toNat := fun y hy e => puts_others os x hx y hy (by have := sPuts_mem os y hy; omega)
    rw [htold2, setAll_ne _ _ _ _ fun y hy => hne y (List.mem_of_mem_drop hy), setAll_ne _ _ _ _ fun y hy => hne y (List.mem_of_mem_take hy), List.getElem?_replicate, if_pos (by omega)]
  obtain ⟨h', ts', told', e4, D, rr⟩ := end_rest (ts := ts) n os lb told2 E3 (by omega) told2l h0 (by omega) (by omega) (by omega) hF hN (by omega)
  refine ⟨h', ts', (hsOf r bits).2, h2.length, told', ?_, D, ?_⟩
  · refine (srtApply_eq (n + 3) s c (os.map O.w) lb h).trans ?_
    unfold srtApply
    have fN : nv (V.int .i64 (os.length : Int)) = some os.length := nv_nat _ _
    have fr : nv (V.int .i64 (r : Int)) = some r := nv_nat _ _
    have hpc : call (n + 3) 34 [.sl 2 (os.map O.w) lb] h = some (.ret [.row h.length 1 0 (puts os).length, .row (h.length + 1) 1 0 (others os).length], partH h os) := parted_call (n + 1) h os lb (by omega) (by omega)
    obtain ⟨N0, S0⟩ := E0.sk
    have hm1 := most_call (n + 2) S0
    have hl1 := len_call (n + 2) S0
    have hsub : IntKind.i64.wrap (most - (ts.length : Int)) = most - (ts.length : Int) := by rw [w64] <;> omega
    have hs1 : sliceP 1 0 r none true (.row h.length 1 0 (sPuts os).length) = some (.row h.length 1 0 r) := by simpa using sliceP_row (r := h.length) (sz := 1) (u := 0) (v := (sPuts os).length) (Nat.zero_le r) (by omega) true
    have hs2 : sliceP 1 r (sPuts os).length none true (.row h.length 1 0 (sPuts os).length) = some (.row h.length 1 r (sPuts os).length) := by simpa using sliceP_row (r := h.length) (sz := 1) (u := 0) (v := (sPuts os).length) hr1 (by omega) true
    have hc1 : slcH (partH h os) (.row h.length 1 0 r) = some (1, iL ((sPuts os).take r)) := by have := E0.r1.slcP (lo := 0) (hi := r) (Nat.zero_le _) hr1; rwa [List.drop_zero] at this
    have hc2 : slcH h2 (.row h.length 1 r (sPuts os).length) = some (1, iL ((sPuts os).drop r)) := by have := E3.r1.slcP (lo := r) (hi := (sPuts os).length) hr1 (Nat.le_refl _); rwa [List.take_length] at this
    simp only [List.length_map]
    rw [fN, bdS_some, bdS_some, if_pos (by first | exact ⟨rfl, by omega, rfl⟩ | exact ⟨trivial, by omega, trivial⟩ | exact ⟨rfl, by omega, trivial⟩), hpc, cl_ret]
    simp only [List.getElem?_cons_zero, List.getElem?_cons_succ, bd_some]
    rw [← hsl, E0.r1.slc, bd_some, hm1, cl_ret, one1_one, hl1, cl_ret, one1_one, bop_i64_sub, bd_some, hsub]
    simp only [List.length_map, valB, evBsL, bd_some]
    rw [mm_min, bd_some, ← hr, lenP_row, bd_some, fr, bdS_some, hs1, bd_some, hc1, bd_some, rs_rep]
    refine e1.trans ?_
    unfold srtApply_l23
    simp only [gv, List.getD_cons_zero, List.getD_cons_succ, iL_len, hlt1, bop_i64_lss, bd_some, bv_bool]
    rw [if_neg (by simp), lsl_i32, lsl_iL, iL_len, List.length_map, List.append_assoc]
    rw [show (h1 ++ [HB.row 21 1 (vs.map (intV .i32)) true]).length = h1.length + 1 by simp]
    rw [show ([HB.row 21 1 (vs.map (intV .i32)) true] ++ [HB.row 3 1 (iL hs) true]) = [HB.row 21 1 (vs.map (intV .i32)) true, HB.row 3 1 (iL hs) true] from rfl, e2, cl_ret, one1_one, lenP_row, bd_some, fr, bdS_some, Nat.sub_zero, hs2, bd_some, hc2, bd_some]
    rw [show lsl (V.sl 2 ((setAll (⟨1, 0⟩ : R) ((sPuts os).take r) (List.replicate os.length ⟨0, 0⟩)).map R.w) false) = (setAll (⟨1, 0⟩ : R) ((sPuts os).take r) (List.replicate os.length ⟨0, 0⟩)).map R.w from rfl]
    refine e3.trans ?_
    unfold srtApply_l61
    simp only [gv, List.getD_cons_zero, List.getD_cons_succ, iL_len, bop_i64_lss, bd_some, bv_bool]
    rw [if_neg (by simp), app_r0, List.length_map, told2l, e4, cl_ret, one1_one]
  · unfold doneO
    have hp := run_put os most ((sPuts os).take r) (itT ts, bits) (List.replicate os.length ⟨0, 0⟩) (fun x hx => hkp x (List.mem_of_mem_take hx)) (by simp only [itT_len, hlt1]; exact hr2)
    simp only [hlt1, ← hvs, ← hhs, ← I2] at hp
    have hsplit : sPuts os ++ others os = (sPuts os).take r ++ ((sPuts os).drop r ++ others os) := by rw [← List.append_assoc, List.take_append_drop]
    rw [hsplit, runO_append, hp, runO_append]
    have hfull : runO os most ((sPuts os).drop r) (itT ts2, (hsOf r bits).2) (setAll ⟨1, 0⟩ ((sPuts os).take r) (List.replicate os.length ⟨0, 0⟩)) = ((itT ts2, (hsOf r bits).2), told2) := by
      rcases hr3 with h3 | h3
      · rw [htold2, h3, List.drop_length]; rfl
      · rw [run_full os most _ _ _ (fun x hx => hkp x (List.mem_of_mem_drop hx)) (by simp only [itT_len, hlen2]; omega), htold2]
    rw [hfull]
    exact rr
end Go.Proofs.Try
