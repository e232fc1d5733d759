import Derived.Test.YtodgpfffnnlbhaaKz
import Derived.Test.YtodgpfffnnlbhaaKv
/-! sorted by contract: Apply at no list (nil) -/
set_option linter.unusedVariables false
set_option linter.unusedSimpArgs false
namespace Go.Proofs.Try
open Go.L Go.Rp Go.Sk
set_option maxRecDepth 100000
theorem mostZ_call (n : Nat) (h : Heap) : call (n + 1) 35 [.val (.pointer none)] h = some (.ret [.int .i64 0], h) := by kernel_rfl
theorem lenZ_call (n : Nat) (h : Heap) : call (n + 1) 36 [.val (.pointer none)] h = some (.ret [.int .i64 0], h) := by kernel_rfl
theorem minZ_call (n : Nat) (h : Heap) : call (n + 2) 63 [.val (.pointer none)] h = some (.ret [.int .i32 0, .bool false], h) := by kernel_rfl
theorem bop_zz (h : Heap) : bopH prog h .eql 26 (.val (.pointer none)) (.val (.pointer none)) = some (.bool true) := by kernel_rfl
theorem batchZ_call (n : Nat) {h : Heap} {l m : V} (hl : slcH h l = some (1, [])) : call (n + 1) 37 [.val (.pointer none), l, m] h = some (.ret [.sl 1 [] false], h) := by
  refine (skipBatchZ_eq n l m h).trans ?_
  unfold skipBatchZ
  have f0 : nv (V.int .i64 ((0 : Nat) : Int)) = some 0 := nv_nat _ _
  rw [hl, bd_some]
  simp only [List.length_nil]
  rw [f0, bdS_some, bdS_some, if_pos (by first | exact ⟨rfl, by decide, rfl⟩ | exact ⟨rfl, by decide, trivial⟩), bop_zz, bd_some, bv_bool, if_pos rfl]
  rfl
theorem rest_loopZ (n : Nat) (os : List O) (lb : Bool) (L : List Int) (hL : ∀ x ∈ L, 0 ≤ x ∧ x < (os.length : Int) ∧ (oAt os x).k ≠ 1) (hnd : L.Nodup) (tb pb : Nat) (hlim : L.length < lim) (bits : List Bool) : ∀ (d i M : Nat) (h : Heap) (told : List R) (v0 : V), i + d = L.length → d < M →
    RowR h tb told → RowI h pb .i64 3 L → told.length = os.length → pb ≠ tb → (∀ x ∈ L.drop i, told[x.toNat]? = some ⟨0, 0⟩) →
    ∃ h' told', loopx M (srtRestZ_l1 (n + 2) (os.map O.w) lb (.row pb 1 0 L.length) (.row tb 2 0 os.length) (1, iL L)) [v0, .int .i64 (i : Int)] h = some (.ret [.row tb 2 0 os.length], h') ∧
      (∀ b, b ≠ tb → h'[b]? = h[b]?) ∧ h'.length = h.length ∧ RowR h' tb told' ∧ runO os 0 (L.drop i) ([], bits) told = (([], bits), told') := by
  intro d
  induction d with
  | zero =>
    intro i M h told v0 h1 h2 rt rp hlt hpt h0
    obtain ⟨M, rfl⟩ : ∃ M', M = M' + 1 := ⟨M - 1, by omega⟩
    obtain rfl : i = L.length := by omega
    refine ⟨h, told, ?_, fun _ _ => rfl, rfl, rt, by rw [List.drop_length]; rfl⟩
    rw [loopx_succ]
    unfold srtRestZ_l1
    simp only [gv, List.getD_cons_zero, List.getD_cons_succ, iL_len, bop_i64_lss, bd_some, bv_bool]
    rw [if_neg (by simp)]
  | succ d ih =>
    intro i M h told v0 h1 h2 rt rp hlt hpt h0
    obtain ⟨M, rfl⟩ : ∃ M', M = M' + 1 := ⟨M - 1, by omega⟩
    obtain ⟨x, hx⟩ : ∃ x, L[i]? = some x := ⟨_, List.getElem?_eq_getElem (by omega)⟩
    have hdr : L.drop i = x :: L.drop (i + 1) := by
      rw [List.drop_eq_getElem_cons (by omega)]
      rw [List.getElem?_eq_getElem (by omega)] at hx
      rw [Option.some.inj hx]
    obtain ⟨x0, x1, xk⟩ := hL x (List.mem_of_getElem? hx)
    obtain ⟨k, rfl⟩ : ∃ k : Nat, x = (k : Int) := ⟨x.toNat, (Int.toNat_of_nonneg x0).symm⟩
    have hk : k < os.length := by omega
    obtain ⟨o, ho⟩ : ∃ o, os[k]? = some o := ⟨_, List.getElem?_eq_getElem hk⟩
    have hov : (os.map O.w)[k]? = some (O.w o) := by rw [get_os, ho]; rfl
    have hoo := oAt_some ho
    have ht0 : told[k]? = some ⟨0, 0⟩ := by
      have := h0 (k : Int) (by rw [hdr]; exact List.mem_cons_self ..)
      simpa using this
    obtain ⟨B1, w1, r1⟩ := rt.code ht0 5
    have hl1 : decide ((i : Int) < (L.length : Int)) = true := by simp; omega
    obtain ⟨g1, g2⟩ := rp.get hx
    have htk : k < told.length := by omega
    have hkeep1 : ∀ b, b ≠ tb → (h.set tb B1)[b]? = h[b]? := fun b hb => List.getElem?_set_ne (Ne.symm hb)
    have hrest : ∀ (told2 : List R) (r : R), told2 = told.set k r → ∀ y ∈ L.drop (i + 1), told2[y.toNat]? = some ⟨0, 0⟩ := fun told2 r e y hy => by
      rw [e, List.getElem?_set_ne]
      · exact h0 y (by rw [hdr]; exact List.mem_cons_of_mem _ hy)
      · intro e2
        have hy0 := hL y (List.mem_of_mem_drop hy)
        have hyk : y = (k : Int) := by omega
        have hnd2 : (L.drop i).Nodup := hnd.sublist (List.drop_sublist _ _)
        rw [hdr] at hnd2
        exact (List.nodup_cons.1 hnd2).1 (hyk ▸ hy)
    rw [hoo] at xk
    have hw1 : writeB h [.int .u8 5] (.rptr tb 2 k 0) = some (tb, B1) := w1
    have rp1 : RowI (h.set tb B1) pb .i64 3 L := rp.keep (hkeep1 pb hpt)
    have hrun : runO os 0 (L.drop i) ([], bits) told = runO os 0 (L.drop (i + 1)) (stp 0 ([], bits) o).1 (told.set k (stp 0 ([], bits) o).2) := by
      rw [hdr]; show runO os 0 _ (stp 0 ([], bits) (oAt os (k : Int))).1 (told.set (k : Int).toNat (stp 0 ([], bits) (oAt os (k : Int))).2) = _
      rw [hoo, Int.toNat_natCast]
    by_cases hk2 : o.k = 2
    · have ht5 : (told.set k ⟨5, 0⟩)[k]? = some ⟨5, 0⟩ := List.getElem?_set_self htk
      obtain ⟨B2, w2, r2⟩ := r1.code ht5 4
      have e2 : (told.set k ⟨5, 0⟩).set k ⟨4, 0⟩ = told.set k ⟨4, 0⟩ := List.set_set ..
      replace r2 : RowR ((h.set tb B1).set tb B2) tb (told.set k ⟨4, 0⟩) := by rw [← e2]; exact r2
      have hw2 : writeB (h.set tb B1) [.int .u8 4] (.rptr tb 2 k 0) = some (tb, B2) := w2
      have hkeep2 : ∀ b, b ≠ tb → ((h.set tb B1).set tb B2)[b]? = h[b]? := fun b hb => by rw [List.getElem?_set_ne (Ne.symm hb)]; exact hkeep1 b hb
      have key : ∀ next, srtRestZ_l1 (n + 2) (os.map O.w) lb (.row pb 1 0 L.length) (.row tb 2 0 os.length) (1, iL L) [v0, .int .i64 (i : Int)] h next = next [.sl 2 (lsl v0) false, .int .i64 ((i + 1 : Nat) : Int)] ((h.set tb B1).set tb B2) := by
        intro next
        unfold srtRestZ_l1
        simp only [gv, List.getD_cons_zero, List.getD_cons_succ, iL_len, bop_i64_lss, bd_some, bv_bool, hl1, if_true, nv_nat, bdS_some, g1, g2, bd3_some, Nat.zero_add, Nat.le_refl, Nat.reduceLT, and_self, List.getElem?_cons_zero, idx_told hk, addP_rptr, Nat.add_zero, hw1, bd2_some, idxP_sl hov, addP_iptr, cellsP_iptr, Nat.reduceAdd, Nat.reduceLeDiff, ow_get0, bop_u8_neq', bop_i64_add, step64 (show i < lim by omega), hw2]
        rw [if_neg (by simp [hk2]), minZ_call, cl_ret]
        simp only [List.getElem?_cons_zero, List.getElem?_cons_succ, bd_some, bv_bool]
        rw [if_neg (by decide)]
      obtain ⟨h', told', e, b3, b4, b5, b6⟩ := ih (i + 1) M ((h.set tb B1).set tb B2) (told.set k ⟨4, 0⟩) (.sl 2 (lsl v0) false) (by omega) (by omega) r2 (rp.keep (hkeep2 pb hpt)) (by rw [List.length_set]; exact hlt) hpt (hrest _ ⟨4, 0⟩ rfl)
      refine ⟨h', told', by rw [loopx_succ, key]; exact e, fun b hb => by rw [b3 b hb, hkeep2 b hb], by rw [b4, List.length_set, List.length_set], b5, ?_⟩
      rw [hrun, show stp 0 ([], bits) o = (([], bits), ⟨4, 0⟩) by unfold stp; rw [if_neg xk, if_pos hk2]]
      exact b6
    · have key : ∀ next, srtRestZ_l1 (n + 2) (os.map O.w) lb (.row pb 1 0 L.length) (.row tb 2 0 os.length) (1, iL L) [v0, .int .i64 (i : Int)] h next = next [.sl 2 (lsl v0) false, .int .i64 ((i + 1 : Nat) : Int)] (h.set tb B1) := by
        intro next
        unfold srtRestZ_l1
        simp only [gv, List.getD_cons_zero, List.getD_cons_succ, iL_len, bop_i64_lss, bd_some, bv_bool, hl1, if_true, nv_nat, bdS_some, g1, g2, bd3_some, Nat.zero_add, Nat.le_refl, Nat.reduceLT, and_self, List.getElem?_cons_zero, idx_told hk, addP_rptr, Nat.add_zero, hw1, bd2_some, idxP_sl hov, addP_iptr, cellsP_iptr, Nat.reduceAdd, Nat.reduceLeDiff, ow_get0, bop_u8_neq', bop_i64_add, step64 (show i < lim by omega)]
        rw [if_pos (by simp [hk2])]
      obtain ⟨h', told', e, b3, b4, b5, b6⟩ := ih (i + 1) M (h.set tb B1) (told.set k ⟨5, 0⟩) (.sl 2 (lsl v0) false) (by omega) (by omega) r1 rp1 (by rw [List.length_set]; exact hlt) hpt (hrest _ ⟨5, 0⟩ rfl)
      refine ⟨h', told', by rw [loopx_succ, key]; exact e, fun b hb => by rw [b3 b hb, hkeep1 b hb], by rw [b4, List.length_set], b5, ?_⟩
      rw [hrun, show stp 0 ([], bits) o = (([], bits), ⟨5, 0⟩) by unfold stp; rw [if_neg xk, if_neg hk2]]
      exact b6
theorem full_loopZ (n : Nat) {h : Heap} (os : List O) (lb : Bool) (P : List Int) (hP : ∀ x ∈ P, 0 ≤ x ∧ x < (os.length : Int)) (hnd : P.Nodup) (p1 : Nat) (v6 : V) (hlim : P.length < lim) (r1 : RowI h p1 .i64 3 P) : ∀ (d i M : Nat) (told : List R) (v0 v2 : V), i + d = P.length → d < M →
    told.length = os.length → (∀ x ∈ P.drop i, told[x.toNat]? = some ⟨0, 0⟩) →
    ∃ v0' v2' M', loopx M (srtApplyZ_l61 n (os.map O.w) lb v6 (.row p1 1 0 P.length) (1, iL P)) [v0, .sl 2 (told.map R.w) false, v2, .int .i64 (i : Int)] h =
      srtApplyZ_l61 n (os.map O.w) lb v6 (.row p1 1 0 P.length) (1, iL P) [v0', .sl 2 ((setAll ⟨3, 0⟩ (P.drop i) told).map R.w) false, v2', .int .i64 (P.length : Int)] h (loopx M' (srtApplyZ_l61 n (os.map O.w) lb v6 (.row p1 1 0 P.length) (1, iL P))) := by
  intro d
  induction d with
  | zero =>
    intro i M told v0 v2 h1 h2 hlt h0
    obtain ⟨M, rfl⟩ : ∃ M', M = M' + 1 := ⟨M - 1, by omega⟩
    obtain rfl : i = P.length := by omega
    refine ⟨v0, v2, M, ?_⟩
    rw [List.drop_length]
    exact loopx_succ ..
  | succ d ih =>
    intro i M told v0 v2 h1 h2 hlt h0
    obtain ⟨M, rfl⟩ : ∃ M', M = M' + 1 := ⟨M - 1, by omega⟩
    obtain ⟨x, hx⟩ : ∃ x, P[i]? = some x := ⟨_, List.getElem?_eq_getElem (by omega)⟩
    have hdr : P.drop i = x :: P.drop (i + 1) := by
      rw [List.drop_eq_getElem_cons (by omega)]
      rw [List.getElem?_eq_getElem (by omega)] at hx
      rw [Option.some.inj hx]
    obtain ⟨x0, x1⟩ := hP x (List.mem_of_getElem? hx)
    obtain ⟨k, rfl⟩ : ∃ k : Nat, x = (k : Int) := ⟨x.toNat, (Int.toNat_of_nonneg x0).symm⟩
    have ht0 : told[k]? = some ⟨0, 0⟩ := by
      have := h0 (k : Int) (by rw [hdr]; exact List.mem_cons_self ..)
      simpa using this
    have htk : k < told.length := by omega
    have htv : (told.map R.w)[k]? = some (R.w ⟨0, 0⟩) := by rw [get_rs, ht0]; rfl
    have hl1 : decide ((i : Int) < (P.length : Int)) = true := by simp; omega
    obtain ⟨g1, g2⟩ := r1.get hx
    have hnd2 : (P.drop i).Nodup := hnd.sublist (List.drop_sublist _ _)
    rw [hdr] at hnd2
    have hset1 : (told.map R.w).set k (setR (R.w ⟨0, 0⟩) 0 [.int .u8 3]) = (told.set k ⟨3, 0⟩).map R.w := by rw [rw_set, List.map_set]
    have key : ∀ next, srtApplyZ_l61 n (os.map O.w) lb v6 (.row p1 1 0 P.length) (1, iL P) [v0, .sl 2 (told.map R.w) false, v2, .int .i64 (i : Int)] h next = next [.sl 2 (lsl v0) false, .sl 2 ((told.set k ⟨3, 0⟩).map R.w) false, .bool false, .int .i64 ((i + 1 : Nat) : Int)] h := by
      intro next
      unfold srtApplyZ_l61
      simp only [gv, List.getD_cons_zero, List.getD_cons_succ, iL_len, bop_i64_lss, bd_some, bv_bool, hl1, if_true, nv_nat, bdS_some, g1, g2, bd3_some, Nat.zero_add, Nat.le_refl, Nat.reduceLT, and_self, List.getElem?_cons_zero, app_r0]
      rw [if_pos (by exact ⟨trivial, by rw [List.length_map]; exact htk, by decide⟩), htv, bd_some, bop_i64_add, bd_some, hset1, step64 (show i < lim by omega)]
    obtain ⟨v0', v2', M', e⟩ := ih (i + 1) M (told.set k ⟨3, 0⟩) (.sl 2 (lsl v0) false) (.bool false) (by omega) (by omega) (by rw [List.length_set]; exact hlt) (fun y hy => by
      rw [List.getElem?_set_ne]
      · exact h0 y (by rw [hdr]; exact List.mem_cons_of_mem _ hy)
      · intro e2
        have hy0 := hP y (List.mem_of_mem_drop hy)
        have hyk : y = (k : Int) := by omega
        exact (List.nodup_cons.1 hnd2).1 (hyk ▸ hy))
    refine ⟨v0', v2', M', ?_⟩
    rw [loopx_succ, key, e, hdr]
    simp only [setAll, Int.toNat_natCast]
theorem applyZ_call (n : Nat) (h : Heap) (c : Nat) (os : List O) (lb : Bool) (bits : List Bool) (hl : 4 * os.length + 100 < lim) (hn : 2 * os.length + 50 ≤ n) :
    ∃ h' tb told', call (n + 4) 18 [.val (.pointer none), .ptr c 0, .sl 2 (os.map O.w) lb] h = some (.ret [.row tb 2 0 os.length], h') ∧ h.length ≤ tb ∧ (∀ i, i < h.length → h'[i]? = h[i]?) ∧ RowR h' tb told' ∧ doneO os 0 ([], bits) = (([], bits), told') := by
  have hpl := puts_len os os.length
  have hsl := sPuts_len os
  have hpo : (puts os).length ≤ os.length := by unfold puts; omega
  have hol : (others os).length ≤ os.length := by unfold others; omega
  have hlf : (partH h os).length = h.length + 2 := by simp [partH]
  have q1 : RowI (partH h os) h.length .i64 3 (sPuts os) := ⟨true, by unfold partH; rw [List.getElem?_append_right (Nat.le_refl _), Nat.sub_self]; rfl⟩
  have q2 : RowI (partH h os) (h.length + 1) .i64 3 (others os) := ⟨true, by unfold partH; rw [List.getElem?_append_right (by omega), Nat.add_sub_cancel_left]; rfl⟩
  obtain ⟨H1, hH1⟩ : ∃ H1 : Heap, H1 = partH h os ++ [HB.row 21 1 [] true, HB.row 3 1 [] true] := ⟨_, rfl⟩
  have hk1 : ∀ b, b < (partH h os).length → H1[b]? = (partH h os)[b]? := fun b hb => by rw [hH1]; exact List.getElem?_append_left hb
  have hl1 : H1.length = h.length + 4 := by rw [hH1, List.length_append, hlf]; rfl
  have s1 : RowI H1 h.length .i64 3 (sPuts os) := q1.keep (hk1 _ (by omega))
  have s2 : RowI H1 (h.length + 1) .i64 3 (others os) := q2.keep (hk1 _ (by omega))
  obtain ⟨told1, ht1⟩ : ∃ told1, told1 = setAll (⟨3, 0⟩ : R) (sPuts os) (List.replicate os.length ⟨0, 0⟩) := ⟨_, rfl⟩
  have hlt1 : told1.length = os.length := by rw [ht1, setAll_len, List.length_replicate]
  obtain ⟨H2, hH2⟩ : ∃ H2 : Heap, H2 = H1 ++ [HB.row 34 2 (told1.map R.w) true] := ⟨_, rfl⟩
  have hk2 : ∀ b, b < H1.length → H2[b]? = H1[b]? := fun b hb => by rw [hH2]; exact List.getElem?_append_left hb
  have u2 : RowI H2 (h.length + 1) .i64 3 (others os) := s2.keep (hk2 _ (by omega))
  have ut : RowR H2 H1.length told1 := ⟨true, by rw [hH2]; exact List.getElem?_concat_length⟩
  have hond : (others os).Nodup := by
    have : ∀ n : Nat, (restTo os n).Pairwise (· < ·) := fun n => by
      induction n with
      | zero => exact .nil
      | succ n ih =>
        simp only [restTo]
        split
        · exact ih
        · refine List.pairwise_append.2 ⟨ih, List.pairwise_singleton .., fun a ha b hb => ?_⟩
          rw [List.mem_singleton.1 hb]
          exact (restTo_mem os _ a ha).2.1
    exact (this os.length).imp fun h => by omega
  have h0 : ∀ x ∈ others os, told1[x.toNat]? = some ⟨0, 0⟩ := fun x hx => by
    have hm := restTo_mem os _ x hx
    rw [ht1, setAll_ne _ _ _ _ fun y hy e => puts_others os x hx y hy (by have := sPuts_mem os y hy; omega), List.getElem?_replicate, if_pos (by omega)]
  obtain ⟨h', told', e4, b3, b4, b5, b6⟩ := rest_loopZ n os lb (others os) (fun x hx => by have := restTo_mem os _ x hx; exact ⟨this.1, this.2.1, this.2.2⟩) hond H1.length (h.length + 1) (by omega) bits (others os).length 0 (n + 2) H2 told1 (.sl 2 [] false) (by omega) (by omega) ut u2 hlt1 (by omega) (fun x hx => h0 x (by rwa [List.drop_zero] at hx))
  rw [List.drop_zero] at b6
  obtain ⟨v0', v2', M', e3⟩ := full_loopZ (n + 3) (h := H1) os lb (sPuts os) (fun x hx => ⟨(sPuts_mem os x hx).1, (sPuts_mem os x hx).2.1⟩) (sPuts_nodup os) h.length (.row (h.length + 1) 1 0 (others os).length) (by omega) s1 (sPuts os).length 0 (n + 3) (List.replicate os.length ⟨0, 0⟩) (.sl 2 [] false) (.bool false) (by omega) (by omega) (by simp) (fun x hx => by
    have := sPuts_mem os x (List.mem_of_mem_drop hx)
    rw [List.getElem?_replicate, if_pos (by omega)])
  rw [List.drop_zero, ← ht1] at e3
  refine ⟨h', H1.length, told', ?_, by omega, fun i hi => ?_, b5, ?_⟩
  · refine (srtApplyZ_eq (n + 3) c (os.map O.w) lb h).trans ?_
    unfold srtApplyZ
    have fN : nv (V.int .i64 (os.length : Int)) = some os.length := nv_nat _ _
    have f0 : nv (V.int .i64 0) = some 0 := nv_nat _ 0
    have hpc : call (n + 3) 34 [.sl 2 (os.map O.w) lb] h = some (.ret [.row h.length 1 0 (puts os).length, .row (h.length + 1) 1 0 (others os).length], partH h os) := parted_call (n + 1) h os lb (by omega) (by omega)
    have hs1 : sliceP 1 0 0 none true (.row h.length 1 0 (sPuts os).length) = some (.row h.length 1 0 0) := by simpa using sliceP_row (r := h.length) (sz := 1) (u := 0) (v := (sPuts os).length) (Nat.zero_le 0) (by omega) true
    have hs2 : sliceP 1 0 (sPuts os).length none true (.row h.length 1 0 (sPuts os).length) = some (.row h.length 1 0 (sPuts os).length) := by simpa using sliceP_row (r := h.length) (sz := 1) (u := 0) (v := (sPuts os).length) (Nat.zero_le _) (by omega) true
    have hc1 : slcH (partH h os) (.row h.length 1 0 0) = some (1, []) := by have := q1.slcP (lo := 0) (hi := 0) (Nat.le_refl _) (Nat.zero_le _); simpa using this
    have hmin : (if (0 : Int) < ((sPuts os).length : Int) then (0 : Int) else ((sPuts os).length : Int)) = 0 := by split <;> omega
    have hsub : IntKind.i64.wrap ((0 : Int) - 0) = 0 := by rw [w64] <;> omega
    simp only [List.length_map]
    rw [fN, bdS_some, bdS_some, if_pos (by first | exact ⟨rfl, by omega, rfl⟩ | exact ⟨trivial, by omega, trivial⟩ | exact ⟨rfl, by omega, trivial⟩), hpc, cl_ret]
    simp only [List.getElem?_cons_zero, List.getElem?_cons_succ, bd_some]
    rw [← hsl, q1.slc, bd_some, mostZ_call, cl_ret, one1_one, lenZ_call, cl_ret, one1_one, bop_i64_sub, bd_some, hsub]
    simp only [List.length_map, valB, evBsL, bd_some]
    rw [mm_min, bd_some, hmin, lenP_row, bd_some, f0, bdS_some, hs1, bd_some, hc1, bd_some, rs_rep, loopx_succ]
    unfold srtApplyZ_l23
    simp only [gv, List.getD_cons_zero, List.getD_cons_succ, List.length_nil, bop_i64_lss, bd_some, bv_bool]
    rw [if_neg (by simp)]
    simp only [lsl, List.length_nil]
    rw [List.append_assoc, show ([HB.row 21 1 [] true] ++ [HB.row 3 1 [] true]) = [HB.row 21 1 [] true, HB.row 3 1 [] true] from rfl, ← hH1]
    have hb : slcH H1 (.row (partH h os).length 1 0 0) = some (1, []) := by
      have : RowI H1 (partH h os).length .i32 21 [] := ⟨true, by rw [hH1, List.getElem?_append_right (Nat.le_refl _), Nat.sub_self]; rfl⟩
      exact this.slc
    rw [batchZ_call (n + 2) hb, cl_ret, one1_one, lenP_row, bd_some, f0, bdS_some, Nat.sub_zero, hs2, bd_some]
    rw [show slcH H1 (.row h.length 1 0 (sPuts os).length) = _ from s1.slc, bd_some]
    refine e3.trans ?_
    unfold srtApplyZ_l61
    simp only [gv, List.getD_cons_zero, List.getD_cons_succ, iL_len, bop_i64_lss, bd_some, bv_bool]
    rw [if_neg (by simp), app_r0, List.length_map, hlt1, ← hH2]
    have hr : call (n + 3) 38 [.val (.pointer none), .sl 2 (os.map O.w) lb, .row (h.length + 1) 1 0 (others os).length, .row H1.length 2 0 os.length] H2 = some (.ret [.row H1.length 2 0 os.length], h') := by
      refine (srtRestZ_eq (n + 2) (os.map O.w) lb _ _ H2).trans ?_
      unfold srtRestZ
      rw [u2.slc, bd_some]
      exact e4
    rw [hr, cl_ret, one1_one]
  · rw [b3 i (by omega), hk2 i (by omega), hk1 i (by omega)]
    unfold partH
    exact List.getElem?_append_left hi
  · unfold doneO
    rw [runO_append, run_full os 0 (sPuts os) ([], bits) _ (fun x hx => (sPuts_mem os x hx).2.2) (by simp), ← ht1]
    exact b6
end Go.Proofs.Try
