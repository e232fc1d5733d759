import Derived.Test.YtodgpfffnnlbhaaKp
/-! sorted by contract: what the operations come to, one by one; rest -/
set_option linter.unusedVariables false
set_option linter.unusedSimpArgs false
namespace Go.Proofs.Try
open Go.L Go.Rp Go.Sk
set_option maxRecDepth 100000
/-- items and bits -/
abbrev St := List (Int × Nat) × List Bool
/-- an operation at items and bits -/
def stp (most : Int) (st : St) (o : O) : St × R :=
  if o.k = 1 then (if most ≤ (st.1.length : Int) then (st, ⟨3, 0⟩) else ((insI st.1 o.v (hgt 1 st.2).1, (hgt 1 st.2).2), ⟨1, 0⟩))
  else if o.k = 2 then (match st.1 with | [] => (st, ⟨4, 0⟩) | p :: r => ((r, st.2), ⟨2, p.1⟩))
  else (st, ⟨5, 0⟩)
/-- those at some places, one behind the other; what each is told is laid at its place -/
def runO (os : List O) (most : Int) : List Int → St → List R → St × List R
  | [], st, told => (st, told)
  | k :: r, st, told => runO os most r (stp most st (oAt os k)).1 (told.set k.toNat (stp most st (oAt os k)).2)
theorem runO_append (os : List O) (most : Int) : ∀ (l m : List Int) (st : St) (told : List R), runO os most (l ++ m) st told = runO os most m (runO os most l st told).1 (runO os most l st told).2
  | [], m, st, told => rfl
  | k :: l, m, st, told => runO_append os most l m _ _
theorem runO_len (os : List O) (most : Int) : ∀ (l : List Int) (st : St) (told : List R), (runO os most l st told).2.length = told.length
  | [], _, _ => rfl
  | k :: l, st, told => by
    show (runO os most l _ _).2.length = _
    rw [runO_len os most l, List.length_set]
/-- what was there stays, but some blocks -/
structure Frm (h h' : Heap) (X : List Nat) : Prop where
  len : h.length ≤ h'.length
  old : ∀ i, i < h.length → i ∉ X → h'[i]? = h[i]?
theorem Frm.refl (h : Heap) (X : List Nat) : Frm h h X := ⟨Nat.le_refl _, fun _ _ _ => rfl⟩
theorem Frm.trans {h h1 h2 : Heap} {X Y : List Nat} (a : Frm h h1 X) (b : Frm h1 h2 Y) (hY : ∀ y ∈ Y, y ∈ X ∨ h.length ≤ y) : Frm h h2 X :=
  ⟨Nat.le_trans a.len b.len, fun i h1' h2' => (b.old i (by have := a.len; omega) fun hm => by rcases hY i hm with h | h; exact h2' h; omega).trans (a.old i h1' h2')⟩
theorem Frm.sub {h h' : Heap} {X Y : List Nat} (a : Frm h h' X) (hs : ∀ x ∈ X, x ∈ Y) : Frm h h' Y := ⟨a.len, fun i h1 h2 => a.old i h1 fun hm => h2 (hs i hm)⟩
theorem Grew.frm {h h' : Heap} {s : Nat} {ts ts' : List Tw} {most : Int} (g : Grew h h' s ts ts' most) : Frm h h' (skB s ts) := ⟨g.len, g.old⟩
theorem Frm.push (h : Heap) (l : List HB) (X : List Nat) : Frm h (h ++ l) X := ⟨by simp, fun i hi _ => List.getElem?_append_left hi⟩
theorem Frm.set (h : Heap) (b : Nat) (x : HB) : Frm h (h.set b x) [b] := ⟨by simp, fun i _ hn => List.getElem?_set_ne (fun e => hn (by rw [e]; exact List.mem_singleton.2 rfl))⟩
/-- what is told lies in a row -/
def RowR (h : Heap) (b : Nat) (l : List R) : Prop := ∃ z, h[b]? = some (.row 34 2 (l.map R.w) z)
theorem RowR.keep {h h' : Heap} {b : Nat} {l : List R} (r : RowR h b l) (hk : h'[b]? = h[b]?) : RowR h' b l := by obtain ⟨z, hz⟩ := r; exact ⟨z, hk.trans hz⟩
theorem RowR.code {h : Heap} {b : Nat} {l : List R} (r : RowR h b l) {i : Nat} {x : R} (hx : l[i]? = some x) (c : Int) :
    ∃ B, writeB h [.int .u8 c] (.rptr b 2 i 0) = some (b, B) ∧ RowR (h.set b B) b (l.set i ⟨c, x.v⟩) := by
  obtain ⟨z, hz⟩ := r
  refine ⟨_, writeB_rptr hz (by decide) (by simp) (by rw [get_rs, hx]; rfl), z, ?_⟩
  rw [set_at (lt_of_at hz), List.map_set]
  rfl
theorem RowR.all {h : Heap} {b : Nat} {l : List R} (r : RowR h b l) {i : Nat} {x : R} (hx : l[i]? = some x) (c v : Int) :
    ∃ B, writeB h [.int .u8 c, .int .i32 v] (.rptr b 2 i 0) = some (b, B) ∧ RowR (h.set b B) b (l.set i ⟨c, v⟩) := by
  obtain ⟨z, hz⟩ := r
  refine ⟨_, writeB_rptr hz (by decide) (by simp) (by rw [get_rs, hx]; rfl), z, ?_⟩
  rw [set_at (lt_of_at hz), List.map_set]
  rfl
theorem idx_told {b n i : Nat} (h : i < n) : idxP 2 i (.row b 2 0 n) = some (.rptr b 2 i 0) := by simpa using idxP_row (b := b) (sz := 2) (lo := 0) (hi := n) (show i < n - 0 by omega)
theorem bld_res (v : Int) : bldV prog 34 [(0, .int .u8 2), (1, .int .i32 v)] = some [.int .u8 2, .int .i32 v] := by kernel_rfl
theorem ow_get0 (x : O) : (O.w x)[0]? = some (.int .u8 x.k) := rfl
theorem ow_get1 (x : O) : (O.w x)[1]? = some (.int .i32 x.v) := rfl
theorem addP_iptr (k n : Nat) (cs : List V) (o : Nat) : addP k (.iptr n cs o) = some (.iptr n cs (o + k)) := rfl
theorem bop_u8_neq' (a b : Int) : bop prog .neq 5 (.int .u8 a) (.int .u8 b) = some (.bool (a != b)) := by kernel_rfl
/-- rest: those that do not put -/
theorem rest_loop (n : Nat) {s : Nat} {most : Int} (os : List O) (lb : Bool) (L : List Int) (hL : ∀ x ∈ L, 0 ≤ x ∧ x < (os.length : Int) ∧ (oAt os x).k ≠ 1) (hnd : L.Nodup) (tb pb : Nat) (hlim : L.length < lim) (hn : 8 < n) (bits : List Bool) : ∀ (d i M : Nat) (h : Heap) (ts : List Tw) (told : List R) (v0 : V), i + d = L.length → d < M →
    (∃ N, SkAt h s ts most N) → ts.length < lim → RowR h tb told → RowI h pb .i64 3 L → told.length = os.length → tb ∉ skB s ts → pb ∉ skB s ts → pb ≠ tb → (∀ x ∈ L.drop i, told[x.toNat]? = some ⟨0, 0⟩) →
    ∃ h' ts' told', loopx M (srtRest_l1 (n + 2) s (os.map O.w) lb (.row pb 1 0 L.length) (.row tb 2 0 os.length) (1, iL L)) [v0, .int .i64 (i : Int)] h = some (.ret [.row tb 2 0 os.length], h') ∧
      (∃ N, SkAt h' s ts' most N) ∧ (∀ b ∈ skB s ts', b ∈ skB s ts) ∧ Frm h h' (tb :: skB s ts) ∧ h'.length = h.length ∧ RowR h' tb told' ∧ runO os most (L.drop i) (itT ts, bits) told = ((itT ts', bits), told') := by
  intro d
  induction d with
  | zero =>
    intro i M h ts told v0 h1 h2 S hts rt rp hlt nt np hpt h0
    obtain ⟨M, rfl⟩ : ∃ M', M = M' + 1 := ⟨M - 1, by omega⟩
    obtain rfl : i = L.length := by omega
    refine ⟨h, ts, told, ?_, S, fun b hb => hb, .refl _ _, rfl, rt, by rw [List.drop_length]; rfl⟩
    rw [loopx_succ]
    unfold srtRest_l1
    simp only [gv, List.getD_cons_zero, List.getD_cons_succ, iL_len, bop_i64_lss, bd_some, bv_bool]
    rw [if_neg (by simp)]
  | succ d ih =>
    intro i M h ts told v0 h1 h2 S hts rt rp hlt nt np hpt h0
    obtain ⟨M, rfl⟩ : ∃ M', M = M' + 1 := ⟨M - 1, by omega⟩
    obtain ⟨x, hx⟩ : ∃ x, L[i]? = some x := ⟨_, List.getElem?_eq_getElem (by omega)⟩
    have hdr : L.drop i = x :: L.drop (i + 1) := by
      rw [List.drop_eq_getElem_cons (by omega)]
      rw [List.getElem?_eq_getElem (by omega)] at hx
      rw [Option.some.inj hx]
    obtain ⟨x0, x1, xk⟩ := hL x (List.mem_of_getElem? hx)
    obtain ⟨k, rfl⟩ : ∃ k : Nat, x = (k : Int) := ⟨x.toNat, (Int.toNat_of_nonneg x0).symm⟩
    have hk : k < os.length := by omega
    obtain ⟨o, ho⟩ : ∃ o, os[k]? = some o := ⟨_, List.getElem?_eq_getElem hk⟩
    have hov : (os.map O.w)[k]? = some (O.w o) := by rw [get_os, ho]; rfl
    have hoo := oAt_some ho
    have ht0 : told[k]? = some ⟨0, 0⟩ := by
      have := h0 (k : Int) (by rw [hdr]; exact List.mem_cons_self ..)
      simpa using this
    obtain ⟨B1, w1, r1⟩ := rt.code ht0 5
    have hl1 : decide ((i : Int) < (L.length : Int)) = true := by simp; omega
    obtain ⟨g1, g2⟩ := rp.get hx
    have htk : k < told.length := by omega
    have hkeep1 : ∀ b, b ≠ tb → (h.set tb B1)[b]? = h[b]? := fun b hb => List.getElem?_set_ne (Ne.symm hb)
    have hrest : ∀ (told2 : List R) (r : R), told2 = told.set k r → ∀ y ∈ L.drop (i + 1), told2[y.toNat]? = some ⟨0, 0⟩ := fun told2 r e y hy => by
      rw [e, List.getElem?_set_ne]
      · exact h0 y (by rw [hdr]; exact List.mem_cons_of_mem _ hy)
      · intro e2
        have hy0 := hL y (List.mem_of_mem_drop hy)
        have hyk : y = (k : Int) := by omega
        have hnd2 : (L.drop i).Nodup := hnd.sublist (List.drop_sublist _ _)
        rw [hdr] at hnd2
        exact (List.nodup_cons.1 hnd2).1 (hyk ▸ hy)
    rw [hoo] at xk
    have hw1 : writeB h [.int .u8 5] (.rptr tb 2 k 0) = some (tb, B1) := w1
    have S1 : ∃ N, SkAt (h.set tb B1) s ts most N := by obtain ⟨N, S⟩ := S; exact ⟨N, S.keep fun b hb => hkeep1 b fun e => nt (e ▸ hb)⟩
    have fk : nv (V.int .i64 (k : Int)) = some k := nv_nat _ _
    have rp1 : RowI (h.set tb B1) pb .i64 3 L := rp.keep (hkeep1 pb hpt)
    have base : ∀ next, srtRest_l1 (n + 2) s (os.map O.w) lb (.row pb 1 0 L.length) (.row tb 2 0 os.length) (1, iL L) [v0, .int .i64 (i : Int)] h next =
        (if (o.k != 2) = true then next [.sl 2 (lsl v0) false, .int .i64 ((i + 1 : Nat) : Int)] (h.set tb B1) else
          (bd2 (writeB (h.set tb B1) [.int .u8 4] (.rptr tb 2 k 0)) fun b31 x32 =>
          (cl (call (n + 2) 63 [.ptr s 0] (((h.set tb B1)).set b31 x32)) (fun r33 h34 =>
          (bd (r33)[0]? fun v36 =>
          (bd (r33)[1]? fun v37 =>
          (bv v37 fun b38 => if b38 then
          (bd (bldV prog 34 [(0, (V.int .u8 2)), (1, v36)]) fun cs39 =>
          (if (cs39).length = 2 then
          (bd2 (writeB h34 cs39 (.rptr tb 2 k 0)) fun b42 x43 =>
          (next [(V.sl 2 (lsl v0) false), .int .i64 ((i + 1 : Nat) : Int)] ((h34).set b42 x43))) else none))
          else
          (next [(V.sl 2 (lsl v0) false), .int .i64 ((i + 1 : Nat) : Int)] h34))))) (fun z35 h34 => some (Res.pan z35, h34))))) := by
      intro next
      unfold srtRest_l1
      simp only [gv, List.getD_cons_zero, List.getD_cons_succ, iL_len, bop_i64_lss, bd_some, bv_bool, hl1, if_true, nv_nat, bdS_some, g1, g2, bd3_some, Nat.zero_add, Nat.le_refl, Nat.reduceLT, and_self, List.getElem?_cons_zero, idx_told hk, addP_rptr, Nat.add_zero, hw1, bd2_some, idxP_sl hov, addP_iptr, cellsP_iptr, Nat.reduceAdd, Nat.reduceLeDiff, ow_get0, bop_u8_neq', bop_i64_add, step64 (show i < lim by omega)]
    obtain ⟨N, hS⟩ := S
    rw [loopx_succ, base]
    have hst5 : stp most (itT ts, bits) o = if o.k = 2 then (match itT ts with | [] => ((itT ts, bits), ⟨4, 0⟩) | p :: r => ((r, bits), ⟨2, p.1⟩)) else ((itT ts, bits), ⟨5, 0⟩) := by
      unfold stp; rw [if_neg xk]
    have hrun : runO os most (L.drop i) (itT ts, bits) told = runO os most (L.drop (i + 1)) (stp most (itT ts, bits) o).1 (told.set k (stp most (itT ts, bits) o).2) := by
      rw [hdr]; show runO os most _ (stp most (itT ts, bits) (oAt os (k : Int))).1 (told.set (k : Int).toNat (stp most (itT ts, bits) (oAt os (k : Int))).2) = _
      rw [hoo, Int.toNat_natCast]
    by_cases hk2 : o.k = 2
    · rw [if_neg (by simp [hk2])]
      have ht5 : (told.set k ⟨5, 0⟩)[k]? = some ⟨5, 0⟩ := List.getElem?_set_self htk
      obtain ⟨B2, w2, r2⟩ := r1.code ht5 4
      have e2 : (told.set k ⟨5, 0⟩).set k ⟨4, 0⟩ = told.set k ⟨4, 0⟩ := List.set_set ..
      replace r2 : RowR ((h.set tb B1).set tb B2) tb (told.set k ⟨4, 0⟩) := by rw [← e2]; exact r2
      rw [w2, bd2_some]
      have hkeep2 : ∀ b, b ≠ tb → ((h.set tb B1).set tb B2)[b]? = h[b]? := fun b hb => by rw [List.getElem?_set_ne (Ne.symm hb)]; exact hkeep1 b hb
      have S2 : SkAt ((h.set tb B1).set tb B2) s ts most N := hS.keep fun b hb => hkeep2 b fun e => nt (e ▸ hb)
      cases ts with
      | nil =>
        rw [min_none n S2, cl_ret]
        simp only [List.getElem?_cons_zero, List.getElem?_cons_succ, bd_some, bv_bool]
        rw [if_neg (by decide)]
        obtain ⟨h', ts', told', e, b1, b2, b3, b4, b5, b6⟩ := ih (i + 1) M ((h.set tb B1).set tb B2) [] (told.set k ⟨4, 0⟩) (.sl 2 (lsl v0) false) (by omega) (by omega) ⟨N, S2⟩ hts r2 (rp.keep (hkeep2 pb hpt)) (by rw [List.length_set]; exact hlt) nt np hpt (hrest _ ⟨4, 0⟩ rfl)
        refine ⟨h', ts', told', e, b1, b2, ?_, by rw [b4, List.length_set, List.length_set], b5, ?_⟩
        · exact Frm.trans ⟨by simp, fun j _ hj => hkeep2 j fun e => hj (e ▸ List.mem_cons_self ..)⟩ b3 fun y hy => .inl hy
        · rw [hrun, hst5, if_pos hk2]
          exact b6
      | cons t ts =>
        obtain ⟨h3, e3, T⟩ := min_call n S2 hn (by simp at hts; omega)
        rw [e3, cl_ret]
        simp only [List.getElem?_cons_zero, List.getElem?_cons_succ, bd_some, bv_bool]
        rw [if_pos (by first | trivial | rfl), bld_res, bd_some, if_pos (by first | trivial | rfl)]
        have hts3 : tb ≠ s := fun e => nt (e ▸ List.mem_cons_self ..)
        have hps3 : pb ≠ s := fun e => np (e ▸ List.mem_cons_self ..)
        have r3 : RowR h3 tb (told.set k ⟨4, 0⟩) := r2.keep (T.old tb hts3)
        obtain ⟨B3, w3, r4⟩ := r3.all (show (told.set k ⟨4, 0⟩)[k]? = some ⟨4, 0⟩ from List.getElem?_set_self htk) 2 t.v
        have e4 : (told.set k ⟨4, 0⟩).set k ⟨2, t.v⟩ = told.set k ⟨2, t.v⟩ := List.set_set ..
        replace r4 : RowR (h3.set tb B3) tb (told.set k ⟨2, t.v⟩) := by rw [← e4]; exact r4
        rw [w3, bd2_some]
        have hkeep4 : ∀ b, b ≠ tb → (h3.set tb B3)[b]? = h3[b]? := fun b hb => List.getElem?_set_ne (Ne.symm hb)
        have nt' : tb ∉ skB s ts := fun hm => nt (by
          rcases List.mem_cons.1 hm with e | hm
          · exact e ▸ List.mem_cons_self ..
          · exact List.mem_cons_of_mem _ (List.mem_cons_of_mem _ hm))
        have hsub : ∀ b ∈ skB s ts, b ∈ skB s (t :: ts) := fun b hb => by
          rcases List.mem_cons.1 hb with e | hm
          · exact e ▸ List.mem_cons_self ..
          · exact List.mem_cons_of_mem _ (List.mem_cons_of_mem _ hm)
        have S4 : ∃ N, SkAt (h3.set tb B3) s ts most N := by obtain ⟨N', S'⟩ := T.sk; exact ⟨N', S'.keep fun b hb => hkeep4 b fun e => nt' (e ▸ hb)⟩
        obtain ⟨h', ts', told', e, b1, b2, b3, b4, b5, b6⟩ := ih (i + 1) M (h3.set tb B3) ts (told.set k ⟨2, t.v⟩) (.sl 2 (lsl v0) false) (by omega) (by omega) S4 (by simp at hts; omega) r4 (rp.keep (by rw [hkeep4 pb hpt, T.old pb hps3, hkeep2 pb hpt])) (by rw [List.length_set]; exact hlt) nt' (fun hm => np (hsub pb hm)) hpt (hrest _ ⟨2, t.v⟩ rfl)
        refine ⟨h', ts', told', e, b1, fun b hb => hsub b (b2 b hb), ?_, by rw [b4, List.length_set, T.len, List.length_set, List.length_set], b5, ?_⟩
        · refine Frm.trans (h1 := h3.set tb B3) ⟨by rw [List.length_set, T.len, List.length_set, List.length_set]; exact Nat.le_refl _, fun j _ hj => ?_⟩ b3 fun y hy => .inl ?_
          · have hj1 : j ≠ tb := fun e => hj (e ▸ List.mem_cons_self ..)
            have hj2 : j ≠ s := fun e => hj (e ▸ List.mem_cons_of_mem _ (List.mem_cons_self ..))
            rw [hkeep4 j hj1, T.old j hj2, hkeep2 j hj1]
          · rcases List.mem_cons.1 hy with e | hy
            · exact e ▸ List.mem_cons_self ..
            · exact List.mem_cons_of_mem _ (hsub y hy)
        · rw [hrun, hst5, if_pos hk2]
          exact b6
    · rw [if_pos (by simp [hk2])]
      obtain ⟨h', ts', told', e, b1, b2, b3, b4, b5, b6⟩ := ih (i + 1) M (h.set tb B1) ts (told.set k ⟨5, 0⟩) (.sl 2 (lsl v0) false) (by omega) (by omega) S1 hts r1 rp1 (by rw [List.length_set]; exact hlt) nt np hpt (hrest _ ⟨5, 0⟩ rfl)
      refine ⟨h', ts', told', e, b1, b2, ?_, by rw [b4, List.length_set], b5, ?_⟩
      · exact Frm.trans ⟨by simp, fun j _ hj => hkeep1 j fun e => hj (e ▸ List.mem_cons_self ..)⟩ b3 fun y hy => .inl hy
      · rw [hrun, hst5, if_neg hk2]
        exact b6
theorem rest_call (n : Nat) {h : Heap} {s : Nat} {ts : List Tw} {most : Int} (os : List O) (lb : Bool) (told : List R) (tb pb : Nat) (bits : List Bool) (S : ∃ N, SkAt h s ts most N) (hts : ts.length < lim) (rt : RowR h tb told) (rp : RowI h pb .i64 3 (others os)) (hlt : told.length = os.length) (nt : tb ∉ skB s ts) (np : pb ∉ skB s ts) (hpt : pb ≠ tb) (h0 : ∀ x ∈ others os, told[x.toNat]? = some ⟨0, 0⟩) (hlim : os.length < lim) (hn : os.length + 8 < n) :
    ∃ h' ts' told', call (n + 3) 38 [.ptr s 0, .sl 2 (os.map O.w) lb, .row pb 1 0 (others os).length, .row tb 2 0 os.length] h = some (.ret [.row tb 2 0 os.length], h') ∧
      (∃ N, SkAt h' s ts' most N) ∧ (∀ b ∈ skB s ts', b ∈ skB s ts) ∧ Frm h h' (tb :: skB s ts) ∧ h'.length = h.length ∧ RowR h' tb told' ∧ runO os most (others os) (itT ts, bits) told = ((itT ts', bits), told') := by
  have hl := puts_len os os.length
  have hol : (others os).length ≤ os.length := by unfold others; omega
  have hnd : (others os).Nodup := by
    have : ∀ n : Nat, (restTo os n).Pairwise (· < ·) := fun n => by
      induction n with
      | zero => exact .nil
      | succ n ih =>
        simp only [restTo]
        split
        · exact ih
        · refine List.pairwise_append.2 ⟨ih, List.pairwise_singleton .., fun a ha b hb => ?_⟩
          rw [List.mem_singleton] at hb; subst hb
          exact (restTo_mem os n a ha).2.1
    exact (this os.length).imp fun h => by omega
  obtain ⟨h', ts', told', e, r⟩ := rest_loop n os lb (others os) (restTo_mem os os.length) hnd tb pb (by omega) (by omega) bits (others os).length 0 (n + 2) h ts told (.sl 2 [] false) (by omega) (by omega) S hts rt rp hlt nt np hpt (by rw [List.drop_zero]; exact h0)
  refine ⟨h', ts', told', ?_, by rw [List.drop_zero] at r; exact r⟩
  refine (srtRest_eq (n + 2) s (os.map O.w) lb _ _ h).trans ?_
  unfold srtRest
  rw [rp.slc, bd_some]
  exact e
end Go.Proofs.Try
