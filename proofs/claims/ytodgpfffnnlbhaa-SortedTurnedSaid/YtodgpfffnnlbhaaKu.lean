import Derived.Test.YtodgpfffnnlbhaaKs
/-! skip by contract: Insert, Batch, Min -/
set_option linter.unusedVariables false
set_option linter.unusedSimpArgs false
namespace Go.Sk
open Go.L
theorem nx_last {ts : List Tw} {k j : Nat} (hj : j ≤ ts.length) : nx k (ts.drop (lastP ts k j)) = nx k (ts.drop j) := by
  have hl := lastP_le ts k j
  unfold nx
  rw [drop_part hl hj]
  have : fst? k ((ts.take j).drop (lastP ts k j)) = none := by
    cases h : fst? k ((ts.take j).drop (lastP ts k j)) with
    | none => rfl
    | some t =>
      obtain ⟨m, h1, h2, h3, h4⟩ := fst_some_part h
      exact absurd h4 (lastP_none ts k j m t h1 h2 h3)
  unfold fst? at this ⊢
  rw [List.find?_append, this]
  rfl
theorem ins_perm (ts : List Tw) (j : Nat) (u : Tw) : (ins ts j u).Perm (u :: ts) := by
  unfold ins
  refine List.perm_middle.trans ?_
  rw [List.take_append_drop]
theorem mem_ins {ts : List Tw} {j : Nat} {u t : Tw} : t ∈ ins ts j u ↔ t = u ∨ t ∈ ts := by rw [(ins_perm ts j u).mem_iff, List.mem_cons]
/-- pointers once there is a new tower, which leads nowhere -/
def newN (N : Nx) (b : Nat) : Nx := fun b' k => if b' = b then nilP else N b' k
end Go.Sk
namespace Go.Proofs.Try
open Go.L Go.Rp Go.Sk
set_option maxRecDepth 100000
/-- the blocks of a list -/
def skB (s : Nat) (ts : List Tw) : List Nat := s :: ts.map Tw.b
theorem SkAt.nd {h : Heap} {s : Nat} {ts : List Tw} {most : Int} {N : Nx} (S : SkAt h s ts most N) : (skB s ts).Nodup := by
  have := S.rep.nd
  rwa [nds_bs] at this
theorem SkAt.lt {h : Heap} {s : Nat} {ts : List Tw} {most : Int} {N : Nx} (S : SkAt h s ts most N) : ∀ b ∈ skB s ts, b < h.length := fun b hb => by
  unfold skB at hb
  rw [← nds_bs s (ts.length : Int) most] at hb
  obtain ⟨x, hx, rfl⟩ := List.mem_map.1 hb
  exact lt_of_at (S.rep.at_ x hx)
theorem SkAt.keep {h h' : Heap} {s : Nat} {ts : List Tw} {most : Int} {N : Nx} (S : SkAt h s ts most N) (hk : ∀ b ∈ skB s ts, h'[b]? = h[b]?) : SkAt h' s ts most N :=
  ⟨S.rep.keep fun x hx => hk _ (by unfold skB; rw [← nds_bs s (ts.length : Int) most]; exact List.mem_map_of_mem hx), S.lk, S.up, S.ht⟩
theorem nexts_nil {N : Nx} {b : Nat} (h : ∀ k, N b k = nilP) : nexts (N b) = nexts (fun _ => nilP) := by
  congr 1; funext k; exact h k
/-- a tower put in its place, from a path that is no further -/
theorem put_step (n : Nat) {h : Heap} {s : Nat} {ts : List Tw} {most : Int} {N : Nx} (S : SkAt h s ts most N) (v kk : Int) (Q : Nat → Nat) (hQ : ∀ k, k < 8 → Q k ≤ upTo ts v ∧ OnLev ts k (Q k)) (hn : ts.length + 8 < n) (hlim : ts.length < lim) :
    ∃ (u : Tw) (h1 h2 : Heap) (N' : Nx) (cs : List V) (B : HB), u.b = h.length ∧ u.v = v ∧ (u.ht : Int) = max 1 (min kk 8) ∧
      call (n + 2) 42 [.agg (pathV (fun k => posB s ts (Q k))), .int .i32 v] h = some (.ret [.agg (pathV (fun k => posB s ts (lastP ts k (upTo ts v))))], h) ∧
      call (n + 2) 44 [.int .i32 v, .int .i64 kk] h = some (.ret [.ptr u.b 0], h1) ∧
      call (n + 2) 43 [.agg (pathV (fun k => posB s ts (lastP ts k (upTo ts v)))), .ptr u.b 0] h1 = some (.ret [.agg (pathV (fun k => posB s (ins ts (upTo ts v) u) (lastP (ins ts (upTo ts v) u) k (upTo ts v + 1))))], h2) ∧
      cellsP h2 (.ptr s 10) = some (cs, 12, 10) ∧ cs[10]? = some (.int .i64 (ts.length : Int)) ∧ writeB h2 [.int .i64 ((ts.length + 1 : Nat) : Int)] (.ptr s 10) = some (s, B) ∧
      SkAt (h2.set s B) s (ins ts (upTo ts v) u) most N' ∧ (h2.set s B).length = h.length + 1 ∧ ∀ i, i < h.length → i ∉ skB s ts → (h2.set s B)[i]? = h[i]? := by
  obtain ⟨T, hT⟩ : ∃ T : Nat, (T : Int) = max 1 (min kk 8) := ⟨(max 1 (min kk 8)).toNat, Int.toNat_of_nonneg (by omega)⟩
  have hT1 : 1 ≤ T ∧ T ≤ 8 := by omega
  have hul := upTo_le ts v
  have hlt := S.lt
  have hnd := S.nd
  have hon := on_call n S.rep S.lk S.up v Q hQ hn
  have htall := tall_call (n + 1) h v kk
  obtain ⟨P, hPe⟩ : ∃ P : Nat → Nat, P = fun k => posB s ts (lastP ts k (upTo ts v)) := ⟨_, rfl⟩
  rw [← hPe] at hon
  obtain ⟨u, hu⟩ : ∃ u : Tw, u = ⟨h.length, v, T⟩ := ⟨_, rfl⟩
  have hub : u.b = h.length := by rw [hu]
  have huT : u.ht = T := by rw [hu]
  have huv : u.v = v := by rw [hu]
  have hfresh : ∀ b ∈ skB s ts, b ≠ h.length := fun b hb e => by have := hlt b hb; omega
  have hPin : ∀ k, P k ∈ skB s ts := fun k => by
    rw [hPe]
    obtain ⟨x, hx, hxb⟩ := node_pos (s := s) (many := (ts.length : Int)) (most := most) (ts := ts) (i := lastP ts k (upTo ts v)) (by have := lastP_le ts k (upTo ts v); omega)
    simp only
    rw [← hxb]
    unfold skB
    rw [← nds_bs s (ts.length : Int) most]
    exact List.mem_map_of_mem hx
  obtain ⟨h1, hh1⟩ : ∃ h1 : Heap, h1 = h ++ [.box 10 ([.int .i32 v, .int .i64 (max 1 (min kk 8))] ++ nexts (fun _ => nilP))] := ⟨_, rfl⟩
  rw [← hh1] at htall
  have hN1 : ∀ b ∈ skB s ts, newN N h.length b = N b := fun b hb => by funext k; unfold newN; rw [if_neg (hfresh b hb)]
  have r1 : Rep h1 (ndT u :: nds s (ts.length : Int) most ts) (newN N h.length) := by
    refine ⟨fun x hx => ?_, ?_, fun x hx k => ?_⟩
    · rcases List.mem_cons.1 hx with rfl | hx
      · show h1[u.b]? = some (.box (10 + 0) ([.int .i32 u.v, .int .i64 (u.ht : Int)] ++ (nexts (newN N h.length u.b) ++ [])))
        rw [hub, hh1, List.getElem?_concat_length, huv, huT, hT, List.append_nil, nexts_nil (N := newN N h.length) (b := h.length) (fun k => by unfold newN; rw [if_pos rfl])]
      · have hb : x.b ∈ skB s ts := by unfold skB; rw [← nds_bs s (ts.length : Int) most]; exact List.mem_map_of_mem hx
        have := S.rep.at_ x hx
        unfold NodeAt at this ⊢
        rw [hh1, List.getElem?_append_left (hlt _ hb), this]
        unfold Nd.cells
        rw [hN1 _ hb]
    · rw [List.map_cons, nds_bs]
      refine List.nodup_cons.2 ⟨fun hm => hfresh _ hm hub, hnd⟩
    · rcases List.mem_cons.1 hx with rfl | hx
      · have e : newN N h.length (ndT u).b k = nilP := if_pos hub
        rw [e]; rfl
      · have hb : x.b ∈ skB s ts := by unfold skB; rw [← nds_bs s (ts.length : Int) most]; exact List.mem_map_of_mem hx
        rw [hN1 _ hb]
        exact S.rep.one x hx k
  have hPne : ∀ k, P k ≠ u.b := fun k e => hfresh _ (hPin k) (e.trans hub)
  obtain ⟨h2, e3, r2, l2, f2⟩ := put_call (n + 1) r1 (ndT u) (List.mem_cons_self ..) (T := T) (by show ((u.ht : Nat) : Int) = _; rw [huT]) hT1.2 P (fun k hk => by
      have := hPin k
      unfold skB at this
      rw [← nds_bs s (ts.length : Int) most] at this
      obtain ⟨x, hx, hxb⟩ := List.mem_map.1 this
      exact ⟨x, List.mem_cons_of_mem _ hx, hxb⟩) hPne (by omega)
  have hlk : Linked s (ins ts (upTo ts v) u) (putN (newN N h.length) u.b P T) := by
    have hnd' := List.nodup_cons.1 hnd
    refine S.lk.ins hnd'.2 hnd'.1 (fun e => hfresh s (List.mem_cons_self ..) (e.symm.trans hub)) (fun hm => hfresh _ (List.mem_cons_of_mem _ hm) hub) hul (fun k hk => ?_) (fun k hk hku => ?_) (fun b k hk hb1 hb2 => ?_)
    · rw [huT]
      by_cases hkT : k < T
      · rw [if_pos hkT, (putN_lt (newN N h.length) u.b P hPne T k hkT).1, hN1 _ (hPin k), hPe]
        simp only
        rw [S.lk.at_ hk (lastP_on ts k _ hul), nx_last hul]
      · rw [if_neg hkT, putN_ge _ _ _ _ _ _ (by omega), hub]
        unfold newN; rw [if_pos rfl]
    · rw [huT] at hku
      have := (putN_lt (newN N h.length) u.b P hPne T k hku).2.1
      rw [hPe] at this
      rw [hPe]
      exact this
    · have hbN : newN N h.length b k = N b k := by unfold newN; rw [if_neg (by rw [← hub]; exact hb1)]
      by_cases hkT : k < T
      · rw [(putN_lt (newN N h.length) u.b P hPne T k hkT).2.2 b hb1 (by rw [hPe]; exact hb2 (by rw [huT]; exact hkT)), hbN]
      · rw [putN_ge _ _ _ _ _ _ (by omega), hbN]
  have hpath : pathV (fun j => if j < T then (ndT u).b else P j) = pathV (fun k => posB s (ins ts (upTo ts v) u) (lastP (ins ts (upTo ts v) u) k (upTo ts v + 1))) := by
    congr 1
    funext k
    rw [lastP_ins_at hul, huT]
    by_cases hkT : k < T
    · rw [if_pos hkT, if_pos hkT]
      simp only [posB, getD_some (ins_at hul)]
      rfl
    · rw [if_neg hkT, if_neg hkT, posB_ins hul (lastP_le _ _ _), hPe]
  rw [hpath] at e3
  have hhd := r2.at_ (ndH s (ts.length : Int) most) (List.mem_cons_of_mem _ (List.mem_cons_self ..))
  have hcell := r2.read (x := ndH s (ts.length : Int) most) (List.mem_cons_of_mem _ (List.mem_cons_self ..)) 10
  have hc10 : ∀ (many : Int) (M : Nx), ((ndH s many most).cells M)[10]? = some (.int .i64 many) := fun many M => by
    unfold Nd.cells
    rw [List.getElem?_append_right (by simp), List.getElem?_append_right (by rw [nexts_len]; simp)]
    simp [nexts_len, ndH]
  have hset : ∀ (a b : Int) (M : Nx), setR ((ndH s a most).cells M) 10 [.int .i64 b] = (ndH s b most).cells M := fun a b M => by
    show (List.set _ _ _) = _
    unfold Nd.cells
    rw [List.set_append_right _ _ (by simp), List.set_append_right _ _ (by rw [nexts_len]; simp)]
    congr 1
    try simp [nexts_len, ndH]
  have hsl := lt_of_at hhd
  have hw : writeB h2 [.int .i64 ((ts.length + 1 : Nat) : Int)] (.ptr s 10) = some (s, .box 12 ((ndH s ((ts.length + 1 : Nat) : Int) most).cells (putN (newN N h.length) u.b P T))) := by
    have h0 : h2[s]? = some (.box 12 ((ndH s (ts.length : Int) most).cells (putN (newN N h.length) u.b P T))) := hhd
    rw [writeB_box h0 (by simp), hset]
  refine ⟨u, h1, h2, _, _, _, hub, huv, by rw [huT]; exact hT, hPe ▸ hon, by rw [hub]; exact htall, hPe ▸ e3, hcell, hc10 _ _, hw, ⟨⟨fun x hx => ?_, ?_, fun x hx k => ?_⟩, hlk, ?_, fun t ht => ?_⟩, ?_, fun i hi hib => ?_⟩
  · rcases List.mem_cons.1 hx with rfl | hx
    · rw [ins_len hul]
      exact set_at hsl _
    · obtain ⟨t, ht, rfl⟩ := List.mem_map.1 hx
      have hm : ndT t ∈ ndT u :: nds s (ts.length : Int) most ts := by
        rcases mem_ins.1 ht with rfl | ht
        · exact List.mem_cons_self ..
        · exact List.mem_cons_of_mem _ (List.mem_cons_of_mem _ (List.mem_map_of_mem ht))
      have hne : t.b ≠ s := by
        rcases mem_ins.1 ht with rfl | ht
        · intro e; exact hfresh s (List.mem_cons_self ..) (e.symm.trans hub)
        · intro e; exact (List.nodup_cons.1 hnd).1 (e ▸ List.mem_map_of_mem ht)
      unfold NodeAt
      rw [List.getElem?_set_ne (show s ≠ (ndT t).b from Ne.symm hne)]
      exact r2.at_ _ hm
  · rw [nds_bs]
    have hp : ((ins ts (upTo ts v) u).map Tw.b).Perm ((u :: ts).map Tw.b) := (ins_perm ts _ u).map _
    have hnd' := List.nodup_cons.1 hnd
    refine List.nodup_cons.2 ⟨fun hm => ?_, hp.nodup_iff.2 ?_⟩
    · rcases List.mem_cons.1 (hp.mem_iff.1 hm) with e | hm
      · exact hfresh s (List.mem_cons_self ..) (e.trans hub)
      · exact hnd'.1 hm
    · rw [List.map_cons]
      exact List.nodup_cons.2 ⟨fun hm => hfresh _ (List.mem_cons_of_mem _ hm) hub, hnd'.2⟩
  · rcases List.mem_cons.1 hx with rfl | hx
    · exact r2.one (ndH s (ts.length : Int) most) (List.mem_cons_of_mem _ (List.mem_cons_self ..)) k
    · obtain ⟨t, ht, rfl⟩ := List.mem_map.1 hx
      rcases mem_ins.1 ht with rfl | ht
      · exact r2.one _ (List.mem_cons_self ..) k
      · exact r2.one _ (List.mem_cons_of_mem _ (List.mem_cons_of_mem _ (List.mem_map_of_mem ht))) k
  · have := S.up.ins u
    rwa [huv] at this
  · rcases mem_ins.1 ht with rfl | ht
    · rw [huT]; exact hT1
    · exact S.ht t ht
  · rw [List.length_set, l2, hh1, List.length_append]; rfl
  · have his : i ≠ s := fun e => hib (e ▸ List.mem_cons_self ..)
    rw [List.getElem?_set_ne (Ne.symm his), f2 i fun x hx e => ?_, hh1, List.getElem?_append_left hi]
    rcases List.mem_cons.1 hx with rfl | hx
    · have : (ndT u).b = h.length := hub
      omega
    · refine hib ?_
      unfold skB
      rw [← nds_bs s (ts.length : Int) most, ← e]
      exact List.mem_map_of_mem hx
theorem hd_cell10 (s : Nat) (many most : Int) (M : Nx) : ((ndH s many most).cells M)[10]? = some (.int .i64 many) := by
  unfold Nd.cells
  rw [List.getElem?_append_right (by simp), List.getElem?_append_right (by rw [nexts_len]; simp)]
  simp [nexts_len, ndH]
theorem hd_cell11 (s : Nat) (many most : Int) (M : Nx) : ((ndH s many most).cells M)[11]? = some (.int .i64 most) := by
  unfold Nd.cells
  rw [List.getElem?_append_right (by simp), List.getElem?_append_right (by rw [nexts_len]; simp)]
  simp [nexts_len, ndH]
theorem hd_set10 (s : Nat) (a b most : Int) (M : Nx) : setR ((ndH s a most).cells M) 10 [.int .i64 b] = (ndH s b most).cells M := by
  show (List.set _ _ _) = _
  unfold Nd.cells
  rw [List.set_append_right _ _ (by simp), List.set_append_right _ _ (by rw [nexts_len]; simp)]
  congr 1
  try simp [nexts_len, ndH]
theorem SkAt.head {h : Heap} {s : Nat} {ts : List Tw} {most : Int} {N : Nx} (S : SkAt h s ts most N) (o : Nat) : cellsP h (.ptr s o) = some ((ndH s (ts.length : Int) most).cells N, 12, o) := S.rep.read (x := ndH s (ts.length : Int) most) (List.mem_cons_self ..) o
theorem SkAt.hb {h : Heap} {s : Nat} {ts : List Tw} {most : Int} {N : Nx} (S : SkAt h s ts most N) : h[s]? = some (.box 12 ((ndH s (ts.length : Int) most).cells N)) := S.rep.at_ _ (List.mem_cons_self ..)
theorem most_call (n : Nat) {h : Heap} {s : Nat} {ts : List Tw} {most : Int} {N : Nx} (S : SkAt h s ts most N) : call (n + 1) 35 [.ptr s 0] h = some (.ret [.int .i64 most], h) := by
  refine (skipMost_eq n s h).trans ?_
  unfold skipMost
  rw [bop_sk_nil, bd_some, bv_bool, if_neg (by decide), S.head, bd3_some, if_pos (by decide), hd_cell11, bd_some]
theorem len_call (n : Nat) {h : Heap} {s : Nat} {ts : List Tw} {most : Int} {N : Nx} (S : SkAt h s ts most N) : call (n + 1) 36 [.ptr s 0] h = some (.ret [.int .i64 (ts.length : Int)], h) := by
  refine (skipLen_eq n s h).trans ?_
  unfold skipLen
  rw [bop_sk_nil, bd_some, bv_bool, if_neg (by decide), S.head, bd3_some, if_pos (by decide), hd_cell10, bd_some]
/-- what a put leaves: a tower more, in its place -/
structure Put (h h' : Heap) (s : Nat) (ts ts' : List Tw) (most : Int) (v kk : Int) : Prop where
  sk : ∃ N, SkAt h' s ts' most N
  ins : ∃ u : Tw, u.b = h.length ∧ u.v = v ∧ (u.ht : Int) = max 1 (min kk 8) ∧ ts' = Go.Sk.ins ts (upTo ts v) u
  len : h'.length = h.length + 1
  old : ∀ i, i < h.length → i ∉ skB s ts → h'[i]? = h[i]?
theorem cells_int (k : IntKind) (a : Int) : V.cells (.int k a) = [.int k a] := rfl
/-- Insert, where there is room -/
theorem insert_call (n : Nat) {h : Heap} {s : Nat} {ts : List Tw} {most : Int} {N : Nx} (S : SkAt h s ts most N) (v kk : Int) (hn : ts.length + 8 < n) (hlim : ts.length < lim) (hm : (ts.length : Int) < most) :
    ∃ h' ts', call (n + 3) 22 [.ptr s 0, .int .i32 v, .int .i64 kk] h = some (.ret [.bool true], h') ∧ Put h h' s ts ts' most v kk := by
  obtain ⟨u, h1, h2, N', cs, B, a1, a2, a3, e1, e2, e3, c1, c2, w, S', l', f'⟩ := put_step n S v kk (fun _ => 0) (fun k _ => ⟨Nat.zero_le _, trivial⟩) hn hlim
  refine ⟨h2.set s B, _, ?_, ⟨⟨N', S'⟩, ⟨u, a1, a2, a3, rfl⟩, l', f'⟩⟩
  refine (skipInsert_eq (n + 2) s v kk h).trans ?_
  unfold skipInsert
  have hb := begin_call (n + 1) h s (by omega)
  have hb' : call (n + 2) 41 [.ptr s 0] h = some (.ret [.agg (pathV (fun _ => posB s ts 0))], h) := hb
  rw [bop_sk_nil, bd_some, bv_bool, if_neg (by decide), S.head, bd3_some, if_pos (by decide), hd_cell10, bd_some, S.head, bd3_some, if_pos (by decide), hd_cell11, bd_some, bop_i64_geq, bd_some, bv_bool]
  rw [if_neg (by intro e; have := of_decide_eq_true e; omega), hb', cl_ret, one1_one, e1, cl_ret, one1_one, e2, cl_ret, one1_one, e3, cl_ret, one1_one, c1, bd3_some, if_pos (by decide), c2, bd_some, bop_i64_add, bd_some, step64 hlim, cells_int, if_pos (by rfl), w, bd2_some]
/-- Insert, where there is none -/
theorem insert_full (n : Nat) {h : Heap} {s : Nat} {ts : List Tw} {most : Int} {N : Nx} (S : SkAt h s ts most N) (v kk : Int) (hm : most ≤ (ts.length : Int)) :
    call (n + 1) 22 [.ptr s 0, .int .i32 v, .int .i64 kk] h = some (.ret [.bool false], h) := by
  refine (skipInsert_eq n s v kk h).trans ?_
  unfold skipInsert
  rw [bop_sk_nil, bd_some, bv_bool, if_neg (by decide), S.head, bd3_some, if_pos (by decide), hd_cell10, bd_some, S.head, bd3_some, if_pos (by decide), hd_cell11, bd_some, bop_i64_geq, bd_some, bv_bool]
  rw [if_pos (by exact decide_eq_true hm)]
/-- the pointers once the first is taken -/
def minN (N : Nx) (s b : Nat) : Nat → Nx
  | 0 => N
  | k + 1 => updN (minN N s b k) s k (minN N s b k b k)
theorem minN_val (N : Nx) {s b : Nat} (hsb : s ≠ b) : ∀ K, (∀ b' k, b' ≠ s → minN N s b K b' k = N b' k) ∧ ∀ k, minN N s b K s k = if k < K then N b k else N s k
  | 0 => ⟨fun _ _ _ => rfl, fun k => by rw [if_neg (by omega)]; rfl⟩
  | K + 1 => by
    obtain ⟨h1, h2⟩ := minN_val N hsb K
    refine ⟨fun b' k hb => ?_, fun k => ?_⟩
    · simp only [minN, updN]
      rw [if_neg (fun e => hb e.1)]
      exact h1 b' k hb
    · simp only [minN, updN]
      by_cases e : k = K
      · rw [if_pos (by first | exact ⟨rfl, e⟩ | exact ⟨trivial, e⟩), h1 b K (Ne.symm hsb), if_pos (by omega), e]
      · rw [if_neg (fun h => e h.2), h2 k]
        by_cases h3 : k < K
        · rw [if_pos h3, if_pos (by omega)]
        · rw [if_neg h3, if_neg (by omega)]
/-- what a taken item leaves -/
structure Took (h h' : Heap) (s : Nat) (ts : List Tw) (most : Int) : Prop where
  sk : ∃ N, SkAt h' s ts most N
  len : h'.length = h.length
  old : ∀ i, i ≠ s → h'[i]? = h[i]?
theorem min_loop (n : Nat) {ns : List Nd} {N : Nx} {x t : Nd} (hx : x ∈ ns) (ht : t ∈ ns) (hne : x.b ≠ t.b) (T : Nat) (hT : T ≤ 8) : ∀ (d k M : Nat) (h : Heap), k + d = T → d < M → Rep h ns (minN N x.b t.b k) →
    ∃ h' M', loopx M (skipMin_l16 n x.b (.ptr t.b 0) (.int .i64 (T : Int))) [.int .i64 (k : Int)] h = skipMin_l16 n x.b (.ptr t.b 0) (.int .i64 (T : Int)) [.int .i64 (T : Int)] h' (loopx M' (skipMin_l16 n x.b (.ptr t.b 0) (.int .i64 (T : Int)))) ∧ Rep h' ns (minN N x.b t.b T) ∧ h'.length = h.length ∧ ∀ i, i ≠ x.b → h'[i]? = h[i]? := by
  intro d
  induction d with
  | zero =>
    intro k M h h1 h2 r
    obtain ⟨M, rfl⟩ : ∃ M', M = M' + 1 := ⟨M - 1, by omega⟩
    obtain rfl : k = T := by omega
    exact ⟨h, M, loopx_succ .., r, rfl, fun _ _ => rfl⟩
  | succ d ih =>
    intro k M h h1 h2 r
    obtain ⟨M, rfl⟩ : ∃ M', M = M' + 1 := ⟨M - 1, by omega⟩
    have hk : k < 8 := by omega
    have hlt : decide ((k : Int) < (T : Int)) = true := by simp; omega
    have hone := r.one t ht k
    obtain ⟨w, r'⟩ := r.write hx hk (minN N x.b t.b k t.b k) hone
    have hrd := r.read ht (2 + k)
    have hg := t.get (minN N x.b t.b k) hk
    have key : ∀ next, skipMin_l16 n x.b (.ptr t.b 0) (.int .i64 (T : Int)) [.int .i64 (k : Int)] h next = next [.int .i64 ((k + 1 : Nat) : Int)] (h.set x.b (.box (10 + x.post.length) (x.cells (updN (minN N x.b t.b k) x.b k (minN N x.b t.b k t.b k))))) := by
      intro next
      unfold skipMin_l16
      simp only [gv, List.getD_cons_zero, bop_i64_lss, bd_some, bv_bool, hlt, if_true, nv_int, addP_ptr, Nat.mul_one, Nat.zero_add, hrd, bd3_some, hg, hone, List.length_cons, List.length_nil, w, bd2_some, bop_i64_add, step64 (show k < lim by unfold lim; omega)]
      rw [if_pos hk, if_pos (by omega), if_pos hk]
    obtain ⟨h', M', e, b1, b2, b3⟩ := ih (k + 1) M _ (by omega) (by omega) r'
    exact ⟨h', M', by rw [loopx_succ, key]; exact e, b1, by rw [b2, List.length_set], fun i hi => by rw [b3 i hi, List.getElem?_set_ne (Ne.symm hi)]⟩
theorem min_call (n : Nat) {h : Heap} {s : Nat} {t : Tw} {ts : List Tw} {most : Int} {N : Nx} (S : SkAt h s (t :: ts) most N) (hn : 8 < n) (hlim : ts.length + 1 < lim) :
    ∃ h', call (n + 2) 63 [.ptr s 0] h = some (.ret [.int .i32 t.v, .bool true], h') ∧ Took h h' s ts most := by
  have hmem : ndT t ∈ nds s ((t :: ts).length : Int) most (t :: ts) := List.mem_cons_of_mem _ (List.mem_map_of_mem (List.mem_cons_self ..))
  have hmh : ndH s ((t :: ts).length : Int) most ∈ nds s ((t :: ts).length : Int) most (t :: ts) := List.mem_cons_self ..
  have hht := S.ht t (List.mem_cons_self ..)
  have hnd := S.nd
  have hne : s ≠ t.b := fun e => (List.nodup_cons.1 hnd).1 (e ▸ List.mem_cons_self ..)
  have hnx : N s 0 = .ptr t.b 0 := by
    have := S.lk.hd 0 (by omega)
    rw [this]
    unfold nx fst?
    rw [List.find?_cons, decide_eq_true (by omega)]
  have h2 : ((ndH s ((t :: ts).length : Int) most).cells N)[2]? = some (.ptr t.b 0) := by
    have := (ndH s ((t :: ts).length : Int) most).get N (k := 0) (by omega)
    rw [Nat.add_zero] at this
    rw [this]
    exact congrArg some hnx
  have hT1 : ∀ o, cellsP h (.ptr t.b o) = some ((ndT t).cells N, 10, o) := fun o => S.rep.read hmem o
  have hend : ∀ h' next, Rep h' (nds s ((t :: ts).length : Int) most (t :: ts)) (minN N s t.b t.ht) → h'.length = h.length → (∀ i, i ≠ s → h'[i]? = h[i]?) →
      skipMin_l16 (n + 1) s (.ptr t.b 0) (.int .i64 (t.ht : Int)) [.int .i64 (t.ht : Int)] h' next = some (.ret [.int .i32 t.v, .bool true], h'.set s (.box 12 ((ndH s (ts.length : Int) most).cells (minN N s t.b t.ht)))) := fun h' next r hl hf => by
    unfold skipMin_l16
    have hlt : decide ((t.ht : Int) < (t.ht : Int)) = false := by simp
    have hrd : cellsP h' (.ptr s 10) = some ((ndH s ((t :: ts).length : Int) most).cells (minN N s t.b t.ht), 12, 10) := r.read hmh 10
    have hb : h'[s]? = some (.box 12 ((ndH s ((t :: ts).length : Int) most).cells (minN N s t.b t.ht))) := r.at_ _ hmh
    have hsub : IntKind.i64.wrap (((ts.length + 1 : Nat) : Int) - 1) = (ts.length : Int) := by unfold lim at hlim; rw [w64] <;> omega
    have hw : writeB h' [.int .i64 (ts.length : Int)] (.ptr s 10) = some (s, .box 12 ((ndH s (ts.length : Int) most).cells (minN N s t.b t.ht))) := by rw [writeB_box hb (by simp), hd_set10]
    have hrt : cellsP (h'.set s (.box 12 ((ndH s (ts.length : Int) most).cells (minN N s t.b t.ht)))) (.ptr t.b 0) = some ((ndT t).cells (minN N s t.b t.ht), 10, 0) := by
      refine cellsP_box ?_ 0
      rw [List.getElem?_set_ne hne]
      exact r.at_ _ hmem
    simp only [gv, List.getD_cons_zero, bop_i64_lss, bd_some, bv_bool, hlt, Bool.false_eq_true, if_false, hrd, bd3_some, hd_cell10, bop_i64_sub, hsub, cells_int, List.length_cons, List.length_nil, hw, bd2_some, addP_ptr, Nat.zero_add, hrt, Nd.get0]
    rw [if_pos (by omega), if_pos (by first | trivial | rfl), if_pos (by omega)]
    rfl
  obtain ⟨h', M', e, b1, b2, b3⟩ := min_loop (n + 1) hmh hmem hne t.ht hht.2 t.ht 0 (n + 1) h (by omega) (by omega) S.rep
  have e2 := hend h' (loopx M' (skipMin_l16 (n + 1) s (.ptr t.b 0) (.int .i64 (t.ht : Int)))) b1 b2 b3
  have hbs := b1.at_ _ hmh
  have hsl := lt_of_at hbs
  refine ⟨h'.set s (.box 12 ((ndH s (ts.length : Int) most).cells (minN N s t.b t.ht))), ?_, ⟨⟨minN N s t.b t.ht, ⟨⟨fun x hx => ?_, ?_, fun x hx k => ?_⟩, ?_, (List.pairwise_cons.1 S.up).2, fun u hu => S.ht u (List.mem_cons_of_mem _ hu)⟩⟩, by rw [List.length_set, b2], fun i hi => by rw [List.getElem?_set_ne (Ne.symm hi), b3 i hi]⟩⟩
  · refine (skipMin_eq (n + 1) s h).trans ?_
    unfold skipMin
    rw [len_call n S, cl_ret, one1_one, bop_i64_eql, bd_some, bv_bool, if_neg (by simp; omega), S.head, bd3_some, if_pos (by decide), h2, bd_some, addP_ptr, bd_some, Nat.zero_add, addP_ptr, bd_some, Nat.zero_add, hT1, bd3_some, if_pos (by decide), Nd.get1, bd_some]
    exact e.trans e2
  · rcases List.mem_cons.1 hx with rfl | hx
    · exact set_at hsl _
    · obtain ⟨u, hu, rfl⟩ := List.mem_map.1 hx
      have hne' : u.b ≠ s := fun e => (List.nodup_cons.1 hnd).1 (e ▸ List.mem_map_of_mem (List.mem_cons_of_mem _ hu))
      unfold NodeAt
      rw [List.getElem?_set_ne (show s ≠ (ndT u).b from Ne.symm hne')]
      exact b1.at_ _ (List.mem_cons_of_mem _ (List.mem_map_of_mem (List.mem_cons_of_mem _ hu)))
  · rw [nds_bs]
    have h1 := List.nodup_cons.1 hnd
    rw [List.map_cons] at h1
    exact List.nodup_cons.2 ⟨fun hm => h1.1 (List.mem_cons_of_mem _ hm), (List.nodup_cons.1 h1.2).2⟩
  · rcases List.mem_cons.1 hx with rfl | hx
    · exact b1.one (ndH s ((t :: ts).length : Int) most) hmh k
    · obtain ⟨u, hu, rfl⟩ := List.mem_map.1 hx
      exact b1.one _ (List.mem_cons_of_mem _ (List.mem_map_of_mem (List.mem_cons_of_mem _ hu))) k
  · have h1 := List.nodup_cons.1 hnd
    obtain ⟨m1, m2⟩ := minN_val N hne t.ht
    exact S.lk.tail h1.2 h1.1 (fun k _ => m2 k) (fun b k _ hb => m1 b k hb)
theorem min_none (n : Nat) {h : Heap} {s : Nat} {most : Int} {N : Nx} (S : SkAt h s [] most N) : call (n + 2) 63 [.ptr s 0] h = some (.ret [.int .i32 0, .bool false], h) := by
  refine (skipMin_eq (n + 1) s h).trans ?_
  unfold skipMin
  rw [len_call n S, cl_ret, one1_one, bop_i64_eql, bd_some, bv_bool, if_pos (by rfl)]
theorem new_call (n : Nat) (h : Heap) (m : Int) : ∃ N, call (n + 1) 15 [.int .i64 m] h = some (.ret [.ptr h.length 0], h ++ [.box 12 ((ndH h.length 0 (max 0 (min m 1000))).cells (fun _ _ => nilP))]) ∧ SkAt (h ++ [.box 12 ((ndH h.length 0 (max 0 (min m 1000))).cells (fun _ _ => nilP))]) h.length [] (max 0 (min m 1000)) N := by
  refine ⟨fun _ _ => nilP, ?_, ⟨⟨fun x hx => ?_, by simp [nds], fun x hx k => rfl⟩, ⟨fun k hk => rfl, fun i t k ht => by simp at ht⟩, by simp [Rise], by simp⟩⟩
  · refine (skipNew_eq n m h).trans ?_
    unfold skipNew
    have e : (if (0 : Int) < (if 1000 < m then 1000 else m) then (if 1000 < m then 1000 else m) else 0) = max 0 (min m 1000) := by
      by_cases h1 : 1000 < m
      · simp only [if_pos h1]; omega
      · simp only [if_neg h1]; split <;> omega
    rw [e]
    rfl
  · rcases List.mem_cons.1 hx with rfl | hx
    · exact List.getElem?_concat_length
    · simp at hx
theorem nan_call (n : Nat) (a : Int) (h : Heap) : call (n + 1) 89 [.int .i32 a] h = some (.ret [.bool false], h) := by
  refine (isNaN_eq n a h).trans ?_
  unfold isNaN
  simp
theorem less_call (n : Nat) (a b : Int) (h : Heap) : call (n + 2) 83 [.int .i32 a, .int .i32 b] h = some (.ret [.bool (decide (a < b))], h) := by
  refine (cmpLess_eq (n + 1) a b h).trans ?_
  unfold cmpLess
  rw [nan_call, cl_ret, one1_one, bv_bool, if_neg (by decide)]
/-- Compare -/
def cmpV (a b : Int) : Int := if a < b then -1 else if a > b then 1 else 0
theorem compare_call (n : Nat) (a b : Int) (h : Heap) : call (n + 2) 82 [.int .i32 a, .int .i32 b] h = some (.ret [.int .i64 (cmpV a b)], h) := by
  refine (cmpCompare_eq (n + 1) a b h).trans ?_
  unfold cmpCompare cmpV
  rw [nan_call, cl_ret, one1_one, nan_call, cl_ret, one1_one, bv_bool, if_neg (by decide), bv_bool, if_neg (by decide)]
  by_cases h1 : a < b
  · rw [if_pos (by simpa using h1), if_pos h1]
  · rw [if_neg (by simpa using h1), if_neg h1]
    by_cases h2 : a > b
    · rw [if_pos (by simpa using h2), if_pos h2]
    · rw [if_neg (by simpa using h2), if_neg h2]
/-- numbers that lie in a row -/
def RowI (h : Heap) (b : Nat) (k : IntKind) (e : Nat) (l : List Int) : Prop := ∃ z, h[b]? = some (.row e 1 (l.map (intV k)) z)
theorem RowI.keep {h h' : Heap} {b : Nat} {k : IntKind} {e : Nat} {l : List Int} (r : RowI h b k e l) (hk : h'[b]? = h[b]?) : RowI h' b k e l := by obtain ⟨z, hz⟩ := r; exact ⟨z, hk.trans hz⟩
theorem RowI.slc {h : Heap} {b : Nat} {k : IntKind} {e : Nat} {l : List Int} (r : RowI h b k e l) : slcH h (.row b 1 0 l.length) = some (1, l.map (intV k)) := by
  obtain ⟨z, hz⟩ := r
  have := slcH_all hz
  rwa [List.length_map] at this
theorem RowI.get {h : Heap} {b : Nat} {k : IntKind} {e : Nat} {l : List Int} (r : RowI h b k e l) {i : Nat} {x : Int} (hx : l[i]? = some x) : idxP 1 i (.row b 1 0 l.length) = some (.rptr b 1 i 0) ∧ cellsP h (.rptr b 1 i 0) = some ([.int k x], 1, 0) := by
  obtain ⟨z, hz⟩ := r
  have hi := (List.getElem?_eq_some_iff.1 hx).1
  refine ⟨by simpa using idxP_row (b := b) (sz := 1) (lo := 0) (hi := l.length) (n := i) (by omega), cellsP_rptr hz (by decide) ?_⟩
  rw [List.getElem?_map, hx]
  rfl
theorem sorted_loop (n : Nat) {h : Heap} {b : Nat} {e : Nat} {l : List Int} (r : RowI h b .i32 e l) (hs : l.Pairwise (· ≤ ·)) (hl : l.length < lim) : ∀ (i M : Nat), i < l.length → i < M → ∀ v0, loopx M (isSorted_l1 (n + 2) (.row b 1 0 l.length)) [v0, .int .i64 (i : Int)] h = some (.ret [.bool true], h) := by
  intro i
  induction i with
  | zero =>
    intro M h1 h2 v0
    obtain ⟨M, rfl⟩ : ∃ M', M = M' + 1 := ⟨M - 1, by omega⟩
    rw [loopx_succ]
    unfold isSorted_l1
    simp only [gv, List.getD_cons_zero, List.getD_cons_succ, bop_i64_gtr, bd_some, bv_bool]
    rw [if_neg (by decide)]
  | succ i ih =>
    intro M h1 h2 v0
    obtain ⟨M, rfl⟩ : ∃ M', M = M' + 1 := ⟨M - 1, by omega⟩
    obtain ⟨x, hx⟩ : ∃ x, l[i + 1]? = some x := ⟨_, List.getElem?_eq_getElem h1⟩
    obtain ⟨y, hy⟩ : ∃ y, l[i]? = some y := ⟨_, List.getElem?_eq_getElem (by omega)⟩
    have hyx : y ≤ x := by
      have := List.pairwise_iff_getElem.1 hs i (i + 1) (by omega) h1 (by omega)
      rw [List.getElem?_eq_getElem h1] at hx
      rw [List.getElem?_eq_getElem (by omega)] at hy
      rw [← Option.some.inj hx, ← Option.some.inj hy]
      exact this
    obtain ⟨g1, g2⟩ := r.get hx
    obtain ⟨g3, g4⟩ := r.get hy
    have hw : IntKind.i64.wrap (((i + 1 : Nat) : Int) - 1) = (i : Int) := by unfold lim at hl; rw [w64] <;> omega
    have hgt : decide (((i + 1 : Nat) : Int) > 0) = true := by simp
    have key : ∀ next, isSorted_l1 (n + 2) (.row b 1 0 l.length) [v0, .int .i64 ((i + 1 : Nat) : Int)] h next = next [v0, .int .i64 (i : Int)] h := by
      intro next
      unfold isSorted_l1
      simp only [gv, List.getD_cons_zero, List.getD_cons_succ, bop_i64_gtr, bd_some, bv_bool, hgt, if_true, nv_nat, bdS_some, g1, g2, bd3_some, bop_i64_sub, hw, g3, g4, Nat.zero_add, Nat.le_refl, Nat.reduceLT, and_self, List.getElem?_cons_zero]
      rw [less_call, cl_ret, one1_one, bv_bool, if_neg (by intro e; have := of_decide_eq_true e; omega)]
    rw [loopx_succ, key]
    exact ih M (by omega) (by omega) v0
theorem sorted_call (n : Nat) {h : Heap} {b : Nat} {e : Nat} {l : List Int} (r : RowI h b .i32 e l) (hs : l.Pairwise (· ≤ ·)) (hl : l.length < lim) (hn : l.length < n) : call (n + 3) 62 [.row b 1 0 l.length] h = some (.ret [.bool true], h) := by
  refine (isSorted_eq (n + 2) _ h).trans ?_
  unfold isSorted
  rw [r.slc, bd_some]
  simp only [List.length_map]
  rcases Nat.eq_zero_or_pos l.length with h0 | h0
  · rw [h0]
    show loopx ((n + 1) + 1) _ _ _ = _
    rw [loopx_succ]
    unfold isSorted_l1
    simp only [gv, List.getD_cons_zero, List.getD_cons_succ]
    have : IntKind.i64.wrap (((0 : Nat) : Int) - 1) = -1 := by decide
    rw [this, bop_i64_gtr, bd_some, bv_bool, if_neg (by decide)]
  · have hw : IntKind.i64.wrap ((l.length : Int) - 1) = ((l.length - 1 : Nat) : Int) := by unfold lim at hl; rw [w64] <;> omega
    rw [hw]
    exact sorted_loop n r hs hl _ (n + 2) (by omega) (by omega) _
/-- what a list has: values, and heights -/
def itT (ts : List Tw) : List (Int × Nat) := ts.map fun t => (t.v, t.ht)
/-- an item put in its place -/
def insI (l : List (Int × Nat)) (v : Int) (T : Nat) : List (Int × Nat) := l.takeWhile (fun p => decide (p.1 ≤ v)) ++ (v, T) :: l.dropWhile (fun p => decide (p.1 ≤ v))
theorem take_takeWhile {α : Type} (p : α → Bool) : ∀ l : List α, l.take (l.takeWhile p).length = l.takeWhile p ∧ l.drop (l.takeWhile p).length = l.dropWhile p
  | [] => ⟨rfl, rfl⟩
  | a :: l => by
    rw [List.takeWhile_cons, List.dropWhile_cons]
    cases p a with
    | true =>
      obtain ⟨h1, h2⟩ := take_takeWhile p l
      exact ⟨by simp [h1], by simpa using h2⟩
    | false => simp
theorem itT_ins (ts : List Tw) (u : Tw) : itT (ins ts (upTo ts u.v) u) = insI (itT ts) u.v u.ht := by
  unfold itT ins insI upTo
  obtain ⟨h1, h2⟩ := take_takeWhile (fun t : Tw => decide (t.v ≤ u.v)) ts
  rw [h1, h2, List.map_append, List.map_cons, List.takeWhile_map, List.dropWhile_map]
  rfl
/-- how a height is taken -/
def hOf (k : Int) : Nat := (max 1 (min k 8)).toNat
/-- what a list that went on leaves -/
structure Grew (h h' : Heap) (s : Nat) (ts ts' : List Tw) (most : Int) : Prop where
  sk : ∃ N, SkAt h' s ts' most N
  len : h.length ≤ h'.length
  old : ∀ i, i < h.length → i ∉ skB s ts → h'[i]? = h[i]?
  new : ∀ b ∈ skB s ts', b ∈ skB s ts ∨ h.length ≤ b
theorem Grew.refl {h : Heap} {s : Nat} {ts : List Tw} {most : Int} (S : ∃ N, SkAt h s ts most N) : Grew h h s ts ts most := ⟨S, Nat.le_refl _, fun _ _ _ => rfl, fun _ h => .inl h⟩
theorem Grew.trans {h h' h'' : Heap} {s : Nat} {ts ts' ts'' : List Tw} {most : Int} (a : Grew h h' s ts ts' most) (b : Grew h' h'' s ts' ts'' most) : Grew h h'' s ts ts'' most :=
  ⟨b.sk, Nat.le_trans a.len b.len, fun i h1 h2 => (b.old i (by have := a.len; omega) fun hm => by rcases a.new i hm with h | h; exact h2 h; omega).trans (a.old i h1 h2), fun x hx => by
    rcases b.new x hx with h | h
    · exact a.new x h
    · exact .inr (by have := a.len; omega)⟩
theorem Put.grew {h h' : Heap} {s : Nat} {ts ts' : List Tw} {most v kk : Int} (p : Put h h' s ts ts' most v kk) : Grew h h' s ts ts' most := by
  obtain ⟨u, u1, u2, u3, u4⟩ := p.ins
  refine ⟨p.sk, by rw [p.len]; omega, p.old, fun b hb => ?_⟩
  rw [u4] at hb
  rcases List.mem_cons.1 hb with rfl | hb
  · exact .inl (List.mem_cons_self ..)
  · obtain ⟨t, ht, rfl⟩ := List.mem_map.1 hb
    rcases mem_ins.1 ht with rfl | ht
    · exact .inr (by rw [u1]; exact Nat.le_refl _)
    · exact .inl (List.mem_cons_of_mem _ (List.mem_map_of_mem ht))
theorem Put.items {h h' : Heap} {s : Nat} {ts ts' : List Tw} {most v kk : Int} (p : Put h h' s ts ts' most v kk) : itT ts' = insI (itT ts) v (hOf kk) := by
  obtain ⟨u, u1, u2, u3, u4⟩ := p.ins
  have : u.ht = hOf kk := by unfold hOf; omega
  rw [u4, ← u2, itT_ins, this]
theorem Took.grew {h h' : Heap} {s : Nat} {t : Tw} {ts : List Tw} {most : Int} (p : Took h h' s ts most) : Grew h h' s (t :: ts) ts most :=
  ⟨p.sk, Nat.le_of_eq p.len.symm, fun i _ h2 => p.old i fun e => h2 (e ▸ List.mem_cons_self ..), fun b hb => .inl (by
    rcases List.mem_cons.1 hb with rfl | hb
    · exact List.mem_cons_self ..
    · exact List.mem_cons_of_mem _ (List.mem_cons_of_mem _ hb))⟩
/-- items put, one behind the other -/
def insAll (l : List (Int × Nat)) : List (Int × Int) → List (Int × Nat)
  | [] => l
  | p :: r => insAll (insI l p.1 (hOf p.2)) r
theorem set_told (told : List (List V)) (k : Nat) (hk : k < told.length) : ∃ t' : List (List V), t'.length = told.length ∧ ∀ es, told[k]? = some es → told.set k (setR es 0 [.bool true]) = t' := by
  obtain ⟨es, hes⟩ : ∃ es, told[k]? = some es := ⟨_, List.getElem?_eq_getElem hk⟩
  exact ⟨told.set k (setR es 0 [.bool true]), by rw [List.length_set], fun es' h => by rw [hes] at h; cases h; rfl⟩
theorem batch_loop (n : Nat) {s : Nat} {most : Int} (bl bm : Nat) (vs hs : List Int) (hlen : hs.length = vs.length) (hup : vs.Pairwise (· ≤ ·)) (hv : vs.length < lim) : ∀ (d k M : Nat) (h : Heap) (ts : List Tw) (told : List (List V)) (Q : Nat → Nat) (v0 v3 : V), k + d = vs.length → d < M → (∃ N, SkAt h s ts most N) → RowI h bl .i32 21 vs → RowI h bm .i64 3 hs → bl ∉ skB s ts → bm ∉ skB s ts →
    told.length = vs.length → (ts.length : Int) + d ≤ most → ts.length + d < lim → ts.length + d + 9 < n → (∀ k' x, k' < 8 → vs[k]? = some x → Q k' ≤ upTo ts x ∧ OnLev ts k' (Q k')) →
    ∃ h' ts' told', loopx M (skipBatch_l16 (n + 2) s (.row bl 1 0 vs.length) (.row bm 1 0 hs.length) (1, vs.map (intV .i32))) [v0, .sl 1 told false, .agg (pathV (fun k' => posB s ts (Q k'))), v3, .int .i64 (k : Int)] h = some (.ret [.sl 1 told' false], h') ∧ Grew h h' s ts ts' most ∧ itT ts' = insAll (itT ts) ((vs.zip hs).drop k) := by
  intro d
  induction d with
  | zero =>
    intro k M h ts told Q v0 v3 h1 h2 S rl rm nl nm ht hm hlm hn hQ
    obtain ⟨M, rfl⟩ : ∃ M', M = M' + 1 := ⟨M - 1, by omega⟩
    obtain rfl : k = vs.length := by omega
    refine ⟨h, ts, told, ?_, .refl S, ?_⟩
    · rw [loopx_succ]
      unfold skipBatch_l16
      simp only [gv, List.getD_cons_zero, List.getD_cons_succ, List.length_map, bop_i64_lss, bd_some, bv_bool]
      rw [if_neg (by simp)]
      rfl
    · rw [List.drop_of_length_le (by rw [List.length_zip]; omega)]; rfl
  | succ d ih =>
    intro k M h ts told Q v0 v3 h1 h2 S rl rm nl nm ht hm hlm hn hQ
    obtain ⟨M, rfl⟩ : ∃ M', M = M' + 1 := ⟨M - 1, by omega⟩
    obtain ⟨N, S⟩ := S
    obtain ⟨x, hx⟩ : ∃ x, vs[k]? = some x := ⟨_, List.getElem?_eq_getElem (by omega)⟩
    obtain ⟨y, hy⟩ : ∃ y, hs[k]? = some y := ⟨_, List.getElem?_eq_getElem (by omega)⟩
    obtain ⟨u, q1, q2, N', cs, B, a1, a2, a3, e1, e2, e3, c1, c2, w, S', l', f'⟩ := put_step n S x y Q (fun k' hk => hQ k' x hk hx) (by omega) (by omega)
    obtain ⟨g1, g2⟩ := rl.get hx
    obtain ⟨g3, g4⟩ := rm.get hy
    have hlt : decide ((k : Int) < (vs.length : Int)) = true := by simp; omega
    have hlt2 : decide ((k : Int) < (hs.length : Int)) = true := by simp; omega
    have hge : decide ((ts.length : Int) ≥ most) = false := by simp; omega
    obtain ⟨es, hes⟩ : ∃ es, told[k]? = some es := ⟨_, List.getElem?_eq_getElem (by omega)⟩
    have hP : Put h (q2.set s B) s ts (ins ts (upTo ts x) u) most x y := ⟨⟨N', S'⟩, ⟨u, a1, a2, a3, rfl⟩, l', f'⟩
    have hbl := lt_of_at rl.choose_spec
    have hbm := lt_of_at rm.choose_spec
    have hnew : ∀ b, b < h.length → b ∉ skB s ts → b ∉ skB s (ins ts (upTo ts x) u) := fun b hb hn hm => by rcases hP.grew.new b hm with h' | h'; exact hn h'; omega
    have hil := ins_len (ts := ts) (u := u) (upTo_le ts x)
    have hpt : ∀ R, ((pathV R).drop 0 |>.take 8) = pathV R := path_take
    obtain ⟨h', ts', told', e, G, I⟩ := ih (k + 1) M (q2.set s B) (ins ts (upTo ts x) u) (told.set k (setR es 0 [.bool true])) (fun k' => lastP (ins ts (upTo ts x) u) k' (upTo ts x + 1)) (.sl 1 (lsl v0) false) (.bool false) (by omega) (by omega) ⟨N', S'⟩ (rl.keep (f' _ hbl nl)) (rm.keep (f' _ hbm nm)) (hnew _ hbl nl) (hnew _ hbm nm) (by rw [List.length_set]; exact ht) (by rw [hil]; omega) (by rw [hil]; omega) (by rw [hil]; omega) (fun k' x' hk' hx' => by
      have hle : x ≤ x' := by
        have hk1 := (List.getElem?_eq_some_iff.1 hx').1
        have := List.pairwise_iff_getElem.1 hup k (k + 1) (by omega) hk1 (by omega)
        rw [List.getElem?_eq_getElem (by omega)] at hx
        rw [List.getElem?_eq_getElem hk1] at hx'
        rw [← Option.some.inj hx, ← Option.some.inj hx']
        exact this
      have hj : upTo ts x + 1 ≤ upTo (ins ts (upTo ts x) u) x' := (upTo_iff S'.up x' (ins_at (upTo_le ts x))).2 (by rw [a2]; exact hle)
      refine ⟨Nat.le_trans (lastP_le _ _ _) hj, lastP_on _ _ _ (by rw [hil]; have := upTo_le ts x; omega)⟩)
    refine ⟨h', ts', told', ?_, hP.grew.trans G, ?_⟩
    · rw [loopx_succ]
      have key : ∀ next, skipBatch_l16 (n + 2) s (.row bl 1 0 vs.length) (.row bm 1 0 hs.length) (1, vs.map (intV .i32)) [v0, .sl 1 told false, .agg (pathV (fun k' => posB s ts (Q k'))), v3, .int .i64 (k : Int)] h next = next [.sl 1 (lsl v0) false, .sl 1 (told.set k (setR es 0 [.bool true])) false, .agg (pathV (fun k' => posB s (ins ts (upTo ts x) u) (lastP (ins ts (upTo ts x) u) k' (upTo ts x + 1)))), .bool false, .int .i64 ((k + 1 : Nat) : Int)] (q2.set s B) := by
        intro next
        unfold skipBatch_l16
        simp only [gv, List.getD_cons_zero, List.getD_cons_succ, List.length_map, bop_i64_lss, bd_some, bv_bool, hlt, hlt2, if_true, nv_nat, bdS_some, g1, g2, bd3_some, Nat.zero_add, Nat.le_refl, Nat.reduceLT, and_self, List.getElem?_cons_zero, S.head, hd_cell10, hd_cell11, Nat.reduceAdd, Nat.reduceLeDiff, bop_i64_geq, hge, Bool.false_eq_true, if_false, rm.slc, g3, g4, lcs_agg, hpt]
        rw [e1, cl_ret, one1_one, e2, cl_ret, one1_one, e3, cl_ret, one1_one]
        have hpl : (V.cells (.agg (pathV (fun k' => posB s (ins ts (upTo ts x) u) (lastP (ins ts (upTo ts x) u) k' (upTo ts x + 1)))))) = pathV (fun k' => posB s (ins ts (upTo ts x) u) (lastP (ins ts (upTo ts x) u) k' (upTo ts x + 1))) := rfl
        have hpr : ∀ R T, setR (pathV R) 0 (pathV T) = pathV T := fun R T => by
          rw [setR_eq (by rw [pathV_len, pathV_len]; omega), List.take_zero, List.nil_append, pathV_len, List.drop_of_length_le (by rw [pathV_len]; omega), List.append_nil]
        simp only [hpl, pathV_len, hpr]
        rw [if_pos (by first | trivial | rfl), if_pos (by omega), c1, bd3_some, if_pos (by decide), c2, bd_some, bop_i64_add, bd_some, step64 (show ts.length < lim by omega), cells_int, if_pos (by rfl), w, bd2_some]
        rw [if_pos (by exact ⟨trivial, by show k < told.length; omega, by decide⟩), show lsl (V.sl 1 told false) = told from rfl, hes, bd_some, bop_i64_add, bd_some, step64 (show k < lim by omega)]
      rw [key]
      exact e
    · rw [I, hP.items]
      have hz : (vs.zip hs).drop k = (x, y) :: (vs.zip hs).drop (k + 1) := by
        rw [List.drop_eq_getElem_cons (by rw [List.length_zip]; omega)]
        congr 1
        rw [List.getElem_zip]
        rw [List.getElem?_eq_getElem (by omega)] at hx
        rw [List.getElem?_eq_getElem (by omega)] at hy
        rw [Option.some.inj hx, Option.some.inj hy]
      rw [hz]
      rfl
theorem batch_call (n : Nat) {h : Heap} {s : Nat} {ts : List Tw} {most : Int} (S : ∃ N, SkAt h s ts most N) (bl bm : Nat) (vs hs : List Int) (hlen : hs.length = vs.length) (hup : vs.Pairwise (· ≤ ·)) (rl : RowI h bl .i32 21 vs) (rm : RowI h bm .i64 3 hs) (nl : bl ∉ skB s ts) (nm : bm ∉ skB s ts)
    (hm : (ts.length : Int) + vs.length ≤ most) (hlm : ts.length + vs.length < lim) (hn : ts.length + vs.length + 9 < n) :
    ∃ h' ts' told', call (n + 3) 37 [.ptr s 0, .row bl 1 0 vs.length, .row bm 1 0 hs.length] h = some (.ret [.sl 1 told' false], h') ∧ Grew h h' s ts ts' most ∧ itT ts' = insAll (itT ts) (vs.zip hs) := by
  obtain ⟨h', ts', told', e, G, I⟩ := batch_loop n (s := s) (most := most) bl bm vs hs hlen hup (by omega) vs.length 0 (n + 2) h ts (List.replicate vs.length [V.bool false]) (fun _ => 0) (.sl 1 [] false) (.bool false) (by omega) (by omega) S rl rm nl nm (by simp) hm (by omega) (by omega) (fun _ _ _ _ => ⟨Nat.zero_le _, trivial⟩)
  refine ⟨h', ts', told', ?_, G, by rw [I, List.drop_zero]⟩
  refine (skipBatch_eq (n + 2) s _ _ h).trans ?_
  unfold skipBatch
  have hb : call (n + 2) 41 [.ptr s 0] h = some (.ret [.agg (pathV (fun _ => s))], h) := begin_call (n + 1) h s (by omega)
  have hso : call (n + 2) 62 [.row bl 1 0 vs.length] h = some (.ret [.bool true], h) := by
    obtain ⟨m, rfl⟩ : ∃ m, n = m + 1 := ⟨n - 1, by omega⟩
    exact sorted_call m rl hup (by omega) (by omega)
  have fN : nv (V.int .i64 (vs.length : Int)) = some vs.length := nv_nat _ _
  rw [rl.slc, bd_some]
  simp only [List.length_map]
  rw [fN, bdS_some, bdS_some, if_pos (by first | exact ⟨rfl, by omega, rfl⟩ | exact ⟨trivial, by omega, trivial⟩ | exact ⟨rfl, by omega, trivial⟩), bop_sk_nil, bd_some, bv_bool, if_neg (by decide), hso, cl_ret, one1_one, uop_not, bd_some, bv_bool, if_neg (by decide), hb, cl_ret, one1_one]
  have hpl : V.cells (.agg (pathV (fun _ => s))) = pathV (fun _ => s) := rfl
  rw [hpl, if_pos (pathV_len _), if_pos (by rw [pathV_len]; omega), rl.slc, bd_some]
  have hpr : setR [V.val (.pointer none), V.val (.pointer none), V.val (.pointer none), V.val (.pointer none), V.val (.pointer none), V.val (.pointer none), V.val (.pointer none), V.val (.pointer none)] 0 (pathV (fun _ => s)) = pathV (fun _ => s) := by
    rw [setR_eq (by rw [pathV_len]; decide), List.take_zero, List.nil_append, pathV_len]; rfl
  rw [hpr]
  exact e
end Go.Proofs.Try
