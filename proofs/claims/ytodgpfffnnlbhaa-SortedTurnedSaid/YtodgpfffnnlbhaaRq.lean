import Derived.Test.YtodgpfffnnlbhaaRp
/-! the law SortedSame: what is compared, by contract; what a batch tells is what the definition tells -/
set_option linter.unusedVariables false
set_option linter.unusedSimpArgs false
namespace Go.Proofs.Try
open Go.L Go.Rp Go.Sk
set_option maxRecDepth 100000
/-- the value r is a slice of these answers -/
def SeesR (h : Heap) (r : V) (l : List R) : Prop := (∃ sz, slcH h r = some (sz, l.map R.w)) ∧ ∀ (i : Nat) (x : R), l[i]? = some x → ∃ p, idxP 2 i r = some p ∧ cellsP h p = some (R.w x, 2, 0)
theorem RowR.sees {h : Heap} {b : Nat} {l : List R} (r : RowR h b l) : SeesR h (.row b 2 0 l.length) l := ⟨⟨2, r.slc⟩, fun i x hx => ⟨_, r.get hx 0⟩⟩
theorem sees_slR (h : Heap) (l : List R) (sb : Bool) : SeesR h (.sl 2 (l.map R.w) sb) l := ⟨⟨2, slcH_sl ..⟩, fun i x hx => ⟨_, idxP_sl (es := R.w x) (by rw [get_rs, hx]; rfl) sb, cellsP_iptr ..⟩⟩
theorem sees_sl (h : Heap) {z : Nat} {l : List Int} {sb : Bool} (hz : z = 1 ∨ l = []) : Sees h (.sl z (vL l) sb) l := ⟨⟨z, slcH_sl ..⟩, fun i x hx => by
  obtain rfl : z = 1 := hz.resolve_right (by rintro rfl; simp at hx)
  exact ⟨_, idxP_sl (es := intV .i32 x) (by rw [List.getElem?_map, hx]; rfl) sb, cellsP_iptr ..⟩⟩
theorem neq_res (a b c d : Int) : bop prog .neq 34 (.agg [.int .u8 a, .int .i32 b]) (.agg [.int .u8 c, .int .i32 d]) = some (.bool !(a == c && (b == d && true))) := by kernel_rfl
theorem rTold_loop (n : Nat) {h : Heap} {a b : V} {l : List R} (ha : SeesR h a l) (hb : SeesR h b l) (hl : l.length < lim) : ∀ (d i M : Nat) (v0 : V), i + d = l.length → d < M → loopx M (rTold_l2 n a b) [v0, .int .i64 (i : Int)] h = some (.ret [.bool true], h) := by
  obtain ⟨⟨sa, hsa⟩, ga⟩ := ha
  intro d
  induction d with
  | zero =>
    intro i M v0 h1 h2
    obtain ⟨M, rfl⟩ : ∃ M', M = M' + 1 := ⟨M - 1, by omega⟩
    obtain rfl : i = l.length := by omega
    rw [loopx_succ]
    unfold rTold_l2
    rw [hsa, bd_some]
    simp only [gv, List.getD_cons_zero, List.getD_cons_succ, List.length_map, bop_i64_lss, bd_some, bv_bool]
    rw [if_neg (by simp)]
  | succ d ih =>
    intro i M v0 h1 h2
    obtain ⟨M, rfl⟩ : ∃ M', M = M' + 1 := ⟨M - 1, by omega⟩
    obtain ⟨x, hx⟩ : ∃ x, l[i]? = some x := ⟨_, List.getElem?_eq_getElem (by omega)⟩
    obtain ⟨p, p1, p2⟩ := ga i x hx
    obtain ⟨q, q1, q2⟩ := hb.2 i x hx
    have hlt : decide ((i : Int) < (l.length : Int)) = true := by simp; omega
    have hc : V.agg (List.take 2 (List.drop 0 (R.w x))) = .agg [.int .u8 x.c, .int .i32 x.v] := rfl
    have key : ∀ next, rTold_l2 n a b [v0, .int .i64 (i : Int)] h next = next [v0, .int .i64 ((i + 1 : Nat) : Int)] h := by
      intro next
      unfold rTold_l2
      rw [hsa, bd_some]
      simp only [gv, List.getD_cons_zero, List.getD_cons_succ, List.length_map, bop_i64_lss, bd_some, bv_bool, hlt, if_true, nv_nat, bdS_some, p1, p2, q1, q2, bd3_some, Nat.zero_add, Nat.le_refl, Nat.reduceLT, and_self, hc, neq_res, bop_i64_add, step64 (show i < lim by omega)]
      rw [if_neg (by simp)]
    rw [loopx_succ, key]
    exact ih (i + 1) M v0 (by omega) (by omega)
theorem rTold_call (n : Nat) {h : Heap} {a b : V} {l : List R} (ha : SeesR h a l) (hb : SeesR h b l) (hl : l.length < lim) (hn : l.length < n) : call (n + 1) 31 [a, b] h = some (.ret [.bool true], h) := by
  refine (rTold_eq n a b h).trans ?_
  unfold rTold
  obtain ⟨sa, hsa⟩ := ha.1
  obtain ⟨sb, hsb⟩ := hb.1
  rw [hsa, bd_some, hsb, bd_some, if_neg (by simp)]
  exact rTold_loop n ha hb hl l.length 0 n (.bool false) (by omega) hn
/-- values alone -/
theorem ins_vals (I : List (Int × Nat)) (v : Int) (T : Nat) : (insI I v T).map (·.1) = insV (I.map (·.1)) v := by
  unfold insI insV
  rw [List.map_append, List.map_cons, List.takeWhile_map, List.dropWhile_map]
  rfl
theorem stp_vals (most : Int) (st : St) (o : O) : ((stp most st o).1.1.map (·.1), (stp most st o).2) = stpV most (st.1.map (·.1)) o := by
  unfold stp stpV
  rw [List.length_map]
  by_cases h1 : o.k = 1
  · rw [if_pos h1, if_pos h1]
    by_cases h2 : most ≤ (st.1.length : Int)
    · rw [if_pos h2, if_pos h2]
    · rw [if_neg h2, if_neg h2]
      simp only [ins_vals]
  · rw [if_neg h1, if_neg h1]
    by_cases h2 : o.k = 2
    · rw [if_pos h2, if_pos h2]
      obtain ⟨I, B⟩ := st
      cases I <;> rfl
    · rw [if_neg h2, if_neg h2]
theorem run_vals (os : List O) (most : Int) : ∀ (l : List Int) (st : St) (told : List R), ((runO os most l st told).1.1.map (·.1), (runO os most l st told).2) = runV os most l (st.1.map (·.1)) told
  | [], st, told => rfl
  | k :: l, st, told => by
    show ((runO os most l _ _).1.1.map (·.1), (runO os most l _ _).2) = runV os most l (stpV most (st.1.map (·.1)) (oAt os k)).1 (told.set k.toNat (stpV most (st.1.map (·.1)) (oAt os k)).2)
    rw [← stp_vals, run_vals os most l]
theorem done_vals (os : List O) (most : Int) (st : St) : ((doneO os most st).1.1.map (·.1), (doneO os most st).2) = batV os most (st.1.map (·.1)) := run_vals os most _ st _
theorem stp_grow (most : Int) (st : St) (o : O) : (stp most st o).1.1.length ≤ st.1.length + 1 := by
  have := stpV_len most (st.1.map (·.1)) o
  rw [← stp_vals] at this
  simpa using this
theorem runO_grow (os : List O) (most : Int) : ∀ (l : List Int) (st : St) (told : List R), (runO os most l st told).1.1.length ≤ st.1.length + l.length
  | [], st, told => Nat.le_refl _
  | k :: l, st, told => by
    show (runO os most l _ _).1.1.length ≤ _
    have h1 := runO_grow os most l (stp most st (oAt os k)).1 (told.set k.toNat (stp most st (oAt os k)).2)
    have h2 := stp_grow most st (oAt os k)
    rw [List.length_cons]
    omega
theorem done_grow (os : List O) (most : Int) (st : St) : (doneO os most st).1.1.length ≤ st.1.length + os.length := by
  have := runO_grow os most (sPuts os ++ others os) st (List.replicate os.length ⟨0, 0⟩)
  rw [order_len] at this
  exact this
theorem done_len (os : List O) (most : Int) (st : St) : (doneO os most st).2.length = os.length := by
  unfold doneO
  rw [runO_len, List.length_replicate]
/-- a list and a coin, made at a heap -/
structure Made (h h' : Heap) (most : Int) (cb : Option Nat) (bits : List Bool) : Prop where
  sk : ∃ N, SkAt h' h.length [] (max 0 (min most 1000)) N
  bt : BitsAt h' (h.length + 1) cb bits
  ncb : ∀ b, cb = some b → h.length + 2 ≤ b
  len : h.length ≤ h'.length
  old : ∀ i, i < h.length → h'[i]? = h[i]?
def newAt (h : Heap) (m : Int) : Heap := (h ++ [.box 12 ((ndH h.length 0 (max 0 (min m 1000))).cells (fun _ _ => nilP))]) ++ [.box 1 [.sl 0 [] true]]
theorem newAt_made (h : Heap) (m : Int) : Made h (newAt h m) m none [] := by
  obtain ⟨N, _, S⟩ := new_call 0 h m
  refine ⟨⟨N, S.keep fun b hb => List.getElem?_append_left (S.lt b hb)⟩, ⟨rfl, ?_⟩, fun b e => (by cases e), by simp [newAt], fun i hi => by unfold newAt; rw [List.append_assoc, List.getElem?_append_left hi]⟩
  unfold newAt
  rw [List.getElem?_append_right (by simp)]
  simp
theorem newAt_call (n : Nat) (h : Heap) (m : Int) : call (n + 1) 15 [.int .i64 m] h = some (.ret [.ptr h.length 0], h ++ [.box 12 ((ndH h.length 0 (max 0 (min m 1000))).cells (fun _ _ => nilP))]) ∧
    call (n + 1) 16 [] (h ++ [.box 12 ((ndH h.length 0 (max 0 (min m 1000))).cells (fun _ _ => nilP))]) = some (.ret [.ptr (h.length + 1) 0], newAt h m) := by
  obtain ⟨N, e, _⟩ := new_call n h m
  refine ⟨e, ?_⟩
  have := coin_new_call n (h ++ [.box 12 ((ndH h.length 0 (max 0 (min m 1000))).cells (fun _ _ => nilP))])
  rwa [show (h ++ [HB.box 12 ((ndH h.length 0 (max 0 (min m 1000))).cells (fun _ _ => nilP))]).length = h.length + 1 by simp] at this
theorem Made.feed (n : Nat) {h h' : Heap} {m : Int} {cb : Option Nat} {bits : List Bool} (M : Made h h' m cb bits) (bs : List Int) (bb : Bool) (hs : small bs = true) (hl : bits.length + 8 * bs.length ≤ 20000) (hn : bs.length + 8 < n) :
    ∃ h2 cb2, call (n + 1) 17 [.ptr (h.length + 1) 0, .sl 1 (bs.map (intV .u8)) bb] h' = some (.ret [], h2) ∧ Made h h2 m cb2 (bits ++ bs.flatMap bitsOf) := by
  obtain ⟨h2, cb2, e, B, F⟩ := feed_call n M.bt bs bb hs hl hn
  have hB := M.bt.lt.1
  obtain ⟨N, S⟩ := M.sk
  have hne : ∀ b ∈ skB h.length [], b = h.length := fun b hb => by simpa [skB] using hb
  refine ⟨h2, cb2, e, ⟨N, S.keep fun b hb => F.old b (S.lt b hb) (by rw [hne b hb]; omega) fun e => ?_⟩, B, fun b e => ?_, by have := F.len; have := M.len; omega, fun i hi => ?_⟩
  · have := M.ncb b e
    rw [hne b hb] at this
    omega
  · rcases F.own b e with h | h
    · exact M.ncb b h
    · omega
  · refine (F.old i (by have := M.len; omega) (by omega) fun e => ?_).trans (M.old i hi)
    have := M.ncb i e
    omega
theorem Made.apart {h h' : Heap} {m : Int} {cb : Option Nat} {bits : List Bool} (M : Made h h' m cb bits) : h.length + 1 ∉ skB h.length [] ∧ ∀ b, cb = some b → b ∉ skB h.length [] := by
  have hne : ∀ b ∈ skB h.length [], b = h.length := fun b hb => by simpa [skB] using hb
  refine ⟨fun hm => ?_, fun b e hm => ?_⟩
  · have := hne _ hm; omega
  · have := hne _ hm; have := M.ncb b e; omega
theorem Did.apart {h h' : Heap} {s : Nat} {ts ts' : List Tw} {most : Int} {c : Nat} {cb : Option Nat} {bits bits' : List Bool} {tb : Nat} {told : List R} (D : Did h h' s ts ts' most c cb bits' tb told) (B : BitsAt h c cb bits) (nc : c ∉ skB s ts) (ncb : ∀ b, cb = some b → b ∉ skB s ts) : c ∉ skB s ts' ∧ ∀ b, cb = some b → b ∉ skB s ts' := by
  obtain ⟨b1, b2⟩ := B.lt
  refine ⟨fun hm => ?_, fun b e hm => ?_⟩
  · rcases D.new _ hm with h | h
    · exact nc h
    · omega
  · rcases D.new _ hm with h | h
    · exact ncb b e h
    · have := b2 b e; omega
/-- one of the law's two runs -/
theorem lwsame_call (n : Nat) (h : Heap) (m : Int) (bs : List Int) (bb : Bool) (hbs : small bs = true) (a b : List O) (ab b2 : Bool) (ha : Small a) (hb : Small b) (hl : bs.length + a.length + b.length ≤ 400) (hn : 1500 ≤ n) :
    ∃ H, call (n + 1) 25 [.int .i64 m, .sl 1 (bs.map (intV .u8)) bb, .sl 2 (a.map O.w) ab, .sl 2 (b.map O.w) b2] h = some (.ret [.bool true], H) := by
  obtain ⟨n, rfl⟩ : ∃ k, n = k + 4 := ⟨n - 4, by omega⟩
  obtain ⟨e1, e2⟩ := newAt_call (n + 3) h m
  obtain ⟨h3, cb, e3, M⟩ := (newAt_made h m).feed (n + 3) bs bb hbs (by simp; omega) (by omega)
  obtain ⟨a1, a2⟩ := M.apart
  obtain ⟨z1, sb1, e4, hz1⟩ := rbatch_call (n + 1) m [] 0 true a ab h3 (.inr rfl) ha (by simp [lim]; omega) (by simp; omega)
  obtain ⟨z2, sb2, e5, hz2⟩ := rbatch_call (n + 1) m (batV a (max 0 (min m 1000)) []).1 z1 sb1 b b2 h3 hz1 hb (by
    have := done_grow a (max 0 (min m 1000)) ([], [])
    have e := congrArg Prod.fst (done_vals a (max 0 (min m 1000)) ([], []))
    simp only [List.map_nil] at e
    rw [← e, List.length_map]; simp at this; unfold lim; omega) (by
    have := done_grow a (max 0 (min m 1000)) ([], [])
    have e := congrArg Prod.fst (done_vals a (max 0 (min m 1000)) ([], []))
    simp only [List.map_nil] at e
    rw [← e, List.length_map]; simp at this; omega)
  obtain ⟨h4, ts4, bits4, tb4, told4, e6, D4, r4⟩ := srtApply_call n a ab M.sk M.bt a1 a2 (by simp; omega) (by omega) (by simp [lim]; omega) (by simp; omega)
  obtain ⟨c1, c2⟩ := D4.apart M.bt a1 a2
  have g4 : ts4.length ≤ a.length := by
    have := done_grow a (max 0 (min m 1000)) (itT [], [] ++ bs.flatMap bitsOf)
    rw [r4] at this
    simpa [itT] using this
  obtain ⟨h5, ts5, bits5, tb5, told5, e7, D5, r5⟩ := plain_call n b b2 D4.sk D4.bt c1 c2 D4.room (by unfold lim; omega) (by omega)
  have g5 : ts5.length ≤ a.length + b.length := by
    have := done_grow b (max 0 (min m 1000)) (itT ts4, bits4)
    rw [r5] at this
    simp [itT] at this
    omega
  have v4 := done_vals a (max 0 (min m 1000)) (itT [], [] ++ bs.flatMap bitsOf)
  rw [r4] at v4
  have v4' : ((itT ts4).map (·.1), told4) = batV a (max 0 (min m 1000)) [] := v4
  have v5 := done_vals b (max 0 (min m 1000)) (itT ts4, bits4)
  rw [r5] at v5
  have v5' : ((itT ts5).map (·.1), told5) = batV b (max 0 (min m 1000)) ((itT ts4).map (·.1)) := v5
  have l4 : told4.length = a.length := by have := done_len a (max 0 (min m 1000)) (itT [], [] ++ bs.flatMap bitsOf); rwa [r4] at this
  have l5 : told5.length = b.length := by have := done_len b (max 0 (min m 1000)) (itT ts4, bits4); rwa [r5] at this
  rw [← v4'] at e4 e5 hz1 hz2
  simp only at e4 e5 hz1 hz2
  rw [← v5'] at e5 hz2
  simp only at e5 hz2
  have s4 : SeesR h5 (.row tb4 2 0 a.length) told4 := by
    have := (D4.tl.keep' fun l z hb => D5.keepRow D4.sk D4.bt hb).sees
    rwa [l4] at this
  have s5 : SeesR h5 (.row tb5 2 0 b.length) told5 := by
    have := D5.tl.sees
    rwa [l5] at this
  obtain ⟨N5, S5⟩ := D5.sk
  obtain ⟨h6, r6, e8, sl6, l6, k6⟩ := items_call (n + 1) S5 (by unfold lim; omega) (by omega)
  rw [lvV0 fun t ht => (S5.ht t ht).1] at sl6
  have f1 := rTold_call (n + 3) s4 (sees_slR h5 told4 false) (by rw [l4]; unfold lim; omega) (by omega)
  have f2 := rTold_call (n + 3) s5 (sees_slR h5 told5 false) (by rw [l5]; unfold lim; omega) (by omega)
  have f3 := rSame_call (n + 3) sl6.sees (sees_sl h6 (z := z2) (sb := sb2) hz2) (by simp [itT]; unfold lim; omega) (by simp [itT]; omega)
  refine ⟨h6, (lwsame_eq (n + 4) m _ _ _ h).trans ?_⟩
  unfold lwsame
  rw [e1, cl_ret, one1_one, e2, cl_ret, one1_one, bop_sk_nil, bd_some, bv_bool, if_neg (by decide), bop_coin_nil, bd_some, bv_bool, if_neg (by decide), e3, cl_ret]
  rw [show (V.sl 0 [] true) = .sl 0 (vL []) true from rfl, e4, cl_ret]
  simp only [List.getElem?_cons_zero, List.getElem?_cons_succ, bd_some]
  rw [e5, cl_ret]
  simp only [List.getElem?_cons_zero, List.getElem?_cons_succ, bd_some]
  rw [e6, cl_ret, one1_one, e7, cl_ret, one1_one, f1, cl_ret, one1_one, bv_bool, if_pos rfl, f2, cl_ret, one1_one, bv_bool, if_pos rfl, e8, cl_ret, one1_one, f3, cl_ret, one1_one]
end Go.Proofs.Try
