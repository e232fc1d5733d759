import Derived.Test.YtodgpfffnnlbhaaKzc
import Derived.Test.YtodgpfffnnlbhaaKo
/-! the law SortedCoins: it returns true -/
set_option linter.unusedVariables false
set_option linter.unusedSimpArgs false
namespace Go.Proofs.Try
open Go.L Go.Rp Go.Sk
set_option maxRecDepth 100000
/-- how many are told Done -/
def cnt1 (l : List R) : Nat := l.countP fun r => r.c == 1
theorem stp_draw (most : Int) (st : St) (o : O) : (stp most st o).1.2 = if (stp most st o).2.c = 1 then (hgt 1 st.2).2 else st.2 := by
  unfold stp
  by_cases h1 : o.k = 1
  · rw [if_pos h1]
    by_cases h2 : most ≤ (st.1.length : Int)
    · rw [if_pos h2]; rfl
    · rw [if_neg h2]; rfl
  · rw [if_neg h1]
    by_cases h2 : o.k = 2
    · rw [if_pos h2]
      cases st.1 <;> rfl
    · rw [if_neg h2]; rfl
theorem runO_draw (os : List O) (most : Int) : ∀ (l : List Int) (st : St) (told : List R), (∀ x ∈ l, told[x.toNat]? = some ⟨0, 0⟩) → (l.map Int.toNat).Nodup →
    ∃ m, cnt1 (runO os most l st told).2 = cnt1 told + m ∧ (runO os most l st told).1.2 = (hsOf m st.2).2
  | [], st, told, _, _ => ⟨0, rfl, rfl⟩
  | k :: l, st, told, h0, hn => by
    have hk := h0 k (List.mem_cons_self ..)
    obtain ⟨hlt, hget⟩ := List.getElem?_eq_some_iff.1 hk
    rw [List.map_cons, List.nodup_cons] at hn
    obtain ⟨m, e1, e2⟩ := runO_draw os most l (stp most st (oAt os k)).1 (told.set k.toNat (stp most st (oAt os k)).2) (fun x hx => by
      have hne : k.toNat ≠ x.toNat := fun e => hn.1 (by rw [e]; exact List.mem_map_of_mem hx)
      rw [List.getElem?_set_ne hne]
      exact h0 x (List.mem_cons_of_mem _ hx)) hn.2
    have hc : cnt1 (told.set k.toNat (stp most st (oAt os k)).2) = cnt1 told + if (stp most st (oAt os k)).2.c = 1 then 1 else 0 := by
      unfold cnt1
      rw [List.countP_set hlt, hget]
      simp
    have hd := stp_draw most st (oAt os k)
    by_cases h1 : (stp most st (oAt os k)).2.c = 1
    · rw [if_pos h1] at hc hd
      refine ⟨m + 1, ?_, ?_⟩
      · show cnt1 (runO os most l _ _).2 = _
        rw [e1, hc]; omega
      · show (runO os most l _ _).1.2 = _
        rw [e2, hd]; rfl
    · rw [if_neg h1] at hc hd
      refine ⟨m, ?_, ?_⟩
      · show cnt1 (runO os most l _ _).2 = _
        rw [e1, hc]; omega
      · show (runO os most l _ _).1.2 = _
        rw [e2, hd]
theorem all_mem (os : List O) : ∀ (n k : Nat), k < n → (k : Int) ∈ putsTo os n ∨ (k : Int) ∈ restTo os n
  | 0, k, h => by omega
  | n + 1, k, h => by
    simp only [putsTo, restTo]
    by_cases e : k = n
    · subst e
      by_cases h1 : (oAt os (k : Int)).k = 1
      · rw [if_pos h1]; exact .inl (List.mem_append_right _ (List.mem_singleton.2 rfl))
      · rw [if_neg h1, if_neg h1]; exact .inr (List.mem_append_right _ (List.mem_singleton.2 rfl))
    · rcases all_mem os n k (by omega) with h | h
      · left; split
        · exact List.mem_append_left _ h
        · exact h
      · right; split
        · exact h
        · exact List.mem_append_left _ h
theorem order_all (os : List O) (k : Nat) (hk : k < os.length) : (k : Int) ∈ sPuts os ++ others os := by
  rcases all_mem os os.length k hk with h | h
  · exact List.mem_append_left _ ((sPuts_perm os).mem_iff.2 h)
  · exact List.mem_append_right _ h
theorem others_nodup (os : List O) : (others os).Nodup := by
  have : ∀ n : Nat, (restTo os n).Pairwise (· < ·) := fun n => by
    induction n with
    | zero => exact .nil
    | succ n ih =>
      simp only [restTo]
      split
      · exact ih
      · refine List.pairwise_append.2 ⟨ih, List.pairwise_singleton .., fun a ha b hb => ?_⟩
        rw [List.mem_singleton.1 hb]
        exact (restTo_mem os _ a ha).2.1
  exact (this os.length).imp fun h => by omega
theorem order_mem (os : List O) : ∀ x ∈ sPuts os ++ others os, 0 ≤ x ∧ x < (os.length : Int) := fun x hx => by
  rcases List.mem_append.1 hx with h | h
  · exact ⟨(sPuts_mem os x h).1, (sPuts_mem os x h).2.1⟩
  · have := restTo_mem os _ x h; exact ⟨this.1, this.2.1⟩
theorem order_nodup (os : List O) : ((sPuts os ++ others os).map Int.toNat).Nodup := by
  have h : (sPuts os ++ others os).Nodup := List.nodup_append.2 ⟨sPuts_nodup os, others_nodup os, fun a ha b hb => puts_others os b hb a ha⟩
  rw [List.Nodup, List.pairwise_map]
  refine (List.Pairwise.and_mem.1 h).imp fun ⟨ha, hb, hne⟩ e => hne ?_
  have := order_mem os _ ha
  have := order_mem os _ hb
  omega
theorem doneO_draw (os : List O) (most : Int) (st : St) : (doneO os most st).1.2 = (hsOf (cnt1 (doneO os most st).2) st.2).2 := by
  obtain ⟨m, e1, e2⟩ := runO_draw os most (sPuts os ++ others os) st (List.replicate os.length ⟨0, 0⟩) (fun x hx => by
    have := order_mem os x hx
    rw [List.getElem?_replicate, if_pos (by omega)]) (order_nodup os)
  have h0 : cnt1 (List.replicate os.length (⟨0, 0⟩ : R)) = 0 := by unfold cnt1; rw [List.countP_eq_zero]; intro a ha; rw [List.eq_of_mem_replicate ha]; decide
  unfold doneO
  rw [e2, e1, h0, Nat.zero_add]
theorem doneO_len (os : List O) (most : Int) (st : St) : (doneO os most st).2.length = os.length := by
  unfold doneO
  rw [runO_len, List.length_replicate]
theorem runO_none (os : List O) (bits : List Bool) : ∀ (l : List Int) (told : List R), (runO os 0 l ([], bits) told).1 = ([], bits) ∧ ∀ (k : Nat) (a : R), (runO os 0 l ([], bits) told).2[k]? = some a → 3 ≤ a.c ∨ (told[k]? = some a ∧ ∀ x ∈ l, x.toNat ≠ k)
  | [], told => ⟨rfl, fun k a h => .inr ⟨h, fun x hx => by cases hx⟩⟩
  | x :: l, told => by
    obtain ⟨c, hc, hst⟩ : ∃ c : Int, 3 ≤ c ∧ stp 0 ([], bits) (oAt os x) = (([], bits), ⟨c, 0⟩) := by
      unfold stp
      by_cases h1 : (oAt os x).k = 1
      · exact ⟨3, by omega, by rw [if_pos h1, if_pos (by simp)]⟩
      · by_cases h2 : (oAt os x).k = 2
        · exact ⟨4, by omega, by rw [if_neg h1, if_pos h2]⟩
        · exact ⟨5, by omega, by rw [if_neg h1, if_neg h2]⟩
    have e : runO os 0 (x :: l) ([], bits) told = runO os 0 l ([], bits) (told.set x.toNat ⟨c, 0⟩) := by
      show runO os 0 l (stp 0 ([], bits) (oAt os x)).1 (told.set x.toNat (stp 0 ([], bits) (oAt os x)).2) = _
      rw [hst]
    obtain ⟨i1, i2⟩ := runO_none os bits l (told.set x.toNat ⟨c, 0⟩)
    rw [e]
    refine ⟨i1, fun k a h => ?_⟩
    rcases i2 k a h with h | ⟨h, hn⟩
    · exact .inl h
    · by_cases ek : x.toNat = k
      · left
        obtain ⟨hlt, _⟩ := List.getElem?_eq_some_iff.1 h
        rw [List.length_set] at hlt
        rw [← ek, List.getElem?_set_self (by omega)] at h
        rw [← Option.some.inj h]
        exact hc
      · right
        rw [List.getElem?_set_ne ek] at h
        exact ⟨h, fun y hy => by
          rcases List.mem_cons.1 hy with e | hy
          · rw [e]; exact ek
          · exact hn y hy⟩
theorem doneO_none (os : List O) (bits : List Bool) (k : Nat) (a : R) (h : (doneO os 0 ([], bits)).2[k]? = some a) : 3 ≤ a.c := by
  have hk : k < os.length := by rw [← doneO_len os 0 ([], bits)]; exact (List.getElem?_eq_some_iff.1 h).1
  rcases (runO_none os bits (sPuts os ++ others os) (List.replicate os.length ⟨0, 0⟩)).2 k a h with h | ⟨_, hn⟩
  · exact h
  · exact absurd (by simp) (hn (k : Int) (order_all os k hk))
theorem bop_u8_geq' (a b : Int) : bop prog .geq 5 (.int .u8 a) (.int .u8 b) = some (.bool (decide (a ≥ b))) := by kernel_rfl
theorem coins_draw (v7 : V) (os : List O) (told : List R) (tb : Nat) (cb : Option Nat) (hlt : told.length = os.length) (hlim : os.length < lim) : ∀ (d k M : Nat) (h : Heap) (bits : List Bool), k + d = os.length → d < M → RowR h tb told → tb ≠ 2 → BitsAt h 2 cb bits →
    ∃ h' M', loopx M (lwCoins_l36 300 v7 (.ptr 1 0) (.ptr 2 0) (.row tb 2 0 os.length)) [.int .i64 (k : Int)] h = lwCoins_l36 300 v7 (.ptr 1 0) (.ptr 2 0) (.row tb 2 0 os.length) [.int .i64 (os.length : Int)] h' (loopx M' (lwCoins_l36 300 v7 (.ptr 1 0) (.ptr 2 0) (.row tb 2 0 os.length))) ∧
      BitsAt h' 2 cb (hsOf (cnt1 (told.drop k)) bits).2 ∧ h'.length = h.length ∧ ∀ i, i ≠ 2 → h'[i]? = h[i]? := by
  intro d
  induction d with
  | zero =>
    intro k M h bits h1 h2 rt ht B
    obtain ⟨M, rfl⟩ : ∃ M', M = M' + 1 := ⟨M - 1, by omega⟩
    obtain rfl : k = os.length := by omega
    refine ⟨h, M, loopx_succ .., ?_, rfl, fun _ _ => rfl⟩
    rw [List.drop_of_length_le (by omega)]
    exact B
  | succ d ih =>
    intro k M h bits h1 h2 rt ht B
    obtain ⟨M, rfl⟩ : ∃ M', M = M' + 1 := ⟨M - 1, by omega⟩
    obtain ⟨a, ha⟩ : ∃ a, told[k]? = some a := ⟨_, List.getElem?_eq_getElem (by omega)⟩
    have hdr : told.drop k = a :: told.drop (k + 1) := by
      rw [List.drop_eq_getElem_cons (by omega)]
      rw [List.getElem?_eq_getElem (by omega)] at ha
      rw [Option.some.inj ha]
    obtain ⟨a1, a2⟩ := rt.get ha 0
    rw [hlt] at a1
    have hsl := rt.slc
    rw [hlt] at hsl
    have hlk : decide ((k : Int) < (os.length : Int)) = true := by simp; omega
    by_cases hc : a.c = 1
    · obtain ⟨h', e2, B2, l2, f2⟩ := height_call 297 B (by omega)
      have key : ∀ next, lwCoins_l36 300 v7 (.ptr 1 0) (.ptr 2 0) (.row tb 2 0 os.length) [.int .i64 (k : Int)] h next = next [.int .i64 ((k + 1 : Nat) : Int)] h' := by
        intro next
        unfold lwCoins_l36
        rw [hsl, bd_some]
        simp only [gv, List.getD_cons_zero, List.getD_cons_succ, List.length_map, hlt, bop_i64_lss, bd_some, bv_bool, hlk, if_true, nv_nat, bdS_some, a1, a2, addP_rptr, Nat.add_zero, bd3_some, Nat.zero_add, Nat.reduceLeDiff, Nat.reduceLT, and_self, rw_0, bop_u8_eql']
        rw [if_pos (by simp [hc]), show call 300 19 [.ptr 2 0] h = _ from e2, cl_ret, one1_one, bop_i64_add, bd_some, step64 (show k < lim by omega)]
      obtain ⟨h3, M', e, b1, b2, b3⟩ := ih (k + 1) M h' (hgt 1 bits).2 (by omega) (by omega) (rt.keep (f2 tb ht)) ht B2
      refine ⟨h3, M', by rw [loopx_succ, key]; exact e, ?_, by rw [b2, l2], fun i hi => by rw [b3 i hi, f2 i hi]⟩
      rw [hdr, show cnt1 (a :: told.drop (k + 1)) = cnt1 (told.drop (k + 1)) + 1 by unfold cnt1; rw [List.countP_cons, hc]; rfl]
      exact b1
    · have key : ∀ next, lwCoins_l36 300 v7 (.ptr 1 0) (.ptr 2 0) (.row tb 2 0 os.length) [.int .i64 (k : Int)] h next = next [.int .i64 ((k + 1 : Nat) : Int)] h := by
        intro next
        unfold lwCoins_l36
        rw [hsl, bd_some]
        simp only [gv, List.getD_cons_zero, List.getD_cons_succ, List.length_map, hlt, bop_i64_lss, bd_some, bv_bool, hlk, if_true, nv_nat, bdS_some, a1, a2, addP_rptr, Nat.add_zero, bd3_some, Nat.zero_add, Nat.reduceLeDiff, Nat.reduceLT, and_self, rw_0, bop_u8_eql']
        rw [if_neg (by simpa using hc), bop_i64_add, bd_some, step64 (show k < lim by omega)]
      obtain ⟨h3, M', e, b1, b2, b3⟩ := ih (k + 1) M h bits (by omega) (by omega) rt ht B
      refine ⟨h3, M', by rw [loopx_succ, key]; exact e, ?_, b2, b3⟩
      rw [hdr, show cnt1 (a :: told.drop (k + 1)) = cnt1 (told.drop (k + 1)) by unfold cnt1; rw [List.countP_cons, show (a.c == 1) = false by simpa using hc]; rfl]
      exact b1
theorem coins_fine (v15 v19 v61 : V) {h : Heap} (tb : Nat) (told : List R) (n : Nat) (hlt : told.length = n) (hlim : n < lim) (rt : RowR h tb told) (hc : ∀ (k : Nat) (a : R), told[k]? = some a → 3 ≤ a.c) : ∀ (d k M : Nat), k + d = n → d < M →
    ∃ M', loopx M (lwCoins_l68 300 v15 v19 v61 (.row tb 2 0 n)) [.bool true, .int .i64 (k : Int)] h = lwCoins_l68 300 v15 v19 v61 (.row tb 2 0 n) [.bool true, .int .i64 (n : Int)] h (loopx M' (lwCoins_l68 300 v15 v19 v61 (.row tb 2 0 n))) := by
  intro d
  induction d with
  | zero =>
    intro k M h1 h2
    obtain ⟨M, rfl⟩ : ∃ M', M = M' + 1 := ⟨M - 1, by omega⟩
    obtain rfl : k = n := by omega
    exact ⟨M, loopx_succ ..⟩
  | succ d ih =>
    intro k M h1 h2
    obtain ⟨M, rfl⟩ : ∃ M', M = M' + 1 := ⟨M - 1, by omega⟩
    obtain ⟨a, ha⟩ : ∃ a, told[k]? = some a := ⟨_, List.getElem?_eq_getElem (by omega)⟩
    obtain ⟨a1, a2⟩ := rt.get ha 0
    rw [hlt] at a1
    have hsl := rt.slc
    rw [hlt] at hsl
    have hlk : decide ((k : Int) < (n : Int)) = true := by simp; omega
    have h3 : decide (a.c ≥ 3) = true := by have := hc k a ha; simpa using this
    have key : ∀ next, lwCoins_l68 300 v15 v19 v61 (.row tb 2 0 n) [.bool true, .int .i64 (k : Int)] h next = next [.bool true, .int .i64 ((k + 1 : Nat) : Int)] h := by
      intro next
      unfold lwCoins_l68
      rw [hsl, bd_some]
      simp only [gv, List.getD_cons_zero, List.getD_cons_succ, List.length_map, hlt, bop_i64_lss, bd_some, bv_bool, hlk, if_true, nv_nat, bdS_some, a1, a2, addP_rptr, Nat.add_zero, bd3_some, Nat.zero_add, Nat.reduceLeDiff, Nat.reduceLT, and_self, rw_0, bop_u8_geq', h3, bop_i64_add, step64 (show k < lim by omega)]
    obtain ⟨M', e⟩ := ih (k + 1) M (by omega) (by omega)
    exact ⟨M', by rw [loopx_succ, key]; exact e⟩
theorem coins_law_call (x0 : Int) (c : List Int) (cb : Bool) (bs : List Int) (bb : Bool) (h0 : 0 ≤ x0 ∧ x0 < 256) (hc : small c = true) (hs : small bs = true) :
    call 301 3 [.int .u8 x0, .sl 1 (c.map (intV .u8)) cb, .sl 1 (bs.map (intV .u8)) bb] [] = some (.ret [.bool true], []) := by
  refine (lwCoins_eq 300 x0 (c.map (intV .u8)) cb (bs.map (intV .u8)) bb []).trans ?_
  have key : ∃ H, lwCoins 300 x0 (c.map (intV .u8)) cb (bs.map (intV .u8)) bb = some (.ret [.bool true], H) := by
    by_cases hl : decide (((bs.length : Nat) : Int) > 60) = true
    · refine ⟨[], ?_⟩
      unfold lwCoins
      rw [List.length_map, if_pos hl, known11_h, cl_ret, one1_one]
    · have hbl : bs.length ≤ 60 := by simp at hl; omega
      obtain ⟨os, hos⟩ : ∃ os, os = ops c 3 := ⟨_, rfl⟩
      have hol : os.length ≤ 80 := hos ▸ ops_len c 3
      have hops := ops_call 300 c 1 cb 3 [] (.inl rfl) hc (by omega) (by omega) (by omega)
      rw [← hos] at hops
      obtain ⟨m, hm⟩ : ∃ m, m = x0 % 12 := ⟨_, rfl⟩
      have hw : IntKind.i64.wrap (Int.tmod x0 12) = m := by rw [Int.tmod_eq_emod_of_nonneg h0.1, w64, hm] <;> omega
      have hmm : max 0 (min m 1000) = m := by omega
      obtain ⟨h1, hh1⟩ : ∃ h1 : Heap, h1 = newH m ++ [.box 1 [.sl 0 [] true]] := ⟨_, rfl⟩
      have l1 : h1.length = 3 := by rw [hh1]; rfl
      have k1 : ∀ b, b < 2 → h1[b]? = (newH m)[b]? := fun b hb => by rw [hh1]; exact List.getElem?_append_left hb
      have S1 : ∃ N, SkAt h1 0 [] m N := by
        obtain ⟨N, S⟩ := newH_sk m
        rw [hmm] at S
        exact ⟨N, S.keep fun b hb => k1 b (by have := S.lt b hb; exact this)⟩
      have Bx : BitsAt h1 1 none [] := (newH_bits m).keep (k1 1 (by omega)) fun b e => by cases e
      have By : BitsAt h1 2 none [] := ⟨rfl, by rw [hh1]; rfl⟩
      have ec2 : call 300 16 [] (newH m) = some (.ret [.ptr 2 0], h1) := by rw [hh1]; exact coin_new_call 299 (newH m)
      obtain ⟨bits, hbits⟩ : ∃ bits, bits = bs.flatMap bitsOf := ⟨_, rfl⟩
      obtain ⟨h2, cx, e2, Bx2, F2⟩ := feed_call 299 Bx bs bb hs (by simp; omega) (by omega)
      rw [List.nil_append, ← hbits] at Bx2
      have cx0 : ∀ b, cx = some b → 3 ≤ b := fun b e => by
        rcases F2.own b e with h | h
        · cases h
        · omega
      have k2 : ∀ b, b < 3 → b ≠ 1 → h2[b]? = h1[b]? := fun b hb hne => F2.old b (by omega) hne (by simp)
      have By2 : BitsAt h2 2 none [] := By.keep (k2 2 (by omega) (by omega)) fun b e => by cases e
      obtain ⟨h3, cy, e3, By3, F3⟩ := feed_call 299 By2 bs bb hs (by simp; omega) (by omega)
      rw [List.nil_append, ← hbits] at By3
      have ltx := Bx2.lt
      have Bx3 : BitsAt h3 1 cx bits := Bx2.keep (F3.old 1 ltx.1 (by omega) (by simp)) fun b e => F3.old b (ltx.2 b e) (by have := cx0 b e; omega) (by simp)
      have S3 : ∃ N, SkAt h3 0 [] m N := by
        obtain ⟨N, S⟩ := S1
        refine ⟨N, S.keep fun b hb => ?_⟩
        have hb0 : b = 0 := by simpa [skB] using hb
        have := F2.len
        rw [F3.old b (by omega) (by omega) (by simp), k2 b (by omega) (by omega)]
      have cy0 : ∀ b, cy = some b → h2.length ≤ b := fun b e => by
        rcases F3.own b e with h | h
        · cases h
        · exact h
      obtain ⟨h4, ts', bits', tb, told, e4, D, r⟩ := srtApply_call 296 os false S3 Bx3 (by simp [skB]) (fun b e => by have := cx0 b e; simp [skB]; omega) (by simp; omega) (by omega) (by simp [lim]; omega) (by simp; omega)
      have hlt : told.length = os.length := by have := doneO_len os m (itT [], bits); rw [r] at this; exact this
      have hdr := doneO_draw os m (itT [], bits)
      rw [r] at hdr
      have hdr' : bits' = (hsOf (cnt1 told) bits).2 := hdr
      have lty := By3.lt
      have By4 : BitsAt h4 2 cy bits := by
        refine By3.keep (D.frm.old 2 lty.1 (by simp [skB])) fun b e => D.frm.old b (lty.2 b e) (by have := cy0 b e; have := F2.len; simp [skB]; omega)
      have htb : tb ≠ 2 := by have := D.tb; have := lty.1; omega
      obtain ⟨h5, M', e5, By5, l5, k5⟩ := coins_draw (.sl 2 (os.map O.w) false) os told tb cy hlt (by unfold lim; omega) os.length 0 300 h4 bits (by omega) (by omega) D.tl htb By4
      rw [List.drop_zero, ← hdr'] at By5
      have hcx2 : ∀ b, cx = some b → b ≠ 2 := fun b e => by have := cx0 b e; omega
      have Bx5 : BitsAt h5 1 cx bits' := D.bt.keep (k5 1 (by omega)) fun b e => k5 b (hcx2 b e)
      obtain ⟨h6, tz, tol2, e6, ltz, k6, rz, r6⟩ := applyZ_call 296 h5 2 os false bits' (by unfold lim; omega) (by omega)
      have ltx5 := Bx5.lt
      have lty5 := By5.lt
      have Bx6 : BitsAt h6 1 cx bits' := Bx5.keep (k6 1 ltx5.1) fun b e => k6 b (ltx5.2 b e)
      have By6 : BitsAt h6 2 cy bits' := By5.keep (k6 2 lty5.1) fun b e => k6 b (lty5.2 b e)
      have hl2 : tol2.length = os.length := by have := doneO_len os 0 ([], bits'); rw [r6] at this; exact this
      obtain ⟨M2, e7⟩ := coins_fine (.ptr 1 0) (.ptr 2 0) (.int .i64 (bits'.length : Int)) tz tol2 os.length hl2 (by unfold lim; omega) rz (fun k a ha => doneO_none os bits' k a (by rw [r6]; exact ha)) os.length 0 300 (by omega) (by omega)
      have hslz := rz.slc
      rw [hl2] at hslz
      refine ⟨h6, ?_⟩
      unfold lwCoins
      rw [List.length_map, if_neg hl, hops, cl_ret, one1_one, hw, new_call0 299 m, cl_ret, one1_one, coin_new_call1 299 m, cl_ret, one1_one, ec2, cl_ret, one1_one, bop_sk_nil, bd_some, bv_bool, if_neg (by decide), bop_coin_nil, bd_some, bv_bool, if_neg (by decide), bop_coin_nil, bd_some, bv_bool, if_neg (by decide)]
      rw [e2, cl_ret, e3, cl_ret, e4, cl_ret, one1_one]
      refine e5.trans ?_
      unfold lwCoins_l36
      have hsl4 : slcH h5 (.row tb 2 0 os.length) = some (2, told.map R.w) := by
        have := (D.tl.keep (k5 tb htb)).slc
        rwa [hlt] at this
      rw [hsl4, bd_some]
      simp only [gv, List.getD_cons_zero, List.length_map, hlt, bop_i64_lss, bd_some, bv_bool]
      rw [if_neg (by simp), show call 300 20 [.ptr 2 0] h5 = _ from left_call 299 By5, cl_ret, one1_one, e6, cl_ret, one1_one, hslz, bd_some, slcH_sl, bd_some]
      simp only [List.length_map, hl2]
      rw [show V.bool ((os.length : Int) == (os.length : Int)) = V.bool true by simp]
      refine e7.trans ?_
      unfold lwCoins_l68
      rw [hslz, bd_some]
      simp only [gv, List.getD_cons_zero, List.getD_cons_succ, List.length_map, hl2, bop_i64_lss, bd_some, bv_bool]
      rw [if_neg (by simp), known11_h, cl_ret, one1_one, bv_bool, if_pos rfl, show call 300 20 [.ptr 1 0] h6 = _ from left_call 299 Bx6, cl_ret, one1_one, bop_i64_eql, bd_some, bv_bool, if_pos (by simp), show call 300 20 [.ptr 2 0] h6 = _ from left_call 299 By6, cl_ret, one1_one, bop_i64_eql, bd_some, bv_bool, if_pos (by simp)]
  obtain ⟨H, key⟩ := key
  rw [key]
  exact gcw_ret (by simp [intV]) (by simp)
end Go.Proofs.Try
