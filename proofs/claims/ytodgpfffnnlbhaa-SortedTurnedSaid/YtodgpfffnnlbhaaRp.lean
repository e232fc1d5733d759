import Derived.Test.YtodgpfffnnlbhaaRo
/-! reaperref08.heap, Apply and Batch at a heap by contract -/
set_option linter.unusedVariables false
set_option linter.unusedSimpArgs false
namespace Go.Proofs.Try
open Go.L Go.Rp Go.Sk
set_option maxRecDepth 100000
/-- values -/
abbrev vL (l : List Int) : List (List V) := l.map (intV .i32)
def insV (s : List Int) (v : Int) : List Int := s.takeWhile (· ≤ v) ++ v :: s.dropWhile (· ≤ v)
theorem vL_len (l : List Int) : (vL l).length = l.length := List.length_map ..
theorem vL_take (l : List Int) (n : Nat) : (vL l).take n = vL (l.take n) := by simp [vL, List.map_take]
theorem vL_drop (l : List Int) (n : Nat) : (vL l).drop n = vL (l.drop n) := by simp [vL, List.map_drop]
theorem app_vL (a b : List Int) (h : a.length + b.length < lim) : app 21 1 (.own 21 1 (vL a)) (vL b) = some (vL (a ++ b)) := by
  simp [app, h, vL]
theorem app_vL0 (b : List Int) (h : b.length < lim) : app 21 1 (.own 21 1 []) (vL b) = some (vL b) := by
  simp [app, h, vL]
theorem bsl_vL (x : Int) : bslV prog 39 1 [(0, .int .i32 x)] = some (1, vL [x]) := by kernel_rfl
theorem slPz {sz z a b : Nat} {l : List (List V)} {sb : Bool} (hz : z = sz ∨ l.isEmpty = true) (h1 : a ≤ b) (h2 : b ≤ l.length) : sliceP sz a b (none : Option Nat) true (.sl z l sb) = some (.sl sz ((l.take b).drop a) false) := by
  have hc : a ≤ b ∧ b ≤ l.length ∧ (z = sz ∨ l.isEmpty = true) ∧ ((none : Option Nat) = none ∨ (none : Option Nat) = some b) ∧ true = true := ⟨h1, h2, hz, .inl rfl, rfl⟩
  show (if _ then _ else _) = _
  rw [if_pos hc]
  rfl
/-- a value put at a place -/
theorem put_endV {H : Heap} {l : List Int} {z : Nat} {sb : Bool} {a : Nat} {v : Int} {N : List (List V) → Option (Res × Heap)} {c1 c2 : Nat × List (List V) → Prop} {d1 : ∀ p, Decidable (c1 p)} {d2 : ∀ p, Decidable (c2 p)} (hz : z = 1 ∨ l = []) (h1 : ∀ p, p.1 = 1 → c1 p) (h2 : ∀ p, p.1 = 1 → c2 p) (ha : a ≤ l.length) (hl : l.length + 2 < lim) :
    (bd (lenP (V.sl z (vL l) sb)) fun n47 =>
     (bd (sliceP 1 0 a (none : Option Nat) true (V.sl z (vL l) sb)) fun v49 =>
     (bdS (slcH H v49) fun p50 =>
     (if c1 p50 then
     (bd (app 21 1 (S.own 21 1 []) p50.2) fun l51 =>
     (bd (bslV prog 39 1 [(0, (V.int .i32 v))]) fun p52 =>
     (bd (app 21 1 (S.own 21 1 l51) p52.2) fun l53 =>
     (bd (lenP (V.sl z (vL l) sb)) fun n54 =>
     (bd (sliceP 1 a n54 (none : Option Nat) true (V.sl z (vL l) sb)) fun v56 =>
     (bdS (slcH H v56) fun p57 =>
     (if c2 p57 then
     (bd (app 21 1 (S.own 21 1 l53) p57.2) fun l58 => N l58) else none))))))) else none)))) = N (vL (l.take a ++ v :: l.drop a)) := by
  have t1 : (l.take a).length ≤ l.length := by rw [List.length_take]; omega
  have hz' : z = 1 ∨ (vL l).isEmpty = true := hz.imp id fun e => by rw [e]; rfl
  rw [lenP_sl, bd_some, slPz hz' (Nat.zero_le _) (by rw [vL_len]; exact ha), bd_some, slcH_sl, bdS_some, if_pos (h1 _ rfl)]
  simp only [List.drop_zero]
  rw [vL_take, app_vL0 _ (by omega), bd_some, bsl_vL, bd_some]
  simp only
  rw [app_vL _ _ (by simp; omega), bd_some, bd_some, slPz hz' (by rw [vL_len]; exact ha) (Nat.le_refl _), bd_some, slcH_sl, bdS_some, if_pos (h2 _ rfl)]
  simp only [List.take_length]
  rw [vL_drop, app_vL _ _ (by simp; omega), bd_some]
  simp
theorem insV_at {s : List Int} {v : Int} {a : Nat} (h1 : ∀ y ∈ s.take a, y ≤ v) (h2 : ∀ y, s[a]? = some y → ¬ y ≤ v) : s.take a ++ v :: s.drop a = insV s v := by
  unfold insV
  have e : s = s.take a ++ s.drop a := (List.take_append_drop a s).symm
  have hd : (s.drop a).takeWhile (· ≤ v) = [] ∧ (s.drop a).dropWhile (· ≤ v) = s.drop a := by
    cases hda : s.drop a with
    | nil => exact ⟨rfl, rfl⟩
    | cons y r =>
      have : s[a]? = some y := by
        have := congrArg (fun l => l[0]?) hda
        simpa [List.getElem?_drop] using this
      have hy := h2 y this
      exact ⟨List.takeWhile_cons_of_neg (by simpa using hy), List.dropWhile_cons_of_neg (by simpa using hy)⟩
  have h3 : s.takeWhile (· ≤ v) = s.take a := by
    conv => lhs; rw [e]
    rw [List.takeWhile_append_of_pos (fun y hy => by simpa using h1 y hy), hd.1, List.append_nil]
  have h4 : s.dropWhile (· ≤ v) = s.drop a := by
    conv => lhs; rw [e]
    rw [List.dropWhile_append_of_pos (fun y hy => by simpa using h1 y hy), hd.2]
  rw [h3, h4]
theorem heap_loop (n : Nat) (s : List Int) (z : Nat) (sb : Bool) (hz : z = 1 ∨ s = []) (k v : Int) (H : Heap) (hl : s.length + 2 < lim) : ∀ (d a M : Nat), a + d = s.length → d < M → (∀ y ∈ s.take a, y ≤ v) →
    loopx M (rHeap_l7 n (.sl z (vL s) sb)) [.agg [.int .u8 k, .int .i32 v], .sl 1 [] false, .agg [.int .u8 0, .int .i32 0], .int .i64 (a : Int)] H = some (.ret [.sl 1 (vL (insV s v)) false, .agg [.int .u8 1, .int .i32 0]], H) := by
  have hl7 : lcs (V.agg [.int .u8 k, .int .i32 v]) = [.int .u8 k, .int .i32 v] := rfl
  intro d
  induction d with
  | zero =>
    intro a M h1 h2 h3
    obtain ⟨M, rfl⟩ : ∃ M', M = M' + 1 := ⟨M - 1, by omega⟩
    obtain rfl : a = s.length := by omega
    rw [loopx_succ]
    unfold rHeap_l7
    simp only [gv, List.getD_cons_succ, List.getD_cons_zero, slcH_sl, vL_len, bop_i64_lss, bd_some, bv_bool, hl7, List.getElem?_cons_succ, List.getElem?_cons_zero, nv_nat, bdS_some]
    rw [if_neg (by simp)]
    refine (put_endV (H := H) (l := s) (a := s.length) (v := v) (N := fun l => some (Res.ret [.sl 1 l false, .agg [.int .u8 1, .int .i32 0]], H)) hz (fun p h => by simp [h]) (fun p h => by simp [h]) (Nat.le_refl _) hl).trans ?_
    rw [insV_at h3 (fun y hy => by simp at hy)]
  | succ d ih =>
    intro a M h1 h2 h3
    obtain ⟨M, rfl⟩ : ∃ M', M = M' + 1 := ⟨M - 1, by omega⟩
    obtain ⟨x, hx⟩ : ∃ x, s[a]? = some x := ⟨_, List.getElem?_eq_getElem (by omega)⟩
    have hxv : (vL s)[a]? = some [.int .i32 x] := by unfold vL; rw [List.getElem?_map, hx]; rfl
    obtain rfl : z = 1 := hz.resolve_right (by rintro rfl; simp at hx)
    have hlt : decide ((a : Int) < (s.length : Int)) = true := by simp; omega
    have key : ∀ next, rHeap_l7 n (.sl 1 (vL s) sb) [.agg [.int .u8 k, .int .i32 v], .sl 1 [] false, .agg [.int .u8 0, .int .i32 0], .int .i64 (a : Int)] H next = if x ≤ v then next [.agg [.int .u8 k, .int .i32 v], .sl 1 [] false, .agg [.int .u8 0, .int .i32 0], .int .i64 ((a + 1 : Nat) : Int)] H else some (.ret [.sl 1 (vL (s.take a ++ v :: s.drop a)) false, .agg [.int .u8 1, .int .i32 0]], H) := by
      intro next
      unfold rHeap_l7
      simp only [gv, List.getD_cons_succ, List.getD_cons_zero, slcH_sl, vL_len, bop_i64_lss, bd_some, bv_bool, hl7, List.getElem?_cons_succ, List.getElem?_cons_zero, nv_nat, bdS_some, hlt, if_true, idxP_sl hxv, cellsP_iptr, bd3_some, Nat.zero_add, Nat.le_refl, Nat.reduceLT, and_self, bop_i32_leq]
      by_cases h : x ≤ v
      · rw [if_pos (by simpa using h), if_pos h, bop_i64_add, bd_some, step64 (by omega)]
        rfl
      · rw [if_neg (by simpa using h), if_neg h]
        exact put_endV (H := H) (l := s) (a := a) (v := v) (N := fun l => some (Res.ret [.sl 1 l false, .agg [.int .u8 1, .int .i32 0]], H)) (.inl rfl) (fun p h => by simp [h]) (fun p h => by simp [h]) (by omega) hl
    rw [loopx_succ, key]
    by_cases h : x ≤ v
    · rw [if_pos h]
      refine ih (a + 1) M (by omega) (by omega) fun y hy => ?_
      rw [List.take_add_one, hx] at hy
      rcases List.mem_append.1 hy with hy | hy
      · exact h3 y hy
      · simp at hy; omega
    · rw [if_neg h, insV_at h3 fun y hy => by rw [hx] at hy; cases hy; exact h]
/-- a heap's step on values -/
def stpV (most : Int) (s : List Int) (o : O) : List Int × R :=
  if o.k = 1 then (if most ≤ (s.length : Int) then (s, ⟨3, 0⟩) else (insV s o.v, ⟨1, 0⟩))
  else if o.k = 2 then (match s with | [] => (s, ⟨4, 0⟩) | x :: r => (r, ⟨2, x⟩))
  else (s, ⟨5, 0⟩)
theorem clamp_eq (x : Int) : (if 0 < (if 1000 < x then 1000 else x) then (if 1000 < x then 1000 else x) else (0 : Int)) = max 0 (min x 1000) := by
  split <;> split at * <;> omega
theorem heap_call (n : Nat) (m : Int) (s : List Int) (z : Nat) (sb : Bool) (hz : z = 1 ∨ s = []) (k v : Int) (H : Heap) (hl : s.length + 2 < lim) (hn : s.length + 2 ≤ n) :
    ∃ z' sb', call (n + 1) 74 [.int .i64 m, .sl z (vL s) sb, .agg [.int .u8 k, .int .i32 v]] H = some (.ret [.sl z' (vL (stpV (max 0 (min m 1000)) s ⟨k, v⟩).1) sb', .agg (R.w (stpV (max 0 (min m 1000)) s ⟨k, v⟩).2)], H) ∧ (z' = 1 ∨ (stpV (max 0 (min m 1000)) s ⟨k, v⟩).1 = []) := by
  rw [rHeap_eq]
  obtain ⟨n, rfl⟩ : ∃ n', n = n' + 1 := ⟨n - 1, by omega⟩
  have hmost : call (n + 1) 66 [.int .i64 m] H = some (.ret [.int .i64 (max 0 (min m 1000))], H) := by
    rw [rMost_eq]; unfold rMost; rw [clamp_eq]
  obtain ⟨mo, hmo⟩ : ∃ mo, mo = max 0 (min m 1000) := ⟨_, rfl⟩
  rw [← hmo] at hmost ⊢
  unfold rHeap
  by_cases h1 : k = 1
  · subst h1
    rw [if_pos (by rfl), slcH_sl, bd_some, hmost, cl_ret, one1_one]
    simp only [vL_len, bop_i64_geq, bd_some, bv_bool]
    by_cases h2 : mo ≤ (s.length : Int)
    · have hst : stpV mo s ⟨1, v⟩ = (s, ⟨3, 0⟩) := by unfold stpV; rw [if_pos rfl, if_pos h2]
      rw [if_pos (by exact decide_eq_true h2), hst]
      exact ⟨z, sb, rfl, hz⟩
    · have hst : stpV mo s ⟨1, v⟩ = (insV s v, ⟨1, 0⟩) := by unfold stpV; rw [if_pos rfl, if_neg h2]
      rw [if_neg (by intro e; exact h2 (of_decide_eq_true e)), if_pos (by rfl), hst]
      exact ⟨1, false, heap_loop (n + 1) s z sb hz 1 v H hl s.length 0 (n + 1) (by omega) (by omega) (by simp), .inl rfl⟩
  · rw [if_neg (by simpa using h1), if_neg (by simpa using h1)]
    by_cases h2 : k = 2
    · subst h2
      rw [if_pos (by rfl), slcH_sl, bd_some]
      simp only [vL_len]
      cases s with
      | nil =>
        rw [if_pos (by rfl)]
        exact ⟨z, sb, rfl, .inr rfl⟩
      | cons x r =>
        obtain rfl : z = 1 := hz.resolve_right (by simp)
        have hxv : (vL (x :: r))[0]? = some [.int .i32 x] := rfl
        rw [if_neg (by simp; omega), if_pos (by rfl), lenP_sl, bd_some, slPz (.inl rfl) (by simp) (Nat.le_refl _), bd_some, slcH_sl, bdS_some, if_pos (by first | exact ⟨rfl, .inl rfl⟩ | exact ⟨trivial, .inl rfl⟩)]
        simp only [List.take_length]
        rw [vL_drop, app_vL0 _ (by simp at hl ⊢; omega), bd_some, idxP_sl hxv, bd_some, cellsP_iptr, bd3_some, if_pos (by decide)]
        simp only [List.getElem?_cons_zero, bd_some, bld_res]
        exact ⟨1, false, rfl, .inl rfl⟩
    · have hst : stpV mo s ⟨k, v⟩ = (s, ⟨5, 0⟩) := by unfold stpV; rw [if_neg h1, if_neg h2]
      rw [if_neg (by simpa using h2), if_neg (by simpa using h2), hst]
      exact ⟨z, sb, rfl, hz⟩
theorem rapply_call (n : Nat) (m : Int) (s : List Int) (z : Nat) (sb : Bool) (hz : z = 1 ∨ s = []) (o : O) (H : Heap) (hl : s.length + 2 < lim) (hn : s.length + 2 ≤ n) :
    ∃ z' sb', call (n + 2) 52 [.int .u8 3, .int .i64 m, .sl z (vL s) sb, .agg [.int .u8 o.k, .int .i32 o.v]] H = some (.ret [.sl z' (vL (stpV (max 0 (min m 1000)) s o).1) sb', .agg (R.w (stpV (max 0 (min m 1000)) s o).2)], H) ∧ (z' = 1 ∨ (stpV (max 0 (min m 1000)) s o).1 = []) := by
  obtain ⟨z', sb', e, hz'⟩ := heap_call n m s z sb hz o.k o.v [] hl hn
  refine ⟨z', sb', ?_, hz'⟩
  refine (rApply_eq (n + 1) m (.sl z (vL s) sb) o.k o.v H).trans ?_
  have key : rApply (n + 1) m (.sl z (vL s) sb) o.k o.v = some (.ret [.sl z' (vL (stpV (max 0 (min m 1000)) s o).1) sb', .agg (R.w (stpV (max 0 (min m 1000)) s o).2)], []) := by
    unfold rApply
    rw [e, cl_ret]
    rfl
  rw [key]
  generalize stpV (max 0 (min m 1000)) s o = q
  exact gcw_ret (by simp [intV]) (by simp [intV, R.w])
def runV (os : List O) (most : Int) : List Int → List Int → List R → List Int × List R
  | [], s, told => (s, told)
  | k :: l, s, told => runV os most l (stpV most s (oAt os k)).1 (told.set k.toNat (stpV most s (oAt os k)).2)
theorem insV_len (s : List Int) (v : Int) : (insV s v).length = s.length + 1 := by
  unfold insV
  rw [List.length_append, List.length_cons]
  have := congrArg List.length (List.takeWhile_append_dropWhile (p := fun y : Int => decide (y ≤ v)) (l := s))
  rw [List.length_append] at this
  omega
theorem stpV_len (most : Int) (s : List Int) (o : O) : (stpV most s o).1.length ≤ s.length + 1 := by
  unfold stpV
  split
  · split
    · simp
    · simp [insV_len]
  · split
    · cases s <;> simp <;> omega
    · simp
theorem batch_loopR (n : Nat) (m : Int) (os : List O) (b : Bool) (L : List Int) (hL : ∀ x ∈ L, 0 ≤ x ∧ x < (os.length : Int)) (H : Heap) (hlim : L.length < lim) : ∀ (d i M : Nat) (s : List Int) (z : Nat) (sb : Bool) (told : List R) (v1 v2 v5 : V), i + d = L.length → d < M → (z = 1 ∨ s = []) → s.length + d + 2 < lim → s.length + d + 2 ≤ n → told.length = os.length →
    ∃ z' sb', loopx M (rBatch_l7 (n + 2) m (.sl 2 (os.map O.w) b) (.sl 1 (iL L) false)) [.sl z (vL s) sb, v1, v2, .sl 2 (told.map R.w) false, .int .i64 (i : Int), v5] H = some (.ret [.sl z' (vL (runV os (max 0 (min m 1000)) (L.drop i) s told).1) sb', .sl 2 ((runV os (max 0 (min m 1000)) (L.drop i) s told).2.map R.w) false], H) ∧ (z' = 1 ∨ (runV os (max 0 (min m 1000)) (L.drop i) s told).1 = []) := by
  intro d
  induction d with
  | zero =>
    intro i M s z sb told v1 v2 v5 h1 h2 hz hl hn ht
    obtain ⟨M, rfl⟩ : ∃ M', M = M' + 1 := ⟨M - 1, by omega⟩
    obtain rfl : i = L.length := by omega
    rw [List.drop_length]
    refine ⟨z, sb, ?_, hz⟩
    rw [loopx_succ]
    unfold rBatch_l7
    simp only [gv, List.getD_cons_succ, List.getD_cons_zero, slcH_sl, iL_len, bop_i64_lss, bd_some, bv_bool]
    rw [if_neg (by simp)]
    rfl
  | succ d ih =>
    intro i M s z sb told v1 v2 v5 h1 h2 hz hl hn ht
    obtain ⟨M, rfl⟩ : ∃ M', M = M' + 1 := ⟨M - 1, by omega⟩
    obtain ⟨x, hx⟩ : ∃ x, L[i]? = some x := ⟨_, List.getElem?_eq_getElem (by omega)⟩
    have hdr : L.drop i = x :: L.drop (i + 1) := by
      rw [List.drop_eq_getElem_cons (by omega)]
      rw [List.getElem?_eq_getElem (by omega)] at hx
      rw [Option.some.inj hx]
    obtain ⟨x0, x1⟩ := hL x (List.mem_of_getElem? hx)
    obtain ⟨k, rfl⟩ : ∃ k : Nat, x = (k : Int) := ⟨x.toNat, (Int.toNat_of_nonneg x0).symm⟩
    have hk : k < os.length := by omega
    obtain ⟨o, ho⟩ : ∃ o, os[k]? = some o := ⟨_, List.getElem?_eq_getElem hk⟩
    have hov : (os.map O.w)[k]? = some (O.w o) := by rw [get_os, ho]; rfl
    have hoo := oAt_some ho
    have hxv : (iL L)[i]? = some [.int .i64 (k : Int)] := by unfold iL; rw [List.getElem?_map, hx]; rfl
    have hlt : decide ((i : Int) < (L.length : Int)) = true := by simp; omega
    obtain ⟨a, ha⟩ : ∃ a, told[k]? = some a := ⟨_, List.getElem?_eq_getElem (by omega)⟩
    have hav : (told.map R.w)[k]? = some (R.w a) := by rw [get_rs, ha]; rfl
    obtain ⟨z1, sb1, e1, hz1⟩ := rapply_call n m s z sb hz o H (by omega) (by omega)
    obtain ⟨q, hq⟩ : ∃ q, q = stpV (max 0 (min m 1000)) s o := ⟨_, rfl⟩
    have hql : q.1.length ≤ s.length + 1 := hq ▸ stpV_len _ s o
    rw [← hq] at e1 hz1
    have hou : V.agg (List.take 2 (List.drop 0 (O.w o))) = .agg [.int .u8 o.k, .int .i32 o.v] := rfl
    have key : ∀ next, rBatch_l7 (n + 2) m (.sl 2 (os.map O.w) b) (.sl 1 (iL L) false) [.sl z (vL s) sb, v1, v2, .sl 2 (told.map R.w) false, .int .i64 (i : Int), v5] H next = next [.sl z1 (vL q.1) sb1, .sl 1 (lsl v1) false, .sl 2 (lsl v2) false, .sl 2 ((told.set k q.2).map R.w) false, .int .i64 ((i + 1 : Nat) : Int), .bool false] H := by
      intro next
      unfold rBatch_l7
      simp only [gv, List.getD_cons_succ, List.getD_cons_zero, slcH_sl, iL_len, bop_i64_lss, bd_some, bv_bool, hlt, if_true, nv_nat, bdS_some, idxP_sl hxv, idxP_sl hov, cellsP_iptr, bd3_some, Nat.zero_add, Nat.le_refl, Nat.reduceLT, and_self, List.getElem?_cons_zero, hou]
      rw [e1, cl_ret]
      simp only [List.getElem?_cons_zero, List.getElem?_cons_succ, bd_some]
      rw [show V.cells (V.agg (R.w q.2)) = R.w q.2 from rfl]
      have hset : (told.map R.w).set k (setR (R.w a) 0 (List.take 2 (List.drop 0 (setR [V.int .u8 0, V.int .i32 0] 0 (R.w q.2))))) = (told.set k q.2).map R.w := by rw [List.map_set]; rfl
      rw [if_pos (by rfl), if_pos (by exact Nat.le_refl 2)]
      rw [if_pos (by refine ⟨?_, ?_, by decide⟩ <;> first | rfl | trivial | (show k < (told.map R.w).length; rw [List.length_map]; omega)), if_pos (by rfl), if_pos (by refine ⟨?_, ?_, ?_⟩ <;> first | rfl | trivial | decide | exact Nat.le_refl 2)]
      rw [show lsl (V.sl 2 (told.map R.w) false) = told.map R.w from rfl, hav, bd_some, bop_i64_add, bd_some, step64 (by omega), hset]
    have hrun : runV os (max 0 (min m 1000)) (L.drop i) s told = runV os (max 0 (min m 1000)) (L.drop (i + 1)) q.1 (told.set k q.2) := by
      rw [hdr, hq]
      show runV os _ _ (stpV _ s (oAt os (k : Int))).1 (told.set (k : Int).toNat (stpV _ s (oAt os (k : Int))).2) = _
      rw [hoo, Int.toNat_natCast]
    obtain ⟨z2, sb2, e2, hz2⟩ := ih (i + 1) M q.1 z1 sb1 (told.set k q.2) (.sl 1 (lsl v1) false) (.sl 2 (lsl v2) false) (.bool false) (by omega) (by omega) hz1 (by omega) (by omega) (by rw [List.length_set]; exact ht)
    rw [hrun]
    exact ⟨z2, sb2, by rw [loopx_succ, key]; exact e2, hz2⟩
/-- a batch of a heap by definition -/
def batV (os : List O) (most : Int) (s : List Int) : List Int × List R := runV os most (sPuts os ++ others os) s (List.replicate os.length ⟨0, 0⟩)
theorem order_len (os : List O) : (sPuts os ++ others os).length = os.length := by
  have h : ∀ n : Nat, (putsTo os n).length + (restTo os n).length = n := fun n => by
    induction n with
    | zero => rfl
    | succ n ih =>
      simp only [putsTo, restTo]
      split <;> simp <;> omega
  rw [List.length_append, sPuts_len]
  exact h os.length
theorem rbatch_call (n : Nat) (m : Int) (s : List Int) (z : Nat) (sb : Bool) (os : List O) (b : Bool) (H : Heap) (hz : z = 1 ∨ s = []) (hs : Small os) (hl : s.length + os.length + 4 < lim) (hn : s.length + os.length + 4 ≤ n) :
    ∃ z' sb', call (n + 3) 50 [.int .u8 3, .int .i64 m, .sl z (vL s) sb, .sl 2 (os.map O.w) b] H = some (.ret [.sl z' (vL (batV os (max 0 (min m 1000)) s).1) sb', .sl 2 ((batV os (max 0 (min m 1000)) s).2.map R.w) false], H) ∧ (z' = 1 ∨ (batV os (max 0 (min m 1000)) s).1 = []) := by
  have hol := order_len os
  obtain ⟨z', sb', e, hz'⟩ := batch_loopR n m os b (sPuts os ++ others os) (order_mem os) [] (by omega) os.length 0 (n + 2) s z sb (List.replicate os.length ⟨0, 0⟩) (.sl 1 [] false) (.sl 2 [] false) (.bool false) (by omega) (by omega) hz (by omega) (by omega) (by simp)
  rw [List.drop_zero] at e hz'
  refine ⟨z', sb', ?_, hz'⟩
  refine (rBatch_eq (n + 2) m (.sl z (vL s) sb) (.sl 2 (os.map O.w) b) H).trans ?_
  have key : rBatch (n + 2) m (.sl z (vL s) sb) (.sl 2 (os.map O.w) b) = some (.ret [.sl z' (vL (batV os (max 0 (min m 1000)) s).1) sb', .sl 2 ((batV os (max 0 (min m 1000)) s).2.map R.w) false], []) := by
    unfold rBatch
    have fN : nv (V.int .i64 (os.length : Int)) = some os.length := nv_nat _ _
    rw [slcH_sl, bd_some]
    simp only [List.length_map]
    rw [fN, bdS_some, bdS_some, if_pos (by first | exact ⟨rfl, by omega, rfl⟩ | exact ⟨rfl, by omega, trivial⟩ | exact ⟨trivial, by omega, trivial⟩), rorder_call (n + 2) os b [] hs (by omega) (by omega), cl_ret, one1_one, rs_rep]
    exact e
  rw [key]
  generalize batV os (max 0 (min m 1000)) s = q
  exact gcw_ret (by simp [intV, free_map O.w (fun _ => rfl)]) (by simp [intV, free_map R.w (fun _ => rfl)])
end Go.Proofs.Try
