import Derived.Test.YtodgpfffnnlbhaaRq
/-! SortedTurned, the plain law: what a batch leaves, and how often each code is told, does not hang on the order of its operations -/
set_option linter.unusedVariables false
set_option linter.unusedSimpArgs false
namespace Go.Proofs.Try
open Go.L Go.Rp Go.Sk
set_option maxRecDepth 100000
/-- one behind the other: what is left, and what was told -/
def runS (most : Int) : List O → List Int → List Int × List R
  | [], s => (s, [])
  | o :: l, s => ((runS most l (stpV most s o).1).1, (stpV most s o).2 :: (runS most l (stpV most s o).1).2)
theorem runS_append (most : Int) : ∀ (l m : List O) (s : List Int), runS most (l ++ m) s = ((runS most m (runS most l s).1).1, (runS most l s).2 ++ (runS most m (runS most l s).1).2)
  | [], m, s => rfl
  | o :: l, m, s => by
    show ((runS most (l ++ m) _).1, _ :: (runS most (l ++ m) _).2) = _
    rw [runS_append most l m]
    rfl
theorem runV_left (os : List O) (most : Int) : ∀ (L : List Int) (s : List Int) (told : List R), (runV os most L s told).1 = (runS most (L.map (oAt os)) s).1
  | [], s, told => rfl
  | k :: L, s, told => runV_left os most L _ _
theorem runV_told (p : R → Bool) (os : List O) (most : Int) : ∀ (L : List Int) (s : List Int) (told : List R), (∀ x ∈ L, told[x.toNat]? = some ⟨0, 0⟩) → (L.map Int.toNat).Nodup →
    (runV os most L s told).2.countP p + (if p ⟨0, 0⟩ then L.length else 0) = told.countP p + (runS most (L.map (oAt os)) s).2.countP p
  | [], s, told, _, _ => by simp [runV, runS]
  | k :: L, s, told, h0, hn => by
    obtain ⟨hlt, hget⟩ := List.getElem?_eq_some_iff.1 (h0 k (List.mem_cons_self ..))
    rw [List.map_cons, List.nodup_cons] at hn
    have ih := runV_told p os most L (stpV most s (oAt os k)).1 (told.set k.toNat (stpV most s (oAt os k)).2) (fun x hx => by
      have hne : k.toNat ≠ x.toNat := fun e => hn.1 (by rw [e]; exact List.mem_map_of_mem hx)
      rw [List.getElem?_set_ne hne]
      exact h0 x (List.mem_cons_of_mem _ hx)) hn.2
    have hc := List.countP_set (p := p) (a := (stpV most s (oAt os k)).2) hlt
    rw [hget] at hc
    have hpos : (if p ⟨0, 0⟩ then 1 else 0) ≤ told.countP p := by
      split
      · rename_i hp
        exact List.countP_pos_iff.2 ⟨_, List.mem_of_getElem? (h0 k (List.mem_cons_self ..)), hp⟩
      · exact Nat.zero_le _
    show (runV os most L (stpV most s (oAt os k)).1 (told.set k.toNat (stpV most s (oAt os k)).2)).2.countP p + _ = _ + ((stpV most s (oAt os k)).2 :: (runS most (L.map (oAt os)) (stpV most s (oAt os k)).1).2).countP p
    rw [List.countP_cons, List.length_cons]
    by_cases hp : p ⟨0, 0⟩ = true
    · rw [if_pos hp] at hpos ih hc
      rw [if_pos hp]
      omega
    · rw [if_neg hp] at hpos ih hc
      rw [if_neg hp]
      omega
theorem oAt_get {os : List O} {n : Nat} (h : n < os.length) : oAt os (n : Int) = os[n] := oAt_some (List.getElem?_eq_getElem h)
theorem puts_map (os : List O) : ∀ n : Nat, n ≤ os.length → (putsTo os n).map (oAt os) = (os.take n).filter fun o => decide (o.k = 1)
  | 0, _ => rfl
  | n + 1, h => by
    have ih := puts_map os n (by omega)
    rw [List.take_succ_eq_append_getElem (by omega), List.filter_append, ← ih]
    simp only [putsTo, oAt_get (show n < os.length by omega)]
    by_cases hk : os[n].k = 1
    · rw [if_pos hk, List.map_append, List.filter_cons_of_pos (by simp [hk])]
      simp [oAt_get (show n < os.length by omega)]
    · rw [if_neg hk, List.filter_cons_of_neg (by simp [hk])]
      simp
theorem rest_map (os : List O) : ∀ n : Nat, n ≤ os.length → (restTo os n).map (oAt os) = (os.take n).filter fun o => decide (¬ o.k = 1)
  | 0, _ => rfl
  | n + 1, h => by
    have ih := rest_map os n (by omega)
    rw [List.take_succ_eq_append_getElem (by omega), List.filter_append, ← ih]
    simp only [restTo, oAt_get (show n < os.length by omega)]
    by_cases hk : os[n].k = 1
    · rw [if_pos hk, List.filter_cons_of_neg (by simp [hk])]
      simp
    · rw [if_neg hk, List.map_append, List.filter_cons_of_pos (by simp [hk])]
      simp [oAt_get (show n < os.length by omega)]
/-- what is put, sorted -/
def putVals (os : List O) : List Int := (sPuts os).map (keyV os)
theorem putVals_eq (os : List O) : putVals os = ((sPuts os).map (oAt os)).map O.v := by unfold putVals; rw [List.map_map]; rfl
theorem putVals_turn (os : List O) : putVals os.reverse = putVals os := by
  have h : ∀ os : List O, (putVals os).Perm ((os.filter fun o => decide (o.k = 1)).map O.v) := fun os => by
    rw [putVals_eq]
    have := ((sPuts_perm os).map (oAt os)).map O.v
    unfold puts at this
    rwa [puts_map os os.length (Nat.le_refl _), List.take_length] at this
  have hs : ∀ os : List O, (putVals os).Pairwise (· ≤ ·) := fun os => by
    have := sPuts_rise os (sPuts os).length
    rwa [List.take_length] at this
  refine List.Perm.eq_of_pairwise (le := fun a b : Int => a ≤ b) (fun a b _ _ h1 h2 => by omega) (hs _) (hs _) ?_
  refine (h _).trans (List.Perm.trans ?_ (h os).symm)
  rw [List.filter_reverse, List.map_reverse]
  exact List.reverse_perm _
/-- those that put, by their values alone -/
theorem run_puts (most : Int) : ∀ (Q Q' : List O) (s : List Int), (∀ o ∈ Q, o.k = 1) → (∀ o ∈ Q', o.k = 1) → Q.map O.v = Q'.map O.v → runS most Q s = runS most Q' s
  | [], [], s, _, _, _ => rfl
  | [], _ :: _, s, _, _, h => by simp at h
  | _ :: _, [], s, _, _, h => by simp at h
  | a :: Q, b :: Q', s, h1, h2, h => by
    rw [List.map_cons, List.map_cons] at h
    have hv : a.v = b.v := (List.cons.inj h).1
    have he : stpV most s a = stpV most s b := by
      unfold stpV
      rw [if_pos (h1 a (List.mem_cons_self ..)), if_pos (h2 b (List.mem_cons_self ..)), hv]
    show ((runS most Q _).1, _ :: (runS most Q _).2) = ((runS most Q' _).1, _ :: (runS most Q' _).2)
    rw [he, run_puts most Q Q' _ (fun o ho => h1 o (List.mem_cons_of_mem _ ho)) (fun o ho => h2 o (List.mem_cons_of_mem _ ho)) (List.cons.inj h).2]
/-- how many take -/
def takes (Q : List O) : Nat := Q.countP fun o => decide (o.k = 2)
theorem run_rest_left (most : Int) : ∀ (Q : List O) (s : List Int), (∀ o ∈ Q, ¬ o.k = 1) → (runS most Q s).1 = s.drop (takes Q)
  | [], s, _ => rfl
  | a :: Q, s, h => by
    have ih := fun s => run_rest_left most Q s fun o ho => h o (List.mem_cons_of_mem _ ho)
    show (runS most Q _).1 = _
    rw [ih]
    unfold takes stpV
    rw [if_neg (h a (List.mem_cons_self ..)), List.countP_cons]
    by_cases h2 : a.k = 2
    · rw [if_pos h2]
      cases s with
      | nil => simp
      | cons x r => simp [h2]
    · rw [if_neg h2]
      simp [h2]
/-- how many answers of a kind those that do not put are told -/
def restCount (q : Int → Bool) (len t n : Nat) : Nat := (if q 2 then min t n else 0) + (if q 4 then t - n else 0) + (if q 5 then len - t else 0)
theorem takes_le (Q : List O) : takes Q ≤ Q.length := List.countP_le_length
theorem run_rest_told (q : Int → Bool) (most : Int) : ∀ (Q : List O) (s : List Int), (∀ o ∈ Q, ¬ o.k = 1) → (runS most Q s).2.countP (fun r => q r.c) = restCount q Q.length (takes Q) s.length
  | [], s, _ => by simp [runS, restCount, takes]
  | a :: Q, s, h => by
    have ih := fun s => run_rest_told q most Q s fun o ho => h o (List.mem_cons_of_mem _ ho)
    have hle := takes_le Q
    show ((stpV most s a).2 :: (runS most Q (stpV most s a).1).2).countP _ = _
    rw [List.countP_cons, ih]
    have hn := h a (List.mem_cons_self ..)
    by_cases h2 : a.k = 2
    · have ht : takes (a :: Q) = takes Q + 1 := by unfold takes; rw [List.countP_cons]; simp [h2]
      rw [ht]
      cases s with
      | nil =>
        have e : stpV most [] a = ([], ⟨4, 0⟩) := by unfold stpV; rw [if_neg hn, if_pos h2]
        rw [e]
        unfold restCount
        simp only [List.length_cons, List.length_nil]
        split <;> split <;> split <;> simp_all <;> omega
      | cons x r =>
        have e : stpV most (x :: r) a = (r, ⟨2, x⟩) := by unfold stpV; rw [if_neg hn, if_pos h2]
        rw [e]
        unfold restCount
        simp only [List.length_cons]
        split <;> split <;> split <;> simp_all <;> omega
    · have ht : takes (a :: Q) = takes Q := by unfold takes; rw [List.countP_cons]; simp [h2]
      have e : stpV most s a = (s, ⟨5, 0⟩) := by unfold stpV; rw [if_neg hn, if_neg h2]
      rw [ht, e]
      unfold restCount
      simp only [List.length_cons]
      split <;> split <;> split <;> simp_all <;> omega
theorem others_map (os : List O) : (others os).map (oAt os) = os.filter fun o => decide (¬ o.k = 1) := by
  unfold others
  rw [rest_map os os.length (Nat.le_refl _), List.take_length]
theorem others_turn (os : List O) : ((others os.reverse).map (oAt os.reverse)).length = ((others os).map (oAt os)).length ∧ takes ((others os.reverse).map (oAt os.reverse)) = takes ((others os).map (oAt os)) := by
  rw [others_map, others_map, List.filter_reverse]
  exact ⟨List.length_reverse, by unfold takes; rw [List.countP_reverse]⟩
/-- the law -/
theorem turned (os : List O) (most : Int) (s : List Int) : (batV os.reverse most s).1 = (batV os most s).1 ∧ ∀ q : Int → Bool, (batV os.reverse most s).2.countP (fun r => q r.c) = (batV os most s).2.countP (fun r => q r.c) := by
  have hk : ∀ os : List O, ∀ o ∈ (sPuts os).map (oAt os), o.k = 1 := fun os o ho => by
    obtain ⟨x, hx, rfl⟩ := List.mem_map.1 ho
    exact (sPuts_mem os x hx).2.2
  have hr : ∀ os : List O, ∀ o ∈ (others os).map (oAt os), ¬ o.k = 1 := fun os o ho => by
    rw [others_map] at ho
    simpa using (List.mem_filter.1 ho).2
  have hp : runS most ((sPuts os.reverse).map (oAt os.reverse)) s = runS most ((sPuts os).map (oAt os)) s := run_puts most _ _ s (hk _) (hk _) (by rw [← putVals_eq, ← putVals_eq, putVals_turn])
  obtain ⟨o1, o2⟩ := others_turn os
  refine ⟨?_, fun q => ?_⟩
  · unfold batV
    rw [runV_left, runV_left, List.map_append, List.map_append, runS_append, runS_append, hp]
    simp only
    rw [run_rest_left most _ _ (hr _), run_rest_left most _ _ (hr _), o2]
  · have ht := fun os : List O => runV_told (fun r => q r.c) os most (sPuts os ++ others os) s (List.replicate os.length ⟨0, 0⟩) (fun x hx => by
      have := order_mem os x hx
      rw [List.getElem?_replicate, if_pos (by omega)]) (by
      refine List.pairwise_map.2 ?_
      have nd : (sPuts os ++ others os).Nodup := List.nodup_append.2 ⟨sPuts_nodup os, others_nodup os, fun a ha b hb e => puts_others os b hb a ha e⟩
      refine (List.Pairwise.and_mem.1 nd).imp fun ⟨ha, hb, h⟩ e => h ?_
      have := order_mem os _ ha
      have := order_mem os _ hb
      omega)
    have key : ∀ os : List O, (batV os most s).2.countP (fun r => q r.c) = (runS most ((sPuts os ++ others os).map (oAt os)) s).2.countP (fun r => q r.c) := fun os => by
      have h := ht os
      rw [List.countP_replicate, order_len] at h
      unfold batV
      omega
    rw [key, key, List.map_append, List.map_append, runS_append, runS_append, hp]
    simp only
    rw [List.countP_append, List.countP_append, run_rest_told q most _ _ (hr _), run_rest_told q most _ _ (hr _), o1, o2]
end Go.Proofs.Try
