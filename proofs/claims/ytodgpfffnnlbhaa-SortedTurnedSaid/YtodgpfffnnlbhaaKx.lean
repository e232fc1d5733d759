import Derived.Test.YtodgpfffnnlbhaaKv
/-! sorted, plain laws: what is taken rises -/
set_option linter.unusedVariables false
set_option linter.unusedSimpArgs false
namespace Go.Proofs.Try
open Go.L Go.Rp Go.Sk
set_option maxRecDepth 100000
/-- items rise -/
def Up (l : List (Int × Nat)) : Prop := l.Pairwise fun a b => a.1 ≤ b.1
theorem itT_up {ts : List Tw} (h : Rise ts) : Up (itT ts) := by
  unfold Up itT
  rw [List.pairwise_map]
  exact h
theorem runO_ne (os : List O) (most : Int) : ∀ (l : List Int) (st : St) (told : List R) (y : Nat), (∀ x ∈ l, x.toNat ≠ y) → (runO os most l st told).2[y]? = told[y]?
  | [], _, _, _, _ => rfl
  | k :: l, st, told, y, h => by
    show (runO os most l _ _).2[y]? = _
    rw [runO_ne os most l _ _ y fun x hx => h x (List.mem_cons_of_mem _ hx), List.getElem?_set_ne (h k (List.mem_cons_self ..))]
/-- what those that do not put come to -/
structure Mins (os : List O) (L : List Int) (I : List (Int × Nat)) (told' : List R) (I' : List (Int × Nat)) : Prop where
  suf : ∃ d, I' = I.drop d
  code : ∀ x ∈ L, ∀ r, told'[x.toNat]? = some r → (r.c = 2 ∨ r.c = 4 ∨ r.c = 5) ∧ (r.c = 2 → (∃ p ∈ I, p.1 = r.v) ∧ ∀ p ∈ I', r.v ≤ p.1)
  rise : ∀ x ∈ L, ∀ y ∈ L, x < y → ∀ r q, told'[x.toNat]? = some r → told'[y.toNat]? = some q → r.c = 2 → q.c = 2 → r.v ≤ q.v
theorem mins_run (os : List O) (most : Int) : ∀ (L : List Int) (I : List (Int × Nat)) (bits : List Bool) (told : List R), Up I → (∀ x ∈ L, 0 ≤ x ∧ (oAt os x).k ≠ 1 ∧ x.toNat < told.length) → L.Pairwise (· < ·) →
    Mins os L I (runO os most L (I, bits) told).2 (runO os most L (I, bits) told).1.1
  | [], I, bits, told, hI, hL, hp => ⟨⟨0, rfl⟩, fun x hx => (by cases hx), fun x hx => (by cases hx)⟩
  | k :: L, I, bits, told, hI, hL, hp => by
    obtain ⟨k0, k1, k2⟩ := hL k (List.mem_cons_self ..)
    have hp' := List.pairwise_cons.1 hp
    have hkL : ∀ x ∈ L, x.toNat ≠ k.toNat := fun x hx e => by
      have := hp'.1 x hx
      have := (hL x (List.mem_cons_of_mem _ hx)).1
      omega
    have hL' : ∀ told2 : List R, told2.length = told.length → ∀ x ∈ L, 0 ≤ x ∧ (oAt os x).k ≠ 1 ∧ x.toNat < told2.length := fun told2 e x hx => by rw [e]; exact hL x (List.mem_cons_of_mem _ hx)
    have hrun : runO os most (k :: L) (I, bits) told = runO os most L (stp most (I, bits) (oAt os k)).1 (told.set k.toNat (stp most (I, bits) (oAt os k)).2) := rfl
    rw [hrun]
    have common : ∀ (I1 : List (Int × Nat)) (r : R), Up I1 → (∃ d, I1 = I.drop d) → (r.c = 2 ∨ r.c = 4 ∨ r.c = 5) → (r.c = 2 → (∃ p ∈ I, p.1 = r.v) ∧ ∀ p ∈ I1, r.v ≤ p.1) → Mins os (k :: L) I (runO os most L (I1, bits) (told.set k.toNat r)).2 (runO os most L (I1, bits) (told.set k.toNat r)).1.1 := fun I1 r hU hs hc hv => by
      have ih := mins_run os most L I1 bits (told.set k.toNat r) hU (hL' _ (by rw [List.length_set])) hp'.2
      have hk : (runO os most L (I1, bits) (told.set k.toNat r)).2[k.toNat]? = some r := by rw [runO_ne os most L _ _ _ hkL, List.getElem?_set_self k2]
      obtain ⟨d1, hd1⟩ := ih.suf
      obtain ⟨d2, hd2⟩ := hs
      have hsub : ∀ p ∈ I1, p ∈ I := fun p hp => by rw [hd2] at hp; exact List.mem_of_mem_drop hp
      have hsub' : ∀ p ∈ (runO os most L (I1, bits) (told.set k.toNat r)).1.1, p ∈ I1 := fun p hp => by rw [hd1] at hp; exact List.mem_of_mem_drop hp
      refine ⟨⟨d2 + d1, by rw [hd1, hd2, List.drop_drop]⟩, fun x hx q hq => ?_, fun x hx y hy hxy a b ha hb hac hbc => ?_⟩
      · rcases List.mem_cons.1 hx with rfl | hx
        · rw [hk] at hq; cases hq
          exact ⟨hc, fun h2 => ⟨(hv h2).1, fun p hp => (hv h2).2 p (hsub' p hp)⟩⟩
        · obtain ⟨a1, a2⟩ := ih.code x hx q hq
          refine ⟨a1, fun h2 => ?_⟩
          obtain ⟨⟨p, hp, e⟩, a4⟩ := a2 h2
          exact ⟨⟨p, hsub p hp, e⟩, a4⟩
      · rcases List.mem_cons.1 hx with rfl | hx
        · rw [hk] at ha; cases ha
          rcases List.mem_cons.1 hy with rfl | hy
          · omega
          · obtain ⟨_, a2⟩ := ih.code y hy b hb
            obtain ⟨⟨p, hp, e⟩, _⟩ := a2 hbc
            rw [← e]
            exact (hv hac).2 p hp
        · rcases List.mem_cons.1 hy with e | hy
          · have := hp'.1 x hx; omega
          · exact ih.rise x hx y hy hxy a b ha hb hac hbc
    unfold stp
    rw [if_neg k1]
    by_cases hk2 : (oAt os k).k = 2
    · rw [if_pos hk2]
      cases I with
      | nil => exact common [] ⟨4, 0⟩ hI ⟨0, rfl⟩ (.inr (.inl rfl)) (fun h => by simp at h)
      | cons p I =>
        have hI' := List.pairwise_cons.1 hI
        exact common I ⟨2, p.1⟩ hI'.2 ⟨1, rfl⟩ (.inl rfl) (fun _ => ⟨⟨p, List.mem_cons_self .., rfl⟩, fun q hq => hI'.1 q hq⟩)
    · rw [if_neg hk2]
      exact common I ⟨5, 0⟩ hI ⟨0, rfl⟩ (.inr (.inr rfl)) (fun h => by simp at h)
theorem insI_up {l : List (Int × Nat)} (h : Up l) (v : Int) (T : Nat) : Up (insI l v T) := by
  unfold Up insI
  have h1 : ∀ a ∈ l.takeWhile (fun p => decide (p.1 ≤ v)), a.1 ≤ v := fun a ha => by
    have := List.all_eq_true.1 (List.all_takeWhile (p := fun p : Int × Nat => decide (p.1 ≤ v)) (l := l)) a ha
    simpa using this
  have hsplit := List.takeWhile_append_dropWhile (p := fun p : Int × Nat => decide (p.1 ≤ v)) (l := l)
  have hp : (l.takeWhile (fun p => decide (p.1 ≤ v)) ++ l.dropWhile (fun p => decide (p.1 ≤ v))).Pairwise fun a b => a.1 ≤ b.1 := by rw [hsplit]; exact h
  obtain ⟨p1, p2, p3⟩ := List.pairwise_append.1 hp
  have h2 : ∀ a ∈ l.dropWhile (fun p => decide (p.1 ≤ v)), v ≤ a.1 := fun a ha => by
    cases hd : l.dropWhile (fun p => decide (p.1 ≤ v)) with
    | nil => rw [hd] at ha; cases ha
    | cons q r =>
      have hq : ¬ q.1 ≤ v := by
        have := List.head?_dropWhile_not (fun p : Int × Nat => decide (p.1 ≤ v)) l
        rw [hd] at this
        simpa using this
      rw [hd] at ha p2
      rcases List.mem_cons.1 ha with rfl | ha
      · omega
      · have := (List.pairwise_cons.1 p2).1 a ha; omega
  refine List.pairwise_append.2 ⟨p1, List.pairwise_cons.2 ⟨h2, p2⟩, fun a ha b hb => ?_⟩
  rcases List.mem_cons.1 hb with rfl | hb
  · exact h1 a ha
  · exact p3 a ha b hb
theorem insAll_up : ∀ (q : List (Int × Int)) {l : List (Int × Nat)}, Up l → Up (insAll l q)
  | [], _, h => h
  | p :: q, l, h => insAll_up q (insI_up h p.1 (hOf p.2))
theorem insAll_len : ∀ (q : List (Int × Int)) (l : List (Int × Nat)), (insAll l q).length = l.length + q.length
  | [], _ => rfl
  | p :: q, l => by show (insAll (insI l p.1 (hOf p.2)) q).length = _; rw [insAll_len q, insI_len, List.length_cons]; omega
/-- all of it: those that put first -/
theorem doneO_eq (os : List O) (most : Int) (I : List (Int × Nat)) (bits : List Bool) (hm : (I.length : Int) ≤ most) : ∃ r : Nat, r ≤ (sPuts os).length ∧ (I.length : Int) + r ≤ most ∧ (r = (sPuts os).length ∨ most ≤ (I.length : Int) + r) ∧
    doneO os most (I, bits) = runO os most (others os) (insAll I ((((sPuts os).take r).map (keyV os)).zip (hsOf r bits).1), (hsOf r bits).2) (setAll ⟨3, 0⟩ ((sPuts os).drop r) (setAll ⟨1, 0⟩ ((sPuts os).take r) (List.replicate os.length ⟨0, 0⟩))) := by
  obtain ⟨r, hr⟩ : ∃ r : Nat, (r : Int) = if most - (I.length : Int) < ((sPuts os).length : Int) then most - (I.length : Int) else ((sPuts os).length : Int) := ⟨(if most - (I.length : Int) < ((sPuts os).length : Int) then most - (I.length : Int) else ((sPuts os).length : Int)).toNat, Int.toNat_of_nonneg (by split <;> omega)⟩
  have hr1 : r ≤ (sPuts os).length := by split at hr <;> omega
  have hr2 : (I.length : Int) + r ≤ most := by split at hr <;> omega
  have hr3 : r = (sPuts os).length ∨ most ≤ (I.length : Int) + r := by split at hr <;> omega
  have hlt1 : ((sPuts os).take r).length = r := by rw [List.length_take]; omega
  have hkp := fun x hx => (sPuts_mem os x hx).2.2
  refine ⟨r, hr1, hr2, hr3, ?_⟩
  unfold doneO
  have hp := run_put os most ((sPuts os).take r) (I, bits) (List.replicate os.length ⟨0, 0⟩) (fun x hx => hkp x (List.mem_of_mem_take hx)) (by simp only [hlt1]; exact hr2)
  simp only [hlt1] at hp
  have hsplit : sPuts os ++ others os = (sPuts os).take r ++ ((sPuts os).drop r ++ others os) := by rw [← List.append_assoc, List.take_append_drop]
  rw [hsplit, runO_append, hp, runO_append]
  have hfull : ∀ told, runO os most ((sPuts os).drop r) (insAll I ((((sPuts os).take r).map (keyV os)).zip (hsOf r bits).1), (hsOf r bits).2) told = ((insAll I ((((sPuts os).take r).map (keyV os)).zip (hsOf r bits).1), (hsOf r bits).2), setAll ⟨3, 0⟩ ((sPuts os).drop r) told) := fun told => by
    rcases hr3 with h3 | h3
    · rw [h3, List.drop_length]; rfl
    · exact run_full os most _ _ _ (fun x hx => hkp x (List.mem_of_mem_drop hx)) (by simp only [insAll_len, List.length_zip, List.length_map, hlt1, hsOf_len, Nat.min_self]; omega)
  rw [hfull]
theorem setAll_in (r : R) : ∀ (l : List Int) (told : List R) (x : Int), x ∈ l → x.toNat < told.length → (setAll r l told)[x.toNat]? = some r
  | k :: l, told, x, hx, hl => by
    show (setAll r l (told.set k.toNat r))[x.toNat]? = _
    by_cases hm : ∃ y ∈ l, y.toNat = x.toNat
    · obtain ⟨y, hy, e⟩ := hm
      have := setAll_in r l (told.set k.toNat r) y hy (by rw [List.length_set, e]; exact hl)
      rw [e] at this
      exact this
    · rw [setAll_ne r l _ _ fun y hy e => hm ⟨y, hy, e⟩]
      rcases List.mem_cons.1 hx with rfl | hx
      · exact List.getElem?_set_self hl
      · exact absurd ⟨x, hx, rfl⟩ hm
theorem others_up (os : List O) : (others os).Pairwise (· < ·) := by
  have : ∀ n : Nat, (restTo os n).Pairwise (· < ·) := fun n => by
    induction n with
    | zero => exact .nil
    | succ n ih =>
      simp only [restTo]
      split
      · exact ih
      · refine List.pairwise_append.2 ⟨ih, List.pairwise_singleton .., fun a ha b hb => ?_⟩
        rw [List.mem_singleton] at hb; subst hb
        exact (restTo_mem os n a ha).2.1
  exact this os.length
theorem place_in (os : List O) : ∀ (n k : Nat), k < n → (k : Int) ∈ putsTo os n ∨ (k : Int) ∈ restTo os n
  | 0, k, h => by omega
  | n + 1, k, h => by
    simp only [putsTo, restTo]
    rcases Nat.lt_or_ge k n with h1 | h1
    · rcases place_in os n k h1 with h2 | h2
      · left; split
        · exact List.mem_append_left _ h2
        · exact h2
      · right; split
        · exact h2
        · exact List.mem_append_left _ h2
    · obtain rfl : k = n := by omega
      by_cases hk : (oAt os (k : Int)).k = 1
      · left; rw [if_pos hk]; exact List.mem_append_right _ (List.mem_singleton.2 rfl)
      · right; rw [if_neg hk]; exact List.mem_append_right _ (List.mem_singleton.2 rfl)
/-- what is told, and what is left: SortedLeast -/
structure Least (os : List O) (told : List R) (I' : List (Int × Nat)) : Prop where
  put : ∀ (j k : Nat) (a b : R), told[k]? = some a → told[j]? = some b → a.c = 1 → b.c = 3 → (oAt os (k : Int)).v ≤ (oAt os (j : Int)).v
  rise : ∀ (j k : Nat) (a b : R), j < k → told[j]? = some a → told[k]? = some b → a.c = 2 → b.c = 2 → a.v ≤ b.v
  left : ∀ (k : Nat) (a : R), told[k]? = some a → a.c = 2 → ∀ p ∈ I', a.v ≤ p.1
  vals : ∀ (k : Nat) (a : R), told[k]? = some a → a.c = 2 → ∃ x ∈ os, x.v = a.v
theorem insI_mem {l : List (Int × Nat)} {v : Int} {T : Nat} {p : Int × Nat} (h : p ∈ insI l v T) : p = (v, T) ∨ p ∈ l := by
  unfold insI at h
  rcases List.mem_append.1 h with h | h
  · exact .inr (List.takeWhile_prefix _ |>.subset h)
  · rcases List.mem_cons.1 h with h | h
    · exact .inl h
    · exact .inr (List.dropWhile_suffix _ |>.subset h)
theorem insAll_mem : ∀ (q : List (Int × Int)) {l : List (Int × Nat)} {p : Int × Nat}, p ∈ insAll l q → p ∈ l ∨ ∃ x ∈ q, x.1 = p.1
  | [], _, _, h => .inl h
  | x :: q, l, p, h => by
    rcases insAll_mem q (l := insI l x.1 (hOf x.2)) h with h | ⟨y, hy, e⟩
    · rcases insI_mem h with rfl | h
      · exact .inr ⟨x, List.mem_cons_self .., rfl⟩
      · exact .inl h
    · exact .inr ⟨y, List.mem_cons_of_mem _ hy, e⟩
theorem doneO_least (os : List O) (most : Int) (bits : List Bool) (hm : 0 ≤ most) : Least os (doneO os most ([], bits)).2 (doneO os most ([], bits)).1.1 := by
  obtain ⟨r, r1, r2, r3, e⟩ := doneO_eq os most [] bits (by simpa using hm)
  rw [e]
  obtain ⟨I, hI⟩ : ∃ I, I = insAll [] ((((sPuts os).take r).map (keyV os)).zip (hsOf r bits).1) := ⟨_, rfl⟩
  obtain ⟨T, hT⟩ : ∃ T, T = setAll (⟨3, 0⟩ : R) ((sPuts os).drop r) (setAll ⟨1, 0⟩ ((sPuts os).take r) (List.replicate os.length ⟨0, 0⟩)) := ⟨_, rfl⟩
  rw [← hI, ← hT]
  have hTl : T.length = os.length := by rw [hT, setAll_len, setAll_len, List.length_replicate]
  have hom : ∀ x ∈ others os, 0 ≤ x ∧ (oAt os x).k ≠ 1 ∧ x.toNat < T.length := fun x hx => by
    have := restTo_mem os _ x hx
    exact ⟨this.1, this.2.2, by rw [hTl]; omega⟩
  have M := mins_run os most (others os) I (hsOf r bits).2 T (by rw [hI]; exact insAll_up _ .nil) hom (others_up os)
  have hnd := sPuts_nodup os
  have hmem : ∀ x ∈ sPuts os, 0 ≤ x ∧ x < (os.length : Int) := fun x hx => ⟨(sPuts_mem os x hx).1, (sPuts_mem os x hx).2.1⟩
  have hdis : ∀ x ∈ (sPuts os).take r, ∀ y ∈ (sPuts os).drop r, y.toNat ≠ x.toNat := fun x hx y hy e => by
    have a := hmem x (List.mem_of_mem_take hx)
    have b := hmem y (List.mem_of_mem_drop hy)
    have hxy : x = y := by omega
    have hnd' : ((sPuts os).take r ++ (sPuts os).drop r).Nodup := by rw [List.take_append_drop]; exact hnd
    exact (List.nodup_append.1 hnd').2.2 x hx y hy hxy
  have hputs : ∀ x ∈ sPuts os, (runO os most (others os) (I, (hsOf r bits).2) T).2[x.toNat]? = T[x.toNat]? := fun x hx => runO_ne os most _ _ _ _ fun y hy e => puts_others os y hy x hx (by have := hmem x hx; have := restTo_mem os _ y hy; omega)
  have hT1 : ∀ x ∈ (sPuts os).take r, T[x.toNat]? = some ⟨1, 0⟩ := fun x hx => by
    have := hmem x (List.mem_of_mem_take hx)
    rw [hT, setAll_ne _ _ _ _ fun y hy => hdis x hx y hy]
    exact setAll_in _ _ _ x hx (by rw [List.length_replicate]; omega)
  have hT3 : ∀ x ∈ (sPuts os).drop r, T[x.toNat]? = some ⟨3, 0⟩ := fun x hx => by
    have := hmem x (List.mem_of_mem_drop hx)
    rw [hT]
    exact setAll_in _ _ _ x hx (by rw [setAll_len, List.length_replicate]; omega)
  -- which kind of place it is
  have kind : ∀ (k : Nat) (a : R), (runO os most (others os) (I, (hsOf r bits).2) T).2[k]? = some a → ((k : Int) ∈ (sPuts os).take r ∧ a = ⟨1, 0⟩) ∨ ((k : Int) ∈ (sPuts os).drop r ∧ a = ⟨3, 0⟩) ∨ (k : Int) ∈ others os := fun k a ha => by
    have hk : k < os.length := by
      have := (List.getElem?_eq_some_iff.1 ha).1
      rwa [runO_len, hTl] at this
    rcases place_in os os.length k hk with h | h
    · have hs : (k : Int) ∈ sPuts os := (sPuts_perm os).mem_iff.2 h
      have hv := hputs _ hs
      rw [Int.toNat_natCast, ha] at hv
      rw [← List.take_append_drop r (sPuts os)] at hs
      rcases List.mem_append.1 hs with hs | hs
      · have := hT1 _ hs
        rw [Int.toNat_natCast, ← hv] at this
        exact .inl ⟨hs, Option.some.inj this⟩
      · have := hT3 _ hs
        rw [Int.toNat_natCast, ← hv] at this
        exact .inr (.inl ⟨hs, Option.some.inj this⟩)
    · exact .inr (.inr h)
  have code : ∀ (k : Nat) (a : R), (runO os most (others os) (I, (hsOf r bits).2) T).2[k]? = some a → (k : Int) ∈ others os → (a.c = 2 ∨ a.c = 4 ∨ a.c = 5) ∧ (a.c = 2 → (∃ p ∈ I, p.1 = a.v) ∧ ∀ p ∈ (runO os most (others os) (I, (hsOf r bits).2) T).1.1, a.v ≤ p.1) := fun k a ha hk => M.code (k : Int) hk a (by rw [Int.toNat_natCast]; exact ha)
  refine ⟨fun j k a b ha hb hac hbc => ?_, fun j k a b hjk ha hb hac hbc => ?_, fun k a ha hac p hp => ?_, fun k a ha hac => ?_⟩
  · rcases kind k a ha with ⟨h1, rfl⟩ | ⟨h1, rfl⟩ | h1
    · rcases kind j b hb with ⟨h2, rfl⟩ | ⟨h2, rfl⟩ | h2
      · simp at hbc
      · have hsd := sPuts_sd os
        rw [← List.take_append_drop r (sPuts os)] at hsd
        exact ((List.pairwise_append.1 hsd).2.2 _ h1 _ h2).of
      · have := (code j b hb h2).1; omega
    · simp at hac
    · have := (code k a ha h1).1; omega
  · have hj : (j : Int) ∈ others os := by
      rcases kind j a ha with ⟨_, rfl⟩ | ⟨_, rfl⟩ | h
      · simp at hac
      · simp at hac
      · exact h
    have hk : (k : Int) ∈ others os := by
      rcases kind k b hb with ⟨_, rfl⟩ | ⟨_, rfl⟩ | h
      · simp at hbc
      · simp at hbc
      · exact h
    exact M.rise _ hj _ hk (by omega) a b (by rw [Int.toNat_natCast]; exact ha) (by rw [Int.toNat_natCast]; exact hb) hac hbc
  · rcases kind k a ha with ⟨_, rfl⟩ | ⟨_, rfl⟩ | h
    · simp at hac
    · simp at hac
    · exact ((code k a ha h).2 hac).2 p hp
  · rcases kind k a ha with ⟨_, rfl⟩ | ⟨_, rfl⟩ | h
    · simp at hac
    · simp at hac
    · obtain ⟨⟨p, hp, e⟩, _⟩ := (code k a ha h).2 hac
      rw [hI] at hp
      rcases insAll_mem _ hp with h0 | ⟨q, hq, e2⟩
      · cases h0
      · have hq1 := (List.of_mem_zip (show (q.1, q.2) ∈ _ from hq)).1
        obtain ⟨x, hx, e3⟩ := List.mem_map.1 hq1
        have hx0 := hmem x (List.mem_of_mem_take hx)
        refine ⟨oAt os x, ?_, ?_⟩
        · unfold oAt
          rw [List.getD_eq_getElem?_getD, List.getElem?_eq_getElem (by omega)]
          exact List.getElem_mem _
        · rw [← e, ← e2, ← e3]; rfl
end Go.Proofs.Try
