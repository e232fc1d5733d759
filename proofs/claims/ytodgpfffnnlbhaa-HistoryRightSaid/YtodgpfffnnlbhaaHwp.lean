import Derived.Test.YtodgpfffnnlbhaaHpl
/-! the plain law of history: logs that are bent are told -/
set_option linter.unusedVariables false
set_option linter.unusedSimpArgs false
namespace Go.Proofs.Try
open Go.L Go.Rp
set_option maxRecDepth 100000
theorem n2_of_n4 {x y : Ap} (h : n4A x = n4A y) : n2A x = n2A y := by
  injection h with h1 h2 h3 h4
  show (⟨x.th, x.sq⟩ : N2) = ⟨y.th, y.sq⟩
  rw [h1, h2]
/-- two places of one order are told apart by their names -/
theorem log_n2 {o m : Int} {os : List O} {k i j : Nat} {x y : Ap} (hx : (logTo o m os k)[i]? = some x) (hy : (logTo o m os k)[j]? = some y) (e : n2A x = n2A y) : i = j := by
  obtain ⟨_, rfl⟩ := log_get hx
  obtain ⟨_, rfl⟩ := log_get hy
  injection e with e1 e2
  exact name_inj e1 e2
/-- a log whose entries are those of a right one, each another one -/
theorem once_of {o m : Int} {os : List O} {n : Nat} {g : List Ap} (f : Nat → Nat) (hf : ∀ i j, i < j → f i ≠ f j) (h : ∀ (k : Nat) x, g[k]? = some x → ∃ y, (logTo o m os n)[f k]? = some y ∧ n4A y = n4A x) : OnceP g := by
  intro i j x y hij hx hy e
  obtain ⟨x', hx', ex⟩ := h i x hx
  obtain ⟨y', hy', ey⟩ := h j y hy
  have e' : n2A x' = n2A y' := (n2_of_n4 ex).trans (e.trans (n2_of_n4 ey).symm)
  exact hf i j hij (log_n2 hx' hy' e')
theorem verdict_lack {o m : Int} {os : List O} {l : List Sp} (F : Fine o m os l) {i : Nat} {s : Sp} (hs : l[i]? = some s) (h0 : 0 ≤ s.to) : verdict o m ((logTo o m os os.length).eraseIdx i) l = 21 := by
  have h1 : OnceP ((logTo o m os os.length).eraseIdx i) := by
    refine once_of (fun k => if k < i then k else k + 1) (fun a b hab => by split <;> split <;> omega) (o := o) (m := m) (os := os) (n := os.length) fun k x hx => ⟨x, ?_, rfl⟩
    rw [List.getElem?_eraseIdx] at hx
    split at hx
    · rename_i hk; rw [if_pos hk]; exact hx
    · rename_i hk; rw [if_neg hk]; exact hx
  have h2 : ¬ WholeP ((logTo o m os os.length).eraseIdx i) l := by
    rintro ⟨_, h⟩
    rcases h s (List.mem_of_getElem? hs) with ⟨x, hx, e⟩ | h
    · obtain ⟨j, hj, hxj⟩ := List.mem_eraseIdx_iff_getElem?.1 hx
      obtain ⟨_, rfl⟩ := log_get hxj
      rw [(F.at_ i s hs).1] at e
      exact hj (nameK_inj (os := os) e)
    · omega
  simp [verdict, h1, h2]
theorem verdict_twice {o m : Int} {os : List O} {l : List Sp} {i : Nat} {x : Ap} (hx : (logTo o m os os.length)[i]? = some x) : verdict o m (logTo o m os os.length ++ [x]) l = 20 := by
  have hi := (List.getElem?_eq_some_iff.1 hx).1
  have h1 : ¬ OnceP (logTo o m os os.length ++ [x]) := fun h =>
    h i (logTo o m os os.length).length x x hi (by rw [List.getElem?_append_left hi]; exact hx) (by rw [List.getElem?_append_right (Nat.le_refl _), Nat.sub_self]; rfl) rfl
  simp [verdict, h1]
/-- the names are those of the right log, each once -/
structure Named (o m : Int) (os : List O) (g : List Ap) (f : Nat → Nat) : Prop where
  len : g.length = os.length
  inj : ∀ i j, i < j → f i ≠ f j
  to_ : ∀ (k : Nat) x, g[k]? = some x → ∃ y, (logTo o m os os.length)[f k]? = some y ∧ n4A y = n4A x
  from_ : ∀ (k : Nat), k < os.length → ∃ j, j < os.length ∧ f j = k
theorem Named.once {o m : Int} {os : List O} {g : List Ap} {f : Nat → Nat} (h : Named o m os g f) : OnceP g := once_of f h.inj h.to_
theorem Named.whole {o m : Int} {os : List O} {l : List Sp} (F : Fine o m os l) {g : List Ap} {f : Nat → Nat} (h : Named o m os g f) : WholeP g l := by
  refine ⟨fun x hx => ?_, fun s hs => .inl ?_⟩
  · obtain ⟨k, hk⟩ := List.mem_iff_getElem?.1 hx
    obtain ⟨y, hy, e⟩ := h.to_ k x hk
    obtain ⟨hl, rfl⟩ := log_get hy
    obtain ⟨s, hs⟩ : ∃ s, l[f k]? = some s := ⟨_, List.getElem?_eq_getElem (by rw [F.len]; omega)⟩
    exact ⟨s, List.mem_of_getElem? hs, (F.at_ _ s hs).1.trans e⟩
  · obtain ⟨k, hk⟩ := List.mem_iff_getElem?.1 hs
    have hkl : k < os.length := by have := (List.getElem?_eq_some_iff.1 hk).1; rwa [F.len] at this
    obtain ⟨j, hj, rfl⟩ := h.from_ k hkl
    obtain ⟨x, hx⟩ : ∃ x, g[j]? = some x := ⟨_, List.getElem?_eq_getElem (by rw [h.len]; exact hj)⟩
    obtain ⟨y, hy, e⟩ := h.to_ j x hx
    obtain ⟨hl, rfl⟩ := log_get hy
    exact ⟨x, List.mem_of_getElem? hx, e.symm.trans (F.at_ _ s hk).1.symm⟩
/-- two neighbours turned -/
def swap1 (i k : Nat) : Nat := if k = i then i + 1 else if k = i + 1 then i else k
theorem verdict_turned {o m : Int} {os : List O} {l : List Sp} (F : Fine o m os l) {i : Nat} {x y : Ap} {s t : Sp} (hx : (logTo o m os os.length)[i]? = some x) (hy : (logTo o m os os.length)[i + 1]? = some y) (hs : l[i]? = some s) (ht : l[i + 1]? = some t) (hA : Ahead s t) :
    verdict o m (((logTo o m os os.length).set i y).set (i + 1) x) l = 22 := by
  have hi := (List.getElem?_eq_some_iff.1 hy).1
  have hll := logTo_len o m os os.length
  have g1 : (((logTo o m os os.length).set i y).set (i + 1) x)[i]? = some y := by
    rw [List.getElem?_set_ne (by omega)]; exact List.getElem?_set_self (by omega)
  have g2 : (((logTo o m os os.length).set i y).set (i + 1) x)[i + 1]? = some x := List.getElem?_set_self (by rw [List.length_set]; exact hi)
  have N : Named o m os (((logTo o m os os.length).set i y).set (i + 1) x) (swap1 i) := by
    refine ⟨by rw [List.length_set, List.length_set, hll], fun a b hab => by unfold swap1; split <;> split <;> (try split) <;> (try split) <;> omega, fun k z hz => ⟨z, ?_, rfl⟩, fun k hk => ⟨swap1 i k, ?_, ?_⟩⟩
    · unfold swap1
      by_cases h1 : k = i
      · subst h1; rw [if_pos rfl, ← hz, g1]; exact hy
      · rw [if_neg h1]
        by_cases h2 : k = i + 1
        · subst h2; rw [if_pos rfl, ← hz, g2]; exact hx
        · rw [if_neg h2, ← hz, List.getElem?_set_ne (by omega), List.getElem?_set_ne (by omega)]
    · unfold swap1; rw [hll] at hi; split <;> (try split) <;> omega
    · unfold swap1; split <;> (try split) <;> (try split) <;> (try split) <;> omega
  have h3 : ¬ TimelyP (((logTo o m os os.length).set i y).set (i + 1) x) l := fun h => by
    obtain ⟨_, rfl⟩ := log_get hx
    obtain ⟨_, rfl⟩ := log_get hy
    exact h i (i + 1) _ _ s t (by omega) g2 g1 (F.first hs) (F.first ht) hA
  simp [verdict, N.once, N.whole F, h3]
theorem verdict_other {o m : Int} {os : List O} {l : List Sp} (F : Fine o m os l) {i : Nat} {x : Ap} (hx : (logTo o m os os.length)[i]? = some x) (r : R) (hr : r ≠ x.res) :
    verdict o m ((logTo o m os os.length).set i { x with res := r }) l = 23 := by
  have hi := (List.getElem?_eq_some_iff.1 hx).1
  have hll := logTo_len o m os os.length
  have to_ : ∀ (k : Nat) z, ((logTo o m os os.length).set i { x with res := r })[k]? = some z → ∃ y, (logTo o m os os.length)[k]? = some y ∧ n4A y = n4A z := fun k z hz => by
    rw [List.getElem?_set] at hz
    split at hz
    · rename_i e; subst e
      cases hz; exact ⟨x, hx, rfl⟩
    · exact ⟨z, hz, rfl⟩
  have N : Named o m os ((logTo o m os os.length).set i { x with res := r }) (fun k => k) :=
    ⟨by rw [List.length_set, hll], fun a b hab => by omega, to_, fun k hk => ⟨k, hk, rfl⟩⟩
  have h3 : TimelyP ((logTo o m os os.length).set i { x with res := r }) l := by
    intro j k a b s t hjk ha hb hs ht
    obtain ⟨a', ha', ea⟩ := to_ _ _ ha
    obtain ⟨b', hb', eb⟩ := to_ _ _ hb
    exact F.timely (Nat.le_refl _) j k a' b' s t hjk ha' hb' (by rw [ea]; exact hs) (by rw [eb]; exact ht)
  have hops : ((logTo o m os os.length).set i { x with res := r }).map Ap.op = os := by
    rw [List.map_set]
    show ((logTo o m os os.length).map Ap.op).set i x.op = os
    have e1 := log_ops o m os os.length (Nat.le_refl _)
    rw [List.take_length] at e1
    rw [e1]
    have e2 : os[i]? = some x.op := by rw [← e1, List.getElem?_map, hx]; rfl
    apply List.ext_getElem?
    intro j
    rw [List.getElem?_set]
    split
    · rename_i e; subst e
      rw [if_pos (by rw [hll] at hi; exact hi), e2]
    · rfl
  have h4 : ¬ RightP o m ((logTo o m os os.length).set i { x with res := r }) l := fun h => by
    obtain ⟨hil, rfl⟩ := log_get hx
    obtain ⟨s, hs⟩ : ∃ s, l[i]? = some s := ⟨_, List.getElem?_eq_getElem (by rw [F.len]; omega)⟩
    have hr1 : (toldOf o m ((logTo o m os os.length).set i { logAt i (opK os i) (resK' o m os i) with res := r }))[i]? = some (resK' o m os i) := by
      unfold toldOf
      rw [hops]
      have := run_get o m os os.length i (Nat.le_refl _) hil
      rwa [List.take_length] at this
    exact hr (h i _ _ s (List.getElem?_set_self hi) hr1 (F.first hs)).1.symm
  simp [verdict, N.once, N.whole F, h3, h4]
/-- spans turned to the place's own moment -/
theorem Fine.turn {o m : Int} {os : List O} {l : List Sp} (F : Fine o m os l) {j : Nat} {s : Sp} (hs : l[j]? = some s) (h0 : 0 ≤ s.to) : Fine o m os (l.set j { s with to := 4 * (j : Int) }) := by
  refine ⟨by rw [List.length_set]; exact F.len, fun k t ht => ?_⟩
  rw [List.getElem?_set] at ht
  split at ht
  · rename_i e; subst e
    split at ht
    · cases ht
      have := F.at_ j s hs
      refine ⟨this.1, this.2.1, .inr ⟨Int.le_refl _, ?_⟩⟩
      rcases this.2.2 with h | h
      · omega
      · exact h.2
    · cases ht
  · exact F.at_ k t ht
end Go.Proofs.Try
