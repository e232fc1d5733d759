import Derived.Test.YtodgpfffnnlbhaaHc5
import Derived.Test.YtodgpfffnnlbhaaHs1
import Derived.Test.YtodgpfffnnlbhaaHc1
/-! the plain law of history: what holds of the spans and the log of choices -/
set_option linter.unusedVariables false
set_option linter.unusedSimpArgs false
namespace Go.Proofs.Try
open Go.L Go.Rp
set_option maxRecDepth 100000
theorem logTo_get (o m : Int) (os : List O) : ∀ (k j : Nat), j < k → (logTo o m os k)[j]? = some (logAt j (os.getD j ⟨0, 0⟩) (apply o m (run o m [] (os.take j)).1 (os.getD j ⟨0, 0⟩)).2)
  | 0, j, h => by omega
  | k + 1, j, h => by
    simp only [logTo]
    rcases Nat.lt_or_ge j k with hj | hj
    · rw [List.getElem?_append_left (by rw [logTo_len]; exact hj)]
      exact logTo_get o m os k j hj
    · obtain rfl : j = k := by omega
      rw [List.getElem?_append_right (by rw [logTo_len]; exact Nat.le_refl _), logTo_len, Nat.sub_self]
      rfl
theorem spansTo_get (o m : Int) (os : List O) (d : List Int) : ∀ (k j : Nat), j < k → (spansTo o m os d k)[j]? = some (spanAt d j (os.getD j ⟨0, 0⟩) (apply o m (run o m [] (os.take j)).1 (os.getD j ⟨0, 0⟩)).2)
  | 0, j, h => by omega
  | k + 1, j, h => by
    simp only [spansTo]
    rcases Nat.lt_or_ge j k with hj | hj
    · rw [List.getElem?_append_left (by rw [spansTo_len]; exact hj)]
      exact spansTo_get o m os d k j hj
    · obtain rfl : j = k := by omega
      rw [List.getElem?_append_right (by rw [spansTo_len]; exact Nat.le_refl _), spansTo_len, Nat.sub_self]
      rfl
/-- the name of a place -/
theorem name_inj {j k : Nat} (h1 : (j : Int) % 3 = (k : Int) % 3) (h2 : (j : Int) / 3 + 1 = (k : Int) / 3 + 1) : j = k := by omega
theorem spanAt_name (d : List Int) (k : Nat) (o : O) (r : R) : n4S (spanAt d k o r) = ⟨(k : Int) % 3, (k : Int) / 3 + 1, o.k, o.v⟩ := by
  unfold spanAt
  split
  · rfl
  · split <;> rfl
theorem logAt_name (k : Nat) (o : O) (r : R) : n4A (logAt k o r) = ⟨(k : Int) % 3, (k : Int) / 3 + 1, o.k, o.v⟩ := rfl
theorem firstK_at {l : List Sp} {k : Nat} {s : Sp} (hs : l[k]? = some s) (hd : ∀ (j : Nat) t, j < k → l[j]? = some t → n4S t ≠ n4S s) : firstK l (n4S s) = some k := by
  obtain ⟨hk, hs'⟩ := List.getElem?_eq_some_iff.1 hs
  unfold firstK
  rw [List.findIdx?_eq_some_iff_getElem]
  refine ⟨hk, by simp [hs'], fun j hj => ?_⟩
  have := hd j l[j] hj (List.getElem?_eq_getElem (by omega))
  simpa using this
end Go.Proofs.Try
/-! the plain law of history: a log that is right is proved -/
set_option linter.unusedVariables false
set_option linter.unusedSimpArgs false
namespace Go.Proofs.Try
open Go.L Go.Rp
set_option maxRecDepth 100000
/-- the operation and the result at a place -/
def opK (os : List O) (j : Nat) : O := os.getD j ⟨0, 0⟩
def resK' (o m : Int) (os : List O) (j : Nat) : R := (apply o m (run o m [] (os.take j)).1 (opK os j)).2
def nameK (os : List O) (j : Nat) : N4 := ⟨(j : Int) % 3, (j : Int) / 3 + 1, (opK os j).k, (opK os j).v⟩
theorem nameK_inj {os : List O} {i j : Nat} (h : nameK os i = nameK os j) : i = j := by
  injection h with h1 h2 h3 h4
  exact name_inj h1 h2
/-- spans as an order tells, each about its place -/
structure Fine (o m : Int) (os : List O) (l : List Sp) : Prop where
  len : l.length = os.length
  at_ : ∀ (j : Nat) s, l[j]? = some s → n4S s = nameK os j ∧ s.fr ≤ 4 * (j : Int) ∧ (s.to < 0 ∨ (4 * (j : Int) ≤ s.to ∧ s.res = resK' o m os j))
theorem Fine.first {o m : Int} {os : List O} {l : List Sp} (F : Fine o m os l) {j : Nat} {s : Sp} (hs : l[j]? = some s) : FirstS l (nameK os j) s := by
  refine ⟨j, ?_, hs⟩
  rw [← (F.at_ j s hs).1]
  refine firstK_at hs fun i t hi ht e => ?_
  rw [(F.at_ i t ht).1, (F.at_ j s hs).1] at e
  have := nameK_inj e
  omega
theorem log_get {o m : Int} {os : List O} {k i : Nat} {x : Ap} (h : (logTo o m os k)[i]? = some x) : i < k ∧ x = logAt i (opK os i) (resK' o m os i) := by
  have hi : i < k := by have := (List.getElem?_eq_some_iff.1 h).1; rwa [logTo_len] at this
  rw [logTo_get o m os k i hi] at h
  exact ⟨hi, (Option.some.inj h).symm⟩
theorem fine_once (o m : Int) (os : List O) (k : Nat) : OnceP (logTo o m os k) := by
  intro i j x y hij hx hy e
  obtain ⟨_, rfl⟩ := log_get hx
  obtain ⟨_, rfl⟩ := log_get hy
  injection e with e1 e2
  have := name_inj e1 e2
  omega
theorem Fine.whole {o m : Int} {os : List O} {l : List Sp} (F : Fine o m os l) {k : Nat} (hk : k ≤ os.length) (hp : ∀ (j : Nat) s, k ≤ j → l[j]? = some s → s.to < 0) : WholeP (logTo o m os k) l := by
  refine ⟨fun x hx => ?_, fun s hs => ?_⟩
  · obtain ⟨i, hi⟩ := List.mem_iff_getElem?.1 hx
    obtain ⟨hik, rfl⟩ := log_get hi
    obtain ⟨s, hs⟩ : ∃ s, l[i]? = some s := ⟨_, List.getElem?_eq_getElem (by rw [F.len]; omega)⟩
    exact ⟨s, List.mem_of_getElem? hs, (F.at_ i s hs).1⟩
  · obtain ⟨i, hi⟩ := List.mem_iff_getElem?.1 hs
    rcases Nat.lt_or_ge i k with hik | hik
    · exact .inl ⟨_, List.mem_of_getElem? (logTo_get o m os k i hik), (F.at_ i s hi).1.symm⟩
    · exact .inr (hp i s hik hi)
theorem Fine.timely {o m : Int} {os : List O} {l : List Sp} (F : Fine o m os l) {k : Nat} (hk : k ≤ os.length) : TimelyP (logTo o m os k) l := by
  intro j i x y s t hji hx hy hs ht hA
  obtain ⟨hik, rfl⟩ := log_get hx
  obtain ⟨hjk, rfl⟩ := log_get hy
  obtain ⟨s', hs'⟩ : ∃ s, l[i]? = some s := ⟨_, List.getElem?_eq_getElem (by rw [F.len]; omega)⟩
  obtain ⟨t', ht'⟩ : ∃ s, l[j]? = some s := ⟨_, List.getElem?_eq_getElem (by rw [F.len]; omega)⟩
  obtain rfl := hs.one (F.first hs')
  obtain rfl := ht.one (F.first ht')
  have a := F.at_ i s hs'
  have b := F.at_ j t ht'
  obtain ⟨h1, h2⟩ := hA
  rcases a.2.2 with h | h <;> omega
theorem log_ops (o m : Int) (os : List O) : ∀ k, k ≤ os.length → (logTo o m os k).map Ap.op = os.take k
  | 0, _ => by simp [logTo]
  | k + 1, h => by
    obtain ⟨x, hx⟩ : ∃ x, os[k]? = some x := ⟨_, List.getElem?_eq_getElem (by omega)⟩
    have hg : os.getD k ⟨0, 0⟩ = x := by rw [List.getD_eq_getElem?_getD, hx]; rfl
    simp only [logTo, List.map_append, log_ops o m os k (by omega), List.take_add_one, hx, hg]
    rfl
theorem run_get (o m : Int) (os : List O) : ∀ (k i : Nat), k ≤ os.length → i < k → (run o m [] (os.take k)).2[i]? = some (resK' o m os i)
  | 0, i, _, h => by omega
  | k + 1, i, h, hi => by
    obtain ⟨x, hx⟩ : ∃ x, os[k]? = some x := ⟨_, List.getElem?_eq_getElem (by omega)⟩
    have hg : opK os k = x := by unfold opK; rw [List.getD_eq_getElem?_getD, hx]; rfl
    have hl : (run o m [] (os.take k)).2.length = k := by rw [(run_len o m (os.take k) []).2, List.length_take]; omega
    rw [run_take o m [] os k x hx]
    rcases Nat.lt_or_ge i k with hik | hik
    · rw [List.getElem?_append_left (by rw [hl]; exact hik)]
      exact run_get o m os k i (by omega) hik
    · obtain rfl : i = k := by omega
      rw [List.getElem?_append_right (by rw [hl]; exact Nat.le_refl _), hl, Nat.sub_self]
      unfold resK'
      rw [hg]
      rfl
theorem Fine.right {o m : Int} {os : List O} {l : List Sp} (F : Fine o m os l) {k : Nat} (hk : k ≤ os.length) : RightP o m (logTo o m os k) l := by
  intro i x r s hx hr hs
  obtain ⟨hik, rfl⟩ := log_get hx
  have hr' : (run o m [] (os.take k)).2[i]? = some r := by rw [← log_ops o m os k hk]; exact hr
  rw [run_get o m os k i hk hik] at hr'
  obtain rfl := Option.some.inj hr'
  obtain ⟨s', hs'⟩ : ∃ s, l[i]? = some s := ⟨_, List.getElem?_eq_getElem (by rw [F.len]; omega)⟩
  obtain rfl := hs.one (F.first hs')
  exact ⟨rfl, (F.at_ i s hs').2.2.imp id (fun h => h.2)⟩
theorem Fine.verdict {o m : Int} {os : List O} {l : List Sp} (F : Fine o m os l) {k : Nat} (hk : k ≤ os.length) (hp : ∀ (j : Nat) s, k ≤ j → l[j]? = some s → s.to < 0) : verdict o m (logTo o m os k) l = 0 := by
  simp [Go.Proofs.Try.verdict, fine_once, F.whole hk hp, F.timely hk, F.right hk]
theorem spans_fine (o m : Int) (os : List O) (d : List Int) (hd : ∀ y ∈ d, 0 ≤ y ∧ y < 256) : Fine o m os (spansTo o m os d os.length) := by
  refine ⟨spansTo_len _ _ _ _ _, fun j s hs => ?_⟩
  have hj : j < os.length := by have := (List.getElem?_eq_some_iff.1 hs).1; rwa [spansTo_len] at this
  rw [spansTo_get o m os d os.length j hj] at hs
  obtain rfl := Option.some.inj hs
  refine ⟨spanAt_name _ _ _ _, ?_⟩
  unfold spanAt
  split
  · exact ⟨by show max 0 _ ≤ _; omega, .inr ⟨by show _ ≤ (4 * (j : Int) + 1); omega, rfl⟩⟩
  · rename_i x hx
    have := hd x (List.mem_of_getElem? hx)
    split
    · exact ⟨by show max 0 _ ≤ _; omega, .inl (by show (-1 : Int) < 0; omega)⟩
    · exact ⟨by show max 0 _ ≤ _; omega, .inr ⟨by show _ ≤ (4 * (j : Int) + x / 9 % 9); omega, rfl⟩⟩
/-- without an answer -/
def pendS (s : Sp) : Sp := { s with to := -1, res := ⟨0, 0⟩ }
/-- those from a place on without an answer -/
def frontS (l : List Sp) (k : Nat) : List Sp := l.take k ++ (l.drop k).map pendS
theorem frontS_get (l : List Sp) (k j : Nat) : (frontS l k)[j]? = if j < k then l[j]? else (l[j]?).map pendS := by
  unfold frontS
  by_cases h : j < k
  · rw [if_pos h]
    by_cases hl : j < l.length
    · rw [List.getElem?_append_left (by rw [List.length_take]; omega), List.getElem?_take, if_pos h]
    · have e : l[j]? = none := List.getElem?_eq_none (by omega)
      rw [e]
      exact List.getElem?_eq_none (by rw [List.length_append, List.length_take, List.length_map, List.length_drop]; omega)
  · rw [if_neg h]
    by_cases hl : k ≤ l.length
    · rw [List.getElem?_append_right (by rw [List.length_take]; omega), List.length_take, Nat.min_eq_left hl, List.getElem?_map, List.getElem?_drop]
      congr 2
      omega
    · have e : l[j]? = none := List.getElem?_eq_none (by omega)
      rw [e]
      exact List.getElem?_eq_none (by rw [List.length_append, List.length_take, List.length_map, List.length_drop]; omega)
theorem Fine.front {o m : Int} {os : List O} {l : List Sp} (F : Fine o m os l) (k : Nat) : Fine o m os (frontS l k) := by
  refine ⟨by unfold frontS; rw [List.length_append, List.length_take, List.length_map, List.length_drop, ← F.len]; omega, fun j s hs => ?_⟩
  rw [frontS_get] at hs
  split at hs
  · exact F.at_ j s hs
  · obtain ⟨t, ht, rfl⟩ := Option.map_eq_some_iff.1 hs
    have := F.at_ j t ht
    exact ⟨this.1, this.2.1, .inl (by show (-1 : Int) < 0; omega)⟩
end Go.Proofs.Try
