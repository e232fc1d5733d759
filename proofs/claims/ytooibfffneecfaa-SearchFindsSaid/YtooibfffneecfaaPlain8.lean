import Derived.Test.YtooibfffneecfaaPlain4
/-! spans moved in time, and more that is pending -/
namespace Go.Rp
def shift (t : Int) (s : Sp) : Sp := { s with fr := s.fr + t, to := if 0 ≤ s.to then s.to + t else s.to }
theorem before_shift {t : Int} (ht : 0 ≤ t) (y x : Sp) : before (shift t y) (shift t x) = before y x := by
  unfold before shift
  by_cases h : 0 ≤ y.to
  · have h1 : 0 ≤ y.to + t := by omega
    simp only [h, h1, if_true, decide_true, Bool.true_and]
    congr 1
    rw [eq_iff_iff]
    omega
  · simp only [h, if_false, decide_false, Bool.false_and]
theorem shift_to {t : Int} (ht : 0 ≤ t) (s : Sp) : 0 ≤ (shift t s).to ↔ 0 ≤ s.to := by
  unfold shift
  simp only
  split <;> omega
theorem get_shift {t : Int} {l : List Sp} {k : Nat} {s : Sp} (h : (l.map (shift t))[k]? = some s) : ∃ s0, l[k]? = some s0 ∧ s = shift t s0 := by
  rw [List.getElem?_map] at h
  cases hl : l[k]? with
  | none => rw [hl] at h; cases h
  | some s0 => rw [hl] at h; cases h; exact ⟨s0, rfl, rfl⟩
theorem opAt_shift (t : Int) (l : List Sp) : opAt (l.map (shift t)) = opAt l := by
  funext n
  unfold opAt
  rw [List.getD_eq_getElem?_getD, List.getD_eq_getElem?_getD, List.getElem?_map]
  cases l[n.toNat]? <;> rfl
theorem fit_shift {object m t : Int} {l : List Sp} {order : List Int} (ht : 0 ≤ t) : Fit object m (l.map (shift t)) order ↔ Fit object m l order := by
  constructor
  · intro h
    refine ⟨fun k n hk => by simpa using h.inr k n hk, h.once, fun j k a b x y hjk h1 h2 hx hy => ?_, fun k s hs h0 => ?_, fun k n s hk hs h0 => ?_⟩
    · have := h.ahead j k a b (shift t x) (shift t y) hjk h1 h2 (by rw [List.getElem?_map, hx]; rfl) (by rw [List.getElem?_map, hy]; rfl)
      rwa [before_shift ht] at this
    · exact h.whole k (shift t s) (by rw [List.getElem?_map, hs]; rfl) ((shift_to ht s).2 h0)
    · have := h.told k n (shift t s) hk (by rw [List.getElem?_map, hs]; rfl) ((shift_to ht s).2 h0)
      unfold toldOf at this ⊢
      rw [opAt_shift] at this
      exact this
  · intro h
    refine ⟨fun k n hk => by simpa using h.inr k n hk, h.once, fun j k a b x y hjk h1 h2 hx hy => ?_, fun k s hs h0 => ?_, fun k n s hk hs h0 => ?_⟩
    · obtain ⟨x0, hx0, rfl⟩ := get_shift hx
      obtain ⟨y0, hy0, rfl⟩ := get_shift hy
      rw [before_shift ht]
      exact h.ahead j k a b x0 y0 hjk h1 h2 hx0 hy0
    · obtain ⟨s0, hs0, rfl⟩ := get_shift hs
      exact h.whole k s0 hs0 ((shift_to ht s0).1 h0)
    · obtain ⟨s0, hs0, rfl⟩ := get_shift hs
      have := h.told k n s0 hk hs0 ((shift_to ht s0).1 h0)
      unfold toldOf at this ⊢
      rw [opAt_shift]
      exact this
theorem fit_more {object m : Int} {l : List Sp} {p : Sp} {order : List Int} (hp : ¬ 0 ≤ p.to) (h : Fit object m l order) : Fit object m (l ++ [p]) order := by
  have hget : ∀ {k : Nat} {n : Int}, order[k]? = some n → (l ++ [p])[n.toNat]? = l[n.toNat]? := fun {k n} hk => by
    have := h.inr k n hk
    rw [List.getElem?_append_left (by omega)]
  refine ⟨fun k n hk => ?_, h.once, fun j k a b x y hjk h1 h2 hx hy => ?_, fun k s hs h0 => ?_, fun k n s hk hs h0 => ?_⟩
  · have := h.inr k n hk
    rw [List.length_append, List.length_singleton]
    omega
  · rw [hget h1] at hx
    rw [hget h2] at hy
    exact h.ahead j k a b x y hjk h1 h2 hx hy
  · rw [List.getElem?_append] at hs
    split at hs
    · exact h.whole k s hs h0
    · have hlt := (List.getElem?_eq_some_iff.1 hs).1
      simp at hlt
      rw [hlt] at hs
      simp at hs
      subst hs
      exact absurd h0 hp
  · rw [hget hk] at hs
    have := h.told k n s hk hs h0
    have he : order.map (opAt (l ++ [p])) = order.map (opAt l) := List.map_congr_left fun a ha => by
      obtain ⟨i, hi⟩ := List.mem_iff_getElem?.1 ha
      unfold opAt
      rw [List.getD_eq_getElem?_getD, List.getD_eq_getElem?_getD, hget hi]
    unfold toldOf at this ⊢
    rw [he]
    exact this
/-- numbers of the spans of choices are small -/
theorem spanAt_small (d : List Int) (k : Nat) (o : O) (r : R) (hd : ∀ x ∈ d, 0 ≤ x) : 0 ≤ (spanAt d k o r).fr ∧ (spanAt d k o r).fr ≤ 4 * k ∧ -1 ≤ (spanAt d k o r).to ∧ (spanAt d k o r).to ≤ 4 * k + 9 := by
  unfold spanAt
  split
  · simp only; omega
  · rename_i x hx
    have := hd x (List.mem_of_getElem? hx)
    split <;> (simp only; omega)
theorem spans_small {object m : Int} {c d : List Int} (hd : ∀ x ∈ d, 0 ≤ x) : ∀ y ∈ spans object m c d, 0 ≤ y.fr ∧ y.fr ≤ 100 ∧ -1 ≤ y.to ∧ y.to ≤ 100 := by
  intro y hy
  obtain ⟨k, hk⟩ := List.mem_iff_getElem?.1 hy
  have hlt := (List.getElem?_eq_some_iff.1 hk).1
  rw [spans_len] at hlt
  rw [spans_get hlt] at hk
  cases hk
  have := spanAt_small d k ((done c).getD k ⟨0, 0⟩) (apply object m (run object m [] ((done c).take k)).1 ((done c).getD k ⟨0, 0⟩)).2 hd
  have := done_len c
  omega
theorem done_v {c : List Int} (hc : ∀ x ∈ c, 0 ≤ x ∧ x ≤ 255) : ∀ o ∈ done c, -9 ≤ o.v ∧ o.v ≤ 22 := by
  intro o ho
  unfold done ops at ho
  obtain ⟨x, hx, rfl⟩ := List.mem_map.1 (List.mem_of_mem_take ho)
  have := hc x (List.mem_of_mem_take hx)
  unfold opOf
  simp only
  omega
theorem spans_v {object m : Int} {c d : List Int} (hc : ∀ x ∈ c, 0 ≤ x ∧ x ≤ 255) : ∀ y ∈ spans object m c d, -9 ≤ y.op.v ∧ y.op.v ≤ 22 := by
  intro y hy
  obtain ⟨k, hk⟩ := List.mem_iff_getElem?.1 hy
  have hlt := (List.getElem?_eq_some_iff.1 hk).1
  rw [spans_len] at hlt
  rw [spans_get hlt] at hk
  cases hk
  rw [spanAt_op]
  refine done_v hc _ ?_
  rw [List.getD_eq_getElem?_getD, List.getElem?_eq_getElem hlt]
  exact List.getElem_mem hlt
end Go.Rp
