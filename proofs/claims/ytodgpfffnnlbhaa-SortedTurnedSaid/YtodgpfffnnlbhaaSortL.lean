import Derived.Tactics
/-! a stable sort, of lists alone: by a key, then by the number itself -/
namespace Go.Rp
/-- x comes ahead of y -/
def Ah (K : Int → Int) (x y : Int) : Prop := K x < K y ∨ (K x = K y ∧ x < y)
abbrev Sd (K : Int → Int) (l : List Int) : Prop := l.Pairwise (Ah K)
section
variable {K : Int → Int}
theorem Ah.trans {x y z : Int} (h : Ah K x y) (k : Ah K y z) : Ah K x z := by unfold Ah at *; omega
theorem Ah.asymm {x y : Int} (h : Ah K x y) (k : Ah K y x) : False := by unfold Ah at *; omega
theorem Ah.total {x y : Int} (h : x ≠ y) : Ah K x y ∨ Ah K y x := by unfold Ah; omega
theorem Ah.lt {x y : Int} (h : K x < K y) : Ah K x y := .inl h
theorem Ah.le {x y : Int} (h : K x ≤ K y) (k : x < y) : Ah K x y := by unfold Ah; omega
theorem Ah.of {x y : Int} (h : Ah K x y) : K x ≤ K y := by unfold Ah at h; omega

theorem sd_unique : ∀ {l m : List Int}, l.Perm m → Sd K l → Sd K m → l = m
  | [], m, h, _, _ => (h.symm.eq_nil).symm
  | x :: l, [], h, _, _ => absurd h.eq_nil (by simp)
  | x :: l, y :: m, h, hl, hm => by
    obtain ⟨h1, h2⟩ := List.pairwise_cons.1 hl
    obtain ⟨k1, k2⟩ := List.pairwise_cons.1 hm
    have hx : x ∈ y :: m := h.mem_iff.1 (by simp)
    have hy : y ∈ x :: l := h.mem_iff.2 (by simp)
    obtain rfl : x = y := by
      rcases List.mem_cons.1 hx with e | hx
      · exact e
      · rcases List.mem_cons.1 hy with e | hy
        · exact e.symm
        · exact absurd (h1 y hy) fun a => (k1 x hx).asymm a
    rw [sd_unique (List.perm_cons x |>.1 h) h2 k2]

/-- x, put into what is sorted (from behind: r is what is ahead of it, the last first; b what is behind it) -/
def insD (K : Int → Int) : List Int → Int → List Int → List Int
  | [], x, b => x :: b
  | y :: r, x, b => if K x < K y then insD K r x (y :: b) else r.reverse ++ y :: x :: b
theorem insD_perm : ∀ (r : List Int) (x : Int) (b : List Int), (insD K r x b).Perm (r.reverse ++ x :: b)
  | [], x, b => .refl _
  | y :: r, x, b => by
    unfold insD
    split
    · refine (insD_perm r x (y :: b)).trans ?_
      rw [List.reverse_cons, List.append_assoc]
      exact List.Perm.append_left _ (List.Perm.swap y x b)
    · rw [List.reverse_cons, List.append_assoc]; exact .refl _
theorem insD_sd : ∀ (r : List Int) (x : Int) (b : List Int), Sd K (r.reverse ++ b) → (∀ y ∈ r, y < x) → (∀ y ∈ b, Ah K x y) → Sd K (insD K r x b)
  | [], x, b, h, _, hb => List.pairwise_cons.2 ⟨hb, by simpa using h⟩
  | y :: r, x, b, h, hr, hb => by
    rw [List.reverse_cons, List.append_assoc] at h
    unfold insD
    split
    · rename_i hk
      exact insD_sd r x (y :: b) h (fun z hz => hr z (List.mem_cons_of_mem _ hz)) (fun z hz => by
        rcases List.mem_cons.1 hz with rfl | hz
        · exact .lt hk
        · exact hb z hz)
    · rename_i hk
      have hyx : Ah K y x := .le (by omega) (hr y (by simp))
      obtain ⟨h1, h2, h3⟩ := List.pairwise_append.1 h
      obtain ⟨h4, h5⟩ := List.pairwise_cons.1 (show Sd K (y :: b) from h2)
      refine List.pairwise_append.2 ⟨h1, List.pairwise_cons.2 ⟨fun z hz => ?_, List.pairwise_cons.2 ⟨hb, h5⟩⟩, fun u hu v hv => ?_⟩
      · rcases List.mem_cons.1 hz with rfl | hz
        · exact hyx
        · exact hyx.trans (hb z hz)
      · rcases List.mem_cons.1 hv with rfl | hv
        · exact h3 u hu v (by simp)
        · rcases List.mem_cons.1 hv with rfl | hv
          · exact (h3 u hu y (by simp)).trans hyx
          · exact h3 u hu v (by simp [hv])
/-- the numbers below n, sorted -/
def ordL (K : Int → Int) : Nat → List Int
  | 0 => []
  | n + 1 => insD K (ordL K n).reverse n []
theorem ordL_perm : ∀ n : Nat, (ordL K n).Perm ((List.range n).map Int.ofNat)
  | 0 => .refl _
  | n + 1 => by
    unfold ordL
    refine (insD_perm _ _ _).trans ?_
    rw [List.reverse_reverse, List.range_succ, List.map_append]
    exact (ordL_perm n).append_right _
theorem ordL_mem {n : Nat} {x : Int} : x ∈ ordL K n ↔ 0 ≤ x ∧ x < n := by
  rw [(ordL_perm n).mem_iff, List.mem_map]
  constructor
  · rintro ⟨k, hk, rfl⟩
    have := List.mem_range.1 hk
    simp; omega
  · rintro ⟨h1, h2⟩
    exact ⟨x.toNat, List.mem_range.2 (by omega), by simp; omega⟩
theorem ordL_len (n : Nat) : (ordL K n).length = n := by rw [(ordL_perm n).length_eq]; simp
theorem ordL_sd : ∀ n : Nat, Sd K (ordL K n)
  | 0 => .nil
  | n + 1 => by
    unfold ordL
    refine insD_sd _ _ _ (by simpa using ordL_sd n) (fun y hy => ?_) (by simp)
    exact (ordL_mem.1 (List.mem_reverse.1 hy)).2
theorem ordL_nodup (n : Nat) : (ordL K n).Nodup := (ordL_sd (K := K) n).imp fun h => by rintro rfl; exact h.asymm h

theorem take_all {Q : Int → Prop} {B : List Int} {k : Nat} (hQ : ∀ y z, Ah K y z → Q z → Q y) (hB : Sd K B) (hk : k ≤ B.length) (h : k = 0 ∨ Q (B.getD (k - 1) 0)) : ∀ y ∈ B.take k, Q y := by
  intro y hy
  obtain ⟨i, hi, rfl⟩ := List.mem_iff_getElem.1 hy
  rw [List.length_take] at hi
  rw [List.getElem_take]
  rcases h with h | h
  · omega
  · rw [List.getD_eq_getElem?_getD, List.getElem?_eq_getElem (by omega), Option.getD_some] at h
    rcases Nat.lt_or_ge i (k - 1) with h1 | h1
    · exact hQ _ _ (List.pairwise_iff_getElem.1 hB i (k - 1) (by omega) (by omega) h1) h
    · obtain rfl : i = k - 1 := by omega
      exact h
theorem drop_all {Q : Int → Prop} {B : List Int} {k : Nat} (hQ : ∀ y z, Ah K y z → Q y → Q z) (hB : Sd K B) (h : B.length ≤ k ∨ Q (B.getD k 0)) : ∀ y ∈ B.drop k, Q y := by
  intro y hy
  obtain ⟨i, hi, rfl⟩ := List.mem_iff_getElem.1 hy
  rw [List.length_drop] at hi
  rw [List.getElem_drop]
  rcases h with h | h
  · omega
  · rw [List.getD_eq_getElem?_getD, List.getElem?_eq_getElem (by omega), Option.getD_some] at h
    rcases Nat.eq_zero_or_pos i with h1 | h1
    · subst h1; exact h
    · exact hQ _ _ (List.pairwise_iff_getElem.1 hB k (k + i) (by omega) (by omega) (by omega)) h

/-- one, and those behind it -/
theorem merge_one {x : Int} {B : List Int} {k : Nat} (hB : Sd K B) (hk : k ≤ B.length) (hlt : ∀ y ∈ B, x < y) (h1 : k = 0 ∨ K (B.getD (k - 1) 0) < K x) (h2 : B.length ≤ k ∨ ¬ K (B.getD k 0) < K x) : Sd K (B.take k ++ x :: B.drop k) := by
  have a1 := take_all (Q := fun y => K y < K x) (fun y z h hz => by have := h.of; omega) hB hk h1
  have a2 := drop_all (Q := fun y => ¬ K y < K x) (fun y z h hz => by have := h.of; omega) hB h2
  have hB' := hB
  rw [← List.take_append_drop k B] at hB'
  obtain ⟨s1, s2, s3⟩ := List.pairwise_append.1 hB'
  refine List.pairwise_append.2 ⟨s1, List.pairwise_cons.2 ⟨fun y hy => ?_, s2⟩, fun u hu v hv => ?_⟩
  · exact .le (by have := a2 y hy; omega) (hlt y (List.mem_of_mem_drop hy))
  · rcases List.mem_cons.1 hv with rfl | hv
    · exact .lt (a1 u hu)
    · exact s3 u hu v hv
/-- one, and those ahead of it -/
theorem merge_last {x : Int} {A : List Int} {k : Nat} (hA : Sd K A) (hk : k ≤ A.length) (hlt : ∀ y ∈ A, y < x) (h1 : k = 0 ∨ ¬ K x < K (A.getD (k - 1) 0)) (h2 : A.length ≤ k ∨ K x < K (A.getD k 0)) : Sd K (A.take k ++ x :: A.drop k) := by
  have a1 := take_all (Q := fun y => ¬ K x < K y) (fun y z h hz => by have := h.of; omega) hA hk h1
  have a2 := drop_all (Q := fun y => K x < K y) (fun y z h hz => by have := h.of; omega) hA h2
  have hA' := hA
  rw [← List.take_append_drop k A] at hA'
  obtain ⟨s1, s2, s3⟩ := List.pairwise_append.1 hA'
  refine List.pairwise_append.2 ⟨s1, List.pairwise_cons.2 ⟨fun y hy => .lt (a2 y hy), s2⟩, fun u hu v hv => ?_⟩
  rcases List.mem_cons.1 hv with rfl | hv
  · exact .le (by have := a1 u hu; omega) (hlt u (List.mem_of_mem_take hu))
  · exact s3 u hu v hv
/-- two that are cut so that what is ahead of the cuts comes ahead of what is behind them -/
theorem cross {A B : List Int} {i j : Nat} (hA : Sd K A) (hB : Sd K B) (hi : i ≤ A.length) (hj : j ≤ B.length) (hlt : ∀ x ∈ A, ∀ y ∈ B, x < y)
    (h1 : i = 0 ∨ B.length ≤ j ∨ ¬ K (B.getD j 0) < K (A.getD (i - 1) 0)) (h2 : j = 0 ∨ A.length ≤ i ∨ K (B.getD (j - 1) 0) < K (A.getD i 0)) : ∀ u ∈ A.take i ++ B.take j, ∀ v ∈ A.drop i ++ B.drop j, Ah K u v := by
  have a1 : ∀ u ∈ A.take i, ∀ v ∈ B.drop j, Ah K u v := fun u hu v hv => by
    have h0 : ¬ K v < K u := by
      rcases h1 with h1 | h1 | h1
      · subst h1; simp at hu
      · rw [List.drop_of_length_le h1] at hv; cases hv
      · have := drop_all (Q := fun y => ¬ K y < K (A.getD (i - 1) 0)) (fun y z h hz => by have := h.of; omega) hB (.inr h1) v hv
        exact take_all (Q := fun y => ¬ K v < K y) (fun y z h hz => by have := h.of; omega) hA hi (.inr this) u hu
    exact .le (by omega) (hlt u (List.mem_of_mem_take hu) v (List.mem_of_mem_drop hv))
  have a2 : ∀ u ∈ B.take j, ∀ v ∈ A.drop i, Ah K u v := fun u hu v hv => by
    rcases h2 with h2 | h2 | h2
    · subst h2; simp at hu
    · rw [List.drop_of_length_le h2] at hv; cases hv
    · have := drop_all (Q := fun y => K (B.getD (j - 1) 0) < K y) (fun y z h hz => by have := h.of; omega) hA (.inr h2) v hv
      exact .lt (take_all (Q := fun y => K y < K v) (fun y z h hz => by have := h.of; omega) hB hj (.inr this) u hu)
  have hA' := hA
  have hB' := hB
  rw [← List.take_append_drop i A] at hA'
  rw [← List.take_append_drop j B] at hB'
  intro u hu v hv
  rcases List.mem_append.1 hu with hu | hu <;> rcases List.mem_append.1 hv with hv | hv
  · exact (List.pairwise_append.1 hA').2.2 u hu v hv
  · exact a1 u hu v hv
  · exact a2 u hu v hv
  · exact (List.pairwise_append.1 hB').2.2 u hu v hv
end
end Go.Rp
