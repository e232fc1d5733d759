import Derived.Test.YtodgpfffnnlbhaaLwd
/-! lists that skip, plain: towers, and what comes behind which on each level -/
set_option linter.unusedVariables false
set_option linter.unusedSimpArgs false
namespace Go.Sk
open Go.L
/-- a tower: its block, its value, its height -/
structure Tw where
  b : Nat
  v : Int
  ht : Nat
def nilP : V := .val (.pointer none)
/-- the first of some on a level -/
def fst? (k : Nat) (ts : List Tw) : Option Tw := ts.find? fun t => decide (k < t.ht)
def nx (k : Nat) (ts : List Tw) : V := match fst? k ts with | some t => .ptr t.b 0 | none => nilP
/-- the block at a place: the head, or the tower that ends there -/
def posB (s : Nat) (ts : List Tw) : Nat → Nat
  | 0 => s
  | i + 1 => (ts.getD i ⟨0, 0, 0⟩).b
/-- a place that is seen on a level -/
def OnLev (ts : List Tw) (k : Nat) : Nat → Prop
  | 0 => True
  | i + 1 => ∃ t, ts[i]? = some t ∧ k < t.ht
/-- the last place on a level, ahead of a place -/
def lastP (ts : List Tw) (k : Nat) : Nat → Nat
  | 0 => 0
  | j + 1 => if k < (ts.getD j ⟨0, 0, 0⟩).ht then j + 1 else lastP ts k j
theorem lastP_le (ts : List Tw) (k : Nat) : ∀ j, lastP ts k j ≤ j
  | 0 => Nat.le_refl _
  | j + 1 => by
    simp only [lastP]
    split
    · exact Nat.le_refl _
    · exact Nat.le_succ_of_le (lastP_le ts k j)
theorem getD_some {ts : List Tw} {i : Nat} {t : Tw} (h : ts[i]? = some t) : ts.getD i ⟨0, 0, 0⟩ = t := by rw [List.getD_eq_getElem?_getD, h]; rfl
theorem lastP_on (ts : List Tw) (k : Nat) : ∀ j, j ≤ ts.length → OnLev ts k (lastP ts k j)
  | 0, _ => trivial
  | j + 1, h => by
    simp only [lastP]
    obtain ⟨t, ht⟩ : ∃ t, ts[j]? = some t := ⟨_, List.getElem?_eq_getElem (by omega)⟩
    rw [getD_some ht]
    split
    · rename_i hk; exact ⟨t, ht, hk⟩
    · exact lastP_on ts k j (by omega)
/-- none between it and the place is on the level -/
theorem lastP_none (ts : List Tw) (k : Nat) : ∀ j i t, lastP ts k j ≤ i → i < j → ts[i]? = some t → ¬ k < t.ht
  | 0, i, t, h1, h2, _ => by omega
  | j + 1, i, t, h1, h2, ht => by
    simp only [lastP] at h1
    split at h1
    · omega
    · rename_i hk
      rcases Nat.lt_or_ge i j with h3 | h3
      · exact lastP_none ts k j i t h1 h3 ht
      · obtain rfl : i = j := by omega
        rw [getD_some ht] at hk; exact hk
/-- which it is, if one on the level is followed by none ahead of the place -/
theorem lastP_of {ts : List Tw} {k i : Nat} (hon : OnLev ts k i) : ∀ j, i ≤ j → j ≤ ts.length → (∀ m t, i ≤ m → m < j → ts[m]? = some t → ¬ k < t.ht) → lastP ts k j = i
  | 0, h, _, _ => by simp only [lastP]; omega
  | j + 1, h, hl, hn => by
    obtain ⟨t, ht⟩ : ∃ t, ts[j]? = some t := ⟨_, List.getElem?_eq_getElem (by omega)⟩
    simp only [lastP, getD_some ht]
    rcases Nat.lt_or_ge j i with h3 | h3
    · obtain rfl : i = j + 1 := by omega
      obtain ⟨t', ht', hk⟩ := hon
      rw [ht] at ht'; cases ht'
      rw [if_pos hk]
    · rw [if_neg (hn j t h3 (by omega) ht)]
      exact lastP_of hon j h3 (by omega) fun m t h1 h2 => hn m t h1 (by omega)
/-- the first behind a place: where it is -/
theorem fst_drop {k : Nat} {ts : List Tw} : ∀ (i : Nat), (fst? k (ts.drop i) = none ∧ ∀ m t, i ≤ m → ts[m]? = some t → ¬ k < t.ht) ∨ ∃ m t, i ≤ m ∧ ts[m]? = some t ∧ k < t.ht ∧ fst? k (ts.drop i) = some t ∧ ∀ m' t', i ≤ m' → m' < m → ts[m']? = some t' → ¬ k < t'.ht := by
  intro i
  obtain ⟨d, hd⟩ : ∃ d, d + i = ts.length ∨ (d = 0 ∧ ts.length ≤ i) := ⟨ts.length - i, by omega⟩
  induction d generalizing i with
  | zero =>
    left
    have hi : ts.length ≤ i := by omega
    refine ⟨by rw [List.drop_of_length_le hi]; rfl, fun m t h1 h2 => ?_⟩
    have := (List.getElem?_eq_some_iff.1 h2).1
    omega
  | succ d ih =>
    have hi : i < ts.length := by omega
    obtain ⟨t, ht⟩ : ∃ t, ts[i]? = some t := ⟨_, List.getElem?_eq_getElem hi⟩
    have hdr : ts.drop i = t :: ts.drop (i + 1) := by rw [List.drop_eq_getElem_cons hi]; congr 1; rw [List.getElem?_eq_getElem hi] at ht; exact Option.some.inj ht
    by_cases hk : k < t.ht
    · right
      exact ⟨i, t, Nat.le_refl _, ht, hk, by rw [hdr]; simp [fst?, hk], fun m' t' h1 h2 => by omega⟩
    · rcases ih (i + 1) (by omega) with ⟨h1, h2⟩ | ⟨m, t', h1, h2, h3, h4, h5⟩
      · left
        refine ⟨by rw [hdr]; simpa [fst?, hk] using h1, fun m t' h3 h4 => ?_⟩
        rcases Nat.lt_or_ge i m with h | h
        · exact h2 m t' h h4
        · obtain rfl : m = i := by omega
          rw [ht] at h4; cases h4; exact hk
      · right
        refine ⟨m, t', by omega, h2, h3, by rw [hdr]; simpa [fst?, hk] using h4, fun m' t'' h6 h7 h8 => ?_⟩
        rcases Nat.lt_or_ge i m' with h | h
        · exact h5 m' t'' h h7 h8
        · obtain rfl : m' = i := by omega
          rw [ht] at h8; cases h8; exact hk
/-- what leads where: the blocks' pointers, level by level -/
abbrev Nx := Nat → Nat → V
structure Linked (s : Nat) (ts : List Tw) (N : Nx) : Prop where
  hd : ∀ k, k < 8 → N s k = nx k ts
  tw : ∀ (i : Nat) t k, ts[i]? = some t → k < 8 → N t.b k = if k < t.ht then nx k (ts.drop (i + 1)) else nilP
/-- what comes behind a place that is on the level -/
theorem Linked.at_ {s : Nat} {ts : List Tw} {N : Nx} (h : Linked s ts N) {k i : Nat} (hk : k < 8) (hi : OnLev ts k i) : N (posB s ts i) k = nx k (ts.drop i) := by
  cases i with
  | zero => exact h.hd k hk
  | succ i =>
    obtain ⟨t, ht, hkt⟩ := hi
    have := h.tw i t k ht hk
    rw [if_pos hkt] at this
    simp only [posB, getD_some ht]
    exact this
/-- pointers with one turned -/
def updN (N : Nx) (b k : Nat) (x : V) : Nx := fun b' k' => if b' = b ∧ k' = k then x else N b' k'
/-- how many are no greater, where they rise -/
def upTo (ts : List Tw) (v : Int) : Nat := (ts.takeWhile fun t => decide (t.v ≤ v)).length
def Rise (ts : List Tw) : Prop := ts.Pairwise fun a b => a.v ≤ b.v
theorem upTo_le (ts : List Tw) (v : Int) : upTo ts v ≤ ts.length := (List.takeWhile_prefix _).length_le
theorem upTo_iff {ts : List Tw} (hr : Rise ts) (v : Int) {i : Nat} {t : Tw} (ht : ts[i]? = some t) : i < upTo ts v ↔ t.v ≤ v := by
  unfold upTo
  induction ts generalizing i with
  | nil => simp at ht
  | cons a ts ih =>
    have hr' := List.pairwise_cons.1 hr
    rw [List.takeWhile_cons]
    cases i with
    | zero =>
      obtain rfl : a = t := by simpa using ht
      by_cases h : a.v ≤ v
      · simp [h]
      · simp [h]
    | succ i =>
      have hm := hr'.1 t (List.mem_of_getElem? ht)
      by_cases h : a.v ≤ v
      · simp only [h, decide_true, if_true, List.length_cons, Nat.succ_lt_succ_iff]
        exact ih hr'.2 ht
      · simp only [h, decide_false, Bool.false_eq_true, if_false, List.length_nil, Nat.not_lt_zero, false_iff]
        omega
/-- a tower put in a place -/
def ins (ts : List Tw) (j : Nat) (u : Tw) : List Tw := ts.take j ++ u :: ts.drop j
theorem ins_lt {ts : List Tw} {j : Nat} {u : Tw} (hj : j ≤ ts.length) {i : Nat} (h : i < j) : (ins ts j u)[i]? = ts[i]? := by
  unfold ins
  rw [List.getElem?_append_left (by rw [List.length_take]; omega), List.getElem?_take, if_pos h]
theorem ins_at {ts : List Tw} {j : Nat} {u : Tw} (hj : j ≤ ts.length) : (ins ts j u)[j]? = some u := by
  unfold ins
  rw [List.getElem?_append_right (by rw [List.length_take]; omega), List.length_take, Nat.min_eq_left hj, Nat.sub_self]
  rfl
theorem ins_gt {ts : List Tw} {j : Nat} {u : Tw} (hj : j ≤ ts.length) {i : Nat} (h : j ≤ i) : (ins ts j u)[i + 1]? = ts[i]? := by
  unfold ins
  rw [List.getElem?_append_right (by rw [List.length_take]; omega), List.length_take, Nat.min_eq_left hj, show i + 1 - j = (i - j) + 1 by omega, List.getElem?_cons_succ, List.getElem?_drop]
  congr 1
  omega
theorem ins_len {ts : List Tw} {j : Nat} {u : Tw} (hj : j ≤ ts.length) : (ins ts j u).length = ts.length + 1 := by
  unfold ins
  rw [List.length_append, List.length_take, List.length_cons, List.length_drop]
  omega
theorem ins_drop {ts : List Tw} {j : Nat} {u : Tw} (hj : j ≤ ts.length) {i : Nat} (h : i ≤ j) : (ins ts j u).drop i = (ts.take j).drop i ++ u :: ts.drop j := by
  unfold ins
  rw [List.drop_append_of_le_length (by rw [List.length_take]; omega)]
theorem ins_drop_gt {ts : List Tw} {j : Nat} {u : Tw} (hj : j ≤ ts.length) {i : Nat} (h : j ≤ i) : (ins ts j u).drop (i + 1) = ts.drop i := by
  apply List.ext_getElem?
  intro m
  rw [List.getElem?_drop, List.getElem?_drop, show i + 1 + m = (i + m) + 1 by omega, ins_gt hj (by omega)]
theorem drop_part {ts : List Tw} {i j : Nat} (h : i ≤ j) (hj : j ≤ ts.length) : ts.drop i = (ts.take j).drop i ++ ts.drop j := by
  have : ts = ts.take j ++ ts.drop j := (List.take_append_drop j ts).symm
  conv => lhs; rw [this]
  rw [List.drop_append_of_le_length (by rw [List.length_take]; omega)]
theorem fst_none_part {ts : List Tw} {k i j : Nat} (h : fst? k ((ts.take j).drop i) = none) (m : Nat) (t : Tw) (h1 : i ≤ m) (h2 : m < j) (ht : ts[m]? = some t) : ¬ k < t.ht := by
  unfold fst? at h
  rw [List.find?_eq_none] at h
  have hm : t ∈ (ts.take j).drop i := by
    refine List.mem_of_getElem? (i := m - i) ?_
    rw [List.getElem?_drop, List.getElem?_take, show i + (m - i) = m by omega, if_pos h2]
    exact ht
  simpa using h t hm
theorem fst_some_part {ts : List Tw} {k i j : Nat} {t : Tw} (h : fst? k ((ts.take j).drop i) = some t) : ∃ m, i ≤ m ∧ m < j ∧ ts[m]? = some t ∧ k < t.ht := by
  unfold fst? at h
  have h1 := List.find?_some h
  have h2 := List.mem_of_find?_eq_some h
  obtain ⟨m, hm⟩ := List.mem_iff_getElem?.1 h2
  rw [List.getElem?_drop, List.getElem?_take] at hm
  split at hm
  · exact ⟨i + m, by omega, by assumption, hm, by simpa using h1⟩
  · cases hm
/-- what comes behind a place on the level once a tower was put -/
theorem nx_ins {ts : List Tw} {k i j : Nat} {u : Tw} (hj : j ≤ ts.length) (hi : i ≤ j) (hon : OnLev ts k i) :
    nx k ((ins ts j u).drop i) = if k < u.ht ∧ lastP ts k j = i then .ptr u.b 0 else nx k (ts.drop i) := by
  rw [ins_drop hj hi]
  unfold nx
  rw [drop_part hi hj]
  cases hA : fst? k ((ts.take j).drop i) with
  | some t =>
    obtain ⟨m, h1, h2, h3, h4⟩ := fst_some_part hA
    have hne : lastP ts k j ≠ i := fun e => lastP_none ts k j m t (by omega) h2 h3 h4
    rw [if_neg (fun h => hne h.2)]
    unfold fst? at hA ⊢
    rw [List.find?_append, List.find?_append, hA]
    rfl
  | none =>
    have hl : lastP ts k j = i := lastP_of hon j hi hj fun m t h1 h2 h3 => fst_none_part hA m t h1 h2 h3
    unfold fst? at hA ⊢
    rw [List.find?_append, List.find?_append, hA, List.find?_cons]
    by_cases hk : k < u.ht
    · simp [hk, hl]
    · simp [hk]
theorem posB_inj {s : Nat} {ts : List Tw} (hnd : (ts.map Tw.b).Nodup) (hs : s ∉ ts.map Tw.b) {p q : Nat} (hp : p ≤ ts.length) (hq : q ≤ ts.length) (h : posB s ts p = posB s ts q) : p = q := by
  have hb : ∀ i, i < ts.length → (ts.map Tw.b)[i]? = some (ts.getD i ⟨0, 0, 0⟩).b := fun i hi => by
    rw [List.getElem?_map, List.getD_eq_getElem?_getD, List.getElem?_eq_getElem hi]; rfl
  have hne : ∀ i, i < ts.length → s ≠ (ts.getD i ⟨0, 0, 0⟩).b := fun i hi e => hs (e ▸ List.mem_of_getElem? (hb i hi))
  cases p with
  | zero =>
    cases q with
    | zero => rfl
    | succ q => exact absurd h (hne q (by omega))
  | succ p =>
    cases q with
    | zero => exact absurd h.symm (hne p (by omega))
    | succ q =>
      have h1 := hb p (by omega)
      have h2 := hb q (by omega)
      simp only [posB] at h
      rw [h] at h1
      congr 1
      exact (List.getElem?_inj (by rw [List.length_map]; omega) hnd).1 (h1.trans h2.symm)
theorem posB_ins {s : Nat} {ts : List Tw} {j : Nat} {u : Tw} (hj : j ≤ ts.length) {p : Nat} (hp : p ≤ j) : posB s (ins ts j u) p = posB s ts p := by
  cases p with
  | zero => rfl
  | succ p => simp only [posB]; rw [List.getD_eq_getElem?_getD, List.getD_eq_getElem?_getD, ins_lt hj (by omega)]
theorem lastP_ins {ts : List Tw} {k j : Nat} {u : Tw} (hj : j ≤ ts.length) : ∀ i, i ≤ j → lastP (ins ts j u) k i = lastP ts k i
  | 0, _ => rfl
  | i + 1, h => by
    simp only [lastP]
    rw [lastP_ins hj i (by omega), List.getD_eq_getElem?_getD, List.getD_eq_getElem?_getD, ins_lt hj (by omega)]
theorem lastP_ins_at {ts : List Tw} {k j : Nat} {u : Tw} (hj : j ≤ ts.length) : lastP (ins ts j u) k (j + 1) = if k < u.ht then j + 1 else lastP ts k j := by
  simp only [lastP]
  rw [lastP_ins hj j (Nat.le_refl _), getD_some (ins_at hj)]
/-- a tower is put behind the last ones ahead of a place -/
theorem Linked.ins {s : Nat} {ts : List Tw} {N N' : Nx} (h : Linked s ts N) (hnd : (ts.map Tw.b).Nodup) (hs : s ∉ ts.map Tw.b) {u : Tw} (hus : u.b ≠ s) (hut : u.b ∉ ts.map Tw.b) {j : Nat} (hj : j ≤ ts.length)
    (h1 : ∀ k, k < 8 → N' u.b k = if k < u.ht then nx k (ts.drop j) else nilP)
    (h2 : ∀ k, k < 8 → k < u.ht → N' (posB s ts (lastP ts k j)) k = .ptr u.b 0)
    (h3 : ∀ b k, k < 8 → b ≠ u.b → (k < u.ht → b ≠ posB s ts (lastP ts k j)) → N' b k = N b k) : Linked s (Go.Sk.ins ts j u) N' := by
  have key : ∀ i k, k < 8 → i ≤ j → OnLev ts k i → N' (posB s ts i) k = nx k ((Go.Sk.ins ts j u).drop i) := fun i k hk hi hon => by
    rw [nx_ins hj hi hon]
    by_cases hc : k < u.ht ∧ lastP ts k j = i
    · rw [if_pos hc, ← hc.2]; exact h2 k hk hc.1
    · rw [if_neg hc, ← h.at_ hk hon]
      refine h3 _ _ hk (fun e => ?_) fun hku e => ?_
      · cases i with
        | zero => exact hus e.symm
        | succ i =>
          obtain ⟨t, ht, _⟩ := hon
          simp only [posB, getD_some ht] at e
          exact hut (e ▸ List.mem_map_of_mem (List.mem_of_getElem? ht))
      · exact hc ⟨hku, (posB_inj hnd hs (by omega) (by have := lastP_le ts k j; omega) e).symm⟩
  refine ⟨fun k hk => ?_, fun i t k ht hk => ?_⟩
  · have := key 0 k hk (Nat.zero_le _) trivial
    rwa [List.drop_zero] at this
  · rcases Nat.lt_trichotomy i j with hij | hij | hij
    · rw [ins_lt hj hij] at ht
      by_cases hkt : k < t.ht
      · rw [if_pos hkt]
        have := key (i + 1) k hk (by omega) ⟨t, ht, hkt⟩
        simpa only [posB, getD_some ht] using this
      · rw [if_neg hkt]
        have hN := h.tw i t k ht hk
        rw [if_neg hkt] at hN
        rw [← hN]
        refine h3 _ _ hk (fun e => hut (e ▸ List.mem_map_of_mem (List.mem_of_getElem? ht))) fun hku e => ?_
        have hp : t.b = posB s ts (i + 1) := by simp only [posB, getD_some ht]
        have hon := lastP_on ts k j hj
        have := posB_inj hnd hs (by omega) (by have := lastP_le ts k j; omega) (hp.symm.trans e)
        rw [← this] at hon
        obtain ⟨t', ht', hk'⟩ := hon
        rw [ht] at ht'; cases ht'
        exact hkt hk'
    · subst hij
      rw [ins_at hj] at ht
      cases ht
      rw [ins_drop_gt hj (Nat.le_refl _)]
      exact h1 k hk
    · obtain ⟨i, rfl⟩ : ∃ i', i = i' + 1 := ⟨i - 1, by omega⟩
      rw [ins_gt hj (by omega)] at ht
      rw [ins_drop_gt hj (by omega)]
      rw [← h.tw i t k ht hk]
      have hil := (List.getElem?_eq_some_iff.1 ht).1
      refine h3 _ _ hk (fun e => hut (e ▸ List.mem_map_of_mem (List.mem_of_getElem? ht))) fun hku e => ?_
      have hp : t.b = posB s ts (i + 1) := by simp only [posB, getD_some ht]
      have := posB_inj hnd hs (by omega) (by have := lastP_le ts k j; omega) (hp.symm.trans e)
      have := lastP_le ts k j
      omega
theorem Rise.ins {ts : List Tw} (hr : Rise ts) (u : Tw) : Rise (Go.Sk.ins ts (upTo ts u.v) u) := by
  unfold Rise Go.Sk.ins
  have hle : ∀ t ∈ ts.take (upTo ts u.v), t.v ≤ u.v := fun t ht => by
    obtain ⟨i, hi⟩ := List.mem_iff_getElem?.1 ht
    rw [List.getElem?_take] at hi
    split at hi
    · rename_i h; exact (upTo_iff hr u.v hi).1 h
    · cases hi
  have hge : ∀ t ∈ ts.drop (upTo ts u.v), u.v ≤ t.v := fun t ht => by
    obtain ⟨i, hi⟩ := List.mem_iff_getElem?.1 ht
    rw [List.getElem?_drop] at hi
    have := (upTo_iff hr u.v hi)
    omega
  rw [List.pairwise_append]
  refine ⟨hr.sublist (List.take_sublist _ _), List.pairwise_cons.2 ⟨hge, hr.sublist (List.drop_sublist _ _)⟩, fun a ha b hb => ?_⟩
  have h1 := hle a ha
  rcases List.mem_cons.1 hb with rfl | hb
  · exact h1
  · have := hge b hb; omega
/-- the first one is taken -/
theorem Linked.tail {s : Nat} {t : Tw} {ts : List Tw} {N N' : Nx} (h : Linked s (t :: ts) N) (hnd : ((t :: ts).map Tw.b).Nodup) (hs : s ∉ (t :: ts).map Tw.b)
    (h1 : ∀ k, k < 8 → N' s k = if k < t.ht then N t.b k else N s k) (h2 : ∀ b k, k < 8 → b ≠ s → N' b k = N b k) : Linked s ts N' := by
  refine ⟨fun k hk => ?_, fun i u k hu hk => ?_⟩
  · rw [h1 k hk]
    have a := h.tw 0 t k rfl hk
    have b := h.hd k hk
    by_cases hkt : k < t.ht
    · rw [if_pos hkt, a, if_pos hkt]; rfl
    · rw [if_neg hkt, b]
      unfold nx fst?
      rw [List.find?_cons]
      simp [hkt]
  · have a := h.tw (i + 1) u k (by simpa using hu) hk
    rw [h2 _ _ hk]
    · simpa using a
    · rintro rfl
      exact hs (List.mem_map_of_mem (List.mem_cons_of_mem _ (List.mem_of_getElem? hu)))
end Go.Sk
