import Derived.WalkKit
import Derived.Laws.OwnMore
import Derived.Maps.AppendAt
import Derived.Deep.Draws
import Derived.Lib.Hide
namespace Go.RowKit
theorem Below.drewN {B : Nat} {a w : World} (h : Below B a w) (n : Nat) : Below B a (w.drewN n) := ⟨h.os, h.tape, h.output, h.size, h.block⟩
end Go.RowKit
namespace Go.TR
open Go.RowKit

/-- 't' is a slice of 'e', whose values take so many cells and bytes -/
def sliceB (P : Program) (t e size bytes : Nat) : Bool :=
  (match P.underlying t with | some (.slice e') => e' == e | _ => false) &&
  (match P.info? e with | some i => (match i.zero with | some z => i.size == size && i.bytes == bytes && z.cells.size == size && decide (0 < size) | none => false) | none => false)

theorem sliceB_spec {P : Program} {t e size bytes : Nat} (h : sliceB P t e size bytes = true) :
    P.underlying t = some (.slice e) ∧ 0 < size ∧ ∃ i z, P.info? e = some i ∧ i.zero = some z ∧ i.size = size ∧ i.bytes = bytes ∧ z.cells.size = size := by
  unfold sliceB at h
  rw [Bool.and_eq_true] at h
  obtain ⟨h1, h2⟩ := h
  split at h1
  · rename_i e' he
    have : e' = e := by simpa using h1
    subst this
    split at h2
    · rename_i i hi
      split at h2
      · rename_i z hz
        simp only [Bool.and_eq_true, beq_iff_eq, decide_eq_true_eq] at h2
        exact ⟨he, h2.2, i, z, hi, hz, h2.1.1.1, h2.1.1.2, h2.1.2⟩
      · cases h2
    · cases h2
  · cases h1

section
variable {P : Program} {ops : Array Oper} {rest : List Oper} {o : Oper} {a : Act} {Q : Exit → Act → World → Prop} {w : World}

/-- append of what was just laid, to a row of the call's own -/
theorem wpList_append_lit (hgd : o.guard = none) {s x : Operand} {t : TypeId}
    (ho : o.op = .call { callee := .builtin .append, args := #[s, x], argTypes := #[t, t] })
    {base e size bytes : Nat} (ht : sliceB P t e size bytes = true)
    {v : Value} {n : Nat} {xs : List Value} (hown : w.ownsRow base e size v n xs) (hs : a.eval s = v)
    {g m c : Nat} {arr : Array Value} {e' : TypeId} {fr : Nat × Nat} (hx : a.eval x = .slice (some ⟨g, 0, none⟩) m c) (hb : w.heap[g]? = some (.cells arr e' fr)) (hl : arr.size = m * size)
    (h1 : arr.toList.all (·.oneCell') = true) {a0 : World} (hbel : Below base a0 w) (h0 : base ≤ a0.heap.size) {B0 : Nat} {e0 : World} (hbel0 : Below B0 e0 w) (hB0 : B0 ≤ base) (h63 : n + m ≤ maxLen) (hbytes : (n + m) * bytes ≤ 140737488355328)
    (h : ∀ v' w', w'.ownsRow base e size v' (n + m) (xs ++ arr.toList) → w.grownBy w' v.ownBlock → Below base a0 w' → Below B0 e0 w' → wpList P ops Q rest (a.put o.dst v') w') : wpList P ops Q (o :: rest) a w := by
  obtain ⟨hu, hsz, i, z, hi, hz, hs1, hs2, hs3⟩ := sliceB_spec ht
  refine wpList_append_own w hgd s x t ho base e i z size bytes hu hi hz hs1 hs2 hs3 hsz v n xs hs hown ⟨g, 0, none⟩ m c arr.toList hx (by simpa using hl) ?_ (fun u hu => ?_) h63 hbytes (Nat.le_trans h0 hbel.size) (fun v' w' a b _ => h v' w' a b (hbel.grown b (Nat.le_trans h0 hbel.size) (fun k hk => (hown.lt k hk).1)) (hbel0.grown b (Nat.le_trans hB0 (Nat.le_trans h0 hbel.size)) (fun k hk => Nat.le_trans hB0 (hown.lt k hk).1)))
  · intro j u hj
    have : (⟨g, 0, none⟩ : Addr).add j = ⟨g, j, none⟩ := by unfold Addr.add; split <;> simp_all
    rw [this]
    unfold World.cell?
    simp only [hb]
    simpa using hj
  · exact List.all_eq_true.1 h1 u hu
end

theorem Below.of_drew {B : Nat} {a w : World} (h : Below B a w) : Below B a w.drew := h.drew

/-- grown, and below -/
theorem Below.grownOwn {B : Nat} {a w w' : World} {v : Value} {e size n : Nat} {xs : List Value} (h : Below B a w) (hown : w.ownsRow B e size v n xs) (hg : w.grownBy w' v.ownBlock) (hB : B ≤ w.heap.size) : Below B a w' :=
  h.grown hg hB (fun k hk => (hown.lt k hk).1)

/-- the list lies at A, below block B -/
def RdL {α : Type} (w : World) (B : Nat) (c : α → List Value) (size : Nat) (A : Option Addr) (l : List α) : Prop :=
  ∀ k x, l[k]? = some x → ∃ ad, A = some ad ∧ ad.block < B ∧ ∀ j u, (c x)[j]? = some u → w.cell? (ad.add (k * size + j)) = some u

theorem block_add (a : Addr) (n : Nat) : (a.add n).block = a.block := by unfold Addr.add; split <;> rfl
theorem add_add (a : Addr) (i j : Nat) : (a.add i).add j = a.add (i + j) := by
  unfold Addr.add
  by_cases hi : i = 0 <;> by_cases hj : j = 0 <;> simp [hi, hj, Nat.add_assoc]

section
variable {α : Type} {w w' : World} {B B' size : Nat} {c : α → List Value} {A : Option Addr} {l : List α}
theorem RdL.nil : RdL w B c size A ([] : List α) := fun k x h => by simp at h
theorem RdL.keep (h : RdL w B c size A l) (hk : ∀ p : Addr, p.block < B → w'.cell? p = w.cell? p) : RdL w' B c size A l := fun k x hx => by
  obtain ⟨ad, e, hb, hc⟩ := h k x hx
  exact ⟨ad, e, hb, fun j u hu => (hk _ (by rw [block_add]; exact hb)).trans (hc j u hu)⟩
theorem RdL.below (h : RdL w B c size A l) (hb : Below B w w') : RdL w' B c size A l := h.keep fun _ hp => hb.cell hp
theorem RdL.mono (h : RdL w B c size A l) (hB : B ≤ B') : RdL w B' c size A l := fun k x hx => by
  obtain ⟨ad, e, hb, hc⟩ := h k x hx
  exact ⟨ad, e, by omega, hc⟩
theorem RdL.take (h : RdL w B c size A l) (n : Nat) : RdL w B c size A (l.take n) := fun k x hx => by
  rw [List.getElem?_take] at hx
  split at hx
  · exact h k x hx
  · cases hx
/-- a list of elements of one cell -/
theorem RdL.one (h : RdL w B c 1 A l) {k : Nat} {x : α} {v : Value} (hx : l[k]? = some x) (hv : (c x) = [v]) : ∃ ad, A = some ad ∧ ad.block < B ∧ w.cell? (ad.add k) = some v := by
  obtain ⟨ad, e, hb, hc⟩ := h k x hx
  exact ⟨ad, e, hb, by have := hc 0 v (by simp [hv]); simpa using this⟩
theorem RdL.drop (h : RdL w B c size A l) (n cap : Nat) (hcap : n < l.length → n < cap) : RdL w B c size (if cap = n then A else A.map (·.add (n * size))) (l.drop n) := fun k x hx => by
  rw [List.getElem?_drop] at hx
  obtain ⟨ad, e, hb, hc⟩ := h _ x hx
  have hlt : n < l.length := by have := (List.getElem?_eq_some_iff.1 hx).1; omega
  rw [if_neg (by have := hcap hlt; omega), e]
  refine ⟨ad.add (n * size), rfl, by rw [block_add]; exact hb, fun j u hu => ?_⟩
  rw [add_add, ← Nat.add_assoc, ← Nat.add_mul]
  exact hc j u hu
/-- out of a row of the call's own -/
theorem RdL.of_own {base : Nat} {e : TypeId} {cap : Nat} (hc : ∀ x, (c x).length = size) (h : w.ownsRow base e size (.slice A l.length cap) l.length (l.flatMap c)) (hB : w.heap.size ≤ B) : RdL w B c size A l := by
  intro k x hx
  have hlt : k < l.length := (List.getElem?_eq_some_iff.1 hx).1
  rcases h.2 with ⟨hn, h0⟩ | ⟨g, cap', cur, hv, hg, hh, h1, h2, h3, h4⟩
  · omega
  · injection hv with hA hcap
    subst hA
    have hgl : g < w.heap.size := by
      rcases Nat.lt_or_ge g w.heap.size with h' | h'
      · exact h'
      · rw [Array.getElem?_eq_none h'] at hh; cases hh
    refine ⟨_, rfl, by show g < B; omega, fun j u hu => ?_⟩
    refine h.cells (g := g) rfl (k * size + j) u ?_
    have hj : j < size := by rw [← hc x]; exact (List.getElem?_eq_some_iff.1 hu).1
    -- the flat list at k * size + j
    have flat : ∀ (l : List α) (k : Nat) (x : α), l[k]? = some x → (l.flatMap c)[k * size + j]? = (c x)[j]? := by
      intro l
      induction l with
      | nil => intro k x hx; simp at hx
      | cons y l ih =>
        intro k x hx
        cases k with
        | zero =>
          simp at hx
          subst hx
          rw [List.flatMap_cons, Nat.zero_mul, Nat.zero_add, List.getElem?_append_left (by rw [hc]; exact hj)]
        | succ k =>
          rw [List.flatMap_cons, List.getElem?_append_right (by rw [hc, Nat.succ_mul]; omega), hc]
          rw [show (k + 1) * size + j - size = k * size + j from by rw [Nat.succ_mul]; omega]
          exact ih k x (by simpa using hx)
    rw [flat l k x hx]
    exact hu
end

theorem flatMap_snoc {α : Type} (c : α → List Value) (l : List α) (x : α) : (l ++ [x]).flatMap c = l.flatMap c ++ c x := by simp
theorem ret_int {k : IntKind} {a b : Int} (h : a = b) : Ending.returned (.int k a) = .returned (.int k b) := by rw [h]
theorem ret_bool {a b : Bool} (h : a = b) : Ending.returned (.bool a) = .returned (.bool b) := by rw [h]

section
variable {P : Program} {w : World}
theorem run_append_nil0 {base t ty e size c : Nat} {i : TypeInfo} (ht : P.underlying t = some (.slice e)) (hi : P.info? e = some i)
    {v : Value} {n : Nat} {xs : List Value} (hown : w.ownsRow base e size v n xs) : (Builtin.append_ #[t, t] ty #[v, .slice none 0 c]).run P w = .ok v w := by
  rcases hown.2 with ⟨rfl, rfl⟩ | ⟨g, cap, cur, rfl, _, _, hnc, _⟩
  · simp [Builtin.append_, run_underlying ht, Go.sizeOf, Go.typeInfo, hi, Builtin.lenOf, Builtin.firstCells]
  · simp [Builtin.append_, run_underlying ht, Go.sizeOf, Go.typeInfo, hi, Builtin.lenOf, Builtin.firstCells, hnc, storeCells]

/-- append of whatever reads as cells, to a row of the call's own -/
theorem wpList_append_rd {ops : Array Oper} {rest : List Oper} {o : Oper} {a : Act} {Q : Exit → Act → World → Prop} (hgd : o.guard = none) {s x : Operand} {t : TypeId}
    (ho : o.op = .call { callee := .builtin .append, args := #[s, x], argTypes := #[t, t] })
    {base e size bytes : Nat} (ht : sliceB P t e size bytes = true)
    {v : Value} {n : Nat} {xs : List Value} (hown : w.ownsRow base e size v n xs) (hs : a.eval s = v)
    {A : Option Addr} {m c : Nat} {news : List Value} (hx : a.eval x = .slice A m c) (hl : news.length = m * size)
    (hc : ∀ j u, news[j]? = some u → ∃ ad, A = some ad ∧ w.cell? (ad.add j) = some u)
    (h1 : ∀ u ∈ news, u.oneCell' = true) {a0 : World} (hbel : Below base a0 w) (h0 : base ≤ a0.heap.size) {B0 : Nat} {e0 : World} (hbel0 : Below B0 e0 w) (hB0 : B0 ≤ base) (h63 : n + m ≤ maxLen) (hbytes : (n + m) * bytes ≤ 140737488355328)
    (h : ∀ v' w', w'.ownsRow base e size v' (n + m) (xs ++ news) → w.grownBy w' v.ownBlock → Below base a0 w' → Below B0 e0 w' → wpList P ops Q rest (a.put o.dst v') w') : wpList P ops Q (o :: rest) a w := by
  obtain ⟨hu, hsz, i, z, hi, hz, hs1, hs2, hs3⟩ := sliceB_spec ht
  cases A with
  | some ad =>
    refine wpList_append_own w hgd s x t ho base e i z size bytes hu hi hz hs1 hs2 hs3 hsz v n xs hs hown ad m c news hx hl (fun j u hj => ?_) h1 h63 hbytes (Nat.le_trans h0 hbel.size) (fun v' w' a b _ => h v' w' a b (hbel.grown b (Nat.le_trans h0 hbel.size) (fun k hk => (hown.lt k hk).1)) (hbel0.grown b (Nat.le_trans hB0 (Nat.le_trans h0 hbel.size)) (fun k hk => Nat.le_trans hB0 (hown.lt k hk).1)))
    obtain ⟨ad', e, hc⟩ := hc j u hj
    cases e
    exact hc
  | none =>
    have hn : news = [] := by
      cases news with
      | nil => rfl
      | cons u l => obtain ⟨ad, e, _⟩ := hc 0 u rfl; cases e
    subst hn
    have hm : m = 0 := by
      rcases Nat.eq_zero_or_pos m with h | h
      · exact h
      · have := Nat.mul_pos h hsz; simp at hl; omega
    subst hm
    refine wpList_plain hgd fun K hK => ?_
    have hrun := run_append_nil0 (ty := o.type) (c := c) hu hi hown
    unfold Oper.wp
    simp only [execOp, ho, resolve, invoke, builtin, Sem.run_bind, Sem.run_pure, Result.andThen_ok, List.map_toArray, List.map_cons, List.map_nil, hs, hx, hrun]
    exact hK _ _ (h v w (by simpa using hown) (World.grownBy.refl w _) hbel hbel0)
end

theorem flat_at {α : Type} {c : α → List Value} {size : Nat} (hc : ∀ x, (c x).length = size) : ∀ (l : List α) (i : Nat) (u : Value), (l.flatMap c)[i]? = some u →
    ∃ k j x, i = k * size + j ∧ l[k]? = some x ∧ (c x)[j]? = some u
  | [], i, u, h => by simp at h
  | x :: l, i, u, h => by
    rw [List.flatMap_cons] at h
    rcases Nat.lt_or_ge i size with hlt | hge
    · rw [List.getElem?_append_left (by rw [hc]; exact hlt)] at h
      exact ⟨0, i, x, by omega, rfl, h⟩
    · rw [List.getElem?_append_right (by rw [hc]; exact hge), hc] at h
      obtain ⟨k, j, y, hi, hk, hu⟩ := flat_at hc l _ u h
      exact ⟨k + 1, j, y, by rw [Nat.succ_mul]; omega, by simpa using hk, hu⟩

theorem RdL.flat {α : Type} {w : World} {B size : Nat} {c : α → List Value} {A : Option Addr} {l : List α} (hc : ∀ x, (c x).length = size) (h : RdL w B c size A l) :
    ∀ j u, (l.flatMap c)[j]? = some u → ∃ ad, A = some ad ∧ w.cell? (ad.add j) = some u := fun i u hu => by
  obtain ⟨k, j, x, rfl, hk, hj⟩ := flat_at hc l i u hu
  obtain ⟨ad, e, _, hcell⟩ := h k x hk
  exact ⟨ad, e, hcell j u hj⟩

theorem flat_length {α : Type} {c : α → List Value} {size : Nat} (hc : ∀ x, (c x).length = size) (l : List α) : (l.flatMap c).length = l.length * size := by
  induction l with
  | nil => simp
  | cons x l ih => rw [List.flatMap_cons, List.length_append, hc, ih, List.length_cons, Nat.succ_mul]; omega

theorem one_flat {α : Type} {c : α → List Value} (hc : ∀ x, ∀ u ∈ c x, u.oneCell' = true) (l : List α) : ∀ u ∈ l.flatMap c, u.oneCell' = true := fun u hu => by
  obtain ⟨x, _, hx⟩ := List.mem_flatMap.1 hu
  exact hc x u hx

/-- the list lies at A: below block B, or in a block of type T -/
def RdT {α : Type} (w : World) (B T : Nat) (c : α → List Value) (size : Nat) (A : Option Addr) (l : List α) : Prop :=
  ∀ k x, l[k]? = some x → ∃ ad, A = some ad ∧ (ad.block < w.heap.size ∧ (ad.block < B ∨ ∃ cs fr, w.heap[ad.block]? = some (.cells cs T fr))) ∧ ∀ j u, (c x)[j]? = some u → w.cell? (ad.add (k * size + j)) = some u

section
variable {α : Type} {w w' : World} {B B' T size : Nat} {c : α → List Value} {A : Option Addr} {l : List α}
theorem RdT.nil : RdT w B T c size A ([] : List α) := fun k x h => by simp at h
theorem RdT.rd (h : RdT w B T c size A l) : RdL w w.heap.size c size A l := fun k x hx => by
  obtain ⟨ad, e, ⟨hb, _⟩, hc⟩ := h k x hx
  exact ⟨ad, e, hb, hc⟩
theorem RdL.toT (h : RdL w B c size A l) (hB : B ≤ w.heap.size) : RdT w B T c size A l := fun k x hx => by
  obtain ⟨ad, e, hb, hc⟩ := h k x hx
  exact ⟨ad, e, ⟨by omega, .inl hb⟩, hc⟩
theorem RdT.mono (h : RdT w B T c size A l) (hB : B ≤ B') : RdT w B' T c size A l := fun k x hx => by
  obtain ⟨ad, e, ⟨hb, h'⟩, hc⟩ := h k x hx
  exact ⟨ad, e, ⟨hb, h'.imp (fun h => by omega) id⟩, hc⟩
theorem RdT.keep (h : RdT w B T c size A l) (hs : w.heap.size ≤ w'.heap.size) (hk : ∀ g, g < w.heap.size → (g < B ∨ ∃ cs fr, w.heap[g]? = some (.cells cs T fr)) → w'.heap[g]? = w.heap[g]?) : RdT w' B T c size A l := fun k x hx => by
  obtain ⟨ad, e, ⟨hb, h'⟩, hc⟩ := h k x hx
  have hh := hk ad.block hb h'
  refine ⟨ad, e, ⟨by omega, by rw [hh]; exact h'⟩, fun j u hu => ?_⟩
  rw [World.cell?_of_block (w := w) (w' := w') (by rw [block_add]; exact hh)]
  exact hc j u hu
theorem RdT.below (h : RdT w B T c size A l) (hb : Below w.heap.size w w') : RdT w' B T c size A l := h.keep hb.size fun g hg _ => hb.block g hg
theorem RdT.take (h : RdT w B T c size A l) (n : Nat) : RdT w B T c size A (l.take n) := fun k x hx => by
  rw [List.getElem?_take] at hx
  split at hx
  · exact h k x hx
  · cases hx
/-- an append to a row of another type, or from B on -/
theorem RdT.grown (h : RdT w B T c size A l) {base e size' n : Nat} {v : Value} {xs : List Value} (hown : w.ownsRow base e size' v n xs) (hg : w.grownBy w' v.ownBlock) (hB : B ≤ base) (hT : T ≠ e) : RdT w' B T c size A l :=
  h.keep hg.size fun g hgl hor => hg.block g hgl fun he => by
    rcases hor with hlt | ⟨cs, fr, hh⟩
    · have := (hown.lt g he.symm).1; omega
    · rcases hown.2 with ⟨rfl, _⟩ | ⟨g', cap, cur, rfl, _, hh', _⟩
      · simp [Value.ownBlock] at he
      · have : g = g' := by simpa [Value.ownBlock] using he
        subst this
        rw [hh] at hh'
        injection hh' with hh'
        injection hh' with _ h3
        exact hT h3
theorem RdT.of_own {base : Nat} {cap : Nat} (hc : ∀ x, (c x).length = size) (h : w.ownsRow base T size (.slice A l.length cap) l.length (l.flatMap c)) : RdT w B T c size A l := by
  intro k x hx
  obtain ⟨ad, e, hb, hcell⟩ := RdL.of_own hc h (Nat.le_refl _) k x hx
  refine ⟨ad, e, ⟨hb, .inr ?_⟩, hcell⟩
  have hlt : k < l.length := (List.getElem?_eq_some_iff.1 hx).1
  rcases h.2 with ⟨hn, h0⟩ | ⟨g, cap', cur, hv, _, hh, _⟩
  · omega
  · injection hv with hA
    rw [e] at hA
    cases hA
    exact ⟨_, _, hh⟩
end

/-- a slice that reads as a list -/
def SlT {α : Type} (w : World) (B T : Nat) (c : α → List Value) (size : Nat) (v : Value) (l : List α) : Prop :=
  ∃ A cap, v = .slice A l.length cap ∧ l.length ≤ cap ∧ cap ≤ maxLen ∧ RdT w B T c size A l

section
variable {α : Type} {w w' : World} {B B' T size : Nat} {c : α → List Value} {A : Option Addr} {l : List α} {v : Value}
theorem SlT.below (h : SlT w B T c size v l) (hb : Below w.heap.size w w') : SlT w' B T c size v l := by
  obtain ⟨A, cap, e, h1, h2, h3⟩ := h
  exact ⟨A, cap, e, h1, h2, h3.below hb⟩
theorem SlT.mono (h : SlT w B T c size v l) (hB : B ≤ B') : SlT w B' T c size v l := by
  obtain ⟨A, cap, e, h1, h2, h3⟩ := h
  exact ⟨A, cap, e, h1, h2, h3.mono hB⟩
theorem SlT.grown (h : SlT w B T c size v l) {base e size' n : Nat} {u : Value} {xs : List Value} (hown : w.ownsRow base e size' u n xs) (hg : w.grownBy w' u.ownBlock) (hB : B ≤ base) (hT : T ≠ e) : SlT w' B T c size v l := by
  obtain ⟨A, cap, e, h1, h2, h3⟩ := h
  exact ⟨A, cap, e, h1, h2, h3.grown hown hg hB hT⟩
theorem SlT.mk {cap : Nat} (h1 : l.length ≤ cap) (h2 : cap ≤ maxLen) (h3 : RdT w B T c size A l) : SlT w B T c size (.slice A l.length cap) l := ⟨A, cap, rfl, h1, h2, h3⟩
theorem SlT.of_own {base n : Nat} (hc : ∀ x, (c x).length = size) (hn : n = l.length) (h : w.ownsRow base T size v n (l.flatMap c)) : SlT w B T c size v l := by
  subst hn
  rcases h.2 with ⟨rfl, hn⟩ | ⟨g, cap, cur, rfl, _, _, h1, h2, _⟩
  · have : l = [] := List.eq_nil_of_length_eq_zero hn
    subst this
    exact ⟨none, 0, rfl, by simp, by simp, RdT.nil⟩
  · exact ⟨_, cap, rfl, h1, h2, RdT.of_own hc h⟩
end

theorem bcell {B : Nat} {W w1 : World} (hb : Below B W w1) : (∀ b o, b < B → w1.cell? ⟨b, o, none⟩ = W.cell? ⟨b, o, none⟩) ∧ (∀ b o, b < B → w1.frozen? ⟨b, o, none⟩ = W.frozen? ⟨b, o, none⟩) :=
  ⟨fun b o h => hb.cell (p := ⟨b, o, none⟩) h, fun b o h => hb.frozen (p := ⟨b, o, none⟩) h⟩
theorem with_below {B : Nat} {a w : World} {P : Prop} (hb : Below B a w) (h : Below B a w → P) : P := h hb
theorem own_drew {w : World} {base e size n : Nat} {v : Value} {xs : List Value} (h : w.ownsRow base e size v n xs) : w.drew.ownsRow base e size v n xs := h
theorem own_set {w : World} {base e size n : Nat} {v : Value} {xs : List Value} (h : w.ownsRow base e size v n xs) {a : Addr} (ha : a.block < base) (u : Value) : (w.setCell a u).ownsRow base e size v n xs := ownsRow_setCell_below h ha u
theorem RdT.drop {α : Type} {w : World} {B T size : Nat} {c : α → List Value} {A : Option Addr} {l : List α} (h : RdT w B T c size A l) (n cap : Nat) (hcap : n < l.length → n < cap) : RdT w B T c size (if cap = n then A else A.map (·.add (n * size))) (l.drop n) := fun k x hx => by
  rw [List.getElem?_drop] at hx
  obtain ⟨ad, e, hb, hc⟩ := h _ x hx
  have hlt : n < l.length := by have := (List.getElem?_eq_some_iff.1 hx).1; omega
  rw [if_neg (by have := hcap hlt; omega), e]
  refine ⟨ad.add (n * size), rfl, by rw [block_add]; exact hb, fun j u hu => ?_⟩
  rw [add_add, ← Nat.add_assoc, ← Nat.add_mul]
  exact hc j u hu
theorem alloc_at {W : World} {o : Obj} {g : Nat} (h : W.heap.size = g) : (W.alloc o).heap[g]? = some o := by subst h; exact heap_alloc_new W o
theorem RdT.drop1 {α : Type} {w : World} {B T : Nat} {c : α → List Value} {A : Option Addr} {l : List α} (h : RdT w B T c 1 A l) (n : Nat) : RdT w B T c 1 (A.map (·.add n)) (l.drop n) := fun k x hx => by
  rw [List.getElem?_drop] at hx
  obtain ⟨ad, e, hb, hc⟩ := h _ x hx
  rw [e]
  refine ⟨ad.add n, rfl, by rw [block_add]; exact hb, fun j u hu => ?_⟩
  have := hc j u hu
  rw [add_add, ← Nat.add_assoc, Nat.mul_one]
  rwa [Nat.mul_one] at this
theorem RdL.nilOf {α : Type} {w : World} {size : Nat} {c : α → List Value} {A : Option Addr} {l : List α} (h : l = []) : RdL w 0 c size A l := by subst h; exact RdL.nil
theorem own_cast {w : World} {base e size n : Nat} {v : Value} {xs ys : List Value} (hx : xs = ys) (h : w.ownsRow base e size v n xs) : w.ownsRow base e size v n ys := hx ▸ h

/-- the element type of a block -/
def typeAt (w : World) (g : Nat) : Option Nat := match w.heap[g]? with | some (.cells _ e _) => some e | _ => none
theorem typeAt_of {w w' : World} {g : Nat} (h : w'.heap[g]? = w.heap[g]?) : typeAt w' g = typeAt w g := by unfold typeAt; rw [h]
theorem typeAt_below {B : Nat} {w w' : World} {g : Nat} (h : Below B w w') (hg : g < B) : typeAt w' g = typeAt w g := typeAt_of (h.block g hg)
@[simp] theorem typeAt_setCell (w : World) (p : Addr) (u : Value) (g : Nat) : typeAt (w.setCell p u) g = typeAt w g := by
  unfold typeAt World.setCell
  rw [Array.getElem?_modify]
  by_cases hp : p.block = g
  · rw [if_pos hp]
    cases h : w.heap[g]? with
    | none => rfl
    | some o => cases o <;> rfl
  · rw [if_neg hp]
@[simp] theorem typeAt_drew (w : World) (g : Nat) : typeAt w.drew g = typeAt w g := rfl
@[simp] theorem typeAt_drewN (w : World) (n g : Nat) : typeAt (w.drewN n) g = typeAt w g := rfl
theorem typeAt_alloc (w : World) (cs : Array Value) (e : Nat) (fr : Nat × Nat) (g : Nat) : typeAt (w.alloc (.cells cs e fr)) g = if g = w.heap.size then some e else typeAt w g := by
  unfold typeAt
  show (match (w.heap.push _)[g]? with | some (.cells _ e _) => some e | _ => none) = _
  rw [Array.getElem?_push]
  by_cases hg : g = w.heap.size
  · rw [if_pos hg, if_pos hg]
  · rw [if_neg hg, if_neg hg]
theorem typeAt_lt {w : World} {g e : Nat} (h : typeAt w g = some e) : g < w.heap.size := by
  unfold typeAt at h
  rcases Nat.lt_or_ge g w.heap.size with hlt | hge
  · exact hlt
  · rw [Array.getElem?_eq_none hge] at h; cases h

/-- a store into a block of another type, from B on -/
theorem RdT.set {α : Type} {w : World} {B T size : Nat} {c : α → List Value} {A : Option Addr} {l : List α} (h : RdT w B T c size A l) {p : Addr} {u : Value} {e : Nat} (hB : B ≤ p.block) (hT : typeAt w p.block = some e) (hne : e ≠ T) :
    RdT (w.setCell p u) B T c size A l :=
  h.keep (by simp [World.setCell]) fun g hg hor => Below.heap_setCell w p u g (by
    rintro rfl
    rcases hor with hlt | ⟨cs, fr, hh⟩
    · omega
    · unfold typeAt at hT
      rw [hh] at hT
      injection hT with hT
      exact hne hT.symm)
theorem SlT.set {α : Type} {w : World} {B T size : Nat} {c : α → List Value} {v : Value} {l : List α} (h : SlT w B T c size v l) {p : Addr} {u : Value} {e : Nat} (hB : B ≤ p.block) (hT : typeAt w p.block = some e) (hne : e ≠ T) :
    SlT (w.setCell p u) B T c size v l := by
  obtain ⟨A, cap, e', h1, h2, h3⟩ := h
  exact ⟨A, cap, e', h1, h2, h3.set hB hT hne⟩
end Go.TR
