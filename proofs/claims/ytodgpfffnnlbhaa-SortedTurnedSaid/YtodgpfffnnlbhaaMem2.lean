import Derived.Test.YtodgpfffnnlbhaaPlain
/-! more on memory, and on the plain functions -/
namespace Go.TR
open Go.RowKit
theorem own_below {w w' : World} {base e size n : Nat} {v : Value} {xs : List Value} (h : w.ownsRow base e size v n xs) (hb : Below w.heap.size w w') : w'.ownsRow base e size v n xs := by
  obtain ⟨h1, h2⟩ := h
  refine ⟨h1, ?_⟩
  rcases h2 with h2 | ⟨g, cap, cur, hv, hg, hh, r⟩
  · exact .inl h2
  · refine .inr ⟨g, cap, cur, hv, hg, ?_, r⟩
    rw [hb.block g ?_]; exact hh
    rcases Nat.lt_or_ge g w.heap.size with h' | h'
    · exact h'
    · rw [Array.getElem?_eq_none h'] at hh; cases hh
/-- the cells of an element -/
theorem RdL.cell {α : Type} {w : World} {B size : Nat} {c : α → List Value} {A : Option Addr} {l : List α} (h : RdL w B c size A l) {k : Nat} {x : α} (hx : l[k]? = some x) :
    ∃ ad, A = some ad ∧ ad.block < B ∧ ∀ j u, (c x)[j]? = some u → w.cell? (ad.add (k * size + j)) = some u := h k x hx
/-- the same, in the walk's spelling -/
theorem RdL.cells {α : Type} {w : World} {B size : Nat} {c : α → List Value} {A : Option Addr} {l : List α} (h : RdL w B c size A l) {k : Nat} {x : α} (hx : l[k]? = some x) :
    ∃ ad, A = some ad ∧ ad.block < B ∧ (∀ u, (c x)[0]? = some u → w.cell? (ad.add (k * size)) = some u) ∧
      ∀ j u, j ≠ 0 → (c x)[j]? = some u → w.cell? ⟨(ad.add (k * size)).block, (ad.add (k * size)).off + j, none⟩ = some u := by
  obtain ⟨ad, e, hb, hc⟩ := h k x hx
  refine ⟨ad, e, hb, fun u hu => by simpa using hc 0 u hu, fun j u hj hu => ?_⟩
  have := hc j u hu
  rw [← add_add] at this
  have he : (ad.add (k * size)).add j = ⟨(ad.add (k * size)).block, (ad.add (k * size)).off + j, none⟩ := by
    generalize ad.add (k * size) = q
    unfold Addr.add
    rw [if_neg hj]
  rwa [he] at this
theorem SlT.nil {α : Type} {w : World} {B T size : Nat} {c : α → List Value} : SlT w B T c size (.slice none 0 0) ([] : List α) := ⟨none, 0, rfl, Nat.le_refl _, Nat.zero_le _, RdT.nil⟩
end Go.TR
namespace Go.Rp
theorem apply_len (object m : Int) (s : List Int) (o : O) : (apply object m s o).1.length ≤ s.length + 1 := by
  have hu := upto_le o.v s
  unfold apply do4 do5 do8
  (repeat' split) <;> simp <;> omega
theorem run_snoc (object m : Int) : ∀ (l : List O) (s : List Int) (o : O), run object m s (l ++ [o]) =
    ((apply object m (run object m s l).1 o).1, (run object m s l).2 ++ [(apply object m (run object m s l).1 o).2])
  | [], s, o => by simp [run]
  | x :: l, s, o => by simp [run, run_snoc object m l]
theorem run_len (object m : Int) : ∀ (l : List O) (s : List Int), (run object m s l).1.length ≤ s.length + l.length ∧ (run object m s l).2.length = l.length
  | [], s => by simp [run]
  | x :: l, s => by
    have h1 := apply_len object m s x
    have h2 := run_len object m l (apply object m s x).1
    simp only [run, List.length_cons]
    omega
end Go.Rp
/-! rows beside rows -/
namespace Go.TR
open Go.RowKit
theorem own_base {w : World} {base base' e size n : Nat} {v : Value} {xs : List Value} (h : w.ownsRow base e size v n xs) (hb : base' ≤ base) : w.ownsRow base' e size v n xs := by
  obtain ⟨h1, h2⟩ := h
  refine ⟨h1, ?_⟩
  rcases h2 with h2 | ⟨g, cap, cur, hv, hg, r⟩
  · exact .inl h2
  · exact .inr ⟨g, cap, cur, hv, by omega, r⟩
/-- a row of another type, behind an append -/
theorem own_kept {w w' : World} {base e size n base' e' size' n' : Nat} {v v' : Value} {xs xs' : List Value} (h : w.ownsRow base e size v n xs) (h' : w.ownsRow base' e' size' v' n' xs') (hg : w.grownBy w' v'.ownBlock) (hne : e ≠ e') : w'.ownsRow base e size v n xs := by
  refine h.kept hg ?_
  rcases h.2 with ⟨rfl, _⟩ | ⟨g, cap, cur, rfl, _, hh, _⟩
  · exact .inl rfl
  · right
    rcases h'.2 with ⟨rfl, _⟩ | ⟨g', cap', cur', rfl, _, hh', _⟩
    · simp [Value.ownBlock]
    · intro he
      have : g = g' := by simpa [Value.ownBlock] using he
      subst this
      rw [hh] at hh'
      injection hh' with hh'
      injection hh' with _ h3
      exact hne h3
/-- a block that was laid behind the row -/
theorem grown_new {w1 W w2 : World} {base e size n : Nat} {v : Value} {xs : List Value} (ho : w1.ownsRow base e size v n xs) (hg : W.grownBy w2 v.ownBlock) {g : Nat} (h1 : w1.heap.size ≤ g) (h2 : g < W.heap.size) : w2.heap[g]? = W.heap[g]? :=
  hg.block g h2 fun he => by have := (ho.lt g he.symm).2; omega
theorem grown_new_cell {w1 W w2 : World} {base e size n : Nat} {v : Value} {xs : List Value} (ho : w1.ownsRow base e size v n xs) (hg : W.grownBy w2 v.ownBlock) {g : Nat} (h1 : w1.heap.size ≤ g) (h2 : g < W.heap.size) (o : Nat) : w2.cell? ⟨g, o, none⟩ = W.cell? ⟨g, o, none⟩ :=
  World.cell?_of_block (w := W) (grown_new ho hg h1 h2)
theorem cell_lt {w : World} {p : Addr} {v : Value} (h : w.cell? p = some v) : p.block < w.heap.size := by
  unfold World.cell? at h
  rcases Nat.lt_or_ge p.block w.heap.size with hlt | hge
  · exact hlt
  · rw [Array.getElem?_eq_none hge] at h; cases h
theorem cell_alloc {w : World} {p : Addr} {v : Value} (h : w.cell? p = some v) (o : Obj) : (w.alloc o).cell? p = some v := by
  rw [World.cell?_alloc_lt w o p (cell_lt h)]; exact h
theorem cell_alloc2 {w : World} {p : Addr} {v : Value} (h : w.cell? p = some v) (o o' : Obj) : ((w.alloc o).alloc o').cell? p = some v := cell_alloc (cell_alloc h o) o'
theorem cell_alloc3 {w : World} {p : Addr} {v : Value} (h : w.cell? p = some v) (o o' o'' : Obj) : (((w.alloc o).alloc o').alloc o'').cell? p = some v := cell_alloc (cell_alloc2 h o o') o''
theorem heap_alloc_old {w : World} {g : Nat} {o : Obj} (h : w.heap[g]? = some o) (o' : Obj) : (w.alloc o').heap[g]? = some o := by
  have hlt : g < w.heap.size := (Array.getElem?_eq_some_iff.1 h).1
  show (w.heap.push o')[g]? = _
  rw [Array.getElem?_push, if_neg (by omega)]; exact h
theorem cell_row {w : World} {g : Nat} {cs : Array Value} {e : TypeId} {fr : Nat × Nat} (h : w.heap[g]? = some (.cells cs e fr)) (i : Nat) : w.cell? ⟨g, i, none⟩ = cs[i]? := cell_of_row w g i cs e fr h
/-- it answers whether P -/
def BoolIff (P : Prop) (w : World) (e : Ending) (w' : World) : Prop := ∃ b, e = .returned (.bool b) ∧ (b = true ↔ P) ∧ Below w.heap.size w w'
theorem BoolIff.no {P : Prop} {w w' : World} (h : ¬ P) (hb : Below w.heap.size w w') : BoolIff P w (.returned (.bool false)) w' := ⟨false, rfl, ⟨fun h => by simp at h, fun hp => (h hp).elim⟩, hb⟩
theorem BoolIff.yes {P : Prop} {w w' : World} (h : P) (hb : Below w.heap.size w w') : BoolIff P w (.returned (.bool true)) w' := ⟨true, rfl, ⟨fun _ => h, fun _ => rfl⟩, hb⟩
end Go.TR
