import Derived.Test.YtodgpfffnnlbhaaMem2
/-! the spans of choices -/
namespace Go.Rp
/-- the span of the operation at a place -/
def spanAt (d : List Int) (k : Nat) (o : O) (r : R) : Sp :=
  match d[k]? with
  | none => ⟨(k : Int) % 3, (k : Int) / 3 + 1, o, r, max 0 (4 * k - 0), 4 * k + 1⟩
  | some x => if 240 ≤ x then ⟨(k : Int) % 3, (k : Int) / 3 + 1, o, ⟨0, 0⟩, max 0 (4 * k - x % 9), -1⟩
    else ⟨(k : Int) % 3, (k : Int) / 3 + 1, o, r, max 0 (4 * k - x % 9), 4 * k + x / 9 % 9⟩
def logAt (k : Nat) (o : O) (r : R) : Ap := ⟨(k : Int) % 3, (k : Int) / 3 + 1, o, r, 0⟩
/-- those ahead of a place -/
def spansTo (object m : Int) (os : List O) (d : List Int) : Nat → List Sp
  | 0 => []
  | k + 1 => spansTo object m os d k ++ [spanAt d k (os.getD k ⟨0, 0⟩) (apply object m (run object m [] (os.take k)).1 (os.getD k ⟨0, 0⟩)).2]
def logTo (object m : Int) (os : List O) : Nat → List Ap
  | 0 => []
  | k + 1 => logTo object m os k ++ [logAt k (os.getD k ⟨0, 0⟩) (apply object m (run object m [] (os.take k)).1 (os.getD k ⟨0, 0⟩)).2]
/-- the operations that are done -/
def done (c : List Int) : List O := (ops c 4).take 14
def spans (object m : Int) (c d : List Int) : List Sp := spansTo object m (done c) d (done c).length
def logs (object m : Int) (c : List Int) : List Ap := logTo object m (done c) (done c).length
theorem spansTo_len (object m : Int) (os : List O) (d : List Int) : ∀ k, (spansTo object m os d k).length = k
  | 0 => rfl
  | k + 1 => by simp [spansTo, spansTo_len object m os d k]
theorem logTo_len (object m : Int) (os : List O) : ∀ k, (logTo object m os k).length = k
  | 0 => rfl
  | k + 1 => by simp [logTo, logTo_len object m os k]
theorem done_len (c : List Int) : (done c).length ≤ 14 := by unfold done; simp; omega
end Go.Rp
/-! when an order fits -/
namespace Go.Rp
def opAt (l : List Sp) (n : Int) : O := (l.getD n.toNat ⟨0, 0, ⟨0, 0⟩, ⟨0, 0⟩, 0, 0⟩).op
/-- what the operations of an order are told -/
def toldOf (object m : Int) (l : List Sp) (order : List Int) : List R := (run object m [] (order.map (opAt l))).2
/-- does an order fit? -/
structure Fit (object m : Int) (l : List Sp) (order : List Int) : Prop where
  inr : ∀ (k : Nat) n, order[k]? = some n → 0 ≤ n ∧ n < l.length
  once : ∀ (j k : Nat) n, j < k → order[j]? = some n → order[k]? = some n → False
  ahead : ∀ (j k : Nat) a b x y, j < k → order[j]? = some a → order[k]? = some b → l[a.toNat]? = some x → l[b.toNat]? = some y → before y x = false
  whole : ∀ (k : Nat) s, l[k]? = some s → 0 ≤ s.to → (k : Int) ∈ order
  told : ∀ (k : Nat) n s, order[k]? = some n → l[n.toNat]? = some s → 0 ≤ s.to → (toldOf object m l order)[k]? = some s.res
/-- the front of an order, as far as it was looked at -/
structure Front (l : List Sp) (order : List Int) (k : Nat) : Prop where
  inr : ∀ (i : Nat) n, i < k → order[i]? = some n → 0 ≤ n ∧ n < l.length
  once : ∀ (j i : Nat) n, j < i → i < k → order[j]? = some n → order[i]? = some n → False
  ahead : ∀ (j i : Nat) a b x y, j < i → i < k → order[j]? = some a → order[i]? = some b → l[a.toNat]? = some x → l[b.toNat]? = some y → before y x = false
theorem Front.zero (l : List Sp) (order : List Int) : Front l order 0 := ⟨fun i n h => by omega, fun j i n h h' => by omega, fun j i a b x y h h' => by omega⟩
theorem place_lt {l : List Int} {k : Nat} {n : Int} (_h : l[k]? = some n) : place l n < k ↔ ∃ j, j < k ∧ l[j]? = some n := by
  unfold place
  cases hf : l.findIdx? (· == n) with
  | none =>
    exfalso
    rw [List.findIdx?_eq_none_iff] at hf
    have := hf n (List.mem_of_getElem? _h)
    simp at this
  | some i =>
    obtain ⟨hlt, hi, hmin⟩ := List.findIdx?_eq_some_iff_getElem.1 hf
    constructor
    · intro h
      refine ⟨i, by simpa using h, ?_⟩
      rw [List.getElem?_eq_getElem hlt]
      simpa using hi
    · rintro ⟨j, hj, hjn⟩
      have : ¬ j < i := fun hji => by
        have := hmin j hji
        rw [List.getElem?_eq_getElem (by omega)] at hjn
        injection hjn with hjn
        simp [hjn] at this
      simp
      omega
theorem place_neg (l : List Int) (n : Int) : place l n < 0 ↔ n ∉ l := by
  unfold place
  cases hf : l.findIdx? (· == n) with
  | none =>
    rw [List.findIdx?_eq_none_iff] at hf
    simp
    intro h
    have := hf n h
    simp at this
  | some i =>
    obtain ⟨hlt, hi, _⟩ := List.findIdx?_eq_some_iff_getElem.1 hf
    have : n ∈ l := by
      have : l[i] = n := by simpa using hi
      rw [← this]; exact List.getElem_mem hlt
    simp [this]
/-- one more -/
theorem Front.succ {l : List Sp} {order : List Int} {k : Nat} {n : Int} {y : Sp} (h : Front l order k) (hn : order[k]? = some n) (h0 : 0 ≤ n) (h1 : n < l.length) (hpl : ¬ place order n < k) (hy : l[n.toNat]? = some y)
    (hb : ∀ (j : Nat) a x, j < k → order[j]? = some a → l[a.toNat]? = some x → before y x = false) : Front l order (k + 1) where
  inr := fun i a hi ha => by
    rcases Nat.lt_or_ge i k with hlt | hge
    · exact h.inr i a hlt ha
    · obtain rfl : i = k := by omega
      rw [hn] at ha; cases ha; exact ⟨h0, h1⟩
  once := fun j i a hji hi ha ha' => by
    rcases Nat.lt_or_ge i k with hlt | hge
    · exact h.once j i a hji hlt ha ha'
    · obtain rfl : i = k := by omega
      rw [hn] at ha'; cases ha'
      exact hpl ((place_lt hn).2 ⟨j, hji, ha⟩)
  ahead := fun j i a b x z hji hi ha hb' hx hz => by
    rcases Nat.lt_or_ge i k with hlt | hge
    · exact h.ahead j i a b x z hji hlt ha hb' hx hz
    · obtain rfl : i = k := by omega
      rw [hn] at hb'; cases hb'
      rw [hy] at hz; cases hz
      exact hb j a x hji ha hx
end Go.Rp
