import Derived.Test.YtodgpfffnnlbhaaLwd
/-! L: words at rows of the heap -/
set_option linter.unusedVariables false
set_option linter.unusedSimpArgs false
namespace Go.L
theorem rowOf_at {h : Heap} {b e sz lo hi : Nat} {l : List (List V)} {z : Bool} (hb : h[b]? = some (.row e sz l z)) (h1 : lo ≤ hi) (h2 : hi ≤ l.length) : rowOf h b sz lo hi = some ((l.take hi).drop lo) := by
  simp only [rowOf, hb]
  rw [if_pos ⟨trivial, h1, h2⟩]
theorem rowOf_all {h : Heap} {b e sz : Nat} {l : List (List V)} {z : Bool} (hb : h[b]? = some (.row e sz l z)) : rowOf h b sz 0 l.length = some l := by
  rw [rowOf_at hb (Nat.zero_le _) (Nat.le_refl _), List.take_length, List.drop_zero]
theorem slcH_row {h : Heap} {b e sz lo hi : Nat} {l : List (List V)} {z : Bool} (hb : h[b]? = some (.row e sz l z)) (h1 : lo ≤ hi) (h2 : hi ≤ l.length) : slcH h (.row b sz lo hi) = some (sz, (l.take hi).drop lo) := by
  simp only [slcH, rowOf_at hb h1 h2, Option.map_some]
theorem slcH_all {h : Heap} {b e sz : Nat} {l : List (List V)} {z : Bool} (hb : h[b]? = some (.row e sz l z)) : slcH h (.row b sz 0 l.length) = some (sz, l) := by
  simp only [slcH, rowOf_all hb, Option.map_some]
theorem valB_row {h : Heap} {b e sz lo hi : Nat} {l : List (List V)} {z : Bool} (hb : h[b]? = some (.row e sz l z)) (h1 : lo ≤ hi) (h2 : hi ≤ l.length) : valB h (.row b sz lo hi) = some (.sl sz ((l.take hi).drop lo) false) := by
  simp only [valB, rowOf_at hb h1 h2, Option.map_some]
theorem valB_all {h : Heap} {b e sz : Nat} {l : List (List V)} {z : Bool} (hb : h[b]? = some (.row e sz l z)) : valB h (.row b sz 0 l.length) = some (.sl sz l false) := by
  simp only [valB, rowOf_all hb, Option.map_some]
theorem valB_sl (h : Heap) (sz : Nat) (l : List (List V)) (b : Bool) : valB h (.sl sz l b) = some (.sl sz l b) := rfl
theorem lenP_row (b sz lo hi : Nat) : lenP (.row b sz lo hi) = some (hi - lo) := rfl
theorem sliceP_row {r sz u v a b : Nat} (h1 : a ≤ b) (h2 : b ≤ v - u) (ok : Bool) : sliceP sz a b none ok (.row r sz u v) = some (.row r sz (u + a) (u + b)) := by
  simp only [sliceP]
  rw [if_pos ⟨⟨h1, h2, trivial⟩, trivial⟩]
theorem idxP_row {b sz lo hi n : Nat} (h : n < hi - lo) : idxP sz n (.row b sz lo hi) = some (.rptr b sz (lo + n) 0) := by
  simp only [idxP]
  rw [if_pos ⟨trivial, h⟩]
theorem cellsP_rptr {h : Heap} {b e sz i c : Nat} {l : List (List V)} {z : Bool} {es : List V} (hb : h[b]? = some (.row e sz l z)) (h0 : 0 < sz) (hi : l[i]? = some es) : cellsP h (.rptr b sz i c) = some (es, sz, c) := by
  simp only [cellsP, hb]
  rw [if_pos ⟨trivial, h0⟩]
  simp only [hi]
theorem addP_rptr (k b sz i c : Nat) : addP k (.rptr b sz i c) = some (.rptr b sz i (c + k)) := rfl
theorem writeB_rptr {h : Heap} {b e sz i c : Nat} {l : List (List V)} {z : Bool} {es vs : List V} (hb : h[b]? = some (.row e sz l z)) (h0 : 0 < sz) (hc : c + vs.length ≤ sz) (hi : l[i]? = some es) : writeB h vs (.rptr b sz i c) = some (b, .row e sz (l.set i (setR es c vs)) z) := by
  simp only [writeB, hb]
  rw [if_pos ⟨trivial, h0, hc⟩]
  simp only [hi]
end Go.L
