import Derived.Test.YtodgpfffnnlbhaaLwd
/-! L: words at boxes and slices that are known; maps whose keys are told apart -/
set_option linter.unusedVariables false
set_option linter.unusedSimpArgs false
namespace Go.L
/-! words at blocks that are known -/
theorem cellsP_box {h : Heap} {b n : Nat} {cs : List V} (hb : h[b]? = some (.box n cs)) (o : Nat) : cellsP h (.ptr b o) = some (cs, n, o) := by simp only [cellsP, hb]
theorem cellsP_iptr (h : Heap) (n : Nat) (cs : List V) (o : Nat) : cellsP h (.iptr n cs o) = some (cs, n, o) := rfl
theorem idxP_sl {sz n : Nat} {l : List (List V)} {es : List V} (h : l[n]? = some es) (b : Bool) : idxP sz n (.sl sz l b) = some (.iptr sz es 0) := by simp [idxP, h]
@[simp] theorem slcH_sl (h : Heap) (sz : Nat) (l : List (List V)) (b : Bool) : slcH h (.sl sz l b) = some (sz, l) := rfl
@[simp] theorem lenP_sl (sz : Nat) (l : List (List V)) (b : Bool) : lenP (.sl sz l b) = some l.length := rfl
@[simp] theorem aggK_agg {R : Type} (l : List V) (k : List V → Option R) : aggK (.agg l) k = k l := rfl
theorem mapOf_map {h : Heap} {b : Nat} {es : List (V × V)} (hb : h[b]? = some (.map es)) : mapOf h (.map b) = some es := by simp only [mapOf, hb]
/-! maps whose keys are told apart -/
section
variable {α : Type} [DecidableEq α] {kf : α → V} {ks : List Nat}
def asM (kf : α → V) (L : List (α × V)) : List (V × V) := L.map fun p => (kf p.1, p.2)
theorem findI_asM (hk : ∀ a b, keq ks (kf a) (kf b) = some (decide (a = b))) (a : α) : ∀ (L : List (α × V)) (i : Nat), findI ks (kf a) (asM kf L) i = some ((L.findIdx? (fun p => decide (a = p.1))).map (· + i))
  | [], i => rfl
  | p :: L, i => by
    unfold asM
    rw [List.map_cons, findI, hk, List.findIdx?_cons]
    by_cases h : a = p.1
    · simp [h]
    · simp only [h, decide_false, Bool.false_eq_true, if_false]
      have := findI_asM hk a L (i + 1)
      unfold asM at this
      rw [this]
      cases L.findIdx? (fun p => decide (a = p.1)) <;> simp; omega
/-- what a key leads to -/
def lookV (L : List (α × V)) (a : α) : Option V := (L.find? (fun p => decide (a = p.1))).map (·.2)
def updA (L : List (α × V)) (a : α) (v : V) : List (α × V) := match L.findIdx? (fun p => decide (a = p.1)) with
  | some i => L.set i (a, v)
  | none => L ++ [(a, v)]
theorem upd_asM (L : List (α × V)) (a : α) (v : V) : upd (asM kf L) (kf a) v (L.findIdx? (fun p => decide (a = p.1))) = asM kf (updA L a v) := by
  unfold updA
  cases L.findIdx? (fun p => decide (a = p.1)) with
  | none => simp [upd, asM]
  | some i => simp [upd, asM, List.map_set]
theorem entry_asM (L : List (α × V)) (a : α) (z : V) : entryV (asM kf L) z (L.findIdx? (fun p => decide (a = p.1))) = some ((lookV L a).getD z) ∧ (L.findIdx? (fun p => decide (a = p.1))).isSome = (lookV L a).isSome := by
  unfold lookV
  induction L with
  | nil => exact ⟨rfl, rfl⟩
  | cons p L ih =>
    rw [List.findIdx?_cons, List.find?_cons]
    by_cases h : a = p.1
    · simp [h, entryV, asM]
    · simp only [h, decide_false, Bool.false_eq_true, if_false]
      obtain ⟨h1, h2⟩ := ih
      cases hf : L.findIdx? (fun p => decide (a = p.1)) with
      | none =>
        rw [hf] at h1 h2
        simp only [Option.map_none, entryV] at h1 ⊢
        exact ⟨h1, h2⟩
      | some i =>
        rw [hf] at h1 h2
        simp only [Option.map_some, entryV, asM, List.map_cons, List.getElem?_cons_succ] at h1 ⊢
        exact ⟨h1, by simpa using h2⟩
theorem lookV_updA (L : List (α × V)) (a b : α) (v : V) : lookV (updA L a v) b = if b = a then some v else lookV L b := by
  unfold lookV updA
  induction L with
  | nil =>
    simp only [List.findIdx?_nil, List.nil_append, List.find?_cons, List.find?_nil]
    by_cases h : b = a <;> simp [h]
  | cons p L ih =>
    rw [List.findIdx?_cons]
    by_cases h : a = p.1
    · simp only [h, decide_true, if_true]
      rw [← h]
      simp only [List.set_cons_zero, List.find?_cons]
      by_cases hb : b = a
      · simp [hb]
      · simp [hb, ← h]
    · simp only [h, decide_false, Bool.false_eq_true, if_false]
      cases hf : L.findIdx? (fun p => decide (a = p.1)) with
      | none =>
        rw [hf] at ih
        simp only [Option.map_none] at ih ⊢
        rw [List.cons_append, List.find?_cons, List.find?_cons]
        by_cases hb : b = p.1
        · have hne : b ≠ a := fun e => h (e ▸ hb)
          simp [hb, Ne.symm h]
        · simp only [hb, decide_false]
          exact ih
      | some i =>
        rw [hf] at ih
        simp only [Option.map_some] at ih ⊢
        rw [List.set_cons_succ, List.find?_cons, List.find?_cons]
        by_cases hb : b = p.1
        · have hne : b ≠ a := fun e => h (e ▸ hb)
          simp [hb, Ne.symm h]
        · simp only [hb, decide_false]
          exact ih
end
end Go.L
