import Derived.Test.YtodgpfffnnlbhaaMem2
/-! what the laws of layer 8 say, of lists alone -/
namespace Go.Rp
theorem run_append (o m : Int) : ∀ (l1 l2 : List O) (s : List Int), run o m s (l1 ++ l2) = ((run o m (run o m s l1).1 l2).1, (run o m s l1).2 ++ (run o m (run o m s l1).1 l2).2)
  | [], l2, s => by simp [run]
  | x :: l1, l2, s => by simp [run, run_append o m l1 l2]
theorem ins_sorted (v : Int) : ∀ (s : List Int), s.Pairwise (· ≤ ·) → (s.take (upto v s) ++ [v] ++ s.drop (upto v s)).Pairwise (· ≤ ·)
  | [], _ => by simp [upto]
  | x :: s, h => by
    obtain ⟨h1, h2⟩ := List.pairwise_cons.1 h
    unfold upto
    by_cases hx : x ≤ v
    · rw [if_pos hx]
      simp only [List.take_succ_cons, List.drop_succ_cons, List.cons_append]
      refine List.pairwise_cons.2 ⟨fun y hy => ?_, by simpa using ins_sorted v s h2⟩
      simp only [List.mem_append, List.mem_cons, List.not_mem_nil, or_false] at hy
      rcases hy with (hy | rfl) | hy
      · exact h1 y (List.mem_of_mem_take hy)
      · exact hx
      · exact h1 y (List.mem_of_mem_drop hy)
    · rw [if_neg hx]
      simp only [List.take_zero, List.nil_append, List.drop_zero, List.cons_append]
      refine List.pairwise_cons.2 ⟨fun y hy => ?_, h⟩
      rcases List.mem_cons.1 hy with rfl | hy
      · omega
      · have := h1 y hy; omega
theorem heap_sorted {m : Int} {s : List Int} (o : O) (h : s.Pairwise (· ≤ ·)) : (do8 m s o).1.Pairwise (· ≤ ·) := by
  unfold do8
  split
  · split
    · exact h
    · exact ins_sorted o.v s h
  · split
    · split
      · exact h
      · exact h.sublist (List.drop_sublist 1 s)
    · exact h
theorem heap_len {m : Int} {s : List Int} (o : O) (h0 : 0 ≤ m) (hm : m ≤ 1000) (h : (s.length : Int) ≤ m) : ((do8 m s o).1.length : Int) ≤ m := by
  have hmo : most m = m := by unfold most; omega
  unfold do8
  rw [hmo]
  have := upto_le o.v s
  split
  · split
    · exact h
    · simp; omega
  · split
    · split
      · exact h
      · simp; omega
    · exact h
theorem heap_got {m : Int} {s : List Int} {o : O} (h : (do8 m s o).2.c = 2) : s.length ≠ 0 ∧ (do8 m s o).2.v = s.getD 0 0 := by
  unfold do8 at h ⊢
  split
  · rename_i h1
    rw [if_pos h1] at h
    split at h <;> simp at h
  · rename_i h1
    rw [if_neg h1] at h
    split
    · rename_i h2
      rw [if_pos h2] at h
      split
      · rename_i h3
        rw [if_pos h3] at h
        simp at h
      · rename_i h3
        exact ⟨h3, rfl⟩
    · rename_i h2
      rw [if_neg h2] at h
      simp at h
end Go.Rp
