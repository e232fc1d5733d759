import Derived.Test.YtooibfffneecfaaMem2
import Derived.Test.YtooibfffneecfaaInts
import Derived.WalkLawsBesides
import Derived.WalkSpells
import Derived.BigQuiet
namespace Go.Proofs.Try
open Go.RowKit Go.Rp
set_option linter.unusedSimpArgs false
set_option maxRecDepth 100000

set_option maxHeartbeats 400000 in
theorem before19_any (a b : Sp) (w : World) :
    Calls prog 55 #[.agg a.cs.toArray, .agg b.cs.toArray] w fun e w' => e = .returned (.bool (before a b)) ∧ Below w.heap.size w w' := by
  obtain ⟨a1, a2, ⟨a3, a4⟩, ⟨a5, a6⟩, a7, a8⟩ := a
  obtain ⟨b1, b2, ⟨b3, b4⟩, ⟨b5, b6⟩, b7, b8⟩ := b
  simp only [Sp.cs, before]
  by_cases h : 0 ≤ a8
  · have hd : decide (0 ≤ a8) = true := by simpa using h
    go_enter func55, ntmps55
    go_wp2
    go_ret
    exact ⟨by simp [h], ((Below.refl _ _).alloc (Nat.le_refl _) _).alloc (by simp) _⟩
  · have hd : decide (0 ≤ a8) = false := by simpa using h
    go_enter func55, ntmps55
    go_wp2
    go_ret
    exact ⟨by simp [h], ((Below.refl _ _).alloc (Nat.le_refl _) _).alloc (by simp) _⟩

set_option maxHeartbeats 400000 in
theorem before_any (a b : Sp) (w : World) :
    Calls prog 26 #[.agg a.cs.toArray, .agg b.cs.toArray] w fun e w' => e = .returned (.bool (before a b)) ∧ Below w.heap.size w w' := by
  obtain ⟨a1, a2, ⟨a3, a4⟩, ⟨a5, a6⟩, a7, a8⟩ := a
  obtain ⟨b1, b2, ⟨b3, b4⟩, ⟨b5, b6⟩, b7, b8⟩ := b
  simp only [Sp.cs, before]
  by_cases h : 0 ≤ a8
  · have hd : decide (0 ≤ a8) = true := by simpa using h
    go_enter func26, ntmps26
    go_wp2
    go_ret
    exact ⟨by simp [h], ((Below.refl _ _).alloc (Nat.le_refl _) _).alloc (by simp) _⟩
  · have hd : decide (0 ≤ a8) = false := by simpa using h
    go_enter func26, ntmps26
    go_wp2
    go_ret
    exact ⟨by simp [h], ((Below.refl _ _).alloc (Nat.le_refl _) _).alloc (by simp) _⟩
end Go.Proofs.Try
