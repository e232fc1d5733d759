import Derived.Test.YtodgpfffnnlbhaaLopen
/-! arguments that came in: spans by value -/
set_option linter.unusedVariables false
namespace Go.L
open Go.ChangeShapes Go.WideShapes Go.Rp
section
variable {H : Type} {enc : TypeId × Value → H} {P : Program} {w w' : World} {held : Bool} {spare : Nat → Bool}
theorem span_open {t : TypeId} {fs : Array Field} (ht : P.underlying t = some (.struct fs)) {v : Value} {r : Reach} {b base fuel : Nat} {x : DataW H × List MemPlace} (hok : Value.okWide P w' r b t v) (hk : iks P 12 t = some [.i64, .i64, .u8, .i32, .u8, .i32, .i64, .i64]) (h : DataW.trod enc P w base spare held fuel t v.cells.toList = some x) :
    ∃ a : Sp, v = .agg a.cs.toArray ∧ SpWf a := by
  obtain ⟨cs, rfl, _⟩ := okWide_struct ht hok
  obtain ⟨s, h1, h2⟩ := span_of (iks_open 12 t _ hk h)
  refine ⟨s, ?_, h2⟩
  congr 1
  exact Array.toList_inj.1 h1
end
theorem span_ok {im : Im} {io : Io} (a : Sp) : VR im io (.agg a.v) (.agg a.cs.toArray) := by
  refine .agg _ _ rfl (fun x hx => ?_) (fun i x y h1 h2 => ?_)
  · simp [Sp.v] at hx; rcases hx with rfl | rfl | rfl | rfl | rfl | rfl | rfl | rfl <;> rfl
  · match i with
    | 0 => cases h1; cases h2; exact .int _ _
    | 1 => cases h1; cases h2; exact .int _ _
    | 2 => cases h1; cases h2; exact .int _ _
    | 3 => cases h1; cases h2; exact .int _ _
    | 4 => cases h1; cases h2; exact .int _ _
    | 5 => cases h1; cases h2; exact .int _ _
    | 6 => cases h1; cases h2; exact .int _ _
    | 7 => cases h1; cases h2; exact .int _ _
    | i + 8 => cases h1
end Go.L
