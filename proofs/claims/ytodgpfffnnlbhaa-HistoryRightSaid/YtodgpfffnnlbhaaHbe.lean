import Derived.Test.YtodgpfffnnlbhaaHa
import Derived.Test.YtodgpfffnnlbhaaPlain
/-! history.Before -/
set_option linter.unusedVariables false
set_option linter.unusedSimpArgs false
namespace Go.Proofs.Try
open Go.L Go.Rp
set_option maxRecDepth 100000
theorem before_ints (n : Nat) (x0_0 x0_1 x0_2 x0_3 x0_4 x0_5 x0_6 x0_7 x1_0 x1_1 x1_2 x1_3 x1_4 x1_5 x1_6 x1_7 : Int) (h : Heap) :
    call (n + 1) 29 [(V.agg [(V.int .i64 x0_0), (V.int .i64 x0_1), (V.int .u8 x0_2), (V.int .i32 x0_3), (V.int .u8 x0_4), (V.int .i32 x0_5), (V.int .i64 x0_6), (V.int .i64 x0_7)]), (V.agg [(V.int .i64 x1_0), (V.int .i64 x1_1), (V.int .u8 x1_2), (V.int .i32 x1_3), (V.int .u8 x1_4), (V.int .i32 x1_5), (V.int .i64 x1_6), (V.int .i64 x1_7)])] h = some (.ret [.bool (decide (0 ≤ x0_7) && decide (x0_7 < x1_6))], h) := by
  rw [hBefore_eq]
  have key : hBefore n x0_0 x0_1 x0_2 x0_3 x0_4 x0_5 x0_6 x0_7 x1_0 x1_1 x1_2 x1_3 x1_4 x1_5 x1_6 x1_7 = some (.ret [.bool (decide (0 ≤ x0_7) && decide (x0_7 < x1_6))], []) := by
    unfold hBefore
    by_cases h0 : (0 : Int) ≤ x0_7
    · simp [h0]
    · simp [h0]
  rw [key]
  exact gcw_ret (by simp) (by simp)
theorem before_call (n : Nat) (a b : Sp) (h : Heap) : call (n + 1) 29 [.agg a.v, .agg b.v] h = some (.ret [.bool (decide (0 ≤ a.to) && decide (a.to < b.fr))], h) :=
  before_ints n _ _ _ _ _ _ _ _ _ _ _ _ _ _ _ _ h
end Go.Proofs.Try
