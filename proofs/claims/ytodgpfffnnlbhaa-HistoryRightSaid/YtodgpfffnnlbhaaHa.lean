import Derived.Test.YtodgpfffnnlbhaaLset
import Derived.Test.YtodgpfffnnlbhaaLwd
/-! history.Before, printed -/
set_option linter.unusedVariables false
namespace Go.Proofs.Try
open Go.L
set_option maxRecDepth 100000
noncomputable def hBefore (n : Nat) (x0_0 : Int) (x0_1 : Int) (x0_2 : Int) (x0_3 : Int) (x0_4 : Int) (x0_5 : Int) (x0_6 : Int) (x0_7 : Int) (x1_0 : Int) (x1_1 : Int) (x1_2 : Int) (x1_3 : Int) (x1_4 : Int) (x1_5 : Int) (x1_6 : Int) (x1_7 : Int) : Option (Res × Heap) :=
 (if (decide (x0_7 ≥ 0)) then
 some (Res.ret [(V.bool (decide (x0_7 < x1_6)))], [])
 else
 some (Res.ret [(V.bool false)], []))
theorem hBefore_eq (n : Nat) (x0_0 : Int) (x0_1 : Int) (x0_2 : Int) (x0_3 : Int) (x0_4 : Int) (x0_5 : Int) (x0_6 : Int) (x0_7 : Int) (x1_0 : Int) (x1_1 : Int) (x1_2 : Int) (x1_3 : Int) (x1_4 : Int) (x1_5 : Int) (x1_6 : Int) (x1_7 : Int) (h : Heap) : call (n + 1) 29 [(V.agg [(V.int .i64 x0_0), (V.int .i64 x0_1), (V.int .u8 x0_2), (V.int .i32 x0_3), (V.int .u8 x0_4), (V.int .i32 x0_5), (V.int .i64 x0_6), (V.int .i64 x0_7)]), (V.agg [(V.int .i64 x1_0), (V.int .i64 x1_1), (V.int .u8 x1_2), (V.int .i32 x1_3), (V.int .u8 x1_4), (V.int .i32 x1_5), (V.int .i64 x1_6), (V.int .i64 x1_7)])] h = gcw [(V.agg [(V.int .i64 x0_0), (V.int .i64 x0_1), (V.int .u8 x0_2), (V.int .i32 x0_3), (V.int .u8 x0_4), (V.int .i32 x0_5), (V.int .i64 x0_6), (V.int .i64 x0_7)]), (V.agg [(V.int .i64 x1_0), (V.int .i64 x1_1), (V.int .u8 x1_2), (V.int .i32 x1_3), (V.int .u8 x1_4), (V.int .i32 x1_5), (V.int .i64 x1_6), (V.int .i64 x1_7)])] (hBefore n x0_0 x0_1 x0_2 x0_3 x0_4 x0_5 x0_6 x0_7 x1_0 x1_1 x1_2 x1_3 x1_4 x1_5 x1_6 x1_7) h := by kernel_rfl
end Go.Proofs.Try
