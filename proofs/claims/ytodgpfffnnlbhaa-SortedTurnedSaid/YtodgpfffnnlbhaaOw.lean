import Derived.Test.YtodgpfffnnlbhaaLwd
import Derived.Test.YtodgpfffnnlbhaaLmw
import Derived.Test.YtodgpfffnnlbhaaSplain
/-! operations and answers as values -/
set_option linter.unusedVariables false
set_option linter.unusedSimpArgs false
namespace Go.Proofs.Try
open Go.L Go.Rp
set_option maxRecDepth 100000
def _root_.Go.Rp.O.w (o : O) : List V := [.int .u8 o.k, .int .i32 o.v]
def _root_.Go.Rp.R.w (r : R) : List V := [.int .u8 r.c, .int .i32 r.v]
theorem app_os (e : Nat) (a : List O) (x : O) (h : a.length + 1 < lim) : app e 2 (.own e 2 (a.map O.w)) [O.w x] = some ((a ++ [x]).map O.w) := by
  simp [app, h]
theorem bsl_o (x : O) : bslV prog 24 1 [(0, .agg (O.w x))] = some (2, [O.w x]) := by kernel_rfl
theorem get_os (l : List O) (n : Nat) : (l.map O.w)[n]? = (l[n]?).map O.w := List.getElem?_map
theorem get_rs (l : List R) (n : Nat) : (l.map R.w)[n]? = (l[n]?).map R.w := List.getElem?_map
theorem ow_take (o : O) : List.take 2 (O.w o) = O.w o := rfl
theorem rw_take (r : R) : List.take 2 (R.w r) = R.w r := rfl
theorem ow_len (o : O) : (O.w o).length = 2 := rfl
theorem set_o (o : O) : setR [V.int .u8 0, .int .i32 0] 0 (O.w o) = O.w o := rfl
end Go.Proofs.Try
