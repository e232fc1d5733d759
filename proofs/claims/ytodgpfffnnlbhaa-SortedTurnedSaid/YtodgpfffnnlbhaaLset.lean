import Derived.Test.YtodgpfffnnlbhaaWn
import Derived.Test.YtodgpfffnnlbhaaLenc
import Derived.KernelRfl
/-! L, set up for the laws of layers 11 and 19: which functions see values alone, which keep what they are handed, which lay what they hand on into rows -/
set_option linter.unusedVariables false
namespace Go.Proofs.Try
open Go.L
set_option maxRecDepth 100000
def borrowL : List Nat := [97, 95, 96, 98, 28]
def pureL : List Nat := borrowL ++ [87, 52, 49, 50, 61, 13, 3, 4, 5, 6, 8, 7, 55, 76, 29, 26, 9, 10, 11, 12]
def vecL : List Nat := [17, 40, 34, 18, 47, 33, 27]
def keepS (f : Nat) : Bool := !borrowL.contains f
def pureS (f : Nat) : Bool := pureL.contains f
def vecS (f : Nat) : Bool := vecL.contains f
def extS : Ext := fun _ => none
/-- a call, as L reckons it -/
noncomputable def call := L.callF prog keepS pureS vecS (L.textDraws prog) extS
/-- a round of a loop over a function; a call that was put off -/
noncomputable def rnd (n : Nat) := L.roundX prog (call n) keepS pureS n (L.textDraws prog)
noncomputable def dcl (n : Nat) := L.runD prog (call n) keepS pureS vecS n (L.textDraws prog)
theorem follows_mixed : prog.follows .mixedOrders = true := by kernel_rfl
/-- what L answers, is so -/
theorem call_ok (n : Nat) : L.RecOk prog pureS (call n) := L.callF_sound nat_ok follows_mixed (fun f e args vs h hf => by cases hf) (fun f h => by cases h) n
/-- the chapters' examples -/
theorem known11_true : call 100 13 [] [] = some (.ret [.bool true], []) := by kernel_rfl
theorem known19_true : call 100 26 [] [] = some (.ret [.bool true], []) := by kernel_rfl
end Go.Proofs.Try
