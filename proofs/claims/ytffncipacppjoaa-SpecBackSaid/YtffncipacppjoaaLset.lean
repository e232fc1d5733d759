import Derived.Test.YtffncipacppjoaaWn
import Derived.Test.YtffncipacppjoaaLenc
import Derived.KernelRfl
/-! L, set up for the laws of layer 8: which functions see values alone, which keep what they are handed -/
set_option linter.unusedVariables false
namespace Go.Proofs.Try
open Go.L
set_option maxRecDepth 100000
def borrowL : List Nat := [36, 34, 35, 37]
def pureL : List Nat := borrowL ++ [13, 30, 10, 4, 8, 5, 9]
def keepS (f : Nat) : Bool := !borrowL.contains f
def pureS (f : Nat) : Bool := pureL.contains f
def extS : Ext := fun _ => none
/-- a call, as L reckons it -/
noncomputable def call := L.callF prog keepS pureS (L.textDraws prog) extS
theorem follows_mixed : prog.follows .mixedOrders = true := by kernel_rfl
/-- what L answers, is so -/
theorem call_ok (n : Nat) : L.RecOk prog pureS (call n) := L.callF_sound nat_ok follows_mixed (fun f e args vs h => by cases h) (fun f h => by cases h) n
/-- the chapter's example -/
theorem known_true : call 100 10 [] [] = some (.ret [.bool true], []) := by kernel_rfl
end Go.Proofs.Try
