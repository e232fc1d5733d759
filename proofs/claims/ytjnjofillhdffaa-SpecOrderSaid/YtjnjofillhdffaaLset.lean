import Derived.Test.YtjnjofillhdffaaWn
import Derived.Test.YtjnjofillhdffaaLenc
import Derived.KernelRfl
/-! L, set up for the laws of layers 8 and 11: which functions see values alone, which keep what they are handed -/
set_option linter.unusedVariables false
namespace Go.Proofs.Try
open Go.L
set_option maxRecDepth 100000
def borrowL : List Nat := [72, 70, 71, 73]
def pureL : List Nat := borrowL ++ [26, 66, 46, 45, 54, 24, 8, 7, 9, 10]
def keepS (f : Nat) : Bool := !borrowL.contains f
def pureS (f : Nat) : Bool := pureL.contains f
def extS : Ext := fun _ => none
/-- a call, as L reckons it -/
noncomputable def call := L.callF prog keepS pureS (L.textDraws prog) extS
theorem follows_mixed : prog.follows .mixedOrders = true := by kernel_rfl
/-- what L answers, is so -/
theorem call_ok (n : Nat) : L.RecOk prog pureS (call n) := L.callF_sound nat_ok follows_mixed (fun f e args vs h => by cases h) (fun f h => by cases h) n
/-- the chapter's example -/
theorem known_true : call 100 24 [] [] = some (.ret [.bool true], []) := by kernel_rfl
end Go.Proofs.Try
