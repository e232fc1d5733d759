import Derived.Test.YtooibfffneecfaaWn
import Derived.Test.YtooibfffneecfaaLfin
import Derived.Test.YtooibfffneecfaaLext
import Derived.KernelRfl
/-! L, set up for the search laws: which functions see values alone, which keep what they are handed -/
set_option linter.unusedVariables false
namespace Go.Proofs.Try
open Go.L
set_option maxRecDepth 100000
def borrowL : List Nat := [102, 100, 101, 103]
def pureL : List Nat := borrowL ++ [42, 22, 23, 26, 41, 13, 30, 31, 57,
  29, 14, 54, 55, 56,
  3, 4, 6, 7, 8]
def keepS (f : Nat) : Bool := !borrowL.contains f
def pureS (f : Nat) : Bool := pureL.contains f
/-- a call, as L reckons it -/
noncomputable def call := L.callF prog keepS pureS (L.textDraws prog) extS
theorem follows_mixed : prog.follows .mixedOrders = true := by kernel_rfl
/-- what L answers, is so -/
theorem call_ok (n : Nat) : L.RecOk prog pureS (call n) := L.callF_sound nat_ok follows_mixed extS_ok n
/-- the chapter's example -/
theorem known_true : call 40 13 [] [] = some (.ret [.bool true], []) := by kernel_rfl
end Go.Proofs.Try
